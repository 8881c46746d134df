/- kerf's field, ends, between: what they return. -/
import Derived.Test.YtejhcbbfdfnfdaaGreatDoorR2
import Derived.Deep.QuietTactic
import Derived.BigQuiet
import Derived.StillTailTactics
import Derived.Deep.RegionHeld3
/- box's sides, Check, common and Overlap: what they return. -/
namespace Go.Proofs.YtejhcbbfdfnfdaaGreatDoor.Box
open Go.RowKit Go.Proofs.YtejhcbbfdfnfdaaGreatDoor.Base
theorem sides_at (x0 y0 z0 x1 y1 z1 : Int) (w : World) : Calls Tryz.prog 104 #[.agg #[.int .i64 x0, .int .i64 y0, .int .i64 z0, .int .i64 x1, .int .i64 y1, .int .i64 z1]] w fun e w' =>
    e = .returned (.agg #[.int .i64 x0, .int .i64 x1, .int .i64 y0, .int .i64 y1, .int .i64 z0, .int .i64 z1]) ∧ (w.alloc (.cells #[.int .i64 x0, .int .i64 y0, .int .i64 z0, .int .i64 x1, .int .i64 y1, .int .i64 z1] 45)).alloc (.cells #[.int .i64 x0, .int .i64 x1, .int .i64 y0, .int .i64 y1, .int .i64 z0, .int .i64 z1] 154) = w' := by
  go_enter Tryz.func104, Tryz.ntmps104
  go_wp2
  exact bodyPost_ret (v := .agg #[.int .i64 x0, .int .i64 x1, .int .i64 y0, .int .i64 y1, .int .i64 z0, .int .i64 z1]) (by simp [results, Tryz.results104, go_sem]) rfl ⟨rfl, rfl⟩
theorem sides_any (x0 y0 z0 x1 y1 z1 : Int) (w : World) : Calls Tryz.prog 104 #[.agg #[.int .i64 x0, .int .i64 y0, .int .i64 z0, .int .i64 x1, .int .i64 y1, .int .i64 z1]] w fun e w' =>
    e = .returned (.agg #[.int .i64 x0, .int .i64 x1, .int .i64 y0, .int .i64 y1, .int .i64 z0, .int .i64 z1]) ∧ Below w.heap.size w w' :=
  (sides_at x0 y0 z0 x1 y1 z1 w).mono fun _ _ ⟨he, hw⟩ => ⟨he, hw ▸ ((Below.refl _ _).alloc (Nat.le_refl _) _).alloc (by simp) _⟩
def inB (n : Int) : Bool := decide (-1000000 ≤ n) && decide (n ≤ 1000000)
theorem in_yes (n : Int) (w : World) (h : inB n = true) : Calls Tryz.prog 105 #[.int .i64 n] w fun e w' => e = .returned (.bool true) ∧ w = w' := by
  unfold inB at h
  have h1 : -1000000 ≤ n := by simp at h; exact h.1
  have h2 : n ≤ 1000000 := by simp at h; exact h.2
  have d2 : decide (n ≤ 1000000) = true := by simpa using h2
  clear h
  go_enter Tryz.func105, Tryz.ntmps105
  go_wp2
  go_ret
  exact ⟨rfl, rfl⟩
theorem in_no (n : Int) (w : World) (h : inB n = false) : Calls Tryz.prog 105 #[.int .i64 n] w fun e w' => e = .returned (.bool false) ∧ w = w' := by
  unfold inB at h
  by_cases h1 : -1000000 ≤ n
  · have h2 : ¬ n ≤ 1000000 := by simp at h; have := h h1; omega
    have d2 : decide (n ≤ 1000000) = false := by simpa using h2
    clear h
    go_enter Tryz.func105, Tryz.ntmps105
    go_wp2
    go_ret
    exact ⟨rfl, rfl⟩
  · clear h
    go_enter Tryz.func105, Tryz.ntmps105
    go_wp2
    go_ret
    exact ⟨rfl, rfl⟩
def ax3 (a b c : Int) (k : Nat) : Int := if k = 0 then a else if k = 1 then b else c
theorem index_sides (x0 y0 z0 x1 y1 z1 : Int) (k : Nat) (h : k < 3) (w : World) : (Instr.index 154 (.agg #[.int .i64 x0, .int .i64 x1, .int .i64 y0, .int .i64 y1, .int .i64 z0, .int .i64 z1]) (.int .i64 k)).run Tryz.prog w =
    .ok (.agg #[.int .i64 (ax3 x0 y0 z0 k), .int .i64 (ax3 x1 y1 z1 k)]) w := by
  obtain rfl | rfl | rfl : k = 0 ∨ k = 1 ∨ k = 2 := by omega
  · kernel_rfl
  · kernel_rfl
  · kernel_rfl
/-- The error of a box. -/
def checkE (x0 y0 z0 x1 y1 z1 : Int) : Int :=
  if (inB x0 && inB x1 && inB y0 && inB y1 && inB z0 && inB z1) = false then 6 else if x1 ≤ x0 ∨ y1 ≤ y0 ∨ z1 ≤ z0 then 1 else 0
theorem checkE_6 (x0 y0 z0 x1 y1 z1 : Int) (k : Nat) (hk : k < 3) (h : inB (ax3 x0 y0 z0 k) = false ∨ inB (ax3 x1 y1 z1 k) = false) : checkE x0 y0 z0 x1 y1 z1 = 6 := by
  unfold checkE
  rw [if_pos]
  obtain rfl | rfl | rfl : k = 0 ∨ k = 1 ∨ k = 2 := by omega
  all_goals
    simp [ax3] at h
    rcases h with h | h <;> simp [h]
theorem checkE_in {x0 y0 z0 x1 y1 z1 : Int} (h : ∀ j, j < 3 → inB (ax3 x0 y0 z0 j) = true ∧ inB (ax3 x1 y1 z1 j) = true) : checkE x0 y0 z0 x1 y1 z1 = if x1 ≤ x0 ∨ y1 ≤ y0 ∨ z1 ≤ z0 then 1 else 0 := by
  unfold checkE
  have h0 := h 0 (by omega); have h1 := h 1 (by omega); have h2 := h 2 (by omega)
  simp [ax3] at h0 h1 h2
  rw [if_neg (by simp [h0, h1, h2])]
theorem checkE_1 {x0 y0 z0 x1 y1 z1 : Int} (h : ∀ j, j < 3 → inB (ax3 x0 y0 z0 j) = true ∧ inB (ax3 x1 y1 z1 j) = true) (k : Nat) (hk : k < 3) (g : ax3 x1 y1 z1 k ≤ ax3 x0 y0 z0 k) : checkE x0 y0 z0 x1 y1 z1 = 1 := by
  rw [checkE_in h, if_pos]
  obtain rfl | rfl | rfl : k = 0 ∨ k = 1 ∨ k = 2 := by omega
  all_goals (simp [ax3] at g; simp [g])
theorem checkE_0 {x0 y0 z0 x1 y1 z1 : Int} (h : ∀ j, j < 3 → inB (ax3 x0 y0 z0 j) = true ∧ inB (ax3 x1 y1 z1 j) = true) (g : ∀ j, j < 3 → ax3 x0 y0 z0 j < ax3 x1 y1 z1 j) : checkE x0 y0 z0 x1 y1 z1 = 0 := by
  have h0 := g 0 (by omega); have h1 := g 1 (by omega); have h2 := g 2 (by omega)
  simp [ax3] at h0 h1 h2
  rw [checkE_in h, if_neg (by omega)]
set_option maxRecDepth 100000 in
set_option maxHeartbeats 1000000 in
theorem check_any (x0 y0 z0 x1 y1 z1 : Int) (w : World) : Calls Tryz.prog 67 #[.agg #[.int .i64 x0, .int .i64 y0, .int .i64 z0, .int .i64 x1, .int .i64 y1, .int .i64 z1]] w fun e w' =>
    e = .returned (.int .i64 (checkE x0 y0 z0 x1 y1 z1)) ∧ Below w.heap.size w w' := by
  have hix := index_sides x0 y0 z0 x1 y1 z1
  have H0 := Lib.hid ((Below.refl w.heap.size w).alloc (Nat.le_refl _) (.cells #[.int .i64 x0, .int .i64 y0, .int .i64 z0, .int .i64 x1, .int .i64 y1, .int .i64 z1] 45))
  have R0 := Lib.hid (heap_alloc_new w (.cells #[.int .i64 x0, .int .i64 y0, .int .i64 z0, .int .i64 x1, .int .i64 y1, .int .i64 z1] 45))
  go_enter Tryz.func67, Tryz.ntmps67
  go_wp2_with fail
  refine (sides_any _ _ _ _ _ _ _).mono ?_; rintro e w1 ⟨rfl, hb1⟩
  have HB1 := Lib.hid (H0.out.trans (hb1.mono (by simp)))
  have HR1 := Lib.hid ((hb1.block w.heap.size (by simp)).trans R0.out)
  clear hb1
  go_wp2_with fail
  go_loopw [9] (fun i wr => ∃ k : Nat, k ≤ 3 ∧ i = .int .i64 k ∧ (∀ j, j < k → inB (ax3 x0 y0 z0 j) = true ∧ inB (ax3 x1 y1 z1 j) = true) ∧ Below w.heap.size w wr ∧ wr.heap[w.heap.size]? = some (.cells #[.int .i64 x0, .int .i64 y0, .int .i64 z0, .int .i64 x1, .int .i64 y1, .int .i64 z1] 45 (0, 0))) (fun i _ => 3 - (intOf i).toNat)
  case atStart => exact ⟨0, by omega, rfl, fun j hj => by omega, HB1.out, HR1.out⟩
  case round =>
    obtain ⟨k, hk, rfl, hall, hb, hr⟩ := hrel
    have HA := Lib.hid hall
    have HB := Lib.hid hb
    have HR := Lib.hid hr
    have hsz := hb.size
    clear hall hb hr
    have HB' := Lib.hid (HB.out.alloc hsz (.cells #[.int .i64 (ax3 x0 y0 z0 k), .int .i64 (ax3 x1 y1 z1 k)] 153))
    have HR' := Lib.hid (old_block HR.out (.cells #[.int .i64 (ax3 x0 y0 z0 k), .int .i64 (ax3 x1 y1 z1 k)] 153))
    by_cases hlt : k < 3
    · have hi := fun w => hix k hlt w
      cases q0 : inB (ax3 x0 y0 z0 k) with
      | false =>
        have hE := Lib.hid (checkE_6 x0 y0 z0 x1 y1 z1 k hlt (.inl q0))
        have hq := in_no _ (wr.alloc (.cells #[.int .i64 (ax3 x0 y0 z0 k), .int .i64 (ax3 x1 y1 z1 k)] 153)) q0
        clear q0
        go_wp2_with fail
        refine hq.mono ?_; rintro e w2 ⟨rfl, rfl⟩
        go_wp2_with fail
        go_ret
        rw [hE.out]
        exact ⟨rfl, HB'.out⟩
      | true =>
        cases q1 : inB (ax3 x1 y1 z1 k) with
        | false =>
          have hE := Lib.hid (checkE_6 x0 y0 z0 x1 y1 z1 k hlt (.inr q1))
          have hq := in_yes _ (wr.alloc (.cells #[.int .i64 (ax3 x0 y0 z0 k), .int .i64 (ax3 x1 y1 z1 k)] 153)) q0
          have hq1 := in_no _ (wr.alloc (.cells #[.int .i64 (ax3 x0 y0 z0 k), .int .i64 (ax3 x1 y1 z1 k)] 153)) q1
          clear q0 q1
          go_wp2_with fail
          refine hq.mono ?_; rintro e w2 ⟨rfl, rfl⟩
          go_wp2_with fail
          refine hq1.mono ?_; rintro e w2 ⟨rfl, rfl⟩
          go_wp2_with fail
          go_ret
          rw [hE.out]
          exact ⟨rfl, HB'.out⟩
        | true =>
          have Q := Lib.hid (And.intro q0 q1)
          have hq := in_yes _ (wr.alloc (.cells #[.int .i64 (ax3 x0 y0 z0 k), .int .i64 (ax3 x1 y1 z1 k)] 153)) q0
          have hq1 := in_yes _ (wr.alloc (.cells #[.int .i64 (ax3 x0 y0 z0 k), .int .i64 (ax3 x1 y1 z1 k)] 153)) q1
          clear q0 q1
          go_wp2_with fail
          refine hq.mono ?_; rintro e w2 ⟨rfl, rfl⟩
          go_wp2_with fail
          refine hq1.mono ?_; rintro e w2 ⟨rfl, rfl⟩
          go_wp2_with fail
          go_roundw
          case rel =>
            refine ⟨k + 1, by omega, by go_num, fun j hj => ?_, HB'.out, HR'.out⟩
            rcases Nat.lt_or_ge j k with g | g
            · exact HA.out j g
            · obtain rfl : j = k := by omega
              exact Q.out
          case measure => simp [intOf]; omega
    · obtain rfl : k = 3 := by omega
      go_wp2_with (refine wpList_load_row rfl 45 (.tmp 1) rfl w.heap.size rfl 45 #[.int .i64 x0, .int .i64 y0, .int .i64 z0, .int .i64 x1, .int .i64 y1, .int .i64 z1] (0, 0) _ HR.out Tryz.underlying45 rfl (by kernel_rfl) ?_)
      refine (sides_any _ _ _ _ _ _ _).mono ?_; rintro e w2 ⟨rfl, hb2⟩
      have HB2 := Lib.hid (HB.out.trans (hb2.mono hsz))
      clear hb2
      go_wp2_with fail
      go_loopw [25] (fun i wq => ∃ k : Nat, k ≤ 3 ∧ i = .int .i64 k ∧ (∀ j, j < k → ax3 x0 y0 z0 j < ax3 x1 y1 z1 j) ∧ Below w.heap.size w wq) (fun i _ => 3 - (intOf i).toNat)
      case atStart => exact ⟨0, by omega, rfl, fun j hj => by omega, HB2.out⟩
      case round =>
        obtain ⟨k, hk, rfl, hall, hb⟩ := hrel
        have HA2 := Lib.hid hall
        have hsz2 := hb.size
        have HB3 := Lib.hid hb
        clear hall hb
        by_cases hlt : k < 3
        · have hi := fun w => hix k hlt w
          by_cases hg : ax3 x1 y1 z1 k ≤ ax3 x0 y0 z0 k
          · have hE := Lib.hid (checkE_1 HA.out k hlt hg)
            go_wp2_with fail
            go_ret
            rw [hE.out]
            exact ⟨rfl, HB3.out.alloc hsz2 _⟩
          · go_wp2_with fail
            go_roundw
            case rel =>
              refine ⟨k + 1, by omega, by go_num, fun j hj => ?_, HB3.out.alloc hsz2 _⟩
              rcases Nat.lt_or_ge j k with g | g
              · exact HA2.out j g
              · obtain rfl : j = k := by omega
                omega
            case measure => simp [intOf]; omega
        · obtain rfl : k = 3 := by omega
          have hE := Lib.hid (checkE_0 HA.out HA2.out)
          go_wp2_with fail
          go_ret
          rw [hE.out]
          exact ⟨rfl, HB3.out⟩
end Go.Proofs.YtejhcbbfdfnfdaaGreatDoor.Box

/- kerf's field, ends, between: what they return. -/
namespace Go.Proofs.YtejhcbbfdfnfdaaGreatDoor.Kerf
open Go.RowKit Go.Proofs.YtejhcbbfdfnfdaaGreatDoor.Base Go.Proofs.YtejhcbbfdfnfdaaGreatDoor.Box
theorem field_any (g o a : Nat) (ha : a < 3) (w : World) : Calls Tryz.prog 156 #[.pointer (some ⟨g, o, none⟩), .int .i64 a] w fun e w' => e = .returned (.pointer (some ⟨g, o + a, none⟩)) ∧ ∃ k, w' = w.drewN k := by
  obtain rfl | rfl | rfl : a = 0 ∨ a = 1 ∨ a = 2 := by omega
  · rw [show ((0 : Nat) : Int) = 0 from rfl]
    have hi : ∀ (p0 p1 p2 : Value) (w : World), (Instr.index 209 (.agg #[p0, p1, p2]) (.int .i64 0)).run Tryz.prog w = .ok p0 w := fun _ _ _ _ => by kernel_rfl
    go_enter Tryz.func156, Tryz.ntmps156
    go_wp2_with fail
    go_region
    go_wp2_with fail
    go_ret
    exact ⟨rfl, 1, rfl⟩
  · rw [show ((1 : Nat) : Int) = 1 from rfl]
    have hi : ∀ (p0 p1 p2 : Value) (w : World), (Instr.index 209 (.agg #[p0, p1, p2]) (.int .i64 1)).run Tryz.prog w = .ok p1 w := fun _ _ _ _ => by kernel_rfl
    go_enter Tryz.func156, Tryz.ntmps156
    go_wp2_with fail
    go_region
    go_wp2_with fail
    go_ret
    exact ⟨rfl, 1, rfl⟩
  · rw [show ((2 : Nat) : Int) = 2 from rfl]
    have hi : ∀ (p0 p1 p2 : Value) (w : World), (Instr.index 209 (.agg #[p0, p1, p2]) (.int .i64 2)).run Tryz.prog w = .ok p2 w := fun _ _ _ _ => by kernel_rfl
    go_enter Tryz.func156, Tryz.ntmps156
    go_wp2_with fail
    go_region
    go_wp2_with fail
    go_ret
    exact ⟨rfl, 1, rfl⟩
theorem box_lo (x0 y0 z0 x1 y1 z1 : Int) (a : Nat) (ha : a < 3) (w : World) : (w.alloc (.cells #[.int .i64 x0, .int .i64 y0, .int .i64 z0, .int .i64 x1, .int .i64 y1, .int .i64 z1] 45)).cell? ⟨w.heap.size, a, none⟩ = some (.int .i64 (ax3 x0 y0 z0 a)) := by
  rw [World.cell?_alloc_at _ _ _ _ rfl]
  obtain rfl | rfl | rfl : a = 0 ∨ a = 1 ∨ a = 2 := by omega
  all_goals rfl
theorem box_hi (x0 y0 z0 x1 y1 z1 : Int) (a : Nat) (ha : a < 3) (w : World) : (w.alloc (.cells #[.int .i64 x0, .int .i64 y0, .int .i64 z0, .int .i64 x1, .int .i64 y1, .int .i64 z1] 45)).cell? ⟨w.heap.size, 3 + a, none⟩ = some (.int .i64 (ax3 x1 y1 z1 a)) := by
  rw [World.cell?_alloc_at _ _ _ _ rfl]
  obtain rfl | rfl | rfl : a = 0 ∨ a = 1 ∨ a = 2 := by omega
  all_goals rfl
theorem ends_any (x0 y0 z0 x1 y1 z1 : Int) (a : Nat) (ha : a < 3) (w : World) : Calls Tryz.prog 131 #[.agg #[.int .i64 x0, .int .i64 y0, .int .i64 z0, .int .i64 x1, .int .i64 y1, .int .i64 z1], .int .i64 a] w fun e w' =>
    e = .returned (.tuple #[.int .i64 (ax3 x0 y0 z0 a), .int .i64 (ax3 x1 y1 z1 a)]) ∧ Below w.heap.size w w' := by
  have hc0 := box_lo x0 y0 z0 x1 y1 z1 a ha w
  have hc1 := box_hi x0 y0 z0 x1 y1 z1 a ha w
  have f0 : ∀ X, Calls Tryz.prog 156 #[.pointer (some ⟨w.heap.size, 0, none⟩), .int .i64 a] X fun e w' => e = .returned (.pointer (some ⟨w.heap.size, a, none⟩)) ∧ ∃ k, w' = X.drewN k := fun X => by have := field_any w.heap.size 0 a ha X; rwa [Nat.zero_add] at this
  have f1 := fun X => field_any w.heap.size 3 a ha X
  generalize ax3 x0 y0 z0 a = lo at *
  generalize ax3 x1 y1 z1 a = hi at *
  clear ha
  go_enter Tryz.func131, Tryz.ntmps131
  go_wp2_with fail
  go_quiet ((first | (go_at_call_of 156 (Value.pointer (some ⟨w.heap.size, 0, none⟩)); exact Calls.quiet_of (f0 _)) | (go_at_call_of 156 (Value.pointer (some ⟨w.heap.size, 3, none⟩)); exact Calls.quiet_of (f1 _))))
  go_wp2_with fail
  go_ret2
  exact ⟨rfl, below_drewN ((Below.refl _ _).alloc (Nat.le_refl _) _) _⟩
def sLo (x0 y0 z0 x1 y1 z1 : Int) (a : Nat) (lo hi : Int) : Array Value :=
  if a = 0 then #[.int .i64 lo, .int .i64 y0, .int .i64 z0, .int .i64 hi, .int .i64 y1, .int .i64 z1] else if a = 1 then #[.int .i64 x0, .int .i64 lo, .int .i64 z0, .int .i64 x1, .int .i64 hi, .int .i64 z1] else #[.int .i64 x0, .int .i64 y0, .int .i64 lo, .int .i64 x1, .int .i64 y1, .int .i64 hi]
set_option maxHeartbeats 1000000 in
theorem between_any (x0 y0 z0 x1 y1 z1 : Int) (a : Nat) (ha : a < 3) (lo hi : Int) (w : World) : Calls Tryz.prog 132 #[.agg #[.int .i64 x0, .int .i64 y0, .int .i64 z0, .int .i64 x1, .int .i64 y1, .int .i64 z1], .int .i64 a, .int .i64 lo, .int .i64 hi] w fun e w' =>
    e = .returned (.agg (sLo x0 y0 z0 x1 y1 z1 a lo hi)) ∧ Below w.heap.size w w' := by
  have f0 : ∀ X, Calls Tryz.prog 156 #[.pointer (some ⟨w.heap.size, 0, none⟩), .int .i64 a] X fun e w' => e = .returned (.pointer (some ⟨w.heap.size, a, none⟩)) ∧ ∃ k, w' = X.drewN k := fun X => by have := field_any w.heap.size 0 a ha X; rwa [Nat.zero_add] at this
  have f1 := fun X => field_any w.heap.size 3 a ha X
  obtain rfl | rfl | rfl : a = 0 ∨ a = 1 ∨ a = 2 := by omega
  · clear ha
    rw [show sLo x0 y0 z0 x1 y1 z1 0 lo hi = #[.int .i64 lo, .int .i64 y0, .int .i64 z0, .int .i64 hi, .int .i64 y1, .int .i64 z1] from rfl]
    simp only [show ((0 : Nat) : Int) = 0 from rfl] at f0 f1 ⊢
    go_enter Tryz.func132, Tryz.ntmps132
    go_wp2_with fail
    refine (f0 _).mono ?_; rintro e w1 ⟨rfl, n1, rfl⟩
    go_wp2_with fail
    refine (f1 _).mono ?_; rintro e w1 ⟨rfl, n2, rfl⟩
    clear f0 f1
    go_wp2_with fail
    refine bodyPost_ret (v := .agg #[.int .i64 lo, .int .i64 y0, .int .i64 z0, .int .i64 hi, .int .i64 y1, .int .i64 z1]) ?_ rfl ⟨rfl, ?_⟩
    · simp [results, Tryz.results132, go_sem]
    · (repeat' (first | (with_reducible exact Below.refl _ _) | (with_reducible refine Below.drew ?_) | (with_reducible refine below_drewN ?_ _) | (with_reducible refine Below.setCell ?_ ?_ _) | (with_reducible refine Below.alloc ?_ ?_ _) | (simp; done) | (simp; omega)))
  · clear ha
    rw [show sLo x0 y0 z0 x1 y1 z1 1 lo hi = #[.int .i64 x0, .int .i64 lo, .int .i64 z0, .int .i64 x1, .int .i64 hi, .int .i64 z1] from rfl]
    simp only [show ((1 : Nat) : Int) = 1 from rfl] at f0 f1 ⊢
    go_enter Tryz.func132, Tryz.ntmps132
    go_wp2_with fail
    refine (f0 _).mono ?_; rintro e w1 ⟨rfl, n1, rfl⟩
    go_wp2_with fail
    refine (f1 _).mono ?_; rintro e w1 ⟨rfl, n2, rfl⟩
    clear f0 f1
    go_wp2_with fail
    refine bodyPost_ret (v := .agg #[.int .i64 x0, .int .i64 lo, .int .i64 z0, .int .i64 x1, .int .i64 hi, .int .i64 z1]) ?_ rfl ⟨rfl, ?_⟩
    · simp [results, Tryz.results132, go_sem]
    · (repeat' (first | (with_reducible exact Below.refl _ _) | (with_reducible refine Below.drew ?_) | (with_reducible refine below_drewN ?_ _) | (with_reducible refine Below.setCell ?_ ?_ _) | (with_reducible refine Below.alloc ?_ ?_ _) | (simp; done) | (simp; omega)))
  · clear ha
    rw [show sLo x0 y0 z0 x1 y1 z1 2 lo hi = #[.int .i64 x0, .int .i64 y0, .int .i64 lo, .int .i64 x1, .int .i64 y1, .int .i64 hi] from rfl]
    simp only [show ((2 : Nat) : Int) = 2 from rfl] at f0 f1 ⊢
    go_enter Tryz.func132, Tryz.ntmps132
    go_wp2_with fail
    refine (f0 _).mono ?_; rintro e w1 ⟨rfl, n1, rfl⟩
    go_wp2_with fail
    refine (f1 _).mono ?_; rintro e w1 ⟨rfl, n2, rfl⟩
    clear f0 f1
    go_wp2_with fail
    refine bodyPost_ret (v := .agg #[.int .i64 x0, .int .i64 y0, .int .i64 lo, .int .i64 x1, .int .i64 y1, .int .i64 hi]) ?_ rfl ⟨rfl, ?_⟩
    · simp [results, Tryz.results132, go_sem]
    · (repeat' (first | (with_reducible exact Below.refl _ _) | (with_reducible refine Below.drew ?_) | (with_reducible refine below_drewN ?_ _) | (with_reducible refine Below.setCell ?_ ?_ _) | (with_reducible refine Below.alloc ?_ ?_ _) | (simp; done) | (simp; omega)))
end Go.Proofs.YtejhcbbfdfnfdaaGreatDoor.Kerf
