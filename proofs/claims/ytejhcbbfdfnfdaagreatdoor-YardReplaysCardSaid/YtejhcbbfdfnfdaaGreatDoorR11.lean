/- kerf's Split of a possible cut: what it returns. -/
import Derived.Test.YtejhcbbfdfnfdaaGreatDoorR10
import Derived.Deep.DeepCutAuto
/- kerf's axial, sawn, first, Check: what they return. -/
namespace Go.Proofs.YtejhcbbfdfnfdaaGreatDoor.Kerf
open Go.RowKit Go.Proofs.YtejhcbbfdfnfdaaGreatDoor.Base Go.Proofs.YtejhcbbfdfnfdaaGreatDoor.Box
def axE (a : Int) : Int := if a < 0 then 1 else if 2 < a then 1 else 0
theorem axial_any (a : Int) (w : World) : Calls Tryz.prog 129 #[.int .i64 a] w fun e w' => e = .returned (.int .i64 (axE a)) ∧ w = w' := by
  unfold axE
  by_cases h1 : a < 0
  · rw [if_pos h1]
    go_enter Tryz.func129, Tryz.ntmps129
    go_wp2
    go_ret
    exact ⟨rfl, rfl⟩
  · rw [if_neg h1]
    by_cases h2 : 2 < a
    · rw [if_pos h2]
      have d2 : decide ((2 : Int) < a) = true := by simpa using h2
      go_enter Tryz.func129, Tryz.ntmps129
      go_wp2
      go_ret
      exact ⟨rfl, rfl⟩
    · rw [if_neg h2]
      have d2 : decide ((2 : Int) < a) = false := by simpa using h2
      go_enter Tryz.func129, Tryz.ntmps129
      go_wp2
      go_ret
      exact ⟨rfl, rfl⟩
def swE (a : Int) : Int := if a < 0 then 6 else if 1000 < a then 6 else 0
theorem sawn_any (a : Int) (w : World) : Calls Tryz.prog 130 #[.int .i64 a] w fun e w' => e = .returned (.int .i64 (swE a)) ∧ w = w' := by
  unfold swE
  by_cases h1 : a < 0
  · rw [if_pos h1]
    go_enter Tryz.func130, Tryz.ntmps130
    go_wp2
    go_ret
    exact ⟨rfl, rfl⟩
  · rw [if_neg h1]
    by_cases h2 : 1000 < a
    · rw [if_pos h2]
      have d2 : decide ((1000 : Int) < a) = true := by simpa using h2
      go_enter Tryz.func130, Tryz.ntmps130
      go_wp2
      go_ret
      exact ⟨rfl, rfl⟩
    · rw [if_neg h2]
      have d2 : decide ((1000 : Int) < a) = false := by simpa using h2
      go_enter Tryz.func130, Tryz.ntmps130
      go_wp2
      go_ret
      exact ⟨rfl, rfl⟩
def fsE (a b c : Int) : Int := if a ≠ 0 then a else if b ≠ 0 then b else c
theorem first_any (g : Nat) (a b c : Int) (w : World) (h0 : w.cell? ⟨g, 0, none⟩ = some (.int .i64 a)) (h1 : w.cell? ⟨g, 1, none⟩ = some (.int .i64 b)) (h2 : w.cell? ⟨g, 2, none⟩ = some (.int .i64 c)) :
    Calls Tryz.prog 128 #[.slice (some ⟨g, 0, none⟩) 3 3] w fun e w' => e = .returned (.int .i64 (fsE a b c)) ∧ w = w' := by
  have HE : Hid (∀ k : Nat, k < 3 → (∀ j, j < k → ax3 a b c j = 0) → ax3 a b c k ≠ 0 → fsE a b c = ax3 a b c k) := Lib.hid fun k hk hz hn => by
    obtain rfl | rfl | rfl : k = 0 ∨ k = 1 ∨ k = 2 := by omega
    · simp [ax3] at hn; simp [fsE, ax3, hn]
    · have := hz 0 (by omega); simp [ax3] at hn this; simp [fsE, ax3, hn, this]
    · have := hz 0 (by omega); have := hz 1 (by omega); simp [ax3] at *; simp [fsE, *]
  have HZ : Hid ((∀ j, j < 3 → ax3 a b c j = 0) → fsE a b c = 0) := Lib.hid fun hz => by
    have h0 := hz 0 (by omega); have h1 := hz 1 (by omega); have h2 := hz 2 (by omega)
    simp [ax3] at h0 h1 h2
    simp [fsE, *]
  have hc : ∀ k : Nat, k < 3 → w.cell? ⟨g, k, none⟩ = some (.int .i64 (ax3 a b c k)) := fun k hk => by
    obtain rfl | rfl | rfl : k = 0 ∨ k = 1 ∨ k = 2 := by omega
    · exact h0
    · exact h1
    · exact h2
  clear h0 h1 h2
  generalize fsE a b c = q at *
  generalize ax3 a b c = f at *
  go_enter Tryz.func128, Tryz.ntmps128
  go_wp2_with fail
  go_loop [4, 7] (fun _ i => ∃ k : Nat, k ≤ 3 ∧ i = .int .i64 k ∧ (∀ j, j < k → f j = 0)) (fun _ i => 3 - (intOf i).toNat)
  case atStart => exact ⟨0, by omega, rfl, fun j hj => by omega⟩
  case round =>
    obtain ⟨k, hk, rfl, hz⟩ := hrel
    have HA := Lib.hid hz
    clear hz
    by_cases hlt : k < 3
    · have hck := hc k hlt
      have HC := Lib.hid hc
      clear hc
      by_cases hn : f k = 0
      · have d : ((f k) == 0) = true := by simp [hn]
        have HN := Lib.hid hn
        have d' : ((f k) != 0) = false := by simp [hn]
        clear hn
        go_wp2_with fail
        go_round
        case rel =>
          refine ⟨k + 1, by omega, by go_num, fun j hj => ?_⟩
          rcases Nat.lt_or_ge j k with g | g
          · exact HA.out j g
          · obtain rfl : j = k := by omega
            exact HN.out
        case measure => simp [intOf]; omega
      · have HQ := Lib.hid (HE.out k hlt HA.out hn)
        have d' : ((f k) != 0) = true := by simp [hn]
        clear hn
        go_wp2_with fail
        go_ret
        rw [HQ.out]
        exact ⟨rfl, rfl⟩
    · obtain rfl : k = 3 := by omega
      have HQ := Lib.hid (HZ.out HA.out)
      go_wp2_with fail
      go_ret
      rw [HQ.out]
      exact ⟨rfl, rfl⟩
/-- The error of a cut. -/
def kcE (x0 y0 z0 x1 y1 z1 a p k : Int) : Int :=
  if fsE (checkE x0 y0 z0 x1 y1 z1) (axE a) (swE k) ≠ 0 then fsE (checkE x0 y0 z0 x1 y1 z1) (axE a) (swE k)
  else if p ≤ ax3 x0 y0 z0 a.toNat then 12 else if ax3 x1 y1 z1 a.toNat - k ≤ p then 12 else 0
theorem axE_0 {a : Int} (h : axE a = 0) : 0 ≤ a ∧ a ≤ 2 := by
  unfold axE at h; split at h
  · exact absurd h (by decide)
  · split at h
    · exact absurd h (by decide)
    · omega
theorem swE_0 {a : Int} (h : swE a = 0) : 0 ≤ a ∧ a ≤ 1000 := by
  unfold swE at h; split at h
  · exact absurd h (by decide)
  · split at h
    · exact absurd h (by decide)
    · omega
theorem fsE_0 {a b c : Int} (h : fsE a b c = 0) : a = 0 ∧ b = 0 ∧ c = 0 := by
  unfold fsE at h; split at h
  · rename_i g; exact absurd h g
  · split at h
    · rename_i g; exact absurd h g
    · exact ⟨by omega, by omega, h⟩
theorem checkE_ok {x0 y0 z0 x1 y1 z1 : Int} (h : checkE x0 y0 z0 x1 y1 z1 = 0) : -1000000 ≤ x0 ∧ x0 < x1 ∧ x1 ≤ 1000000 ∧ -1000000 ≤ y0 ∧ y0 < y1 ∧ y1 ≤ 1000000 ∧ -1000000 ≤ z0 ∧ z0 < z1 ∧ z1 ≤ 1000000 := by
  unfold checkE at h
  split at h
  · exact absurd h (by decide)
  · split at h
    · exact absurd h (by decide)
    · rename_i h1 h2
      simp [inB] at h1
      omega
theorem ax3_in {a b c lo hi : Int} (k : Nat) (h0 : lo ≤ a ∧ a ≤ hi) (h1 : lo ≤ b ∧ b ≤ hi) (h2 : lo ≤ c ∧ c ≤ hi) : lo ≤ ax3 a b c k ∧ ax3 a b c k ≤ hi := by
  unfold ax3; split
  · exact h0
  · split
    · exact h1
    · exact h2
theorem kcE_err {x0 y0 z0 x1 y1 z1 a p k : Int} (h : ¬ fsE (checkE x0 y0 z0 x1 y1 z1) (axE a) (swE k) = 0) : kcE x0 y0 z0 x1 y1 z1 a p k = fsE (checkE x0 y0 z0 x1 y1 z1) (axE a) (swE k) := by unfold kcE; rw [if_pos h]
theorem kcE_ok {x0 y0 z0 x1 y1 z1 a p k : Int} (h : fsE (checkE x0 y0 z0 x1 y1 z1) (axE a) (swE k) = 0) : kcE x0 y0 z0 x1 y1 z1 a p k = if p ≤ ax3 x0 y0 z0 a.toNat then 12 else if ax3 x1 y1 z1 a.toNat - k ≤ p then 12 else 0 := by unfold kcE; rw [h]; simp
set_option maxRecDepth 100000 in
set_option maxHeartbeats 1000000 in
theorem kcheck_any (x0 y0 z0 x1 y1 z1 a p k : Int) (w : World) : Calls Tryz.prog 90 #[.agg #[.int .i64 x0, .int .i64 y0, .int .i64 z0, .int .i64 x1, .int .i64 y1, .int .i64 z1], .agg #[.int .i64 a, .int .i64 p, .int .i64 k]] w fun e w' =>
    e = .returned (.int .i64 (kcE x0 y0 z0 x1 y1 z1 a p k)) ∧ Below w.heap.size w w' := by
  have hk := check_any x0 y0 z0 x1 y1 z1
  go_enter Tryz.func90, Tryz.ntmps90
  go_upto_region 1 with fail
  go_cut [5] (fun s5 wx => s5 = .int .i64 (fsE (checkE x0 y0 z0 x1 y1 z1) (axE a) (swE k)) ∧ Below (w.heap.size + 2) ((w.alloc (.cells #[.int .i64 x0, .int .i64 y0, .int .i64 z0, .int .i64 x1, .int .i64 y1, .int .i64 z1] 45)).alloc (.cells #[.int .i64 a, .int .i64 p, .int .i64 k] 136)) wx)
  case first =>
    go_region_held3 (fun w' => w'.cell? ⟨w.heap.size, 0, none⟩ = some (.int .i64 x0) ∧ w'.cell? ⟨w.heap.size, 1, none⟩ = some (.int .i64 y0) ∧ w'.cell? ⟨w.heap.size, 2, none⟩ = some (.int .i64 z0) ∧ w'.cell? ⟨w.heap.size, 3, none⟩ = some (.int .i64 x1) ∧ w'.cell? ⟨w.heap.size, 4, none⟩ = some (.int .i64 y1) ∧ w'.cell? ⟨w.heap.size, 5, none⟩ = some (.int .i64 z1) ∧ w'.cell? ⟨w.heap.size + 1, 0, none⟩ = some (.int .i64 a) ∧ w'.cell? ⟨w.heap.size + 1, 1, none⟩ = some (.int .i64 p) ∧ w'.cell? ⟨w.heap.size + 1, 2, none⟩ = some (.int .i64 k)) ((first | (simp only [*, and_self]; done) | (simp (disch := first | omega | (simp only [World.size_alloc, World.size_drew]; omega)) only [*, World.cell?_alloc_past, and_self]; done) | (simp [*, go_sem, World.cell?_alloc_past]; done)))
      (first
        | (go_at_call 67; refine (hk _).mono ?_; rintro e w1 ⟨rfl, hb⟩; have hz := hb.size; obtain ⟨hc, _⟩ := bcell hb; have HB := Lib.hid hb; clear hb; (try simp only [World.size_alloc, World.size_drew] at hc hz); have K : w1.cell? ⟨w.heap.size, 0, none⟩ = some (.int .i64 x0) ∧ w1.cell? ⟨w.heap.size, 1, none⟩ = some (.int .i64 y0) ∧ w1.cell? ⟨w.heap.size, 2, none⟩ = some (.int .i64 z0) ∧ w1.cell? ⟨w.heap.size, 3, none⟩ = some (.int .i64 x1) ∧ w1.cell? ⟨w.heap.size, 4, none⟩ = some (.int .i64 y1) ∧ w1.cell? ⟨w.heap.size, 5, none⟩ = some (.int .i64 z1) ∧ w1.cell? ⟨w.heap.size + 1, 0, none⟩ = some (.int .i64 a) ∧ w1.cell? ⟨w.heap.size + 1, 1, none⟩ = some (.int .i64 p) ∧ w1.cell? ⟨w.heap.size + 1, 2, none⟩ = some (.int .i64 k) := (by first | (simp (disch := omega) only [*, and_self]; done) | (simp [*, go_sem, World.cell?_alloc_past]; done)); clear hc)
        | (go_at_call 129; refine (axial_any _ _).mono ?_; rintro e w2 ⟨rfl, rfl⟩)
        | (go_at_call 130; refine (sawn_any _ _).mono ?_; rintro e w2 ⟨rfl, rfl⟩)
        | (go_at_call 128; refine (first_any _ (checkE x0 y0 z0 x1 y1 z1) (axE a) (swE k) _ ?_ ?_ ?_).mono ?_; (exact (World.cell?_alloc_at _ _ _ _ rfl).trans rfl); (exact (World.cell?_alloc_at _ _ _ _ rfl).trans rfl); (exact (World.cell?_alloc_at _ _ _ _ rfl).trans rfl); rintro e w2 ⟨rfl, rfl⟩))
    all_goals (go_wp2_with fail; go_meet; exact ⟨rfl, (((Below.refl _ _).drew).trans (HB.out.mono (by simp))).alloc (by have := HB.out.size; simp at this; omega) _⟩)
  case rest =>
    obtain ⟨rfl, hb⟩ := hcut
    have HB := Lib.hid hb
    have k0 : wc.cell? ⟨w.heap.size + 1, 0, none⟩ = some (.int .i64 a) := (hb.cell (p := ⟨w.heap.size + 1, 0, none⟩) (by simp)).trans (by simp [go_sem])
    have k1 : wc.cell? ⟨w.heap.size + 1, 1, none⟩ = some (.int .i64 p) := (hb.cell (p := ⟨w.heap.size + 1, 1, none⟩) (by simp)).trans (by simp [go_sem])
    have k2 : wc.cell? ⟨w.heap.size + 1, 2, none⟩ = some (.int .i64 k) := (hb.cell (p := ⟨w.heap.size + 1, 2, none⟩) (by simp)).trans (by simp [go_sem])
    have HR := Lib.hid ((hb.block w.heap.size (by omega)).trans (old_block (new_block w (.cells #[.int .i64 x0, .int .i64 y0, .int .i64 z0, .int .i64 x1, .int .i64 y1, .int .i64 z1] 45)) (.cells #[.int .i64 a, .int .i64 p, .int .i64 k] 136)))
    have HW := Lib.hid (Below.trans (((Below.refl w.heap.size w).alloc (Nat.le_refl _) (.cells #[.int .i64 x0, .int .i64 y0, .int .i64 z0, .int .i64 x1, .int .i64 y1, .int .i64 z1] 45)).alloc (by simp) (.cells #[.int .i64 a, .int .i64 p, .int .i64 k] 136)) (hb.mono (by omega)))
    clear hb hk
    by_cases hz : fsE (checkE x0 y0 z0 x1 y1 z1) (axE a) (swE k) = 0
    · have hE := kcE_ok (p := p) hz
      obtain ⟨q0, q1, q2⟩ := fsE_0 hz
      have q0 := checkE_ok q0
      have q1 := axE_0 q1
      have q2 := swE_0 q2
      have b1 := ax3_in a.toNat (a := x1) (b := y1) (c := z1) (lo := -1000000) (hi := 1000000) ⟨by omega, by omega⟩ ⟨by omega, by omega⟩ ⟨by omega, by omega⟩
      rw [hz]
      obtain ⟨n, rfl⟩ : ∃ n : Nat, a = n := ⟨a.toNat, by omega⟩
      have hn : n < 3 := by omega
      rw [Int.toNat_natCast] at hE b1
      have he := ends_any x0 y0 z0 x1 y1 z1 n hn
      clear hz q0 q1 hn
      generalize ax3 x0 y0 z0 n = lo at *
      generalize ax3 x1 y1 z1 n = hi at *
      have HE := Lib.hid hE
      clear hE
      by_cases c1 : p ≤ lo
      · have d1 : decide (p ≤ lo) = true := by simpa using c1
        go_wp2_with (refine wpList_load_row rfl 45 (.tmp 2) rfl w.heap.size rfl 45 #[.int .i64 x0, .int .i64 y0, .int .i64 z0, .int .i64 x1, .int .i64 y1, .int .i64 z1] (0, 0) _ HR.out Tryz.underlying45 rfl (by kernel_rfl) ?_)
        refine (he _).mono ?_; rintro e w3 ⟨rfl, hb3⟩
        have HB3 := Lib.hid (HW.out.trans (hb3.mono HW.out.size))
        have l1 : w3.cell? ⟨w.heap.size + 1, 1, none⟩ = some (.int .i64 p) := (hb3.cell (p := ⟨w.heap.size + 1, 1, none⟩) (block_lt_of_cell k1)).trans k1
        clear hb3
        go_wp2_with fail
        go_ret
        rw [HE.out, if_pos c1]
        exact ⟨rfl, HB3.out⟩
      · have d1 : decide (p ≤ lo) = false := by simpa using c1
        go_wp2_with (refine wpList_load_row rfl 45 (.tmp 2) rfl w.heap.size rfl 45 #[.int .i64 x0, .int .i64 y0, .int .i64 z0, .int .i64 x1, .int .i64 y1, .int .i64 z1] (0, 0) _ HR.out Tryz.underlying45 rfl (by kernel_rfl) ?_)
        refine (he _).mono ?_; rintro e w3 ⟨rfl, hb3⟩
        have HB3 := Lib.hid (HW.out.trans (hb3.mono HW.out.size))
        have l1 : w3.cell? ⟨w.heap.size + 1, 1, none⟩ = some (.int .i64 p) := (hb3.cell (p := ⟨w.heap.size + 1, 1, none⟩) (block_lt_of_cell k1)).trans k1
        have l2 : w3.cell? ⟨w.heap.size + 1, 2, none⟩ = some (.int .i64 k) := (hb3.cell (p := ⟨w.heap.size + 1, 2, none⟩) (block_lt_of_cell k2)).trans k2
        clear hb3
        by_cases c2 : hi - k ≤ p
        · have d2 : decide (hi - k ≤ p) = true := by simpa using c2
          go_wp2_with fail
          go_ret
          rw [HE.out, if_neg (by omega), if_pos (by omega)]
          exact ⟨rfl, HB3.out⟩
        · have d2 : decide (hi - k ≤ p) = false := by simpa using c2
          go_wp2_with fail
          go_ret
          rw [HE.out, if_neg (by omega), if_neg (by omega)]
          exact ⟨rfl, HB3.out⟩
    · have hE := Lib.hid (kcE_err (p := p) hz)
      generalize fsE (checkE x0 y0 z0 x1 y1 z1) (axE a) (swE k) = q at *
      have d : (q != 0) = true := by simp [hz]
      clear hz
      go_wp2_with fail
      go_ret
      rw [hE.out]
      exact ⟨rfl, HW.out⟩
end Go.Proofs.YtejhcbbfdfnfdaaGreatDoor.Kerf

/- kerf's Split of a possible cut: what it returns. -/
namespace Go.Proofs.YtejhcbbfdfnfdaaGreatDoor.Kerf
open Go.RowKit Go.Proofs.YtejhcbbfdfnfdaaGreatDoor.Base Go.Proofs.YtejhcbbfdfnfdaaGreatDoor.Box
def zero6 : Array Value := #[.int .i64 0, .int .i64 0, .int .i64 0, .int .i64 0, .int .i64 0, .int .i64 0]
theorem kcE_zero {x0 y0 z0 x1 y1 z1 p k : Int} {n : Nat} (h : kcE x0 y0 z0 x1 y1 z1 n p k = 0) : n < 3 ∧ 0 ≤ k ∧ k ≤ 1000 ∧ -1000000 ≤ ax3 x0 y0 z0 n ∧ ax3 x0 y0 z0 n < p ∧ p < ax3 x1 y1 z1 n - k ∧ ax3 x1 y1 z1 n ≤ 1000000 := by
  by_cases hz : fsE (checkE x0 y0 z0 x1 y1 z1) (axE n) (swE k) = 0
  · rw [kcE_ok hz, Int.toNat_natCast] at h
    obtain ⟨q0, q1, q2⟩ := fsE_0 hz
    have q0 := checkE_ok q0
    have q1 := axE_0 q1
    have q2 := swE_0 q2
    have b1 := ax3_in n (a := x1) (b := y1) (c := z1) (lo := -1000000) (hi := 1000000) ⟨by omega, by omega⟩ ⟨by omega, by omega⟩ ⟨by omega, by omega⟩
    have b0 := ax3_in n (a := x0) (b := y0) (c := z0) (lo := -1000000) (hi := 1000000) ⟨by omega, by omega⟩ ⟨by omega, by omega⟩ ⟨by omega, by omega⟩
    split at h
    · exact absurd h (by decide)
    · split at h
      · exact absurd h (by decide)
      · exact ⟨by omega, by omega, by omega, by omega, by omega, by omega, by omega⟩
  · rw [kcE_err hz] at h; exact absurd h hz
/-- What is gone. -/
def gnE (x0 y0 z0 x1 y1 z1 : Int) (n : Nat) (p k : Int) : Array Value := if 0 < k then sLo x0 y0 z0 x1 y1 z1 n p (p + k) else zero6
theorem sLo_six (x0 y0 z0 x1 y1 z1 : Int) (n : Nat) (p k : Int) : ∃ a b c d e f : Int, sLo x0 y0 z0 x1 y1 z1 n p k = #[.int .i64 a, .int .i64 b, .int .i64 c, .int .i64 d, .int .i64 e, .int .i64 f] := by
  unfold sLo
  split
  · exact ⟨_, _, _, _, _, _, rfl⟩
  · split
    · exact ⟨_, _, _, _, _, _, rfl⟩
    · exact ⟨_, _, _, _, _, _, rfl⟩
theorem gnE_six (x0 y0 z0 x1 y1 z1 : Int) (n : Nat) (p k : Int) : ∃ a b c d e f : Int, gnE x0 y0 z0 x1 y1 z1 n p k = #[.int .i64 a, .int .i64 b, .int .i64 c, .int .i64 d, .int .i64 e, .int .i64 f] := by
  unfold gnE sLo zero6
  split
  · split
    · exact ⟨_, _, _, _, _, _, rfl⟩
    · split
      · exact ⟨_, _, _, _, _, _, rfl⟩
      · exact ⟨_, _, _, _, _, _, rfl⟩
  · exact ⟨_, _, _, _, _, _, rfl⟩
/-- The blocks of the parameters and results. -/
def w5 (x0 y0 z0 x1 y1 z1 n p k : Int) (w : World) : World := ((((w.alloc (.cells #[.int .i64 x0, .int .i64 y0, .int .i64 z0, .int .i64 x1, .int .i64 y1, .int .i64 z1] 45)).alloc (.cells #[.int .i64 n, .int .i64 p, .int .i64 k] 136)).alloc (.cells #[.int .i64 0, .int .i64 0, .int .i64 0, .int .i64 0, .int .i64 0, .int .i64 0] 45)).alloc (.cells #[.int .i64 0, .int .i64 0, .int .i64 0, .int .i64 0, .int .i64 0, .int .i64 0] 45)).alloc (.cells #[.int .i64 0, .int .i64 0, .int .i64 0, .int .i64 0, .int .i64 0, .int .i64 0] 45)
theorem w5_size (x0 y0 z0 x1 y1 z1 n p k : Int) (w : World) : (w5 x0 y0 z0 x1 y1 z1 n p k w).heap.size = w.heap.size + 5 := by unfold w5; simp
theorem w5_rows (x0 y0 z0 x1 y1 z1 n p k : Int) (w : World) : (w5 x0 y0 z0 x1 y1 z1 n p k w).heap[w.heap.size]? = some (.cells #[.int .i64 x0, .int .i64 y0, .int .i64 z0, .int .i64 x1, .int .i64 y1, .int .i64 z1] 45 (0, 0)) ∧ (w5 x0 y0 z0 x1 y1 z1 n p k w).heap[w.heap.size + 1]? = some (.cells #[.int .i64 n, .int .i64 p, .int .i64 k] 136 (0, 0)) ∧
    (w5 x0 y0 z0 x1 y1 z1 n p k w).heap[w.heap.size + 1 + 1]? = some (.cells zero6 45 (0, 0)) ∧ (w5 x0 y0 z0 x1 y1 z1 n p k w).heap[w.heap.size + 1 + 1 + 1]? = some (.cells zero6 45 (0, 0)) ∧ (w5 x0 y0 z0 x1 y1 z1 n p k w).heap[w.heap.size + 1 + 1 + 1 + 1]? = some (.cells zero6 45 (0, 0)) := by
  unfold w5
  refine ⟨?_, ?_, ?_, ?_, ?_⟩
  all_goals
    (repeat rw [heap_al, Array.getElem?_push, if_neg (by first | (simp; done) | (simp; omega))])
    rw [heap_al, Array.getElem?_push, if_pos (by simp)]
    try rfl
theorem w5_below (x0 y0 z0 x1 y1 z1 n p k : Int) (w : World) : Below w.heap.size w (w5 x0 y0 z0 x1 y1 z1 n p k w) := by
  unfold w5
  (repeat' (first | (with_reducible exact Below.refl _ _) | (with_reducible refine Below.alloc ?_ ?_ _) | (simp; done) | (simp; omega)))
set_option maxRecDepth 100000 in
set_option maxHeartbeats 1000000 in
theorem split_ok (x0 y0 z0 x1 y1 z1 : Int) (n : Nat) (p k : Int) (w : World) (h : kcE x0 y0 z0 x1 y1 z1 n p k = 0) : Calls Tryz.prog 92 #[.agg #[.int .i64 x0, .int .i64 y0, .int .i64 z0, .int .i64 x1, .int .i64 y1, .int .i64 z1], .agg #[.int .i64 n, .int .i64 p, .int .i64 k]] w fun e w' =>
    e = .returned (.tuple #[.agg (sLo x0 y0 z0 x1 y1 z1 n (ax3 x0 y0 z0 n) p), .agg (gnE x0 y0 z0 x1 y1 z1 n p k), .agg (sLo x0 y0 z0 x1 y1 z1 n (p + k) (ax3 x1 y1 z1 n)), .int .i64 0]) ∧ Below w.heap.size w w' := by
  have hk := kcheck_any x0 y0 z0 x1 y1 z1 n p k
  rw [h] at hk
  have R := w5_rows x0 y0 z0 x1 y1 z1 n p k w
  have HW := Lib.hid (w5_below x0 y0 z0 x1 y1 z1 n p k w)
  obtain ⟨r0, r1, r2, r3, r4⟩ := R
  have R0 := Lib.hid r0
  have R1 := Lib.hid r1
  have R2 := Lib.hid r2
  have R3 := Lib.hid r3
  have R4 := Lib.hid r4
  clear r0 r1 r2 r3 r4
  go_enter Tryz.func92, Tryz.ntmps92
  go_wp2_with fail
  refine (hk _).mono ?_; rintro e w1 ⟨rfl, hb⟩
  have HW1 := Lib.hid (HW.out.trans (hb.mono (by simp; omega)))
  have R0 := Lib.hid (row_after hb R0.out)
  have R1 := Lib.hid (row_after hb R1.out)
  have R2 := Lib.hid (row_after hb R2.out)
  have R3 := Lib.hid (row_after hb R3.out)
  have R4 := Lib.hid (row_after hb R4.out)
  clear hb hk
  have hz := (kcE_zero h)
  obtain ⟨hn, hkl, hkh, b0, b1, b2, b3⟩ := hz
  have hlt1 := block_lt R4.out
  have he := ends_any x0 y0 z0 x1 y1 z1 n hn
  have hbt := between_any x0 y0 z0 x1 y1 z1 n hn
  have HS : Hid (∀ lo hi, (sLo x0 y0 z0 x1 y1 z1 n lo hi).size = 6 ∧ (sLo x0 y0 z0 x1 y1 z1 n lo hi).all (·.oneCell') = true) := Lib.hid fun lo hi => by unfold sLo; split; exact ⟨rfl, by kernel_rfl⟩; split; exact ⟨rfl, by kernel_rfl⟩; exact ⟨rfl, by kernel_rfl⟩
  have HG : Hid (gnE x0 y0 z0 x1 y1 z1 n p k = if 0 < k then sLo x0 y0 z0 x1 y1 z1 n p (p + k) else zero6) := Lib.hid rfl
  clear hn h
  generalize hlo : ax3 x0 y0 z0 n = lo at *
  generalize hhi : ax3 x1 y1 z1 n = hi at *
  have HLO := Lib.hid hlo
  have HHI := Lib.hid hhi
  clear hlo hhi
  have c1 := (row_cells R1.out).1
  go_wp2_with (refine wpList_load_row rfl 45 (.tmp 2) rfl w.heap.size rfl 45 #[.int .i64 x0, .int .i64 y0, .int .i64 z0, .int .i64 x1, .int .i64 y1, .int .i64 z1] (0, 0) _ R0.out Tryz.underlying45 rfl (by kernel_rfl) ?_)
  refine (he _).mono ?_; rintro e w2 ⟨rfl, hb⟩
  have HW2 := Lib.hid (HW1.out.trans (hb.mono HW1.out.size))
  have R0 := Lib.hid (row_after hb R0.out)
  have R1 := Lib.hid (row_after hb R1.out)
  have R2 := Lib.hid (row_after hb R2.out)
  have R3 := Lib.hid (row_after hb R3.out)
  have R4 := Lib.hid (row_after hb R4.out)
  have hsz := HW2.out.size
  have hlt2 := block_lt R4.out
  clear hb he c1
  have c1 := (row_cells R1.out).1
  obtain ⟨g0, g1, g2, g3, g4, g5, hg⟩ := gnE_six x0 y0 z0 x1 y1 z1 n p k
  rw [hg] at HG
  have HS2 := Lib.hid hg
  clear hg
  obtain ⟨a0, a1, a2, a3, a4, a5, ha⟩ := sLo_six x0 y0 z0 x1 y1 z1 n lo p
  obtain ⟨b0, b1, b2, b3, b4, b5, hbb⟩ := sLo_six x0 y0 z0 x1 y1 z1 n (p + k) hi
  have h1 := hbt lo p
  have h2 := hbt (p + k) hi
  rw [ha] at h1
  rw [hbb] at h2
  have hpk : IntKind.i64.wrap (p + k) = p + k := by rw [IntKind.wrap_i64]; omega
  have h3 := h2
  rw [← hpk] at h3
  have HPK := Lib.hid hpk
  clear hpk
  have HA := Lib.hid ha
  have HBB := Lib.hid hbb
  clear ha hbb
  by_cases hk0 : 0 < k
  · have d : decide (0 < k) = true := by simpa using hk0
    have c2 := fun O => (row_cells (old_block R1.out O)).1
    have hq := HG.out
    rw [if_pos hk0] at hq
    have hbp := hbt p (p + k)
    rw [← hq] at hbp
    clear hq
    go_wp2_with (refine wpList_load_row rfl 45 (.tmp 2) rfl w.heap.size rfl 45 #[.int .i64 x0, .int .i64 y0, .int .i64 z0, .int .i64 x1, .int .i64 y1, .int .i64 z1] (0, 0) _ (old_block R0.out _) Tryz.underlying45 rfl (by kernel_rfl) ?_)
    refine (hbp _).mono ?_; rintro e w3 ⟨rfl, hb⟩
    have HW3 := Lib.hid (HW2.out.trans (Below.trans ((Below.refl w2.heap.size w2).alloc (Nat.le_refl _) _) (hb.mono (by simp)) |>.mono hsz))
    have R0 := Lib.hid (row_after hb (old_block R0.out _))
    have R1 := Lib.hid (row_after hb (old_block R1.out _))
    have R2 := Lib.hid (row_after hb (old_block R2.out _))
    have R3 := Lib.hid (row_after hb (old_block R3.out _))
    have R4 := Lib.hid (row_after hb (old_block R4.out _))
    have RG := Lib.hid (row_after hb (new_block _ _))
    clear hb c1 c2 hbp
    have hne : ∀ j, j < w2.heap.size → j ≠ w2.heap.size := fun j hj => by omega
    have HNE := Lib.hid hne
    clear hne
    go_wp2_with (refine wpList_store_row rfl 45 (.tmp 11) (.tmp 42) rfl w2.heap.size #[.int .i64 g0, .int .i64 g1, .int .i64 g2, .int .i64 g3, .int .i64 g4, .int .i64 g5] rfl rfl 45 zero6 RG.out ?_ ?_ ?_ ?_; (kernel_rfl); (kernel_rfl); (kernel_rfl))
    have HWx := Lib.hid (below_setRow HW3.out hsz #[.int .i64 g0, .int .i64 g1, .int .i64 g2, .int .i64 g3, .int .i64 g4, .int .i64 g5])
    have Q0 := Lib.hid ((setRow_other w3 w2.heap.size _ #[.int .i64 g0, .int .i64 g1, .int .i64 g2, .int .i64 g3, .int .i64 g4, .int .i64 g5] (HNE.out _ (by omega))).trans R0.out)
    have Q1 := Lib.hid ((setRow_other w3 w2.heap.size _ #[.int .i64 g0, .int .i64 g1, .int .i64 g2, .int .i64 g3, .int .i64 g4, .int .i64 g5] (HNE.out _ (by omega))).trans R1.out)
    have Q2 := Lib.hid ((setRow_other w3 w2.heap.size _ #[.int .i64 g0, .int .i64 g1, .int .i64 g2, .int .i64 g3, .int .i64 g4, .int .i64 g5] (HNE.out _ (by omega))).trans R2.out)
    have Q3 := Lib.hid ((setRow_other w3 w2.heap.size _ #[.int .i64 g0, .int .i64 g1, .int .i64 g2, .int .i64 g3, .int .i64 g4, .int .i64 g5] (HNE.out _ (by omega))).trans R3.out)
    have Q4 := Lib.hid ((setRow_other w3 w2.heap.size _ #[.int .i64 g0, .int .i64 g1, .int .i64 g2, .int .i64 g3, .int .i64 g4, .int .i64 g5] (HNE.out _ (by omega))).trans R4.out)
    have QG := Lib.hid (setRow_heap w3 w2.heap.size zero6 #[.int .i64 g0, .int .i64 g1, .int .i64 g2, .int .i64 g3, .int .i64 g4, .int .i64 g5] 45 (0, 0) RG.out)
    generalize w3.setRow w2.heap.size #[.int .i64 g0, .int .i64 g1, .int .i64 g2, .int .i64 g3, .int .i64 g4, .int .i64 g5] = wx at *
    clear RG R0 R1 R2 R3 R4 HW3
    have K : wx.cell? ⟨w.heap.size, 0, none⟩ = some (.int .i64 x0) ∧ wx.cell? ⟨w.heap.size, 1, none⟩ = some (.int .i64 y0) ∧ wx.cell? ⟨w.heap.size, 2, none⟩ = some (.int .i64 z0) ∧ wx.cell? ⟨w.heap.size, 3, none⟩ = some (.int .i64 x1) ∧ wx.cell? ⟨w.heap.size, 4, none⟩ = some (.int .i64 y1) ∧ wx.cell? ⟨w.heap.size, 5, none⟩ = some (.int .i64 z1) ∧ wx.cell? ⟨w.heap.size + 1, 0, none⟩ = some (.int .i64 n) ∧ wx.cell? ⟨w.heap.size + 1, 1, none⟩ = some (.int .i64 p) ∧ wx.cell? ⟨w.heap.size + 1, 2, none⟩ = some (.int .i64 k) ∧ wx.cell? ⟨w2.heap.size, 0, none⟩ = some (.int .i64 g0) ∧ wx.cell? ⟨w2.heap.size, 1, none⟩ = some (.int .i64 g1) ∧ wx.cell? ⟨w2.heap.size, 2, none⟩ = some (.int .i64 g2) ∧ wx.cell? ⟨w2.heap.size, 3, none⟩ = some (.int .i64 g3) ∧ wx.cell? ⟨w2.heap.size, 4, none⟩ = some (.int .i64 g4) ∧ wx.cell? ⟨w2.heap.size, 5, none⟩ = some (.int .i64 g5) := ⟨(row_cells Q0.out).1 0, (row_cells Q0.out).1 1, (row_cells Q0.out).1 2, (row_cells Q0.out).1 3, (row_cells Q0.out).1 4, (row_cells Q0.out).1 5, (row_cells Q1.out).1 0, (row_cells Q1.out).1 1, (row_cells Q1.out).1 2, (row_cells QG.out).1 0, (row_cells QG.out).1 1, (row_cells QG.out).1 2, (row_cells QG.out).1 3, (row_cells QG.out).1 4, (row_cells QG.out).1 5⟩
    go_region_held3 (fun w' => w'.cell? ⟨w.heap.size, 0, none⟩ = some (.int .i64 x0) ∧ w'.cell? ⟨w.heap.size, 1, none⟩ = some (.int .i64 y0) ∧ w'.cell? ⟨w.heap.size, 2, none⟩ = some (.int .i64 z0) ∧ w'.cell? ⟨w.heap.size, 3, none⟩ = some (.int .i64 x1) ∧ w'.cell? ⟨w.heap.size, 4, none⟩ = some (.int .i64 y1) ∧ w'.cell? ⟨w.heap.size, 5, none⟩ = some (.int .i64 z1) ∧ w'.cell? ⟨w.heap.size + 1, 0, none⟩ = some (.int .i64 n) ∧ w'.cell? ⟨w.heap.size + 1, 1, none⟩ = some (.int .i64 p) ∧ w'.cell? ⟨w.heap.size + 1, 2, none⟩ = some (.int .i64 k) ∧ w'.cell? ⟨w2.heap.size, 0, none⟩ = some (.int .i64 g0) ∧ w'.cell? ⟨w2.heap.size, 1, none⟩ = some (.int .i64 g1) ∧ w'.cell? ⟨w2.heap.size, 2, none⟩ = some (.int .i64 g2) ∧ w'.cell? ⟨w2.heap.size, 3, none⟩ = some (.int .i64 g3) ∧ w'.cell? ⟨w2.heap.size, 4, none⟩ = some (.int .i64 g4) ∧ w'.cell? ⟨w2.heap.size, 5, none⟩ = some (.int .i64 g5)) ((first | (simp only [*, and_self]; done) | (simp [*, go_sem]; done)))
      (first
        | (go_at_call 132; ((with_reducible refine (h1 _).mono ?_); rintro e w6 ⟨rfl, hb⟩; have Q0 := Lib.hid (row_after hb Q0.out); have Q1 := Lib.hid (row_after hb Q1.out); have Q2 := Lib.hid (row_after hb Q2.out); have Q3 := Lib.hid (row_after hb Q3.out); have Q4 := Lib.hid (row_after hb Q4.out); have QG := Lib.hid (row_after hb QG.out); have HWx := Lib.hid (HWx.out.drew.trans (hb.mono HWx.out.size)); clear hb; have K : w6.cell? ⟨w.heap.size, 0, none⟩ = some (.int .i64 x0) ∧ w6.cell? ⟨w.heap.size, 1, none⟩ = some (.int .i64 y0) ∧ w6.cell? ⟨w.heap.size, 2, none⟩ = some (.int .i64 z0) ∧ w6.cell? ⟨w.heap.size, 3, none⟩ = some (.int .i64 x1) ∧ w6.cell? ⟨w.heap.size, 4, none⟩ = some (.int .i64 y1) ∧ w6.cell? ⟨w.heap.size, 5, none⟩ = some (.int .i64 z1) ∧ w6.cell? ⟨w.heap.size + 1, 0, none⟩ = some (.int .i64 n) ∧ w6.cell? ⟨w.heap.size + 1, 1, none⟩ = some (.int .i64 p) ∧ w6.cell? ⟨w.heap.size + 1, 2, none⟩ = some (.int .i64 k) ∧ w6.cell? ⟨w2.heap.size, 0, none⟩ = some (.int .i64 g0) ∧ w6.cell? ⟨w2.heap.size, 1, none⟩ = some (.int .i64 g1) ∧ w6.cell? ⟨w2.heap.size, 2, none⟩ = some (.int .i64 g2) ∧ w6.cell? ⟨w2.heap.size, 3, none⟩ = some (.int .i64 g3) ∧ w6.cell? ⟨w2.heap.size, 4, none⟩ = some (.int .i64 g4) ∧ w6.cell? ⟨w2.heap.size, 5, none⟩ = some (.int .i64 g5) := ⟨(row_cells Q0.out).1 0, (row_cells Q0.out).1 1, (row_cells Q0.out).1 2, (row_cells Q0.out).1 3, (row_cells Q0.out).1 4, (row_cells Q0.out).1 5, (row_cells Q1.out).1 0, (row_cells Q1.out).1 1, (row_cells Q1.out).1 2, (row_cells QG.out).1 0, (row_cells QG.out).1 1, (row_cells QG.out).1 2, (row_cells QG.out).1 3, (row_cells QG.out).1 4, (row_cells QG.out).1 5⟩))
        | (go_at_call 132; ((first | (with_reducible refine (h3 _).mono ?_) | (with_reducible refine (h2 _).mono ?_)); rintro e w7 ⟨rfl, hb⟩; have Q0 := Lib.hid (row_after hb Q0.out); have Q1 := Lib.hid (row_after hb Q1.out); have Q2 := Lib.hid (row_after hb Q2.out); have Q3 := Lib.hid (row_after hb Q3.out); have Q4 := Lib.hid (row_after hb Q4.out); have QG := Lib.hid (row_after hb QG.out); have HWx := Lib.hid (HWx.out.trans (hb.mono HWx.out.size)); clear hb; have K : w7.cell? ⟨w.heap.size, 0, none⟩ = some (.int .i64 x0) ∧ w7.cell? ⟨w.heap.size, 1, none⟩ = some (.int .i64 y0) ∧ w7.cell? ⟨w.heap.size, 2, none⟩ = some (.int .i64 z0) ∧ w7.cell? ⟨w.heap.size, 3, none⟩ = some (.int .i64 x1) ∧ w7.cell? ⟨w.heap.size, 4, none⟩ = some (.int .i64 y1) ∧ w7.cell? ⟨w.heap.size, 5, none⟩ = some (.int .i64 z1) ∧ w7.cell? ⟨w.heap.size + 1, 0, none⟩ = some (.int .i64 n) ∧ w7.cell? ⟨w.heap.size + 1, 1, none⟩ = some (.int .i64 p) ∧ w7.cell? ⟨w.heap.size + 1, 2, none⟩ = some (.int .i64 k) ∧ w7.cell? ⟨w2.heap.size, 0, none⟩ = some (.int .i64 g0) ∧ w7.cell? ⟨w2.heap.size, 1, none⟩ = some (.int .i64 g1) ∧ w7.cell? ⟨w2.heap.size, 2, none⟩ = some (.int .i64 g2) ∧ w7.cell? ⟨w2.heap.size, 3, none⟩ = some (.int .i64 g3) ∧ w7.cell? ⟨w2.heap.size, 4, none⟩ = some (.int .i64 g4) ∧ w7.cell? ⟨w2.heap.size, 5, none⟩ = some (.int .i64 g5) := ⟨(row_cells Q0.out).1 0, (row_cells Q0.out).1 1, (row_cells Q0.out).1 2, (row_cells Q0.out).1 3, (row_cells Q0.out).1 4, (row_cells Q0.out).1 5, (row_cells Q1.out).1 0, (row_cells Q1.out).1 1, (row_cells Q1.out).1 2, (row_cells QG.out).1 0, (row_cells QG.out).1 1, (row_cells QG.out).1 2, (row_cells QG.out).1 3, (row_cells QG.out).1 4, (row_cells QG.out).1 5⟩; have s2 : w7.cell? ⟨w.heap.size + 1 + 1, 0, none⟩ = some (.int .i64 0) ∧ w7.cell? ⟨w.heap.size + 1 + 1, 1, none⟩ = some (.int .i64 0) ∧ w7.cell? ⟨w.heap.size + 1 + 1, 2, none⟩ = some (.int .i64 0) ∧ w7.cell? ⟨w.heap.size + 1 + 1, 3, none⟩ = some (.int .i64 0) ∧ w7.cell? ⟨w.heap.size + 1 + 1, 4, none⟩ = some (.int .i64 0) ∧ w7.cell? ⟨w.heap.size + 1 + 1, 5, none⟩ = some (.int .i64 0) ∧ w7.frozen? ⟨w.heap.size + 1 + 1, 0, none⟩ = false ∧ w7.frozen? ⟨w.heap.size + 1 + 1, 1, none⟩ = false ∧ w7.frozen? ⟨w.heap.size + 1 + 1, 2, none⟩ = false ∧ w7.frozen? ⟨w.heap.size + 1 + 1, 3, none⟩ = false ∧ w7.frozen? ⟨w.heap.size + 1 + 1, 4, none⟩ = false ∧ w7.frozen? ⟨w.heap.size + 1 + 1, 5, none⟩ = false := ⟨(row_cells Q2.out).1 0, (row_cells Q2.out).1 1, (row_cells Q2.out).1 2, (row_cells Q2.out).1 3, (row_cells Q2.out).1 4, (row_cells Q2.out).1 5, (row_cells Q2.out).2 0, (row_cells Q2.out).2 1, (row_cells Q2.out).2 2, (row_cells Q2.out).2 3, (row_cells Q2.out).2 4, (row_cells Q2.out).2 5⟩; have s3 : w7.cell? ⟨w.heap.size + 1 + 1 + 1, 0, none⟩ = some (.int .i64 0) ∧ w7.cell? ⟨w.heap.size + 1 + 1 + 1, 1, none⟩ = some (.int .i64 0) ∧ w7.cell? ⟨w.heap.size + 1 + 1 + 1, 2, none⟩ = some (.int .i64 0) ∧ w7.cell? ⟨w.heap.size + 1 + 1 + 1, 3, none⟩ = some (.int .i64 0) ∧ w7.cell? ⟨w.heap.size + 1 + 1 + 1, 4, none⟩ = some (.int .i64 0) ∧ w7.cell? ⟨w.heap.size + 1 + 1 + 1, 5, none⟩ = some (.int .i64 0) ∧ w7.frozen? ⟨w.heap.size + 1 + 1 + 1, 0, none⟩ = false ∧ w7.frozen? ⟨w.heap.size + 1 + 1 + 1, 1, none⟩ = false ∧ w7.frozen? ⟨w.heap.size + 1 + 1 + 1, 2, none⟩ = false ∧ w7.frozen? ⟨w.heap.size + 1 + 1 + 1, 3, none⟩ = false ∧ w7.frozen? ⟨w.heap.size + 1 + 1 + 1, 4, none⟩ = false ∧ w7.frozen? ⟨w.heap.size + 1 + 1 + 1, 5, none⟩ = false := ⟨(row_cells Q3.out).1 0, (row_cells Q3.out).1 1, (row_cells Q3.out).1 2, (row_cells Q3.out).1 3, (row_cells Q3.out).1 4, (row_cells Q3.out).1 5, (row_cells Q3.out).2 0, (row_cells Q3.out).2 1, (row_cells Q3.out).2 2, (row_cells Q3.out).2 3, (row_cells Q3.out).2 4, (row_cells Q3.out).2 5⟩; have s4 : w7.cell? ⟨w.heap.size + 1 + 1 + 1 + 1, 0, none⟩ = some (.int .i64 0) ∧ w7.cell? ⟨w.heap.size + 1 + 1 + 1 + 1, 1, none⟩ = some (.int .i64 0) ∧ w7.cell? ⟨w.heap.size + 1 + 1 + 1 + 1, 2, none⟩ = some (.int .i64 0) ∧ w7.cell? ⟨w.heap.size + 1 + 1 + 1 + 1, 3, none⟩ = some (.int .i64 0) ∧ w7.cell? ⟨w.heap.size + 1 + 1 + 1 + 1, 4, none⟩ = some (.int .i64 0) ∧ w7.cell? ⟨w.heap.size + 1 + 1 + 1 + 1, 5, none⟩ = some (.int .i64 0) ∧ w7.frozen? ⟨w.heap.size + 1 + 1 + 1 + 1, 0, none⟩ = false ∧ w7.frozen? ⟨w.heap.size + 1 + 1 + 1 + 1, 1, none⟩ = false ∧ w7.frozen? ⟨w.heap.size + 1 + 1 + 1 + 1, 2, none⟩ = false ∧ w7.frozen? ⟨w.heap.size + 1 + 1 + 1 + 1, 3, none⟩ = false ∧ w7.frozen? ⟨w.heap.size + 1 + 1 + 1 + 1, 4, none⟩ = false ∧ w7.frozen? ⟨w.heap.size + 1 + 1 + 1 + 1, 5, none⟩ = false := ⟨(row_cells Q4.out).1 0, (row_cells Q4.out).1 1, (row_cells Q4.out).1 2, (row_cells Q4.out).1 3, (row_cells Q4.out).1 4, (row_cells Q4.out).1 5, (row_cells Q4.out).2 0, (row_cells Q4.out).2 1, (row_cells Q4.out).2 2, (row_cells Q4.out).2 3, (row_cells Q4.out).2 4, (row_cells Q4.out).2 5⟩)))
    go_wp2_with fail
    refine bodyPost_ret (v := .tuple #[.agg #[.int .i64 a0, .int .i64 a1, .int .i64 a2, .int .i64 a3, .int .i64 a4, .int .i64 a5], .agg #[.int .i64 g0, .int .i64 g1, .int .i64 g2, .int .i64 g3, .int .i64 g4, .int .i64 g5], .agg #[.int .i64 b0, .int .i64 b1, .int .i64 b2, .int .i64 b3, .int .i64 b4, .int .i64 b5], .int .i64 0]) (by simp [results, Tryz.results92, go_sem, *]) rfl ⟨?_, ?_⟩
    · rw [HLO.out, HHI.out, HA.out, HBB.out, HS2.out]
    · have hy := HWx.out
      (repeat' (first | (with_reducible exact hy) | (with_reducible refine Below.setCell ?_ ?_ _) | (simp; done) | (simp; omega)))
  · have d : decide (0 < k) = false := by simpa using hk0
    have hq := HG.out
    rw [if_neg hk0] at hq
    clear c1
    have HWx : Hid (Below w.heap.size w (w2.alloc (.cells #[.int .i64 0, .int .i64 0, .int .i64 0, .int .i64 0, .int .i64 0, .int .i64 0] 45))) := Lib.hid ((Below.refl w2.heap.size w2).alloc (Nat.le_refl _) (.cells #[.int .i64 0, .int .i64 0, .int .i64 0, .int .i64 0, .int .i64 0, .int .i64 0] 45) |>.mono hsz |> HW2.out.trans)
    have QG : Hid ((w2.alloc (.cells #[.int .i64 0, .int .i64 0, .int .i64 0, .int .i64 0, .int .i64 0, .int .i64 0] 45)).heap[w2.heap.size]? = some (.cells #[.int .i64 g0, .int .i64 g1, .int .i64 g2, .int .i64 g3, .int .i64 g4, .int .i64 g5] 45 (0, 0))) := Lib.hid (by rw [hq]; exact new_block _ _)
    clear hq
    have Q0 := Lib.hid (old_block R0.out (.cells #[.int .i64 0, .int .i64 0, .int .i64 0, .int .i64 0, .int .i64 0, .int .i64 0] 45))
    have Q1 := Lib.hid (old_block R1.out (.cells #[.int .i64 0, .int .i64 0, .int .i64 0, .int .i64 0, .int .i64 0, .int .i64 0] 45))
    have Q2 := Lib.hid (old_block R2.out (.cells #[.int .i64 0, .int .i64 0, .int .i64 0, .int .i64 0, .int .i64 0, .int .i64 0] 45))
    have Q3 := Lib.hid (old_block R3.out (.cells #[.int .i64 0, .int .i64 0, .int .i64 0, .int .i64 0, .int .i64 0, .int .i64 0] 45))
    have Q4 := Lib.hid (old_block R4.out (.cells #[.int .i64 0, .int .i64 0, .int .i64 0, .int .i64 0, .int .i64 0, .int .i64 0] 45))
    have c2 := fun O => (row_cells (old_block R1.out O)).1
    go_wp2_with fail
    clear c2
    generalize w2.alloc (.cells #[.int .i64 0, .int .i64 0, .int .i64 0, .int .i64 0, .int .i64 0, .int .i64 0] 45) = wx at *
    clear R0 R1 R2 R3 R4
    have K : wx.cell? ⟨w.heap.size, 0, none⟩ = some (.int .i64 x0) ∧ wx.cell? ⟨w.heap.size, 1, none⟩ = some (.int .i64 y0) ∧ wx.cell? ⟨w.heap.size, 2, none⟩ = some (.int .i64 z0) ∧ wx.cell? ⟨w.heap.size, 3, none⟩ = some (.int .i64 x1) ∧ wx.cell? ⟨w.heap.size, 4, none⟩ = some (.int .i64 y1) ∧ wx.cell? ⟨w.heap.size, 5, none⟩ = some (.int .i64 z1) ∧ wx.cell? ⟨w.heap.size + 1, 0, none⟩ = some (.int .i64 n) ∧ wx.cell? ⟨w.heap.size + 1, 1, none⟩ = some (.int .i64 p) ∧ wx.cell? ⟨w.heap.size + 1, 2, none⟩ = some (.int .i64 k) ∧ wx.cell? ⟨w2.heap.size, 0, none⟩ = some (.int .i64 g0) ∧ wx.cell? ⟨w2.heap.size, 1, none⟩ = some (.int .i64 g1) ∧ wx.cell? ⟨w2.heap.size, 2, none⟩ = some (.int .i64 g2) ∧ wx.cell? ⟨w2.heap.size, 3, none⟩ = some (.int .i64 g3) ∧ wx.cell? ⟨w2.heap.size, 4, none⟩ = some (.int .i64 g4) ∧ wx.cell? ⟨w2.heap.size, 5, none⟩ = some (.int .i64 g5) := ⟨(row_cells Q0.out).1 0, (row_cells Q0.out).1 1, (row_cells Q0.out).1 2, (row_cells Q0.out).1 3, (row_cells Q0.out).1 4, (row_cells Q0.out).1 5, (row_cells Q1.out).1 0, (row_cells Q1.out).1 1, (row_cells Q1.out).1 2, (row_cells QG.out).1 0, (row_cells QG.out).1 1, (row_cells QG.out).1 2, (row_cells QG.out).1 3, (row_cells QG.out).1 4, (row_cells QG.out).1 5⟩
    go_region_held3 (fun w' => w'.cell? ⟨w.heap.size, 0, none⟩ = some (.int .i64 x0) ∧ w'.cell? ⟨w.heap.size, 1, none⟩ = some (.int .i64 y0) ∧ w'.cell? ⟨w.heap.size, 2, none⟩ = some (.int .i64 z0) ∧ w'.cell? ⟨w.heap.size, 3, none⟩ = some (.int .i64 x1) ∧ w'.cell? ⟨w.heap.size, 4, none⟩ = some (.int .i64 y1) ∧ w'.cell? ⟨w.heap.size, 5, none⟩ = some (.int .i64 z1) ∧ w'.cell? ⟨w.heap.size + 1, 0, none⟩ = some (.int .i64 n) ∧ w'.cell? ⟨w.heap.size + 1, 1, none⟩ = some (.int .i64 p) ∧ w'.cell? ⟨w.heap.size + 1, 2, none⟩ = some (.int .i64 k) ∧ w'.cell? ⟨w2.heap.size, 0, none⟩ = some (.int .i64 g0) ∧ w'.cell? ⟨w2.heap.size, 1, none⟩ = some (.int .i64 g1) ∧ w'.cell? ⟨w2.heap.size, 2, none⟩ = some (.int .i64 g2) ∧ w'.cell? ⟨w2.heap.size, 3, none⟩ = some (.int .i64 g3) ∧ w'.cell? ⟨w2.heap.size, 4, none⟩ = some (.int .i64 g4) ∧ w'.cell? ⟨w2.heap.size, 5, none⟩ = some (.int .i64 g5)) ((first | (simp only [*, and_self]; done) | (simp [*, go_sem]; done)))
      (first
        | (go_at_call 132; ((with_reducible refine (h1 _).mono ?_); rintro e w6 ⟨rfl, hb⟩; have Q0 := Lib.hid (row_after hb Q0.out); have Q1 := Lib.hid (row_after hb Q1.out); have Q2 := Lib.hid (row_after hb Q2.out); have Q3 := Lib.hid (row_after hb Q3.out); have Q4 := Lib.hid (row_after hb Q4.out); have QG := Lib.hid (row_after hb QG.out); have HWx := Lib.hid (HWx.out.drew.trans (hb.mono HWx.out.size)); clear hb; have K : w6.cell? ⟨w.heap.size, 0, none⟩ = some (.int .i64 x0) ∧ w6.cell? ⟨w.heap.size, 1, none⟩ = some (.int .i64 y0) ∧ w6.cell? ⟨w.heap.size, 2, none⟩ = some (.int .i64 z0) ∧ w6.cell? ⟨w.heap.size, 3, none⟩ = some (.int .i64 x1) ∧ w6.cell? ⟨w.heap.size, 4, none⟩ = some (.int .i64 y1) ∧ w6.cell? ⟨w.heap.size, 5, none⟩ = some (.int .i64 z1) ∧ w6.cell? ⟨w.heap.size + 1, 0, none⟩ = some (.int .i64 n) ∧ w6.cell? ⟨w.heap.size + 1, 1, none⟩ = some (.int .i64 p) ∧ w6.cell? ⟨w.heap.size + 1, 2, none⟩ = some (.int .i64 k) ∧ w6.cell? ⟨w2.heap.size, 0, none⟩ = some (.int .i64 g0) ∧ w6.cell? ⟨w2.heap.size, 1, none⟩ = some (.int .i64 g1) ∧ w6.cell? ⟨w2.heap.size, 2, none⟩ = some (.int .i64 g2) ∧ w6.cell? ⟨w2.heap.size, 3, none⟩ = some (.int .i64 g3) ∧ w6.cell? ⟨w2.heap.size, 4, none⟩ = some (.int .i64 g4) ∧ w6.cell? ⟨w2.heap.size, 5, none⟩ = some (.int .i64 g5) := ⟨(row_cells Q0.out).1 0, (row_cells Q0.out).1 1, (row_cells Q0.out).1 2, (row_cells Q0.out).1 3, (row_cells Q0.out).1 4, (row_cells Q0.out).1 5, (row_cells Q1.out).1 0, (row_cells Q1.out).1 1, (row_cells Q1.out).1 2, (row_cells QG.out).1 0, (row_cells QG.out).1 1, (row_cells QG.out).1 2, (row_cells QG.out).1 3, (row_cells QG.out).1 4, (row_cells QG.out).1 5⟩))
        | (go_at_call 132; ((first | (with_reducible refine (h3 _).mono ?_) | (with_reducible refine (h2 _).mono ?_)); rintro e w7 ⟨rfl, hb⟩; have Q0 := Lib.hid (row_after hb Q0.out); have Q1 := Lib.hid (row_after hb Q1.out); have Q2 := Lib.hid (row_after hb Q2.out); have Q3 := Lib.hid (row_after hb Q3.out); have Q4 := Lib.hid (row_after hb Q4.out); have QG := Lib.hid (row_after hb QG.out); have HWx := Lib.hid (HWx.out.trans (hb.mono HWx.out.size)); clear hb; have K : w7.cell? ⟨w.heap.size, 0, none⟩ = some (.int .i64 x0) ∧ w7.cell? ⟨w.heap.size, 1, none⟩ = some (.int .i64 y0) ∧ w7.cell? ⟨w.heap.size, 2, none⟩ = some (.int .i64 z0) ∧ w7.cell? ⟨w.heap.size, 3, none⟩ = some (.int .i64 x1) ∧ w7.cell? ⟨w.heap.size, 4, none⟩ = some (.int .i64 y1) ∧ w7.cell? ⟨w.heap.size, 5, none⟩ = some (.int .i64 z1) ∧ w7.cell? ⟨w.heap.size + 1, 0, none⟩ = some (.int .i64 n) ∧ w7.cell? ⟨w.heap.size + 1, 1, none⟩ = some (.int .i64 p) ∧ w7.cell? ⟨w.heap.size + 1, 2, none⟩ = some (.int .i64 k) ∧ w7.cell? ⟨w2.heap.size, 0, none⟩ = some (.int .i64 g0) ∧ w7.cell? ⟨w2.heap.size, 1, none⟩ = some (.int .i64 g1) ∧ w7.cell? ⟨w2.heap.size, 2, none⟩ = some (.int .i64 g2) ∧ w7.cell? ⟨w2.heap.size, 3, none⟩ = some (.int .i64 g3) ∧ w7.cell? ⟨w2.heap.size, 4, none⟩ = some (.int .i64 g4) ∧ w7.cell? ⟨w2.heap.size, 5, none⟩ = some (.int .i64 g5) := ⟨(row_cells Q0.out).1 0, (row_cells Q0.out).1 1, (row_cells Q0.out).1 2, (row_cells Q0.out).1 3, (row_cells Q0.out).1 4, (row_cells Q0.out).1 5, (row_cells Q1.out).1 0, (row_cells Q1.out).1 1, (row_cells Q1.out).1 2, (row_cells QG.out).1 0, (row_cells QG.out).1 1, (row_cells QG.out).1 2, (row_cells QG.out).1 3, (row_cells QG.out).1 4, (row_cells QG.out).1 5⟩; have s2 : w7.cell? ⟨w.heap.size + 1 + 1, 0, none⟩ = some (.int .i64 0) ∧ w7.cell? ⟨w.heap.size + 1 + 1, 1, none⟩ = some (.int .i64 0) ∧ w7.cell? ⟨w.heap.size + 1 + 1, 2, none⟩ = some (.int .i64 0) ∧ w7.cell? ⟨w.heap.size + 1 + 1, 3, none⟩ = some (.int .i64 0) ∧ w7.cell? ⟨w.heap.size + 1 + 1, 4, none⟩ = some (.int .i64 0) ∧ w7.cell? ⟨w.heap.size + 1 + 1, 5, none⟩ = some (.int .i64 0) ∧ w7.frozen? ⟨w.heap.size + 1 + 1, 0, none⟩ = false ∧ w7.frozen? ⟨w.heap.size + 1 + 1, 1, none⟩ = false ∧ w7.frozen? ⟨w.heap.size + 1 + 1, 2, none⟩ = false ∧ w7.frozen? ⟨w.heap.size + 1 + 1, 3, none⟩ = false ∧ w7.frozen? ⟨w.heap.size + 1 + 1, 4, none⟩ = false ∧ w7.frozen? ⟨w.heap.size + 1 + 1, 5, none⟩ = false := ⟨(row_cells Q2.out).1 0, (row_cells Q2.out).1 1, (row_cells Q2.out).1 2, (row_cells Q2.out).1 3, (row_cells Q2.out).1 4, (row_cells Q2.out).1 5, (row_cells Q2.out).2 0, (row_cells Q2.out).2 1, (row_cells Q2.out).2 2, (row_cells Q2.out).2 3, (row_cells Q2.out).2 4, (row_cells Q2.out).2 5⟩; have s3 : w7.cell? ⟨w.heap.size + 1 + 1 + 1, 0, none⟩ = some (.int .i64 0) ∧ w7.cell? ⟨w.heap.size + 1 + 1 + 1, 1, none⟩ = some (.int .i64 0) ∧ w7.cell? ⟨w.heap.size + 1 + 1 + 1, 2, none⟩ = some (.int .i64 0) ∧ w7.cell? ⟨w.heap.size + 1 + 1 + 1, 3, none⟩ = some (.int .i64 0) ∧ w7.cell? ⟨w.heap.size + 1 + 1 + 1, 4, none⟩ = some (.int .i64 0) ∧ w7.cell? ⟨w.heap.size + 1 + 1 + 1, 5, none⟩ = some (.int .i64 0) ∧ w7.frozen? ⟨w.heap.size + 1 + 1 + 1, 0, none⟩ = false ∧ w7.frozen? ⟨w.heap.size + 1 + 1 + 1, 1, none⟩ = false ∧ w7.frozen? ⟨w.heap.size + 1 + 1 + 1, 2, none⟩ = false ∧ w7.frozen? ⟨w.heap.size + 1 + 1 + 1, 3, none⟩ = false ∧ w7.frozen? ⟨w.heap.size + 1 + 1 + 1, 4, none⟩ = false ∧ w7.frozen? ⟨w.heap.size + 1 + 1 + 1, 5, none⟩ = false := ⟨(row_cells Q3.out).1 0, (row_cells Q3.out).1 1, (row_cells Q3.out).1 2, (row_cells Q3.out).1 3, (row_cells Q3.out).1 4, (row_cells Q3.out).1 5, (row_cells Q3.out).2 0, (row_cells Q3.out).2 1, (row_cells Q3.out).2 2, (row_cells Q3.out).2 3, (row_cells Q3.out).2 4, (row_cells Q3.out).2 5⟩; have s4 : w7.cell? ⟨w.heap.size + 1 + 1 + 1 + 1, 0, none⟩ = some (.int .i64 0) ∧ w7.cell? ⟨w.heap.size + 1 + 1 + 1 + 1, 1, none⟩ = some (.int .i64 0) ∧ w7.cell? ⟨w.heap.size + 1 + 1 + 1 + 1, 2, none⟩ = some (.int .i64 0) ∧ w7.cell? ⟨w.heap.size + 1 + 1 + 1 + 1, 3, none⟩ = some (.int .i64 0) ∧ w7.cell? ⟨w.heap.size + 1 + 1 + 1 + 1, 4, none⟩ = some (.int .i64 0) ∧ w7.cell? ⟨w.heap.size + 1 + 1 + 1 + 1, 5, none⟩ = some (.int .i64 0) ∧ w7.frozen? ⟨w.heap.size + 1 + 1 + 1 + 1, 0, none⟩ = false ∧ w7.frozen? ⟨w.heap.size + 1 + 1 + 1 + 1, 1, none⟩ = false ∧ w7.frozen? ⟨w.heap.size + 1 + 1 + 1 + 1, 2, none⟩ = false ∧ w7.frozen? ⟨w.heap.size + 1 + 1 + 1 + 1, 3, none⟩ = false ∧ w7.frozen? ⟨w.heap.size + 1 + 1 + 1 + 1, 4, none⟩ = false ∧ w7.frozen? ⟨w.heap.size + 1 + 1 + 1 + 1, 5, none⟩ = false := ⟨(row_cells Q4.out).1 0, (row_cells Q4.out).1 1, (row_cells Q4.out).1 2, (row_cells Q4.out).1 3, (row_cells Q4.out).1 4, (row_cells Q4.out).1 5, (row_cells Q4.out).2 0, (row_cells Q4.out).2 1, (row_cells Q4.out).2 2, (row_cells Q4.out).2 3, (row_cells Q4.out).2 4, (row_cells Q4.out).2 5⟩)))
    go_wp2_with fail
    refine bodyPost_ret (v := .tuple #[.agg #[.int .i64 a0, .int .i64 a1, .int .i64 a2, .int .i64 a3, .int .i64 a4, .int .i64 a5], .agg #[.int .i64 g0, .int .i64 g1, .int .i64 g2, .int .i64 g3, .int .i64 g4, .int .i64 g5], .agg #[.int .i64 b0, .int .i64 b1, .int .i64 b2, .int .i64 b3, .int .i64 b4, .int .i64 b5], .int .i64 0]) (by simp [results, Tryz.results92, go_sem, *]) rfl ⟨?_, ?_⟩
    · rw [HLO.out, HHI.out, HA.out, HBB.out, HS2.out]
    · have hy := HWx.out
      (repeat' (first | (with_reducible exact hy) | (with_reducible refine Below.setCell ?_ ?_ _) | (simp; done) | (simp; omega)))
end Go.Proofs.YtejhcbbfdfnfdaaGreatDoor.Kerf
