/- The law's own 'inside' and 'overlap'. -/
import Derived.Test.YtejhcbbfdfnfdaaGreatDoorK33
import Derived.Test.YtejhcbbfdfnfdaaGreatDoorK28
import Derived.Test.YtejhcbbfdfnfdaaGreatDoorK10
import Derived.Test.YtejhcbbfdfnfdaaGreatDoorK3
/- What the laws share: one more fact is done. -/
namespace Go.Proofs.YtejhcbbfdfnfdaaGreatDoor.Yard
open Go.RowKit Go.Proofs.YtejhcbbfdfnfdaaGreatDoor.Base Go.Proofs.YtejhcbbfdfnfdaaGreatDoor.Mp
open Yp (It Yd Fact Bx)
theorem small_short {l : List Fact} {n : Nat} (h : smallL l n = true) : shortNames l ∧ l.length ≤ n := by
  unfold smallL at h
  rw [Bool.and_eq_true] at h
  refine ⟨fun f hf s hs => ?_, by simpa using h.1⟩
  have h1 := List.all_eq_true.1 h.2 f hf
  unfold smallF at h1
  rw [Bool.and_eq_true] at h1
  have := List.all_eq_true.1 h1.2 s hs
  simp at this
  omega
theorem yd_bound (l : List Fact) (k : Nat) (hl : l.length ≤ 1000) : (Yp.steps Yp.yNew (l.take k)).items.length < 4000 ∧ (Yp.steps Yp.yNew (l.take k)).facts.length < 4096 := by
  have h1 := Yp.items_le (l.take k) Yp.yNew
  have h2 := Yp.facts_le (l.take k) Yp.yNew
  have h3 : (l.take k).length ≤ l.length := List.length_take_le' _ _
  have h4 : Yp.yNew.items.length = 0 := rfl
  have h5 : Yp.yNew.facts.length = 0 := rfl
  omega
theorem do_step {w wr : World} {X : Nat → Prop} {v : Value} {l : List Fact} (hv : FLs w X v l) (hl : l.length ≤ 1000) (hsz : shortNames l) {k : Nat} (hlt : k < l.length) {Y M : Nat} (hy : YOwn w.heap.size wr Y M (Yp.steps Yp.yNew (l.take k))) (hb : Below w.heap.size w wr) :
    ∃ (b o c : Nat) (nv vv : Value), v = .slice (some ⟨b, o, none⟩) l.length c ∧ wr.cell? ⟨b, o + k * 3, none⟩ = some (.string l[k].kind) ∧ wr.cell? ⟨b, o + k * 3 + 1, none⟩ = some nv ∧ wr.cell? ⟨b, o + k * 3 + 2, none⟩ = some vv ∧
      Calls Tryz.prog 14 #[.pointer (some ⟨Y, 0, none⟩), .agg #[.string l[k].kind, nv, vv]] wr fun e w' => e = .returned (.int .i64 (Yp.check (Yp.steps Yp.yNew (l.take k)) l[k])) ∧ YOwn w.heap.size w' Y M (Yp.steps Yp.yNew (l.take (k + 1))) ∧ Below w.heap.size w w' := by
  obtain ⟨A, c, rfl, _, hcell⟩ := hv
  obtain ⟨b, o, rfl, hbl, _, hx⟩ := hcell (by omega)
  obtain ⟨nv, vv, d0, d1, d2, hnn, hvv⟩ := hx k _ (List.getElem?_eq_getElem hlt)
  have hnn := hnn.mono (X' := fun i => i < w.heap.size) fun i hi _ => hi
  have hvv := hvv.mono (X' := fun i => i < w.heap.size) fun i hi _ => hi
  refine ⟨b, o, c, nv, vv, rfl, (hb.cell (p := ⟨b, _, none⟩) hbl).trans d0, (hb.cell (p := ⟨b, _, none⟩) hbl).trans d1, (hb.cell (p := ⟨b, _, none⟩) hbl).trans d2, ?_⟩
  have hbd := yd_bound l k hl
  refine (do_own hy (Yp.inv_steps _ Yp.inv_new) hbd.1 hbd.2 hb.size (fun i => i < w.heap.size) (fun i hi => ⟨by have := hy.hM; omega, by have := hy.hY; omega⟩) l[k] nv vv (hnn.below hb) (hvv.below hb) (hsz _ (List.getElem_mem hlt))).mono ?_
  rintro e w' ⟨rfl, hy', hb'⟩
  exact ⟨rfl, by rw [List.take_succ_eq_append_getElem hlt, Yp.steps_snoc]; exact hy', hb.trans hb'⟩
end Go.Proofs.YtejhcbbfdfnfdaaGreatDoor.Yard

/- The law's own 'inside' and 'overlap'. -/
namespace Go.Proofs.YtejhcbbfdfnfdaaGreatDoor.Yard
open Go.RowKit Go.Proofs.YtejhcbbfdfnfdaaGreatDoor.Base
set_option maxRecDepth 100000 in
set_option maxHeartbeats 4000000 in
theorem inside_any {x0 x1 x2 x3 x4 x5 a0 a1 a2 a3 a4 a5 : Int} (h0 : a0 ≤ x0) (h1 : a1 ≤ x1) (h2 : a2 ≤ x2) (h3 : x3 ≤ a3) (h4 : x4 ≤ a4) (h5 : x5 ≤ a5) (w : World) :
    Calls Tryz.prog 17 #[.agg #[.int .i64 x0, .int .i64 x1, .int .i64 x2, .int .i64 x3, .int .i64 x4, .int .i64 x5], .agg #[.int .i64 a0, .int .i64 a1, .int .i64 a2, .int .i64 a3, .int .i64 a4, .int .i64 a5]] w fun e w' => e = .returned (.bool true) ∧ Below w.heap.size w w' := by
  have HB := Lib.hid (((Below.refl w.heap.size w).alloc (Nat.le_refl _) (.cells #[.int .i64 x0, .int .i64 x1, .int .i64 x2, .int .i64 x3, .int .i64 x4, .int .i64 x5] 45)).alloc (by simp) (.cells #[.int .i64 a0, .int .i64 a1, .int .i64 a2, .int .i64 a3, .int .i64 a4, .int .i64 a5] 45))
  go_enter Tryz.func17, Tryz.ntmps17
  go_wp2_with fail
  go_ret
  exact ⟨rfl, HB.out⟩
set_option maxRecDepth 100000 in
set_option maxHeartbeats 8000000 in
theorem overlapL_no {x0 x1 x2 x3 x4 x5 a0 a1 a2 a3 a4 a5 : Int} (h : ¬ (x0 < a3 ∧ a0 < x3 ∧ x1 < a4 ∧ a1 < x4 ∧ x2 < a5 ∧ a2 < x5)) (w : World) :
    Calls Tryz.prog 18 #[.agg #[.int .i64 x0, .int .i64 x1, .int .i64 x2, .int .i64 x3, .int .i64 x4, .int .i64 x5], .agg #[.int .i64 a0, .int .i64 a1, .int .i64 a2, .int .i64 a3, .int .i64 a4, .int .i64 a5]] w fun e w' => e = .returned (.bool false) ∧ Below w.heap.size w w' := by
  have HB := Lib.hid (((Below.refl w.heap.size w).alloc (Nat.le_refl _) (.cells #[.int .i64 x0, .int .i64 x1, .int .i64 x2, .int .i64 x3, .int .i64 x4, .int .i64 x5] 45)).alloc (by simp) (.cells #[.int .i64 a0, .int .i64 a1, .int .i64 a2, .int .i64 a3, .int .i64 a4, .int .i64 a5] 45))
  by_cases q0 : x0 < a3
  · by_cases q1 : a0 < x3
    · by_cases q2 : x1 < a4
      · by_cases q3 : a1 < x4
        · by_cases q4 : x2 < a5
          · by_cases q5 : a2 < x5
            · exact absurd ⟨q0, q1, q2, q3, q4, q5⟩ h
            · have n5 : x5 ≤ a2 := by omega
              clear h
              go_enter Tryz.func18, Tryz.ntmps18
              go_wp2_with fail
              go_ret
              exact ⟨rfl, HB.out⟩
          · have n4 : a5 ≤ x2 := by omega
            clear h
            go_enter Tryz.func18, Tryz.ntmps18
            go_wp2_with fail
            go_ret
            exact ⟨rfl, HB.out⟩
        · have n3 : x4 ≤ a1 := by omega
          clear h
          go_enter Tryz.func18, Tryz.ntmps18
          go_wp2_with fail
          go_ret
          exact ⟨rfl, HB.out⟩
      · have n2 : a4 ≤ x1 := by omega
        clear h
        go_enter Tryz.func18, Tryz.ntmps18
        go_wp2_with fail
        go_ret
        exact ⟨rfl, HB.out⟩
    · have n1 : x3 ≤ a0 := by omega
      clear h
      go_enter Tryz.func18, Tryz.ntmps18
      go_wp2_with fail
      go_ret
      exact ⟨rfl, HB.out⟩
  · have n0 : a3 ≤ x0 := by omega
    clear h
    go_enter Tryz.func18, Tryz.ntmps18
    go_wp2_with fail
    go_ret
    exact ⟨rfl, HB.out⟩
end Go.Proofs.YtejhcbbfdfnfdaaGreatDoor.Yard
