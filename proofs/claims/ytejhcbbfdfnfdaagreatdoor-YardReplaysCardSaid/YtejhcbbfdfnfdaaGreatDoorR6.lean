/- Copies of slices and of facts. -/
import Derived.Test.YtejhcbbfdfnfdaaGreatDoorR5
import Derived.Maps.AppendAt
import Derived.OwnWalk
import Derived.Lib.SliceRun
import Derived.RegionTactic
/- boxOf and cutOf. -/
namespace Go.Proofs.YtejhcbbfdfnfdaaGreatDoor.Yard
open Go.RowKit Go.Proofs.YtejhcbbfdfnfdaaGreatDoor.Base Go.Proofs.YtejhcbbfdfnfdaaGreatDoor.Mp Go.Proofs.YtejhcbbfdfnfdaaGreatDoor.Lex
theorem wrap_id {x : Int} (h : -9223372036854775808 ≤ x ∧ x < 9223372036854775808) : IntKind.i64.wrap x = x := by rw [IntKind.wrap_i64]; omega
set_option maxRecDepth 100000 in
set_option maxHeartbeats 1000000 in
theorem boxOf_any (X : Nat → Prop) (v : Value) (v0 v1 v2 v3 v4 v5 : Int) (w : World) (hv : Rd w X v (intV [v0, v1, v2, v3, v4, v5])) :
    Calls Tryz.prog 88 #[v] w fun e w' => e = .returned (.agg #[.int .i64 v0, .int .i64 v1, .int .i64 v2, .int .i64 v3, .int .i64 v4, .int .i64 v5]) ∧ Below w.heap.size w w' := by
  obtain ⟨A, c, rfl, hc, hcell⟩ := hv
  simp only [intV, List.length_map, List.length_cons, List.length_nil] at hc hcell ⊢
  obtain ⟨b, o, rfl, hbl, _, hx⟩ := hcell (by omega)
  have c0 := hx 0 _ rfl
  have c1 := hx 1 _ rfl
  have c2 := hx 2 _ rfl
  have c3 := hx 3 _ rfl
  have c4 := hx 4 _ rfl
  have c5 := hx 5 _ rfl
  clear hx hcell
  simp only [Nat.add_zero] at c0
  go_enter Tryz.func88, Tryz.ntmps88
  go_wp2_with fail
  have B1 := (Below.refl w.heap.size w).alloc (Nat.le_refl _) (.cells #[.int .i64 0, .int .i64 0, .int .i64 0, .int .i64 0, .int .i64 0, .int .i64 0] 45)
  have r := row_cells (new_block w (.cells #[.int .i64 0, .int .i64 0, .int .i64 0, .int .i64 0, .int .i64 0, .int .i64 0] 45))
  have c0 := (B1.cell (p := ⟨b, o, none⟩) hbl).trans c0
  have c1 := (B1.cell (p := ⟨b, o + 1, none⟩) hbl).trans c1
  have c2 := (B1.cell (p := ⟨b, o + 2, none⟩) hbl).trans c2
  have c3 := (B1.cell (p := ⟨b, o + 3, none⟩) hbl).trans c3
  have c4 := (B1.cell (p := ⟨b, o + 4, none⟩) hbl).trans c4
  have c5 := (B1.cell (p := ⟨b, o + 5, none⟩) hbl).trans c5
  have HB1 := Lib.hid B1
  clear B1
  generalize w.alloc (.cells #[.int .i64 0, .int .i64 0, .int .i64 0, .int .i64 0, .int .i64 0, .int .i64 0] 45) = W at *
  obtain ⟨r1, r2⟩ := r
  have q0 := r1 0
  have q1 := r1 1
  have q2 := r1 2
  have q3 := r1 3
  have q4 := r1 4
  have q5 := r1 5
  have f0 := r2 0
  have f1 := r2 1
  have f2 := r2 2
  have f3 := r2 3
  have f4 := r2 4
  have f5 := r2 5
  clear r1 r2
  go_still_tail 21, (by kernel_rfl)
  go_wp2_with fail
  refine bodyPost_ret (v := .agg #[.int .i64 v0, .int .i64 v1, .int .i64 v2, .int .i64 v3, .int .i64 v4, .int .i64 v5]) ?_ rfl ⟨rfl, ?_⟩
  · simp [results, Tryz.results88, go_sem, *]
  · have hy := HB1.out
    (repeat' (first | (with_reducible exact hy) | (with_reducible refine Below.drew ?_) | (with_reducible refine Below.setCell ?_ ?_ _) | (with_reducible refine Below.alloc ?_ ?_ _) | (simp; done) | (simp; omega)))
set_option maxRecDepth 100000 in
set_option maxHeartbeats 1000000 in
theorem cutOf_any (X : Nat → Prop) (kd nv v : Value) (v0 v1 v2 : Int) (w : World) (hv : Rd w X v (intV [v0, v1, v2])) :
    Calls Tryz.prog 91 #[.agg #[kd, nv, v]] w fun e w' => e = .returned (.agg #[.int .i64 v0, .int .i64 v1, .int .i64 v2]) ∧ Below w.heap.size w w' := by
  obtain ⟨A, c, rfl, hc, hcell⟩ := hv
  simp only [intV, List.length_map, List.length_cons, List.length_nil] at hc hcell ⊢
  obtain ⟨b, o, rfl, hbl, _, hx⟩ := hcell (by omega)
  have c0 := hx 0 _ rfl
  have c1 := hx 1 _ rfl
  have c2 := hx 2 _ rfl
  clear hx hcell
  simp only [Nat.add_zero] at c0
  go_enter Tryz.func91, Tryz.ntmps91
  go_wp2_with fail
  have B1 := ((Below.refl w.heap.size w).alloc (Nat.le_refl _) (.cells #[kd, nv, .slice (some ⟨b, o, none⟩) 3 c] 39)).alloc (by simp) (.cells #[.int .i64 0, .int .i64 0, .int .i64 0] 136)
  have r0 := row_cells (old_block (new_block w (.cells #[kd, nv, .slice (some ⟨b, o, none⟩) 3 c] 39)) (.cells #[.int .i64 0, .int .i64 0, .int .i64 0] 136))
  have r := row_cells (new_block (w.alloc (.cells #[kd, nv, .slice (some ⟨b, o, none⟩) 3 c] 39)) (.cells #[.int .i64 0, .int .i64 0, .int .i64 0] 136))
  rw [heap_al, Array.size_push] at r
  have c0 := (B1.cell (p := ⟨b, o, none⟩) hbl).trans c0
  have c1 := (B1.cell (p := ⟨b, o + 1, none⟩) hbl).trans c1
  have c2 := (B1.cell (p := ⟨b, o + 2, none⟩) hbl).trans c2
  have HB1 := Lib.hid B1
  clear B1
  generalize (w.alloc (.cells #[kd, nv, .slice (some ⟨b, o, none⟩) 3 c] 39)).alloc (.cells #[.int .i64 0, .int .i64 0, .int .i64 0] 136) = W at *
  obtain ⟨r1, r2⟩ := r
  have q0 := r1 0
  have q1 := r1 1
  have q2 := r1 2
  have f0 := r2 0
  have f1 := r2 1
  have f2 := r2 2
  have g2 := r0.1 2
  clear r1 r2 r0
  go_still_tail 13, (by kernel_rfl)
  go_wp2_with fail
  refine bodyPost_ret (v := .agg #[.int .i64 v0, .int .i64 v1, .int .i64 v2]) ?_ rfl ⟨rfl, ?_⟩
  · simp [results, Tryz.results91, go_sem, *]
  · have hy := HB1.out
    (repeat' (first | (with_reducible exact hy) | (with_reducible refine Below.drew ?_) | (with_reducible refine Below.setCell ?_ ?_ _) | (with_reducible refine Below.alloc ?_ ?_ _) | (simp; done) | (simp; omega)))
end Go.Proofs.YtejhcbbfdfnfdaaGreatDoor.Yard

/- Copies of slices and of facts. -/
namespace Go.Proofs.YtejhcbbfdfnfdaaGreatDoor.Yard
open Go.RowKit Go.Proofs.YtejhcbbfdfnfdaaGreatDoor.Base Go.Proofs.YtejhcbbfdfnfdaaGreatDoor.Mp Go.Proofs.YtejhcbbfdfnfdaaGreatDoor.Lex
theorem add_lit (b o j : Nat) : (⟨b, o, none⟩ : Addr).add j = ⟨b, o + j, none⟩ := by unfold Addr.add; split <;> simp_all
/-- A row of the call's own, as a slice that reads. -/
theorem rd_own {w : World} {base : Nat} {e : TypeId} {v : Value} {n : Nat} {xs : List Value} (h : w.ownsRow base e 1 v n xs) : Rd w (fun b => base ≤ b) v xs := by
  have hl : xs.length = n := by rw [h.1, Nat.mul_one]
  rcases h.2 with ⟨rfl, rfl⟩ | ⟨g, cap, cur, rfl, hb, hg, hc, hm, hs, ht⟩
  · have : xs = [] := List.eq_nil_of_length_eq_zero (by simpa using hl)
    subst this
    exact ⟨none, 0, rfl, Nat.le_refl _, fun h => by simp at h⟩
  · refine ⟨some ⟨g, 0, none⟩, cap, by rw [hl], by omega, fun _ => ⟨g, 0, rfl, block_lt hg, hb, fun j u hu => ?_⟩⟩
    have := World.ownsRow.cells h (g := g) rfl j u hu
    rwa [add_lit] at this
theorem rd_nil {w : World} {X : Nat → Prop} {v : Value} {xs : List Value} (h : Rd w X v xs) (hx : xs = []) (w' : World) (X' : Nat → Prop) : Rd w' X' v xs := by
  obtain ⟨A, c, rfl, hc, _⟩ := h
  subst hx
  exact ⟨A, c, rfl, hc, fun h => by simp at h⟩
theorem rd_cells {w : World} {X : Nat → Prop} {A : Option Addr} {n c : Nat} {xs : List Value} (h : Rd w X (.slice A n c) xs) (ad : Addr) (ha : A = some ad) : n = xs.length ∧ ∀ j u, xs[j]? = some u → ad.block < w.heap.size ∧ w.cell? (ad.add j) = some u := by
  obtain ⟨A', c', e, _, hcell⟩ := h
  injection e with e1 e2 e3
  subst e1 ha
  refine ⟨e2, fun j u hu => ?_⟩
  have hj := (List.getElem?_eq_some_iff.1 hu).1
  obtain ⟨b, o, e4, hb, _, hc⟩ := hcell (by omega)
  injection e4 with e4
  subst e4
  exact ⟨hb, by rw [add_lit]; exact hc j u hu⟩

set_option maxRecDepth 100000 in
set_option maxHeartbeats 2000000 in
theorem cloneS_any (X : Nat → Prop) (v : Value) (l : List ByteArray) (w : World) (hv : Rd w X v (strV l)) (hl : l.length ≤ 1000000) :
    Calls Tryz.prog 62 #[v] w fun e w' => ∃ v', e = .returned v' ∧ Rd w' (fun b => w.heap.size ≤ b) v' (strV l) ∧ Below w.heap.size w w' := by
  have hlen : (strV l).length = l.length := by simp [strV]
  have hone : ∀ u ∈ strV l, u.oneCell' = true := by intro u hu; obtain ⟨x, _, rfl⟩ := List.mem_map.1 hu; rfl
  have tS := Tryz.underlying36
  have qS : ∀ (w : World) (a : Option Addr) (n c n' c' : Nat), (binOp .eql 36 (.slice a n c) (.slice none n' c')).run Tryz.prog w = .ok (.bool a.isNone) w := fun w a n c n' c' => Lib.run_eql_slice_nil w _ _ a n c n' c' tS
  have uS : ∀ w, Sem.run Tryz.prog (underlying 36) w = .ok (TypeDesc.slice 9) w := run_underlying tS
  obtain ⟨i0, hi, hz0, hz1, hz2⟩ : ∃ i, Tryz.prog.info? 9 = some i ∧ i.zero = some (.string { data := #[] }) ∧ i.size = 1 ∧ i.bytes = 16 := ⟨_, rfl, rfl, rfl, rfl⟩
  obtain ⟨A, c, rfl, hc, hcell⟩ := id hv
  rcases A with _ | ad
  · have hx : strV l = [] := by
      cases e : strV l with
      | nil => rfl
      | cons x y =>
        rw [e] at hcell
        obtain ⟨b, o, e1, _⟩ := hcell (by simp)
        cases e1
    have HX := Lib.hid hx
    have hv0 : Rd w (fun b => w.heap.size ≤ b) (.slice none 0 0) (strV l) := ⟨none, 0, by rw [hx]; rfl, by rw [hx]; exact Nat.le_refl _, fun h => by rw [hx] at h; simp at h⟩
    have HV := Lib.hid hv0
    clear hx hv0 hv hcell hone
    go_enter Tryz.func62, Tryz.ntmps62
    go_wp2_with fail
    go_ret
    exact ⟨_, rfl, HV.out, Below.refl _ _⟩
  · obtain ⟨_, hcs⟩ := rd_cells hv ad rfl
    have HC := Lib.hid hcs
    have HO := Lib.hid hone
    clear hcs hv hcell hone
    rw [hlen] at hc ⊢
    go_enter Tryz.func62, Tryz.ntmps62
    go_wp2_with (at_builtin; refine wpList_append_own _ rfl _ _ 36 rfl w.heap.size 9 i0 (.string { data := #[] }) 1 16 tS hi hz0 hz1 hz2 rfl (by decide) _ _ _ rfl (World.ownsRow_made w #[] 0 (Nat.le_refl _) (Nat.zero_le _) rfl) ad l.length c (strV l) rfl (by rw [hlen]; omega) ?qc2 ?qc3 ?qc4 ?qc5 (by simp) ?_)
    case qc2 =>
      intro j u hj
      obtain ⟨h1, h2⟩ := HC.out j u hj
      have hb := ((Below.refl w.heap.size w).alloc (Nat.le_refl _) (.cells #[] 9)).block ad.block h1
      exact (World.cell?_of_block (a := ad.add j) (by rw [show (ad.add j).block = ad.block by unfold Addr.add; split <;> rfl]; exact hb)).trans h2
    case qc3 => exact HO.out
    case qc4 => unfold maxLen; omega
    case qc5 => omega
    intro v' w1 hown hgrow hnil
    have HR := Lib.hid (rd_own hown)
    have HB := Lib.hid (((Below.refl w.heap.size w).alloc (Nat.le_refl _) (.cells #[] 9)).grown hgrow (by simp) (by intro k hk; simp [Value.ownBlock] at hk; omega))
    clear hown hgrow hnil
    go_wp2_with fail
    go_ret
    exact ⟨_, rfl, by simpa using HR.out, HB.out⟩

set_option maxRecDepth 100000 in
set_option maxHeartbeats 2000000 in
theorem cloneI_any (X : Nat → Prop) (v : Value) (l : List Int) (w : World) (hv : Rd w X v (intV l)) (hl : l.length ≤ 1000000) :
    Calls Tryz.prog 63 #[v] w fun e w' => ∃ v', e = .returned v' ∧ Rd w' (fun b => w.heap.size ≤ b) v' (intV l) ∧ Below w.heap.size w w' := by
  have hlen : (intV l).length = l.length := by simp [intV]
  have hone : ∀ u ∈ intV l, u.oneCell' = true := by intro u hu; obtain ⟨x, _, rfl⟩ := List.mem_map.1 hu; rfl
  have tS := Tryz.underlying37
  have qS : ∀ (w : World) (a : Option Addr) (n c n' c' : Nat), (binOp .eql 37 (.slice a n c) (.slice none n' c')).run Tryz.prog w = .ok (.bool a.isNone) w := fun w a n c n' c' => Lib.run_eql_slice_nil w _ _ a n c n' c' tS
  have uS : ∀ w, Sem.run Tryz.prog (underlying 37) w = .ok (TypeDesc.slice 2) w := run_underlying tS
  obtain ⟨i0, hi, hz0, hz1, hz2⟩ : ∃ i, Tryz.prog.info? 2 = some i ∧ i.zero = some (.int .i64 0) ∧ i.size = 1 ∧ i.bytes = 8 := ⟨_, rfl, rfl, rfl, rfl⟩
  obtain ⟨A, c, rfl, hc, hcell⟩ := id hv
  rcases A with _ | ad
  · have hx : intV l = [] := by
      cases e : intV l with
      | nil => rfl
      | cons x y =>
        rw [e] at hcell
        obtain ⟨b, o, e1, _⟩ := hcell (by simp)
        cases e1
    have HX := Lib.hid hx
    have hv0 : Rd w (fun b => w.heap.size ≤ b) (.slice none 0 0) (intV l) := ⟨none, 0, by rw [hx]; rfl, by rw [hx]; exact Nat.le_refl _, fun h => by rw [hx] at h; simp at h⟩
    have HV := Lib.hid hv0
    clear hx hv0 hv hcell hone
    go_enter Tryz.func63, Tryz.ntmps63
    go_wp2_with fail
    go_ret
    exact ⟨_, rfl, HV.out, Below.refl _ _⟩
  · obtain ⟨_, hcs⟩ := rd_cells hv ad rfl
    have HC := Lib.hid hcs
    have HO := Lib.hid hone
    clear hcs hv hcell hone
    rw [hlen] at hc ⊢
    go_enter Tryz.func63, Tryz.ntmps63
    go_wp2_with (at_builtin; refine wpList_append_own _ rfl _ _ 37 rfl w.heap.size 2 i0 (.int .i64 0) 1 8 tS hi hz0 hz1 hz2 rfl (by decide) _ _ _ rfl (World.ownsRow_made w #[] 0 (Nat.le_refl _) (Nat.zero_le _) rfl) ad l.length c (intV l) rfl (by rw [hlen]; omega) ?qc2 ?qc3 ?qc4 ?qc5 (by simp) ?_)
    case qc2 =>
      intro j u hj
      obtain ⟨h1, h2⟩ := HC.out j u hj
      have hb := ((Below.refl w.heap.size w).alloc (Nat.le_refl _) (.cells #[] 2)).block ad.block h1
      exact (World.cell?_of_block (a := ad.add j) (by rw [show (ad.add j).block = ad.block by unfold Addr.add; split <;> rfl]; exact hb)).trans h2
    case qc3 => exact HO.out
    case qc4 => unfold maxLen; omega
    case qc5 => omega
    intro v' w1 hown hgrow hnil
    have HR := Lib.hid (rd_own hown)
    have HB := Lib.hid (((Below.refl w.heap.size w).alloc (Nat.le_refl _) (.cells #[] 2)).grown hgrow (by simp) (by intro k hk; simp [Value.ownBlock] at hk; omega))
    clear hown hgrow hnil
    go_wp2_with fail
    go_ret
    exact ⟨_, rfl, by simpa using HR.out, HB.out⟩
end Go.Proofs.YtejhcbbfdfnfdaaGreatDoor.Yard
