/- kinds: the map of the kinds of facts. -/
import Derived.Test.YtejhcbbfdfnfdaaGreatDoorR14
/- cutWrong: what is wrong with a cut. -/
namespace Go.Proofs.YtejhcbbfdfnfdaaGreatDoor.Yard
open Go.RowKit Go.Proofs.YtejhcbbfdfnfdaaGreatDoor.Base Go.Proofs.YtejhcbbfdfnfdaaGreatDoor.Mp
open Yp (It Yd Fact Bx)
open Kerf (kcheck_any)
set_option maxRecDepth 100000 in
set_option maxHeartbeats 4000000 in
theorem cutWrong_any {w : World} {Y M : Nat} {FS : Value} {y : Yd} (hy : YAt w Y M FS y) (hlen : y.items.length < 4000) (X : Nat → Prop) (kd n0 n1 n2 : ByteArray) (v0 v1 v2 : Int) (nv vv : Value) (hn : Rd w X nv (strV [n0, n1, n2])) (hv : Rd w X vv (intV [v0, v1, v2])) {x : It} (hx : Yp.look y.items n0 = some x) :
    Calls Tryz.prog 54 #[.pointer (some ⟨Y, 0, none⟩), .agg #[.string kd, nv, vv]] w fun e w' => e = .returned (.int .i64 (if (Yp.look y.items n1).isSome ∨ (Yp.look y.items n2).isSome ∨ n1 = n2 then 5 else Yp.kerfCheck x.bx v0 v1 v2)) ∧ Below w.heap.size w w' := by
  have hcutOf := fun W (hW : Below w.heap.size w W) => cutOf_any X (.string kd) nv vv v0 v1 v2 W (hv.below hW)
  obtain ⟨A', c', ev, _, _⟩ := id hv
  subst ev
  obtain ⟨b, o, c, rfl, hc, hbl, hXb, hcell⟩ := rd_at hn (by simp [strV])
  simp only [strV, intV, List.length_map, List.length_cons, List.length_nil] at hc hcell hcutOf ⊢
  have c0 := hcell 0 _ rfl
  have c1 := hcell 1 _ rfl
  have c2 := hcell 2 _ rfl
  simp only [Nat.add_zero] at c0
  have HC : Hid (∀ W, Below w.heap.size w W → W.cell? ⟨b, o, none⟩ = some (.string n0) ∧ W.cell? ⟨b, o + 1, none⟩ = some (.string n1) ∧ W.cell? ⟨b, o + 2, none⟩ = some (.string n2)) := Lib.hid fun W hW => ⟨(hW.cell (p := ⟨b, o, none⟩) hbl).trans c0, (hW.cell (p := ⟨b, o + 1, none⟩) hbl).trans c1, (hW.cell (p := ⟨b, o + 2, none⟩) hbl).trans c2⟩
  have HYW : Hid (∀ W, Below w.heap.size w W → YAt W Y M FS y) := Lib.hid fun W hW => hy.below hW
  have HB := Lib.hid ((Below.refl w.heap.size w).alloc (Nat.le_refl _) (.cells #[.string kd, .slice (some ⟨b, o, none⟩) 3 c, .slice A' 3 c'] 39))
  have HR := Lib.hid (new_block w (.cells #[.string kd, .slice (some ⟨b, o, none⟩) 3 c, .slice A' 3 c'] 39))
  have hchk := fun W => kcheck_any x.bx.x0 x.bx.y0 x.bx.z0 x.bx.x1 x.bx.y1 x.bx.z1 v0 v1 v2 W
  rw [Bridge.kerf_eq x.bx] at hchk
  have HX := Lib.hid hx
  clear hcell hn hv c0 c1 c2 hy hXb hx
  have HSZ : Hid (w.heap.size < (w.alloc (.cells #[.string kd, .slice (some ⟨b, o, none⟩) 3 c, .slice A' 3 c'] 39)).heap.size) := Lib.hid (by simp)
  generalize hres : (if (Yp.look y.items n1).isSome = true ∨ (Yp.look y.items n2).isSome = true ∨ n1 = n2 then (5 : Int) else Yp.kerfCheck x.bx v0 v1 v2) = res
  have HRES := Lib.hid hres
  clear hres
  go_enter Tryz.func54, Tryz.ntmps54
  go_upto_region 1 with fail
  generalize w.alloc (.cells #[.string kd, .slice (some ⟨b, o, none⟩) 3 c, .slice A' 3 c'] 39) = W at *
  have hit : ∀ x : It, itC x = #[.string x.id, .string x.par, .int .i64 x.bx.x0, .int .i64 x.bx.y0, .int .i64 x.bx.z0, .int .i64 x.bx.x1, .int .i64 x.bx.y1, .int .i64 x.bx.z1, .int .i64 x.st, .string x.stone] := fun _ => rfl
  go_cut [6] (fun s6 wx => s6 = .bool (Yp.look y.items n1).isSome ∧ Below (w.heap.size + 1) W wx)
  case first =>
    have K : W.cell? ⟨w.heap.size, 1, none⟩ = some (.slice (some ⟨b, o, none⟩) 3 c) ∧ W.cell? ⟨b, o + 1, none⟩ = some (.string n1) ∧ W.cell? ⟨Y, 0, none⟩ = some (.map (some M)) := ⟨(row_cells HR.out).1 1, (HC.out _ HB.out).2.1, (row_cells (HYW.out _ HB.out).row).1 0⟩
    have KA : ∀ O, (W.alloc O).cell? ⟨w.heap.size, 1, none⟩ = some (.slice (some ⟨b, o, none⟩) 3 c) ∧ (W.alloc O).cell? ⟨b, o + 1, none⟩ = some (.string n1) ∧ (W.alloc O).cell? ⟨Y, 0, none⟩ = some (.map (some M)) := fun O => ⟨(row_cells (old_block HR.out O)).1 1, (HC.out _ (HB.out.alloc (Nat.le_of_lt HSZ.out) O)).2.1, (row_cells (HYW.out _ (HB.out.alloc (Nat.le_of_lt HSZ.out) O)).row).1 0⟩
    cases hl : Yp.look y.items n1 with
    | some x =>
      have hlk := look_found (w := W.drew) (HYW.out _ HB.out.drew).map hl true
      have hlk2 := fun O => look_found (w := (W.alloc O).drew) (HYW.out _ (HB.out.alloc (Nat.le_of_lt HSZ.out) O).drew).map hl true
      simp only [hit, if_true] at hlk hlk2
      go_region_held3 (fun w' => w'.cell? ⟨w.heap.size, 1, none⟩ = some (.slice (some ⟨b, o, none⟩) 3 c) ∧ w'.cell? ⟨b, o + 1, none⟩ = some (.string n1) ∧ w'.cell? ⟨Y, 0, none⟩ = some (.map (some M))) ((first | (simp only [*, and_self]; done) | (simp [*, go_sem]; done))) (fail)
      all_goals (go_wp2_with fail; go_meet; refine ⟨(by first | rfl | (simp [hl]; done)), ?_⟩; (repeat' (first | (with_reducible exact Below.refl _ _) | (with_reducible refine Below.drew ?_) | (with_reducible refine Below.setCell ?_ ?_ _) | (with_reducible refine Below.alloc ?_ ?_ _) | (exact HSZ.out) | (simp; done) | (simp; omega))))
    | none =>
      have hlk := look_missed (w := W.drew) (HYW.out _ HB.out.drew).map hl true
      have hlk2 := fun O => look_missed (w := (W.alloc O).drew) (HYW.out _ (HB.out.alloc (Nat.le_of_lt HSZ.out) O).drew).map hl true
      simp only [if_true] at hlk hlk2
      go_region_held3 (fun w' => w'.cell? ⟨w.heap.size, 1, none⟩ = some (.slice (some ⟨b, o, none⟩) 3 c) ∧ w'.cell? ⟨b, o + 1, none⟩ = some (.string n1) ∧ w'.cell? ⟨Y, 0, none⟩ = some (.map (some M))) ((first | (simp only [*, and_self]; done) | (simp [*, go_sem]; done))) (fail)
      all_goals (go_wp2_with fail; go_meet; refine ⟨(by first | rfl | (simp [hl]; done)), ?_⟩; (repeat' (first | (with_reducible exact Below.refl _ _) | (with_reducible refine Below.drew ?_) | (with_reducible refine Below.setCell ?_ ?_ _) | (with_reducible refine Below.alloc ?_ ?_ _) | (exact HSZ.out) | (simp; done) | (simp; omega))))
  case rest =>
    obtain ⟨rfl, hb⟩ := hcut
    have HB := Lib.hid (HB.out.trans (hb.mono (Nat.le_succ _)))
    have HR := Lib.hid ((hb.block w.heap.size (Nat.lt_succ_self _)).trans HR.out)
    have HSZ := Lib.hid (block_lt HR.out)
    clear hb
    go_upto_region 2 with fail
    go_cut [8] (fun s8 wx => s8 = .bool (Yp.look y.items n2).isSome ∧ Below (w.heap.size + 1) wc wx)
    case first =>
      have K : wc.cell? ⟨w.heap.size, 1, none⟩ = some (.slice (some ⟨b, o, none⟩) 3 c) ∧ wc.cell? ⟨b, o + 2, none⟩ = some (.string n2) ∧ wc.cell? ⟨Y, 0, none⟩ = some (.map (some M)) := ⟨(row_cells HR.out).1 1, (HC.out _ HB.out).2.2, (row_cells (HYW.out _ HB.out).row).1 0⟩
      have KA : ∀ O, (wc.alloc O).cell? ⟨w.heap.size, 1, none⟩ = some (.slice (some ⟨b, o, none⟩) 3 c) ∧ (wc.alloc O).cell? ⟨b, o + 2, none⟩ = some (.string n2) ∧ (wc.alloc O).cell? ⟨Y, 0, none⟩ = some (.map (some M)) := fun O => ⟨(row_cells (old_block HR.out O)).1 1, (HC.out _ (HB.out.alloc (Nat.le_of_lt HSZ.out) O)).2.2, (row_cells (HYW.out _ (HB.out.alloc (Nat.le_of_lt HSZ.out) O)).row).1 0⟩
      cases hl : Yp.look y.items n2 with
      | some x =>
        have hlk := look_found (w := wc.drew) (HYW.out _ HB.out.drew).map hl true
        have hlk2 := fun O => look_found (w := (wc.alloc O).drew) (HYW.out _ (HB.out.alloc (Nat.le_of_lt HSZ.out) O).drew).map hl true
        simp only [hit, if_true] at hlk hlk2
        go_region_held3 (fun w' => w'.cell? ⟨w.heap.size, 1, none⟩ = some (.slice (some ⟨b, o, none⟩) 3 c) ∧ w'.cell? ⟨b, o + 2, none⟩ = some (.string n2) ∧ w'.cell? ⟨Y, 0, none⟩ = some (.map (some M))) ((first | (simp only [*, and_self]; done) | (simp [*, go_sem]; done))) (fail)
        all_goals (go_wp2_with fail; go_meet; refine ⟨(by first | rfl | (simp [hl]; done)), ?_⟩; (repeat' (first | (with_reducible exact Below.refl _ _) | (with_reducible refine Below.drew ?_) | (with_reducible refine Below.setCell ?_ ?_ _) | (with_reducible refine Below.alloc ?_ ?_ _) | (exact HSZ.out) | (simp; done) | (simp; omega))))
      | none =>
        have hlk := look_missed (w := wc.drew) (HYW.out _ HB.out.drew).map hl true
        have hlk2 := fun O => look_missed (w := (wc.alloc O).drew) (HYW.out _ (HB.out.alloc (Nat.le_of_lt HSZ.out) O).drew).map hl true
        simp only [if_true] at hlk hlk2
        go_region_held3 (fun w' => w'.cell? ⟨w.heap.size, 1, none⟩ = some (.slice (some ⟨b, o, none⟩) 3 c) ∧ w'.cell? ⟨b, o + 2, none⟩ = some (.string n2) ∧ w'.cell? ⟨Y, 0, none⟩ = some (.map (some M))) ((first | (simp only [*, and_self]; done) | (simp [*, go_sem]; done))) (fail)
        all_goals (go_wp2_with fail; go_meet; refine ⟨(by first | rfl | (simp [hl]; done)), ?_⟩; (repeat' (first | (with_reducible exact Below.refl _ _) | (with_reducible refine Below.drew ?_) | (with_reducible refine Below.setCell ?_ ?_ _) | (with_reducible refine Below.alloc ?_ ?_ _) | (exact HSZ.out) | (simp; done) | (simp; omega))))
    case rest =>
      obtain ⟨rfl, hb⟩ := hcut
      have HB := Lib.hid (HB.out.trans (hb.mono (Nat.le_succ _)))
      have HR := Lib.hid ((hb.block w.heap.size (Nat.lt_succ_self _)).trans HR.out)
      have HSZ := Lib.hid (block_lt HR.out)
      clear hb
      have K := HC.out _ HB.out
      have cf1 := (row_cells HR.out).1 1
      have cf0 := (row_cells HR.out).1 0
      have cf2 := (row_cells HR.out).1 2
      have y0 := (row_cells (HYW.out _ HB.out).row).1 0
      generalize hq1 : (Yp.look y.items n1).isSome = q1
      generalize hq2 : (Yp.look y.items n2).isSome = q2
      have HQ := Lib.hid (And.intro hq1 hq2)
      clear hq1 hq2
      obtain ⟨K0, K1, K2⟩ := K
      cases q1 with
      | true =>
        clear K1 K2
        go_wp2_with fail
        go_quiet (fail)
        go_wp2_with fail
        go_ret
        exact ⟨Base.ret_int (by rw [← HRES.out, if_pos (.inl HQ.out.1)]), below_drewN HB.out _⟩
      | false =>
        cases q2 with
        | true =>
          go_wp2_with fail
          go_quiet (fail)
          go_wp2_with fail
          go_ret
          exact ⟨Base.ret_int (by rw [← HRES.out, if_pos (.inr (.inl HQ.out.2))]), below_drewN HB.out _⟩
        | false =>
          by_cases h12 : n1 = n2
          · have he : (n1.toList == n2.toList) = true := by rw [tl_beq]; simpa using h12
            have H12 := Lib.hid h12
            clear h12
            go_wp2_with fail
            go_quiet (fail)
            go_wp2_with fail
            go_ret
            exact ⟨Base.ret_int (by rw [← HRES.out, if_pos (.inr (.inr H12.out))]), below_drewN HB.out _⟩
          · have he : (n1.toList == n2.toList) = false := by rw [tl_beq]; simpa using h12
            have HE : Hid (res = Yp.kerfCheck x.bx v0 v1 v2) := Lib.hid (by rw [← HRES.out, HQ.out.1, HQ.out.2, if_neg (by simp [h12])])
            clear h12
            go_wp2_with fail
            go_quiet (fail)
            generalize hwq : wc.drewN _ = W7 at *
            have HB : Hid (Below w.heap.size w W7) := Lib.hid (hwq ▸ below_drewN HB.out _)
            have HR : Hid (W7.heap[w.heap.size]? = some (.cells #[.string kd, .slice (some ⟨b, o, none⟩) 3 c, .slice A' 3 c'] 39 (0, 0))) := Lib.hid (hwq ▸ HR.out)
            clear hwq K0 K1 K2 cf0 cf1 cf2 y0 he
            have y0 := (row_cells (HYW.out _ HB.out).row).1 0
            have hln := fun ty => (HYW.out _ HB.out).map.size (P := Tryz.prog) Tryz.underlying70 ty
            simp only [List.length_map] at hln
            have hl3 : ¬ ((4096 : Int) < (y.items.length : Int) + 2) := by omega
            go_wp2_with fail
            clear hln hl3 y0
            have hlk := look_found (w := W7.drew) (HYW.out _ HB.out.drew).map HX.out false
            have hfb := field_box
            simp only [hit, Bool.false_eq_true, if_false] at hlk
            have K : W7.cell? ⟨w.heap.size, 0, none⟩ = some (.string kd) ∧ W7.cell? ⟨w.heap.size, 1, none⟩ = some (.slice (some ⟨b, o, none⟩) 3 c) ∧ W7.cell? ⟨w.heap.size, 2, none⟩ = some (.slice A' 3 c') ∧ W7.cell? ⟨b, o, none⟩ = some (.string n0) ∧ W7.cell? ⟨Y, 0, none⟩ = some (.map (some M)) := ⟨(row_cells HR.out).1 0, (row_cells HR.out).1 1, (row_cells HR.out).1 2, (HC.out _ HB.out).1, (row_cells (HYW.out _ HB.out).row).1 0⟩
            go_region_held3 (fun w' => w'.cell? ⟨w.heap.size, 0, none⟩ = some (.string kd) ∧ w'.cell? ⟨w.heap.size, 1, none⟩ = some (.slice (some ⟨b, o, none⟩) 3 c) ∧ w'.cell? ⟨w.heap.size, 2, none⟩ = some (.slice A' 3 c') ∧ w'.cell? ⟨b, o, none⟩ = some (.string n0) ∧ w'.cell? ⟨Y, 0, none⟩ = some (.map (some M))) ((first | (simp only [*, and_self]; done) | (simp [*, go_sem]; done)))
              (first
                | (go_at_call 91; ((with_reducible refine (hcutOf _ HB.out.drew).mono ?_); rintro e w3 ⟨rfl, hb⟩; have HR := Lib.hid (row_after hb HR.out); have HB := Lib.hid (HB.out.drew.trans (hb.mono HB.out.size)); clear hb; have hlk := look_found (HYW.out _ HB.out).map HX.out false; simp only [hit, Bool.false_eq_true, if_false] at hlk; have K : w3.cell? ⟨w.heap.size, 0, none⟩ = some (.string kd) ∧ w3.cell? ⟨w.heap.size, 1, none⟩ = some (.slice (some ⟨b, o, none⟩) 3 c) ∧ w3.cell? ⟨w.heap.size, 2, none⟩ = some (.slice A' 3 c') ∧ w3.cell? ⟨b, o, none⟩ = some (.string n0) ∧ w3.cell? ⟨Y, 0, none⟩ = some (.map (some M)) := ⟨(row_cells HR.out).1 0, (row_cells HR.out).1 1, (row_cells HR.out).1 2, (HC.out _ HB.out).1, (row_cells (HYW.out _ HB.out).row).1 0⟩))
                | (go_at_call 90; ((with_reducible refine (hchk _).mono ?_); rintro e w4 ⟨rfl, hb⟩; have HR := Lib.hid (row_after hb HR.out); have HB := Lib.hid (HB.out.trans (hb.mono HB.out.size)); clear hb; have K : w4.cell? ⟨w.heap.size, 0, none⟩ = some (.string kd) ∧ w4.cell? ⟨w.heap.size, 1, none⟩ = some (.slice (some ⟨b, o, none⟩) 3 c) ∧ w4.cell? ⟨w.heap.size, 2, none⟩ = some (.slice A' 3 c') ∧ w4.cell? ⟨b, o, none⟩ = some (.string n0) ∧ w4.cell? ⟨Y, 0, none⟩ = some (.map (some M)) := ⟨(row_cells HR.out).1 0, (row_cells HR.out).1 1, (row_cells HR.out).1 2, (HC.out _ HB.out).1, (row_cells (HYW.out _ HB.out).row).1 0⟩)))
            all_goals (go_wp2_with fail; go_ret; exact ⟨Base.ret_int HE.out.symm, HB.out⟩)
end Go.Proofs.YtejhcbbfdfnfdaaGreatDoor.Yard

/- kinds: the map of the kinds of facts. -/
namespace Go.Proofs.YtejhcbbfdfnfdaaGreatDoor.Yard
open Go.RowKit Go.Proofs.YtejhcbbfdfnfdaaGreatDoor.Base Go.Proofs.YtejhcbbfdfnfdaaGreatDoor.Mp
open Yp (It Yd Fact Bx)
section
variable {P : Program} (w : World) {ops : Array Oper} {rest : List Oper} {o : Oper} {a : Act} {Q : Exit → Act → World → Prop}
theorem wpList_insert_raw (hg : o.guard = none) (m x v : Operand) (t k e : TypeId) (hop : o.op = Op.insert t m x v) (ht : P.underlying t = some (.map k e)) (hk : P.underlying k = some .string) (b : Nat) (L : Pairs) (s : ByteArray) (u : Value)
    (hm : a.eval m = .map (some b)) (hx : a.eval x = .string s) (hv : a.eval v = u) (h : IsMap w b L) (hf : fnd s L 0 = none)
    (hK : ∀ w', IsMap w' b (L ++ [(s, u)]) → But b w w' → wpList P ops Q rest (a.put o.dst undef) w') :
    wpList P ops Q (o :: rest) a w := by
  refine wpList_plain hg fun K' hK' => ?_
  obtain ⟨w', hrun, r1, r2⟩ := h.add (P := P) ht hk s u hf
  unfold Oper.wp
  simp [execOp, hop, hm, hx, hv, hrun, Result.andThen]
  exact hK' _ _ (hK w' r1 r2)
end
theorem IsMap.alloc {w : World} {b : Nat} {L : Pairs} (h : IsMap w b L) (o : Obj) : IsMap (w.alloc o) b L := h.same (by
  obtain ⟨es, clock, hb, _⟩ := h
  rw [hb]; exact old_block hb o)
/-- What kinds returns. -/
def KindsAt (w' : World) (m g1 g2 g3 g4 g5 : Nat) : Prop :=
  IsMap w' m [({ data := #[102, 114, 101, 101] }, .agg #[.int .i64 1, .int .i64 6, .slice none 0 0, .func (.func 52) #[] #[], .func (.func 53) #[] #[]]), ({ data := #[99, 117, 116] }, .agg #[.int .i64 3, .int .i64 3, .slice (some ⟨g1, 0, none⟩) 1 1, .func (.func 54) #[] #[], .func (.func 55) #[] #[]]), ({ data := #[97, 115, 115, 105, 103, 110] }, .agg #[.int .i64 2, .int .i64 0, .slice (some ⟨g2, 0, none⟩) 1 1, .func (.func 56) #[] #[], .func (.func 57) #[] #[]]), ({ data := #[114, 101, 108, 101, 97, 115, 101] }, .agg #[.int .i64 1, .int .i64 0, .slice (some ⟨g3, 0, none⟩) 1 1, Value.nilFunc, .func (.func 59) #[] #[]]), ({ data := #[115, 101, 116] }, .agg #[.int .i64 1, .int .i64 0, .slice (some ⟨g4, 0, none⟩) 1 1, Value.nilFunc, .func (.func 60) #[] #[]]), ({ data := #[98, 114, 101, 97, 107] }, .agg #[.int .i64 1, .int .i64 0, .slice (some ⟨g5, 0, none⟩) 2 2, Value.nilFunc, .func (.func 61) #[] #[]])] ∧ w'.heap[g1]? = some (.cells #[.int .i64 1] 3 (0, 0)) ∧ w'.heap[g2]? = some (.cells #[.int .i64 1] 3 (0, 0)) ∧ w'.heap[g3]? = some (.cells #[.int .i64 3] 3 (0, 0)) ∧ w'.heap[g4]? = some (.cells #[.int .i64 3] 3 (0, 0)) ∧ w'.heap[g5]? = some (.cells #[.int .i64 1, .int .i64 3] 3 (0, 0))
set_option maxRecDepth 100000 in
set_option maxHeartbeats 4000000 in
theorem kinds_any (w : World) : Calls Tryz.prog 30 #[] w fun e w' => ∃ m g1 g2 g3 g4 g5 : Nat, e = .returned (.map (some m)) ∧ KindsAt w' m g1 g2 g3 g4 g5 ∧ Below w.heap.size w w' ∧ w.heap.size ≤ g1 ∧ w.heap.size ≤ g2 ∧ w.heap.size ≤ g3 ∧ w.heap.size ≤ g4 ∧ w.heap.size ≤ g5 := by
  have hmk : (Instr.makeMap 78 none).run Tryz.prog w = .ok (.map (some w.heap.size)) (w.alloc (.map #[] 0)) := by rfl
  go_enter Tryz.func30, Tryz.ntmps30
  go_wp2_with (first | (refine wpList_insert_raw _ rfl _ _ _ 78 9 77 rfl Tryz.underlying78 Tryz.underlying9 _ _ { data := #[102, 114, 101, 101] } _ rfl rfl rfl (isMap_new w) (by rfl) ?_; intro w1 hm1 hb1) | (refine wpList_insert_raw _ rfl _ _ _ 78 9 77 rfl Tryz.underlying78 Tryz.underlying9 _ _ { data := #[99, 117, 116] } _ rfl rfl rfl (IsMap.alloc hm1 _) (by rfl) ?_; intro w2 hm2 hb2) | (refine wpList_insert_raw _ rfl _ _ _ 78 9 77 rfl Tryz.underlying78 Tryz.underlying9 _ _ { data := #[97, 115, 115, 105, 103, 110] } _ rfl rfl rfl (IsMap.alloc hm2 _) (by rfl) ?_; intro w3 hm3 hb3) | (refine wpList_insert_raw _ rfl _ _ _ 78 9 77 rfl Tryz.underlying78 Tryz.underlying9 _ _ { data := #[114, 101, 108, 101, 97, 115, 101] } _ rfl rfl rfl (IsMap.alloc hm3 _) (by rfl) ?_; intro w4 hm4 hb4) | (refine wpList_insert_raw _ rfl _ _ _ 78 9 77 rfl Tryz.underlying78 Tryz.underlying9 _ _ { data := #[115, 101, 116] } _ rfl rfl rfl (IsMap.alloc hm4 _) (by rfl) ?_; intro w5 hm5 hb5) | (refine wpList_insert_raw _ rfl _ _ _ 78 9 77 rfl Tryz.underlying78 Tryz.underlying9 _ _ { data := #[98, 114, 101, 97, 107] } _ rfl rfl rfl (IsMap.alloc hm5 _) (by rfl) ?_; intro w6 hm6 hb6))
  go_ret
  have z1 : w1.heap.size = w.heap.size + 1 := by rw [hb1.size]; simp
  have z2 : w2.heap.size = w.heap.size + 2 := by rw [hb2.size]; simp; omega
  have z3 : w3.heap.size = w.heap.size + 3 := by rw [hb3.size]; simp; omega
  have z4 : w4.heap.size = w.heap.size + 4 := by rw [hb4.size]; simp; omega
  have z5 : w5.heap.size = w.heap.size + 5 := by rw [hb5.size]; simp; omega
  have r1 := (hb2.block w1.heap.size (by omega)).trans (new_block w1 (.cells #[.int .i64 1] 3))
  have r2 := (hb3.block w2.heap.size (by omega)).trans (new_block w2 (.cells #[.int .i64 1] 3))
  have r3 := (hb4.block w3.heap.size (by omega)).trans (new_block w3 (.cells #[.int .i64 3] 3))
  have r4 := (hb5.block w4.heap.size (by omega)).trans (new_block w4 (.cells #[.int .i64 3] 3))
  have r5 := (hb6.block w5.heap.size (by omega)).trans (new_block w5 (.cells #[.int .i64 1, .int .i64 3] 3))
  have up : ∀ {W W' : World} {O : Obj} {i : Nat} {x : Obj}, But w.heap.size (W.alloc O) W' → i ≠ w.heap.size → W.heap[i]? = some x → W'.heap[i]? = some x := fun h hi hx => (h.block _ hi).trans (old_block hx _)
  have bl : Below w.heap.size w w1 := ((Below.refl _ _).alloc (Nat.le_refl _) _).trans (hb1.below (Nat.le_refl _))
  have bl := (bl.alloc (by omega) _).trans (hb2.below (Nat.le_refl _))
  have bl := (bl.alloc (by omega) _).trans (hb3.below (Nat.le_refl _))
  have bl := (bl.alloc (by omega) _).trans (hb4.below (Nat.le_refl _))
  have bl := (bl.alloc (by omega) _).trans (hb5.below (Nat.le_refl _))
  have bl := (bl.alloc (by omega) _).trans (hb6.below (Nat.le_refl _))
  exact ⟨_, _, _, _, _, _, rfl, ⟨hm6, up hb6 (by omega) (up hb5 (by omega) (up hb4 (by omega) (up hb3 (by omega) r1))), up hb6 (by omega) (up hb5 (by omega) (up hb4 (by omega) r2)), up hb6 (by omega) (up hb5 (by omega) r3), up hb6 (by omega) r4, r5⟩, bl, by omega, by omega, by omega, by omega, by omega⟩
end Go.Proofs.YtejhcbbfdfnfdaaGreatDoor.Yard
