/- Items: the items collected and sorted. -/
import Derived.Test.YtejhcbbfdfnfdaaGreatDoorR28
import Derived.Test.YtejhcbbfdfnfdaaGreatDoorR34
import Derived.Test.YtejhcbbfdfnfdaaGreatDoorR14
import Derived.Test.YtejhcbbfdfnfdaaGreatDoorR21
import Derived.Maps.AppendAt
/- Totals: the volumes of the states. -/
namespace Go.Proofs.YtejhcbbfdfnfdaaGreatDoor.Yard
open Go.RowKit Go.Proofs.YtejhcbbfdfnfdaaGreatDoor.Base Go.Proofs.YtejhcbbfdfnfdaaGreatDoor.Mp
open Yp (It Yd Fact Bx)
def totV (l : List It) (kf : Int) : Array Value := #[.int .i64 (Yp.rootVol l), .int .i64 0, .int .i64 (Yp.stVol 1 l), .int .i64 0, .int .i64 (Yp.stVol 3 l), .int .i64 (Yp.stVol 4 l), .int .i64 (Yp.stVol 5 l), .int .i64 kf]
theorem tot_snoc (l : List It) (x : It) (kf : Int) : totV (l ++ [x]) kf = #[.int .i64 (Yp.rootVol l + if x.par = Yp.es then x.bx.vol else 0), .int .i64 0, .int .i64 (Yp.stVol 1 l + if x.st = 1 then x.bx.vol else 0), .int .i64 0, .int .i64 (Yp.stVol 3 l + if x.st = 3 then x.bx.vol else 0), .int .i64 (Yp.stVol 4 l + if x.st = 4 then x.bx.vol else 0), .int .i64 (Yp.stVol 5 l + if x.st = 5 then x.bx.vol else 0), .int .i64 kf] := by
  unfold totV
  rw [Yp.rootVol_snoc, Yp.stVol_snoc, Yp.stVol_snoc, Yp.stVol_snoc, Yp.stVol_snoc]
theorem vol_call (b : Bx) (h : b.ok) (w : World) : Calls Tryz.prog 35 #[.agg #[.int .i64 b.x0, .int .i64 b.y0, .int .i64 b.z0, .int .i64 b.x1, .int .i64 b.y1, .int .i64 b.z1]] w fun e w' => e = .returned (.tuple #[.int .i64 b.vol, .int .i64 0]) ∧ Below w.heap.size w w' :=
  Kerf.Volume_any b.x0 b.y0 b.z0 b.x1 b.y1 b.z1 (by rw [Bridge.check_eq]; exact Yp.ok_boxCheck h) w
/-- What holds at each round's head. -/
def TotR (w : World) (M : Nat) (l : List It) (kf : Int) (wr : World) : Prop :=
  ∃ dn left : List It, ItIter wr (w.heap.size + 2) M l left ∧ (dn ++ left).Perm l ∧ wr.heap[w.heap.size + 1]? = some (.cells (totV dn kf) 53 (0, 0)) ∧ wr.heap[w.heap.size]? = some (.cells #[.int .i64 0, .int .i64 0, .int .i64 0, .int .i64 0, .int .i64 0, .int .i64 0, .int .i64 0, .int .i64 0] 53 (0, 0)) ∧ Below w.heap.size w wr
theorem tot_round {w wr w1 w2 : World} {M : Nat} {l dn A B : List It} {x : It} {kf : Int} (hp : (dn ++ (A ++ x :: B)).Perm l) (hi : ItIter w1 (w.heap.size + 2) M l (A ++ B)) (hbw : Below w.heap.size w wr) (hbut : But (w.heap.size + 2) wr w1) (h0 : wr.heap[w.heap.size]? = some (.cells #[.int .i64 0, .int .i64 0, .int .i64 0, .int .i64 0, .int .i64 0, .int .i64 0, .int .i64 0, .int .i64 0] 53 (0, 0))) (hb : ∀ i, i < w1.heap.size → i ≠ w.heap.size + 1 → w2.heap[i]? = w1.heap[i]?) (hsz : w1.heap.size ≤ w2.heap.size) (hos : w2.os = w1.os) (htp : w2.tape = w1.tape) (hout : w2.output = w1.output)
    (hM : M < w.heap.size) (hrow : w2.heap[w.heap.size + 1]? = some (.cells (totV (dn ++ [x]) kf) 53 (0, 0))) : TotR w M l kf w2 ∧ w2.rangeLeft M (w.heap.size + 2) < (A ++ x :: B).length := by
  have hlt := hi.ltr
  have hi2 : ItIter w2 (w.heap.size + 2) M l (A ++ B) := hi.same (hb _ hlt (by omega)) (hb M (by omega) (by omega))
  refine ⟨⟨dn ++ [x], A ++ B, hi2, ?_, hrow, ?_, ?_⟩, by rw [hi2.left_eq]; simp⟩
  · refine List.Perm.trans ?_ hp
    rw [List.append_assoc]
    refine List.Perm.append_left dn ?_
    rw [List.singleton_append]
    exact (List.perm_middle).symm
  · rw [hb _ (by omega) (by omega), hbut.block _ (by omega)]; exact h0
  · exact hbw.trans ((hbut.below (by omega)).trans ⟨hos, htp, hout, hsz, fun i hi => hb i (by omega) (by omega)⟩)
set_option maxRecDepth 100000 in
set_option maxHeartbeats 16000000 in
theorem totals_any {w : World} {Y M : Nat} {FS : Value} {y : Yd} (hy : YAt w Y M FS y) (hinv : Yp.Inv y) :
    Calls Tryz.prog 19 #[.pointer (some ⟨Y, 0, none⟩)] w fun e w' => e = .returned (.agg (totV y.items y.kerfs)) ∧ Below w.heap.size w w' := by
  have B1 := (Below.refl w.heap.size w).alloc (Nat.le_refl _) (.cells #[.int .i64 0, .int .i64 0, .int .i64 0, .int .i64 0, .int .i64 0, .int .i64 0, .int .i64 0, .int .i64 0] 53)
  have HY1 := Lib.hid (hy.below B1)
  have HR0 := Lib.hid (new_block w (.cells #[.int .i64 0, .int .i64 0, .int .i64 0, .int .i64 0, .int .i64 0, .int .i64 0, .int .i64 0, .int .i64 0] 53))
  have HM := Lib.hid hy.ltM
  have HINV := Lib.hid hinv
  have HB := Lib.hid B1
  have hW1 : Hid ((w.alloc (.cells #[.int .i64 0, .int .i64 0, .int .i64 0, .int .i64 0, .int .i64 0, .int .i64 0, .int .i64 0, .int .i64 0] 53)).heap.size = w.heap.size + 1) := Lib.hid (by simp)
  have y2 := (row_cells HY1.out.row).1 2
  have B2 := (Below.refl (w.alloc (.cells #[.int .i64 0, .int .i64 0, .int .i64 0, .int .i64 0, .int .i64 0, .int .i64 0, .int .i64 0, .int .i64 0] 53)).heap.size (w.alloc (.cells #[.int .i64 0, .int .i64 0, .int .i64 0, .int .i64 0, .int .i64 0, .int .i64 0, .int .i64 0, .int .i64 0] 53))).alloc (Nat.le_refl _) (.cells #[.int .i64 0, .int .i64 0, .int .i64 0, .int .i64 0, .int .i64 0, .int .i64 0, .int .i64 0, .int .i64 y.kerfs] 53)
  have HY2 := Lib.hid (HY1.out.below B2)
  have y0 := (row_cells HY2.out.row).1 0
  have HB2 := Lib.hid (HB.out.alloc (by simp) (.cells #[.int .i64 0, .int .i64 0, .int .i64 0, .int .i64 0, .int .i64 0, .int .i64 0, .int .i64 0, .int .i64 y.kerfs] 53))
  have HR02 := Lib.hid (old_block HR0.out (.cells #[.int .i64 0, .int .i64 0, .int .i64 0, .int .i64 0, .int .i64 0, .int .i64 0, .int .i64 0, .int .i64 y.kerfs] 53))
  have HR1 := Lib.hid (new_block2 w (.cells #[.int .i64 0, .int .i64 0, .int .i64 0, .int .i64 0, .int .i64 0, .int .i64 0, .int .i64 0, .int .i64 0] 53) (.cells #[.int .i64 0, .int .i64 0, .int .i64 0, .int .i64 0, .int .i64 0, .int .i64 0, .int .i64 0, .int .i64 y.kerfs] 53))
  have hW2 : Hid (((w.alloc (.cells #[.int .i64 0, .int .i64 0, .int .i64 0, .int .i64 0, .int .i64 0, .int .i64 0, .int .i64 0, .int .i64 0] 53)).alloc (.cells #[.int .i64 0, .int .i64 0, .int .i64 0, .int .i64 0, .int .i64 0, .int .i64 0, .int .i64 0, .int .i64 y.kerfs] 53)).heap.size = w.heap.size + 2) := Lib.hid (by simp)
  clear B1 B2 hy hinv
  go_enter Tryz.func19, Tryz.ntmps19
  go_wp2_with (at_range; refine wpList_range_it _ rfl _ 70 9 47 rfl Tryz.underlying70 M y.items rfl HY2.out.map ?_; intro w0 hi0 hb0)
  go_frame
  rw [hW2.out] at hi0 ⊢
  have HI0 := Lib.hid hi0
  have HB0 := Lib.hid hb0
  clear hi0 hb0 y0 y2
  generalize hkf : y.kerfs = kf at *
  have HKF := Lib.hid hkf
  clear hkf
  go_loopw [] (fun wr => TotR w M y.items kf wr) (fun wr => wr.rangeLeft M (w.heap.size + 2))
  case atStart => exact ⟨[], y.items, HI0.out, .refl _, row_after HB0.out HR1.out, row_after HB0.out HR02.out, HB2.out.trans (HB0.out.mono HB2.out.size)⟩
  case round =>
    obtain ⟨dn, left, hi, hp, h1, h0, hbw⟩ := hrel
    have HI := Lib.hid hi
    have HP := Lib.hid hp
    have H1 := Lib.hid h1
    have H0 := Lib.hid h0
    have HBW := Lib.hid hbw
    clear hi hp h1 h0 hbw
    go_wp2_with (at_next; refine wpList_next_it _ rfl _ rfl (w.heap.size + 2) M y.items left rfl HI.out ?hd ?hm)
    case hm =>
      intro A B x w' hl hi' hbut hen
      have hxm : x ∈ y.items := HI.out.sub x (by rw [hl]; simp)
      have hv := fun W => vol_call x.bx (HINV.out.ok x hxm) W
      have hst := HINV.out.sts x hxm
      have hpp : (dn ++ x :: (A ++ B)).Perm y.items := by
        refine List.Perm.trans (List.Perm.append_left dn ?_) HP.out
        rw [hl]
        exact (List.perm_middle).symm
      have hr := Yp.root_part HINV.out hpp
      have t1 := Yp.st_part HINV.out hpp 1 (by decide)
      have t3 := Yp.st_part HINV.out hpp 3 (by decide)
      have t4 := Yp.st_part HINV.out hpp 4 (by decide)
      have t5 := Yp.st_part HINV.out hpp 5 (by decide)
      have hv0 : 0 ≤ x.bx.vol := Yp.vol_nonneg _ (HINV.out.ok x hxm)
      have HTV := Lib.hid (tot_snoc dn x kf)
      have HL := Lib.hid hl
      have HI' := Lib.hid hi'
      have HBUT := Lib.hid hbut
      have HROW := Lib.hid ((hbut.block (w.heap.size + 1) (by omega)).trans H1.out)
      unfold totV at HROW
      have HHT := Lib.hid (And.intro hr.2 (And.intro t1.2 (And.intro t3.2 (And.intro t4.2 t5.2))))
      have g0 := hr.1
      have g1 := t1.1
      have g3 := t3.1
      have g4 := t4.1
      have g5 := t5.1
      generalize x.bx.vol = v at *
      generalize Yp.rootVol dn = F at *
      generalize Yp.stVol 1 dn = s1 at *
      generalize Yp.stVol 3 dn = s3 at *
      generalize Yp.stVol 4 dn = s4 at *
      generalize Yp.stVol 5 dn = s5 at *
      clear hl hi' hbut hr t1 t3 t4 t5 hpp hxm
      have hit : ∀ x : It, itC x = #[.string x.id, .string x.par, .int .i64 x.bx.x0, .int .i64 x.bx.y0, .int .i64 x.bx.z0, .int .i64 x.bx.x1, .int .i64 x.bx.y1, .int .i64 x.bx.z1, .int .i64 x.st, .string x.stone] := fun _ => rfl
      have hs5 : x.st = 1 ∨ x.st = 2 ∨ x.st = 3 ∨ x.st = 4 ∨ x.st = 5 := by omega
      clear hst
      rcases hs5 with hs | hs | hs | hs | hs
      · have HS := Lib.hid hs
        have HIX : Hid (itC x = #[.string x.id, .string x.par, .int .i64 x.bx.x0, .int .i64 x.bx.y0, .int .i64 x.bx.z0, .int .i64 x.bx.x1, .int .i64 x.bx.y1, .int .i64 x.bx.z1, .int .i64 1, .string x.stone]) := Lib.hid (by rw [← hs]; rfl)
        rw [HIX.out] at hen
        clear hs hit
        by_cases hpar : x.par.toList = []
        · skip
          have HPAR := Lib.hid ((tl_nil _).1 hpar)
          have hx1 := HHT.out.1 HPAR.out
          have hx2 := HHT.out.2.1 HS.out
          have HBB := Lib.hid ((Below.refl w'.heap.size w').alloc (Nat.le_refl _) (.cells #[.string x.id, .string x.par, .int .i64 x.bx.x0, .int .i64 x.bx.y0, .int .i64 x.bx.z0, .int .i64 x.bx.x1, .int .i64 x.bx.y1, .int .i64 x.bx.z1, .int .i64 1, .string x.stone] 47))
          have HRI := Lib.hid (new_block w' (.cells #[.string x.id, .string x.par, .int .i64 x.bx.x0, .int .i64 x.bx.y0, .int .i64 x.bx.z0, .int .i64 x.bx.x1, .int .i64 x.bx.y1, .int .i64 x.bx.z1, .int .i64 1, .string x.stone] 47))
          have HRT := Lib.hid (row_after HBB.out HROW.out)
          go_wp2_with fail
          refine (hv _).mono ?_; rintro e w5 ⟨rfl, hb5⟩
          have HB5 := Lib.hid (HBB.out.trans (hb5.mono HBB.out.size))
          have ri := row_cells (row_after hb5 HRI.out)
          have rt := row_cells (row_after hb5 HRT.out)
          have HRT5 := Lib.hid (row_after hb5 HRT.out)
          have i1 := ri.1 1
          have i8 := ri.1 8
          have r0 := rt.1 0
          have f0 := rt.2 0
          have rs := rt.1 2
          have fs := rt.2 2
          clear ri rt hb5 hv hen
          go_wp2_with fail
          rw [HI.out.left_eq, HL.out]
          refine tot_round (wr := wr) (w1 := w') (by rw [← HL.out]; exact HP.out) HI'.out HBW.out HBUT.out H0.out (fun i hi hne => ?_) ?_ ?_ ?_ ?_ HM.out ?_
          · exact (heap_setCell_other _ _ _ _ hne).trans ((heap_setCell_other _ _ _ _ hne).trans (HB5.out.block i hi))
          · have := HB5.out.size; simpa using this
          · exact HB5.out.os
          · exact HB5.out.tape
          · exact HB5.out.output
          · rw [HTV.out]
            have hS := HS.out
            rw [if_pos HPAR.out]
            simp only [hS]
            have h1 := heap_setCell_same w5 (w.heap.size + 1) 0 _ _ (.int .i64 (F + v)) HRT5.out
            have := heap_setCell_same _ (w.heap.size + 1) 2 _ _ (.int .i64 (s1 + v)) h1
            simpa using this
        · skip
          have HPAR := Lib.hid (fun h : x.par = Yp.es => hpar ((tl_nil _).2 h))
          have hpe : x.par.toList.isEmpty = false := by simpa using hpar
          have hx2 := HHT.out.2.1 HS.out
          have HBB := Lib.hid ((Below.refl w'.heap.size w').alloc (Nat.le_refl _) (.cells #[.string x.id, .string x.par, .int .i64 x.bx.x0, .int .i64 x.bx.y0, .int .i64 x.bx.z0, .int .i64 x.bx.x1, .int .i64 x.bx.y1, .int .i64 x.bx.z1, .int .i64 1, .string x.stone] 47))
          have HRI := Lib.hid (new_block w' (.cells #[.string x.id, .string x.par, .int .i64 x.bx.x0, .int .i64 x.bx.y0, .int .i64 x.bx.z0, .int .i64 x.bx.x1, .int .i64 x.bx.y1, .int .i64 x.bx.z1, .int .i64 1, .string x.stone] 47))
          have HRT := Lib.hid (row_after HBB.out HROW.out)
          go_wp2_with fail
          refine (hv _).mono ?_; rintro e w5 ⟨rfl, hb5⟩
          have HB5 := Lib.hid (HBB.out.trans (hb5.mono HBB.out.size))
          have ri := row_cells (row_after hb5 HRI.out)
          have rt := row_cells (row_after hb5 HRT.out)
          have HRT5 := Lib.hid (row_after hb5 HRT.out)
          have i1 := ri.1 1
          have i8 := ri.1 8
          have rs := rt.1 2
          have fs := rt.2 2
          clear ri rt hb5 hv hen
          go_wp2_with fail
          rw [HI.out.left_eq, HL.out]
          refine tot_round (wr := wr) (w1 := w') (by rw [← HL.out]; exact HP.out) HI'.out HBW.out HBUT.out H0.out (fun i hi hne => ?_) ?_ ?_ ?_ ?_ HM.out ?_
          · exact (heap_setCell_other _ _ _ _ hne).trans (HB5.out.block i hi)
          · have := HB5.out.size; simpa using this
          · exact HB5.out.os
          · exact HB5.out.tape
          · exact HB5.out.output
          · rw [HTV.out]
            have hS := HS.out
            rw [if_neg HPAR.out]
            simp only [hS]
            have := heap_setCell_same w5 (w.heap.size + 1) 2 _ _ (.int .i64 (s1 + v)) HRT5.out
            simpa using this
      · have HS := Lib.hid hs
        have HIX : Hid (itC x = #[.string x.id, .string x.par, .int .i64 x.bx.x0, .int .i64 x.bx.y0, .int .i64 x.bx.z0, .int .i64 x.bx.x1, .int .i64 x.bx.y1, .int .i64 x.bx.z1, .int .i64 2, .string x.stone]) := Lib.hid (by rw [← hs]; rfl)
        rw [HIX.out] at hen
        clear hs hit
        by_cases hpar : x.par.toList = []
        · skip
          have HPAR := Lib.hid ((tl_nil _).1 hpar)
          have hx1 := HHT.out.1 HPAR.out
          have HBB := Lib.hid ((Below.refl w'.heap.size w').alloc (Nat.le_refl _) (.cells #[.string x.id, .string x.par, .int .i64 x.bx.x0, .int .i64 x.bx.y0, .int .i64 x.bx.z0, .int .i64 x.bx.x1, .int .i64 x.bx.y1, .int .i64 x.bx.z1, .int .i64 2, .string x.stone] 47))
          have HRI := Lib.hid (new_block w' (.cells #[.string x.id, .string x.par, .int .i64 x.bx.x0, .int .i64 x.bx.y0, .int .i64 x.bx.z0, .int .i64 x.bx.x1, .int .i64 x.bx.y1, .int .i64 x.bx.z1, .int .i64 2, .string x.stone] 47))
          have HRT := Lib.hid (row_after HBB.out HROW.out)
          go_wp2_with fail
          refine (hv _).mono ?_; rintro e w5 ⟨rfl, hb5⟩
          have HB5 := Lib.hid (HBB.out.trans (hb5.mono HBB.out.size))
          have ri := row_cells (row_after hb5 HRI.out)
          have rt := row_cells (row_after hb5 HRT.out)
          have HRT5 := Lib.hid (row_after hb5 HRT.out)
          have i1 := ri.1 1
          have i8 := ri.1 8
          have r0 := rt.1 0
          have f0 := rt.2 0
          clear ri rt hb5 hv hen
          go_wp2_with fail
          rw [HI.out.left_eq, HL.out]
          refine tot_round (wr := wr) (w1 := w') (by rw [← HL.out]; exact HP.out) HI'.out HBW.out HBUT.out H0.out (fun i hi hne => ?_) ?_ ?_ ?_ ?_ HM.out ?_
          · exact (heap_setCell_other _ _ _ _ hne).trans (HB5.out.block i hi)
          · have := HB5.out.size; simpa using this
          · exact HB5.out.os
          · exact HB5.out.tape
          · exact HB5.out.output
          · rw [HTV.out]
            have hS := HS.out
            rw [if_pos HPAR.out]
            simp only [hS]
            have := heap_setCell_same w5 (w.heap.size + 1) 0 _ _ (.int .i64 (F + v)) HRT5.out
            simpa using this
        · skip
          have HPAR := Lib.hid (fun h : x.par = Yp.es => hpar ((tl_nil _).2 h))
          have hpe : x.par.toList.isEmpty = false := by simpa using hpar
          have HBB := Lib.hid ((Below.refl w'.heap.size w').alloc (Nat.le_refl _) (.cells #[.string x.id, .string x.par, .int .i64 x.bx.x0, .int .i64 x.bx.y0, .int .i64 x.bx.z0, .int .i64 x.bx.x1, .int .i64 x.bx.y1, .int .i64 x.bx.z1, .int .i64 2, .string x.stone] 47))
          have HRI := Lib.hid (new_block w' (.cells #[.string x.id, .string x.par, .int .i64 x.bx.x0, .int .i64 x.bx.y0, .int .i64 x.bx.z0, .int .i64 x.bx.x1, .int .i64 x.bx.y1, .int .i64 x.bx.z1, .int .i64 2, .string x.stone] 47))
          have HRT := Lib.hid (row_after HBB.out HROW.out)
          go_wp2_with fail
          refine (hv _).mono ?_; rintro e w5 ⟨rfl, hb5⟩
          have HB5 := Lib.hid (HBB.out.trans (hb5.mono HBB.out.size))
          have ri := row_cells (row_after hb5 HRI.out)
          have rt := row_cells (row_after hb5 HRT.out)
          have HRT5 := Lib.hid (row_after hb5 HRT.out)
          have i1 := ri.1 1
          have i8 := ri.1 8
          clear ri rt hb5 hv hen
          go_wp2_with fail
          rw [HI.out.left_eq, HL.out]
          refine tot_round (wr := wr) (w1 := w') (by rw [← HL.out]; exact HP.out) HI'.out HBW.out HBUT.out H0.out (fun i hi hne => ?_) ?_ ?_ ?_ ?_ HM.out ?_
          · exact HB5.out.block i hi
          · have := HB5.out.size; exact this
          · exact HB5.out.os
          · exact HB5.out.tape
          · exact HB5.out.output
          · rw [HTV.out]
            have hS := HS.out
            rw [if_neg HPAR.out]
            simp only [hS]
            simpa using HRT5.out
      · have HS := Lib.hid hs
        have HIX : Hid (itC x = #[.string x.id, .string x.par, .int .i64 x.bx.x0, .int .i64 x.bx.y0, .int .i64 x.bx.z0, .int .i64 x.bx.x1, .int .i64 x.bx.y1, .int .i64 x.bx.z1, .int .i64 3, .string x.stone]) := Lib.hid (by rw [← hs]; rfl)
        rw [HIX.out] at hen
        clear hs hit
        by_cases hpar : x.par.toList = []
        · skip
          have HPAR := Lib.hid ((tl_nil _).1 hpar)
          have hx1 := HHT.out.1 HPAR.out
          have hx2 := HHT.out.2.2.1 HS.out
          have HBB := Lib.hid ((Below.refl w'.heap.size w').alloc (Nat.le_refl _) (.cells #[.string x.id, .string x.par, .int .i64 x.bx.x0, .int .i64 x.bx.y0, .int .i64 x.bx.z0, .int .i64 x.bx.x1, .int .i64 x.bx.y1, .int .i64 x.bx.z1, .int .i64 3, .string x.stone] 47))
          have HRI := Lib.hid (new_block w' (.cells #[.string x.id, .string x.par, .int .i64 x.bx.x0, .int .i64 x.bx.y0, .int .i64 x.bx.z0, .int .i64 x.bx.x1, .int .i64 x.bx.y1, .int .i64 x.bx.z1, .int .i64 3, .string x.stone] 47))
          have HRT := Lib.hid (row_after HBB.out HROW.out)
          go_wp2_with fail
          refine (hv _).mono ?_; rintro e w5 ⟨rfl, hb5⟩
          have HB5 := Lib.hid (HBB.out.trans (hb5.mono HBB.out.size))
          have ri := row_cells (row_after hb5 HRI.out)
          have rt := row_cells (row_after hb5 HRT.out)
          have HRT5 := Lib.hid (row_after hb5 HRT.out)
          have i1 := ri.1 1
          have i8 := ri.1 8
          have r0 := rt.1 0
          have f0 := rt.2 0
          have rs := rt.1 4
          have fs := rt.2 4
          clear ri rt hb5 hv hen
          go_wp2_with fail
          rw [HI.out.left_eq, HL.out]
          refine tot_round (wr := wr) (w1 := w') (by rw [← HL.out]; exact HP.out) HI'.out HBW.out HBUT.out H0.out (fun i hi hne => ?_) ?_ ?_ ?_ ?_ HM.out ?_
          · exact (heap_setCell_other _ _ _ _ hne).trans ((heap_setCell_other _ _ _ _ hne).trans (HB5.out.block i hi))
          · have := HB5.out.size; simpa using this
          · exact HB5.out.os
          · exact HB5.out.tape
          · exact HB5.out.output
          · rw [HTV.out]
            have hS := HS.out
            rw [if_pos HPAR.out]
            simp only [hS]
            have h1 := heap_setCell_same w5 (w.heap.size + 1) 0 _ _ (.int .i64 (F + v)) HRT5.out
            have := heap_setCell_same _ (w.heap.size + 1) 4 _ _ (.int .i64 (s3 + v)) h1
            simpa using this
        · skip
          have HPAR := Lib.hid (fun h : x.par = Yp.es => hpar ((tl_nil _).2 h))
          have hpe : x.par.toList.isEmpty = false := by simpa using hpar
          have hx2 := HHT.out.2.2.1 HS.out
          have HBB := Lib.hid ((Below.refl w'.heap.size w').alloc (Nat.le_refl _) (.cells #[.string x.id, .string x.par, .int .i64 x.bx.x0, .int .i64 x.bx.y0, .int .i64 x.bx.z0, .int .i64 x.bx.x1, .int .i64 x.bx.y1, .int .i64 x.bx.z1, .int .i64 3, .string x.stone] 47))
          have HRI := Lib.hid (new_block w' (.cells #[.string x.id, .string x.par, .int .i64 x.bx.x0, .int .i64 x.bx.y0, .int .i64 x.bx.z0, .int .i64 x.bx.x1, .int .i64 x.bx.y1, .int .i64 x.bx.z1, .int .i64 3, .string x.stone] 47))
          have HRT := Lib.hid (row_after HBB.out HROW.out)
          go_wp2_with fail
          refine (hv _).mono ?_; rintro e w5 ⟨rfl, hb5⟩
          have HB5 := Lib.hid (HBB.out.trans (hb5.mono HBB.out.size))
          have ri := row_cells (row_after hb5 HRI.out)
          have rt := row_cells (row_after hb5 HRT.out)
          have HRT5 := Lib.hid (row_after hb5 HRT.out)
          have i1 := ri.1 1
          have i8 := ri.1 8
          have rs := rt.1 4
          have fs := rt.2 4
          clear ri rt hb5 hv hen
          go_wp2_with fail
          rw [HI.out.left_eq, HL.out]
          refine tot_round (wr := wr) (w1 := w') (by rw [← HL.out]; exact HP.out) HI'.out HBW.out HBUT.out H0.out (fun i hi hne => ?_) ?_ ?_ ?_ ?_ HM.out ?_
          · exact (heap_setCell_other _ _ _ _ hne).trans (HB5.out.block i hi)
          · have := HB5.out.size; simpa using this
          · exact HB5.out.os
          · exact HB5.out.tape
          · exact HB5.out.output
          · rw [HTV.out]
            have hS := HS.out
            rw [if_neg HPAR.out]
            simp only [hS]
            have := heap_setCell_same w5 (w.heap.size + 1) 4 _ _ (.int .i64 (s3 + v)) HRT5.out
            simpa using this
      · have HS := Lib.hid hs
        have HIX : Hid (itC x = #[.string x.id, .string x.par, .int .i64 x.bx.x0, .int .i64 x.bx.y0, .int .i64 x.bx.z0, .int .i64 x.bx.x1, .int .i64 x.bx.y1, .int .i64 x.bx.z1, .int .i64 4, .string x.stone]) := Lib.hid (by rw [← hs]; rfl)
        rw [HIX.out] at hen
        clear hs hit
        by_cases hpar : x.par.toList = []
        · skip
          have HPAR := Lib.hid ((tl_nil _).1 hpar)
          have hx1 := HHT.out.1 HPAR.out
          have hx2 := HHT.out.2.2.2.1 HS.out
          have HBB := Lib.hid ((Below.refl w'.heap.size w').alloc (Nat.le_refl _) (.cells #[.string x.id, .string x.par, .int .i64 x.bx.x0, .int .i64 x.bx.y0, .int .i64 x.bx.z0, .int .i64 x.bx.x1, .int .i64 x.bx.y1, .int .i64 x.bx.z1, .int .i64 4, .string x.stone] 47))
          have HRI := Lib.hid (new_block w' (.cells #[.string x.id, .string x.par, .int .i64 x.bx.x0, .int .i64 x.bx.y0, .int .i64 x.bx.z0, .int .i64 x.bx.x1, .int .i64 x.bx.y1, .int .i64 x.bx.z1, .int .i64 4, .string x.stone] 47))
          have HRT := Lib.hid (row_after HBB.out HROW.out)
          go_wp2_with fail
          refine (hv _).mono ?_; rintro e w5 ⟨rfl, hb5⟩
          have HB5 := Lib.hid (HBB.out.trans (hb5.mono HBB.out.size))
          have ri := row_cells (row_after hb5 HRI.out)
          have rt := row_cells (row_after hb5 HRT.out)
          have HRT5 := Lib.hid (row_after hb5 HRT.out)
          have i1 := ri.1 1
          have i8 := ri.1 8
          have r0 := rt.1 0
          have f0 := rt.2 0
          have rs := rt.1 5
          have fs := rt.2 5
          clear ri rt hb5 hv hen
          go_wp2_with fail
          rw [HI.out.left_eq, HL.out]
          refine tot_round (wr := wr) (w1 := w') (by rw [← HL.out]; exact HP.out) HI'.out HBW.out HBUT.out H0.out (fun i hi hne => ?_) ?_ ?_ ?_ ?_ HM.out ?_
          · exact (heap_setCell_other _ _ _ _ hne).trans ((heap_setCell_other _ _ _ _ hne).trans (HB5.out.block i hi))
          · have := HB5.out.size; simpa using this
          · exact HB5.out.os
          · exact HB5.out.tape
          · exact HB5.out.output
          · rw [HTV.out]
            have hS := HS.out
            rw [if_pos HPAR.out]
            simp only [hS]
            have h1 := heap_setCell_same w5 (w.heap.size + 1) 0 _ _ (.int .i64 (F + v)) HRT5.out
            have := heap_setCell_same _ (w.heap.size + 1) 5 _ _ (.int .i64 (s4 + v)) h1
            simpa using this
        · skip
          have HPAR := Lib.hid (fun h : x.par = Yp.es => hpar ((tl_nil _).2 h))
          have hpe : x.par.toList.isEmpty = false := by simpa using hpar
          have hx2 := HHT.out.2.2.2.1 HS.out
          have HBB := Lib.hid ((Below.refl w'.heap.size w').alloc (Nat.le_refl _) (.cells #[.string x.id, .string x.par, .int .i64 x.bx.x0, .int .i64 x.bx.y0, .int .i64 x.bx.z0, .int .i64 x.bx.x1, .int .i64 x.bx.y1, .int .i64 x.bx.z1, .int .i64 4, .string x.stone] 47))
          have HRI := Lib.hid (new_block w' (.cells #[.string x.id, .string x.par, .int .i64 x.bx.x0, .int .i64 x.bx.y0, .int .i64 x.bx.z0, .int .i64 x.bx.x1, .int .i64 x.bx.y1, .int .i64 x.bx.z1, .int .i64 4, .string x.stone] 47))
          have HRT := Lib.hid (row_after HBB.out HROW.out)
          go_wp2_with fail
          refine (hv _).mono ?_; rintro e w5 ⟨rfl, hb5⟩
          have HB5 := Lib.hid (HBB.out.trans (hb5.mono HBB.out.size))
          have ri := row_cells (row_after hb5 HRI.out)
          have rt := row_cells (row_after hb5 HRT.out)
          have HRT5 := Lib.hid (row_after hb5 HRT.out)
          have i1 := ri.1 1
          have i8 := ri.1 8
          have rs := rt.1 5
          have fs := rt.2 5
          clear ri rt hb5 hv hen
          go_wp2_with fail
          rw [HI.out.left_eq, HL.out]
          refine tot_round (wr := wr) (w1 := w') (by rw [← HL.out]; exact HP.out) HI'.out HBW.out HBUT.out H0.out (fun i hi hne => ?_) ?_ ?_ ?_ ?_ HM.out ?_
          · exact (heap_setCell_other _ _ _ _ hne).trans (HB5.out.block i hi)
          · have := HB5.out.size; simpa using this
          · exact HB5.out.os
          · exact HB5.out.tape
          · exact HB5.out.output
          · rw [HTV.out]
            have hS := HS.out
            rw [if_neg HPAR.out]
            simp only [hS]
            have := heap_setCell_same w5 (w.heap.size + 1) 5 _ _ (.int .i64 (s4 + v)) HRT5.out
            simpa using this
      · have HS := Lib.hid hs
        have HIX : Hid (itC x = #[.string x.id, .string x.par, .int .i64 x.bx.x0, .int .i64 x.bx.y0, .int .i64 x.bx.z0, .int .i64 x.bx.x1, .int .i64 x.bx.y1, .int .i64 x.bx.z1, .int .i64 5, .string x.stone]) := Lib.hid (by rw [← hs]; rfl)
        rw [HIX.out] at hen
        clear hs hit
        by_cases hpar : x.par.toList = []
        · skip
          have HPAR := Lib.hid ((tl_nil _).1 hpar)
          have hx1 := HHT.out.1 HPAR.out
          have hx2 := HHT.out.2.2.2.2 HS.out
          have HBB := Lib.hid ((Below.refl w'.heap.size w').alloc (Nat.le_refl _) (.cells #[.string x.id, .string x.par, .int .i64 x.bx.x0, .int .i64 x.bx.y0, .int .i64 x.bx.z0, .int .i64 x.bx.x1, .int .i64 x.bx.y1, .int .i64 x.bx.z1, .int .i64 5, .string x.stone] 47))
          have HRI := Lib.hid (new_block w' (.cells #[.string x.id, .string x.par, .int .i64 x.bx.x0, .int .i64 x.bx.y0, .int .i64 x.bx.z0, .int .i64 x.bx.x1, .int .i64 x.bx.y1, .int .i64 x.bx.z1, .int .i64 5, .string x.stone] 47))
          have HRT := Lib.hid (row_after HBB.out HROW.out)
          go_wp2_with fail
          refine (hv _).mono ?_; rintro e w5 ⟨rfl, hb5⟩
          have HB5 := Lib.hid (HBB.out.trans (hb5.mono HBB.out.size))
          have ri := row_cells (row_after hb5 HRI.out)
          have rt := row_cells (row_after hb5 HRT.out)
          have HRT5 := Lib.hid (row_after hb5 HRT.out)
          have i1 := ri.1 1
          have i8 := ri.1 8
          have r0 := rt.1 0
          have f0 := rt.2 0
          have rs := rt.1 6
          have fs := rt.2 6
          clear ri rt hb5 hv hen
          go_wp2_with fail
          rw [HI.out.left_eq, HL.out]
          refine tot_round (wr := wr) (w1 := w') (by rw [← HL.out]; exact HP.out) HI'.out HBW.out HBUT.out H0.out (fun i hi hne => ?_) ?_ ?_ ?_ ?_ HM.out ?_
          · exact (heap_setCell_other _ _ _ _ hne).trans ((heap_setCell_other _ _ _ _ hne).trans (HB5.out.block i hi))
          · have := HB5.out.size; simpa using this
          · exact HB5.out.os
          · exact HB5.out.tape
          · exact HB5.out.output
          · rw [HTV.out]
            have hS := HS.out
            rw [if_pos HPAR.out]
            simp only [hS]
            have h1 := heap_setCell_same w5 (w.heap.size + 1) 0 _ _ (.int .i64 (F + v)) HRT5.out
            have := heap_setCell_same _ (w.heap.size + 1) 6 _ _ (.int .i64 (s5 + v)) h1
            simpa using this
        · skip
          have HPAR := Lib.hid (fun h : x.par = Yp.es => hpar ((tl_nil _).2 h))
          have hpe : x.par.toList.isEmpty = false := by simpa using hpar
          have hx2 := HHT.out.2.2.2.2 HS.out
          have HBB := Lib.hid ((Below.refl w'.heap.size w').alloc (Nat.le_refl _) (.cells #[.string x.id, .string x.par, .int .i64 x.bx.x0, .int .i64 x.bx.y0, .int .i64 x.bx.z0, .int .i64 x.bx.x1, .int .i64 x.bx.y1, .int .i64 x.bx.z1, .int .i64 5, .string x.stone] 47))
          have HRI := Lib.hid (new_block w' (.cells #[.string x.id, .string x.par, .int .i64 x.bx.x0, .int .i64 x.bx.y0, .int .i64 x.bx.z0, .int .i64 x.bx.x1, .int .i64 x.bx.y1, .int .i64 x.bx.z1, .int .i64 5, .string x.stone] 47))
          have HRT := Lib.hid (row_after HBB.out HROW.out)
          go_wp2_with fail
          refine (hv _).mono ?_; rintro e w5 ⟨rfl, hb5⟩
          have HB5 := Lib.hid (HBB.out.trans (hb5.mono HBB.out.size))
          have ri := row_cells (row_after hb5 HRI.out)
          have rt := row_cells (row_after hb5 HRT.out)
          have HRT5 := Lib.hid (row_after hb5 HRT.out)
          have i1 := ri.1 1
          have i8 := ri.1 8
          have rs := rt.1 6
          have fs := rt.2 6
          clear ri rt hb5 hv hen
          go_wp2_with fail
          rw [HI.out.left_eq, HL.out]
          refine tot_round (wr := wr) (w1 := w') (by rw [← HL.out]; exact HP.out) HI'.out HBW.out HBUT.out H0.out (fun i hi hne => ?_) ?_ ?_ ?_ ?_ HM.out ?_
          · exact (heap_setCell_other _ _ _ _ hne).trans (HB5.out.block i hi)
          · have := HB5.out.size; simpa using this
          · exact HB5.out.os
          · exact HB5.out.tape
          · exact HB5.out.output
          · rw [HTV.out]
            have hS := HS.out
            rw [if_neg HPAR.out]
            simp only [hS]
            have := heap_setCell_same w5 (w.heap.size + 1) 6 _ _ (.int .i64 (s5 + v)) HRT5.out
            simpa using this
    case hd =>
      intro hd
      have HD := Lib.hid hd
      have HLL : Hid (totV dn kf = totV y.items y.kerfs) := Lib.hid (by
        have := HP.out
        rw [hd, List.append_nil] at this
        unfold totV
        rw [Yp.rootVol_perm this, Yp.stVol_perm 1 this, Yp.stVol_perm 3 this, Yp.stVol_perm 4 this, Yp.stVol_perm 5 this, HKF.out])
      rw [HLL.out] at H1
      have H1' : Hid (wr.heap[w.heap.size + 1]? = some (.cells (totV y.items y.kerfs) 53 (0, 0))) := H1
      unfold totV at H1
      have c := fun i => (row_cells H1.out).1 i
      have z := row_cells H0.out
      have c0 := c 0
      have c1 := c 1
      have c2 := c 2
      have c3 := c 3
      have c4 := c 4
      have c5 := c 5
      have c6 := c 6
      have c7 := c 7
      have z0 := z.1 0
      have z1 := z.1 1
      have z2 := z.1 2
      have z3 := z.1 3
      have z4 := z.1 4
      have z5 := z.1 5
      have z6 := z.1 6
      have z7 := z.1 7
      have f0 := z.2 0
      have f1 := z.2 1
      have f2 := z.2 2
      have f3 := z.2 3
      have f4 := z.2 4
      have f5 := z.2 5
      have f6 := z.2 6
      have f7 := z.2 7
      clear c z hd
      go_wp2_with fail
      refine bodyPost_ret (v := .agg (totV y.items y.kerfs)) ?_ rfl ⟨rfl, ?_⟩
      · unfold totV
        simp [results, Tryz.results19, go_sem, *]
      · have hq := HBW.out
        (repeat' (first | (with_reducible exact hq) | (with_reducible refine Below.drew ?_) | (with_reducible refine Below.setCell ?_ ?_ _) | (with_reducible refine Below.alloc ?_ ?_ _) | (simp; done) | (simp; omega)))
end Go.Proofs.YtejhcbbfdfnfdaaGreatDoor.Yard

/- Items: the items collected and sorted. -/
namespace Go.Proofs.YtejhcbbfdfnfdaaGreatDoor.Yard
open Go.RowKit Go.Proofs.YtejhcbbfdfnfdaaGreatDoor.Base Go.Proofs.YtejhcbbfdfnfdaaGreatDoor.Mp
open Yp (It Yd Fact Bx)
def itL (x : It) : List Value := (itC x).toList
/-- v is a row of the call's own that holds the items l. -/
def IRow (w : World) (base : Nat) (v : Value) (l : List It) : Prop := w.ownsRow base 47 10 v l.length (l.flatMap itL)
def lessI (a b : It) : Bool := Op.bytesLess a.id.toList b.id.toList
/-- What the sort does. -/
def SortSaid : Prop := ∀ (w : World) (base : Nat) (v : Value) (l : List It), IRow w base v l → l.length ≤ 1000000 →
  Calls Tryz.prog 32 #[v, .func (.func 33) #[] #[]] w fun e w' => e = .returned (.tuple #[]) ∧ ∃ l' : List It, l'.Perm l ∧ (l'.Pairwise fun a b => lessI b a = false) ∧ IRow w' base v l' ∧ Stay (fun i => v.ownBlock = some i) w w'
theorem irow_lt {w : World} {base : Nat} {v : Value} {l : List It} (h : IRow w base v l) : ∀ g, v.ownBlock = some g → base ≤ g ∧ g < w.heap.size := by
  intro g hg
  rcases h.2 with ⟨rfl, _⟩ | ⟨g', cap, cur, rfl, hb, hh, _⟩
  · cases hg
  · have : g' = g := by simpa [Value.ownBlock] using hg
    subst this
    exact ⟨hb, block_lt hh⟩
theorem IRow.after {w w' : World} {base : Nat} {v : Value} {l : List It} (h : IRow w base v l) (hb : ∀ g, base ≤ g → g < w.heap.size → w'.heap[g]? = w.heap[g]?) : IRow w' base v l := by
  refine ⟨h.1, ?_⟩
  rcases h.2 with hn | ⟨g, cap, cur, rfl, h1, h2, h3⟩
  · exact .inl hn
  · exact .inr ⟨g, cap, cur, rfl, h1, (hb g h1 (block_lt h2)).trans h2, h3⟩
theorem irow_alloc2 {w w' : World} {r : Nat} {v : Value} {l : List It} (h : IRow w (r + 1) v l) (hb : But r w w') (o o' : Obj) : IRow ((w'.alloc o).alloc o') (r + 1) v l :=
  h.after fun g h1 h2 => by
    have e : ((w'.alloc o).alloc o').heap[g]? = w'.heap[g]? := (((Below.refl w'.heap.size w').alloc (Nat.le_refl _) o).alloc (by simp) o').block g (by rw [hb.size]; exact h2)
    rw [e, hb.block g (by omega)]
set_option maxRecDepth 100000 in
set_option maxHeartbeats 4000000 in
theorem items_any (hs : SortSaid) {w : World} {Y M : Nat} {FS : Value} {y : Yd} (hy : YAt w Y M FS y) (hlen : y.items.length ≤ 100000) :
    Calls Tryz.prog 15 #[.pointer (some ⟨Y, 0, none⟩)] w fun e w' => ∃ v l, e = .returned v ∧ l.Perm y.items ∧ (l.Pairwise fun a b => lessI b a = false) ∧ IRow w' w.heap.size v l ∧ Below w.heap.size w w' := by
  have HY := Lib.hid hy
  have y0 := (row_cells hy.row).1 0
  have tS := Tryz.underlying40
  obtain ⟨i0, hi, hz0, hz1, hz2⟩ : ∃ i, Tryz.prog.info? 47 = some i ∧ i.zero = some (.agg #[.string ⟨#[]⟩, .string ⟨#[]⟩, .int .i64 0, .int .i64 0, .int .i64 0, .int .i64 0, .int .i64 0, .int .i64 0, .int .i64 0, .string ⟨#[]⟩]) ∧ i.size = 10 ∧ i.bytes = 104 := ⟨_, rfl, rfl, rfl, rfl⟩
  have HI0 := Lib.hid (And.intro hi (And.intro hz0 (And.intro hz1 hz2)))
  have HLEN := Lib.hid hlen
  have HSORT := Lib.hid hs
  clear hy hi hz0 hz1 hz2 hlen hs
  go_enter Tryz.func15, Tryz.ntmps15
  go_wp2_with (at_range; refine wpList_range_it _ rfl _ 70 9 47 rfl Tryz.underlying70 M y.items rfl HY.out.map ?_; intro w0 hi0 hb0)
  go_frame
  have HIT := Lib.hid hi0
  have HB0 := Lib.hid hb0
  have HR0 : Hid (w.heap.size + 1 ≤ w0.heap.size) := Lib.hid (IsIter.ltr hi0)
  clear hi0 hb0 y0
  go_loopw [3] (fun v wr => ∃ dn left : List It, ItIter wr w.heap.size M y.items left ∧ (dn ++ left).Perm y.items ∧ IRow wr (w.heap.size + 1) v dn ∧ w.heap.size + 1 ≤ wr.heap.size ∧ Below w.heap.size w wr) (fun _ wr => wr.rangeLeft M w.heap.size)
  case atStart => exact ⟨[], y.items, HIT.out, .refl _, World.ownsRow_nil _ _ _ _, HR0.out, HB0.out⟩
  case round =>
    obtain ⟨dn, left, hi, hp, ho, hb, hbw⟩ := hrel
    have HI := Lib.hid hi
    have HP := Lib.hid hp
    have HO := Lib.hid ho
    have HB1 := Lib.hid hb
    have HBW := Lib.hid hbw
    clear hi hp ho hb hbw
    have hdl : dn.length ≤ 100000 := by have h1 := HP.out.length_eq; rw [List.length_append] at h1; have := HLEN.out; omega
    have hit : ∀ x : It, itC x = #[.string x.id, .string x.par, .int .i64 x.bx.x0, .int .i64 x.bx.y0, .int .i64 x.bx.z0, .int .i64 x.bx.x1, .int .i64 x.bx.y1, .int .i64 x.bx.z1, .int .i64 x.st, .string x.stone] := fun _ => rfl
    go_wp2_with (at_next; refine wpList_next_it _ rfl _ rfl w.heap.size M y.items left rfl HI.out ?hd ?hm)
    case hm =>
      intro A B x w' hl hi' hbut hen
      have HL := Lib.hid hl
      have HI' := Lib.hid hi'
      have HBUT := Lib.hid hbut
      clear hl hi' hbut
      go_wp2_with (at_builtin; refine wpList_append_own_at _ rfl _ _ 40 rfl (w.heap.size + 1) 47 i0 _ 10 104 tS HI0.out.1 HI0.out.2.1 HI0.out.2.2.1 HI0.out.2.2.2 rfl (by decide) _ dn.length (dn.flatMap itL) rfl (irow_alloc2 HO.out HBUT.out _ _) ⟨w'.heap.size + 1, 0, none⟩ 1 1 (itL x) rfl rfl ?qa ?qb ?qc ?qd ?qe ?_)
      case qa =>
        intro j u hj
        rw [add_lit, Nat.zero_add, (row_cells (new_block2 w' (.cells #[.string x.id, .string x.par, .int .i64 x.bx.x0, .int .i64 x.bx.y0, .int .i64 x.bx.z0, .int .i64 x.bx.x1, .int .i64 x.bx.y1, .int .i64 x.bx.z1, .int .i64 x.st, .string x.stone] 47) (.cells #[.string x.id, .string x.par, .int .i64 x.bx.x0, .int .i64 x.bx.y0, .int .i64 x.bx.z0, .int .i64 x.bx.x1, .int .i64 x.bx.y1, .int .i64 x.bx.z1, .int .i64 x.st, .string x.stone] 47))).1 j]
        simpa [itL, itC] using hj
      case qb =>
        intro u hu
        simp only [itL, itC, List.mem_cons, List.not_mem_nil, or_false] at hu
        rcases hu with rfl | rfl | rfl | rfl | rfl | rfl | rfl | rfl | rfl | rfl <;> rfl
      case qc => unfold maxLen; omega
      case qd => omega
      case qe =>
        have h1 := HB1.out
        have h2 := HBUT.out.size
        simp
        omega
      intro v' w2 hown hgrow hnil hat
      have HW2 := Lib.hid hown
      have HG2 := Lib.hid hgrow
      clear hown hgrow hnil hat hen
      have HSZ2 : Hid (Below w'.heap.size w' ((w'.alloc (.cells #[.string x.id, .string x.par, .int .i64 x.bx.x0, .int .i64 x.bx.y0, .int .i64 x.bx.z0, .int .i64 x.bx.x1, .int .i64 x.bx.y1, .int .i64 x.bx.z1, .int .i64 x.st, .string x.stone] 47)).alloc (.cells #[.string x.id, .string x.par, .int .i64 x.bx.x0, .int .i64 x.bx.y0, .int .i64 x.bx.z0, .int .i64 x.bx.x1, .int .i64 x.bx.y1, .int .i64 x.bx.z1, .int .i64 x.st, .string x.stone] 47))) := Lib.hid (((Below.refl w'.heap.size w').alloc (Nat.le_refl _) _).alloc (by simp) _)
      go_wp2_with fail
      have hown := irow_lt HO.out
      have hb2 : ∀ i, i ≤ w.heap.size → i < w'.heap.size → w2.heap[i]? = w'.heap[i]? := fun i hi hlt =>
        (HG2.out.block i (Nat.lt_of_lt_of_le hlt HSZ2.out.size) (fun e => by have := (hown i e.symm).1; omega)).trans (HSZ2.out.block i hlt)
      have hsz' := HBUT.out.size
      have h1 := HB1.out
      have hit2 : ItIter w2 w.heap.size M y.items (A ++ B) := HI'.out.same (hb2 _ (Nat.le_refl _) HI'.out.ltr) (hb2 M (Nat.le_of_lt HY.out.ltM) HI'.out.ltb)
      refine ⟨⟨dn ++ [x], A ++ B, hit2, ?_, ?_, ?_, ?_⟩, ?_⟩
      · refine List.Perm.trans ?_ HP.out
        rw [HL.out, List.append_assoc]
        refine List.Perm.append_left dn ?_
        rw [List.singleton_append]
        exact (List.perm_middle).symm
      · unfold IRow
        rw [List.length_append, List.flatMap_append]
        simpa using HW2.out
      · have := HG2.out.size
        have := HSZ2.out.size
        omega
      · refine HBW.out.trans ((HBUT.out.below (Nat.le_refl _)).trans ⟨HG2.out.os.trans HSZ2.out.os, HG2.out.tape.trans HSZ2.out.tape, HG2.out.output.trans HSZ2.out.output, Nat.le_trans HSZ2.out.size HG2.out.size, fun i hi => hb2 i (Nat.le_of_lt hi) (by omega)⟩)
      · rw [HI.out.left_eq, hit2.left_eq, HL.out]; simp
    case hd =>
      intro hd
      have HD := Lib.hid hd
      clear hd
      have hsort := HSORT.out wr (w.heap.size + 1) u3 dn HO.out (by omega)
      have HOWN := Lib.hid (irow_lt HO.out)
      go_wp2_with fail
      refine hsort.mono ?_; rintro e w2 ⟨rfl, l', hp, hs, ho, hst⟩
      have HP2 := Lib.hid hp
      have HS2 := Lib.hid hs
      have HO2 := Lib.hid ho
      have HST := Lib.hid hst
      clear hp hs ho hst hsort
      go_wp2_with fail
      go_ret
      refine ⟨_, l', rfl, ?_, HS2.out, ?_, ?_⟩
      · have := HP.out
        rw [HD.out, List.append_nil] at this
        exact HP2.out.trans this
      · have := HO2.out
        refine ⟨this.1, this.2.imp id ?_⟩
        rintro ⟨g, cap, cur, e, h1, h2⟩
        exact ⟨g, cap, cur, e, by omega, h2⟩
      · exact HBW.out.trans (HST.out.below HBW.out.size fun i hi => by have := (HOWN.out i hi).1; omega)
end Go.Proofs.YtejhcbbfdfnfdaaGreatDoor.Yard
