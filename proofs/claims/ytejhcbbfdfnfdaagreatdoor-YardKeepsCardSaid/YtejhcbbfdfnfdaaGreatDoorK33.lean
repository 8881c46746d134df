/- Small: whether facts are few and short. -/
import Derived.Test.YtejhcbbfdfnfdaaGreatDoorK32
import Derived.Test.YtejhcbbfdfnfdaaGreatDoorK21
/- The examples of the chapter (awake). -/
namespace Go.Proofs.YtejhcbbfdfnfdaaGreatDoor.Yard
open Go.RowKit Go.Proofs.YtejhcbbfdfnfdaaGreatDoor.Base Go.Proofs.YtejhcbbfdfnfdaaGreatDoor.Mp
open Yp (It Yd Fact Bx)
set_option maxRecDepth 100000 in
set_option maxHeartbeats 16000000 in
theorem awake_any {w : World} (hE : Env w) : Calls Tryz.prog 8 #[] w fun e w' => e = .returned (.bool true) ∧ Below w.heap.size w w' := by
  have hB0 := al_below w (.cells #[.string { data := #[98] }, .string { data := #[108] }, .string { data := #[114] }] 9)
  have hB1 := hB0.trans ((al_below (w.alloc (.cells #[.string { data := #[98] }, .string { data := #[108] }, .string { data := #[114] }] 9)) (.cells #[.int .i64 0, .int .i64 40, .int .i64 8] 2)).mono hB0.size)
  have p0 := row_after (al_below _ (.cells #[.int .i64 0, .int .i64 40, .int .i64 8] 2)) (new_block w (.cells #[.string { data := #[98] }, .string { data := #[108] }, .string { data := #[114] }] 9))
  have p1 := new_block2 w (.cells #[.string { data := #[98] }, .string { data := #[108] }, .string { data := #[114] }] 9) (.cells #[.int .i64 0, .int .i64 40, .int .i64 8] 2)
  have HB1 := Lib.hid hB1
  have P0 := Lib.hid p0
  have P1 := Lib.hid p1
  have HE := Lib.hid hE
  have hf := fact_any ((w.alloc (.cells #[.string { data := #[98] }, .string { data := #[108] }, .string { data := #[114] }] 9)).alloc (.cells #[.int .i64 0, .int .i64 40, .int .i64 8] 2)) { data := #[99, 117, 116] } (some ⟨w.heap.size, 0, none⟩) (some ⟨w.heap.size + 1, 0, none⟩) 3 3 3 3
  clear hB0 hB1 p0 p1 hE
  go_enter Tryz.func8, Tryz.ntmps8
  go_wp2_with fail
  refine hf.mono ?_; rintro e w2 ⟨rfl, hb2⟩
  have HB2 := Lib.hid (HB1.out.trans (hb2.mono HB1.out.size))
  have P0 := Lib.hid (row_after hb2 P0.out)
  have P1 := Lib.hid (row_after hb2 P1.out)
  clear hf hb2
  go_wp2_with fail
  have HB3 := Lib.hid (HB2.out.trans ((al_below w2 (.cells #[.string { data := #[99, 117, 116] }, .slice (some ⟨w.heap.size, 0, none⟩) 3 3, .slice (some ⟨(w.heap.size + 1), 0, none⟩) 3 3] 39)).mono HB2.out.size))
  have P0 := Lib.hid (row_after (al_below w2 (.cells #[.string { data := #[99, 117, 116] }, .slice (some ⟨w.heap.size, 0, none⟩) 3 3, .slice (some ⟨(w.heap.size + 1), 0, none⟩) 3 3] 39)) P0.out)
  have P1 := Lib.hid (row_after (al_below w2 (.cells #[.string { data := #[99, 117, 116] }, .slice (some ⟨w.heap.size, 0, none⟩) 3 3, .slice (some ⟨(w.heap.size + 1), 0, none⟩) 3 3] 39)) P1.out)
  have RT := Lib.hid (new_block w2 (.cells #[.string { data := #[99, 117, 116] }, .slice (some ⟨w.heap.size, 0, none⟩) 3 3, .slice (some ⟨(w.heap.size + 1), 0, none⟩) 3 3] 39))
  generalize w2.alloc (.cells #[.string { data := #[99, 117, 116] }, .slice (some ⟨w.heap.size, 0, none⟩) 3 3, .slice (some ⟨(w.heap.size + 1), 0, none⟩) 3 3] 39) = W2 at *
  have RN : Hid (Rd W2 (fun _ => True) (.slice (some ⟨w.heap.size, 0, none⟩) 3 3) (strV Yp.cutF.names)) := Lib.hid (rd_block (l := strV Yp.cutF.names) P0.out)
  have RV : Hid (Rd W2 (fun _ => True) (.slice (some ⟨w.heap.size + 1, 0, none⟩) 3 3) (intV Yp.cutF.vals)) := Lib.hid (rd_block (l := intV Yp.cutF.vals) P1.out)
  refine Reg.region_inv [[], [], [0, 1], [], [2, 3], [2, 4], [5], [6], [6], [0, 1, 2, 3, 4, 5, 6, 7], [0, 1, 2, 3, 4, 5, 6, 7, 8, 9]] [[], [], [0, 1], [], [0, 1, 2, 3], [0, 1, 2, 3, 4], [0, 1, 2, 3, 4, 5], [0, 1, 2, 3, 4, 5, 6], [0, 1, 2, 3, 4, 5, 6], [0, 1, 2, 3, 4, 5, 6, 7], [0, 1, 2, 3, 4, 5, 6, 7, 8, 9]] (fun a0_ bb aa ww => ∃ (g1 : Nat) (g2 : Nat) (g3 : Nat) (Y : Nat) (M : Nat), aa = Reg.fill bb [(0, 21, .slice (some ⟨g1, 0, none⟩) 1 1), (1, 22, .slice (some ⟨g2, 0, none⟩) 6 6), (2, 23, .agg #[.string { data := #[102, 114, 101, 101] }, .slice (some ⟨g1, 0, none⟩) 1 1, .slice (some ⟨g2, 0, none⟩) 6 6]), (3, 24, .agg #[.string { data := #[99, 117, 116] }, .slice (some ⟨w.heap.size, 0, none⟩) 3 3, .slice (some ⟨(w.heap.size + 1), 0, none⟩) 3 3]), (4, 25, .slice (some ⟨g3, 0, none⟩) 2 2), (5, 26, .tuple #[.pointer (some ⟨Y, 0, none⟩), .int .i64 (-1)]), (6, 20, .tuple #[.pointer (some ⟨Y, 0, none⟩), .int .i64 (-1)]), (7, 27, .pointer (some ⟨Y, 0, none⟩)), (8, 28, .int .i64 (-1)), (9, 2, .pointer (some ⟨Y, 0, none⟩)), (10, 3, .int .i64 (-1))] a0_ ∧ A2 w.heap.size (w.heap.size + 1) W2 bb ww g1 g2 g3 Y M) (by kernel_rfl) (by kernel_rfl) (by kernel_rfl) ?_ ?_ ?_
  · exact ⟨0, 0, 0, 0, 0, Reg.fill_start.symm, A2.start⟩
  · refine Reg.steps_cons (i := 0) ?_ ?_
    · rintro bb aa ww ⟨g1, g2, g3, Y, M, ha, HW⟩ hb hd hn
      have HA := Lib.hid ha
      clear ha
      refine ⟨_, rfl, fun K hK => ?_⟩
      refine Reg.do_val rfl rfl (v := .slice (some ⟨ww.heap.size, 0, none⟩) 1 1) (w1 := ww.alloc (.cells #[.string { data := #[98] }] 9)) ?_ ?_
      · simp only [List.getElem_toArray, List.getElem_cons_zero, execOp]
        go_simp
      exact hK.out _ _ ⟨ww.heap.size, g2, g3, Y, M, by rw [HA.out]; exact (Reg.fill_up 0 hb rfl rfl rfl).trans (Reg.fill_swap ⟨rfl, rfl, fun _ => rfl, ⟨rfl, rfl, fun _ => rfl, ⟨rfl, rfl, Reg.not_up (show (2 : Nat) ≠ 0 by decide) (hn 2 (by decide)), ⟨rfl, rfl, fun _ => rfl, ⟨rfl, rfl, fun _ => rfl, ⟨rfl, rfl, fun _ => rfl, ⟨rfl, rfl, fun _ => rfl, ⟨rfl, rfl, fun _ => rfl, ⟨rfl, rfl, fun _ => rfl, ⟨rfl, rfl, fun _ => rfl, ⟨rfl, rfl, fun _ => rfl, trivial⟩⟩⟩⟩⟩⟩⟩⟩⟩⟩⟩), HW.a0 hb (hn 2 (by decide)) (hn 4 (by decide)) (hn 5 (by decide))⟩
    refine Reg.steps_cons (i := 1) ?_ ?_
    · rintro bb aa ww ⟨g1, g2, g3, Y, M, ha, HW⟩ hb hd hn
      have HA := Lib.hid ha
      clear ha
      refine ⟨_, rfl, fun K hK => ?_⟩
      refine Reg.do_val rfl rfl (v := .slice (some ⟨ww.heap.size, 0, none⟩) 6 6) (w1 := ww.alloc (.cells #[.int .i64 0, .int .i64 0, .int .i64 0, .int .i64 100, .int .i64 10, .int .i64 10] 2)) ?_ ?_
      · simp only [List.getElem_toArray, List.getElem_cons_succ, List.getElem_cons_zero, execOp]
        go_simp
      exact hK.out _ _ ⟨g1, ww.heap.size, g3, Y, M, by rw [HA.out]; exact (Reg.fill_up 1 hb rfl rfl rfl).trans (Reg.fill_swap ⟨rfl, rfl, fun _ => rfl, ⟨rfl, rfl, fun _ => rfl, ⟨rfl, rfl, Reg.not_up (show (2 : Nat) ≠ 1 by decide) (hn 2 (by decide)), ⟨rfl, rfl, fun _ => rfl, ⟨rfl, rfl, fun _ => rfl, ⟨rfl, rfl, fun _ => rfl, ⟨rfl, rfl, fun _ => rfl, ⟨rfl, rfl, fun _ => rfl, ⟨rfl, rfl, fun _ => rfl, ⟨rfl, rfl, fun _ => rfl, ⟨rfl, rfl, fun _ => rfl, trivial⟩⟩⟩⟩⟩⟩⟩⟩⟩⟩⟩), HW.a1 hb (hn 2 (by decide)) (hn 4 (by decide)) (hn 5 (by decide))⟩
    refine Reg.steps_cons (i := 2) ?_ ?_
    · rintro bb aa ww ⟨g1, g2, g3, Y, M, ha, HW⟩ hb hd hn
      have e21 : aa.tmps[21]? = some (.slice (some ⟨g1, 0, none⟩) 1 1) := by rw [ha]; exact Reg.fill_on 0 rfl rfl (hd 0 (by decide)) rfl
      have e22 : aa.tmps[22]? = some (.slice (some ⟨g2, 0, none⟩) 6 6) := by rw [ha]; exact Reg.fill_on 1 rfl rfl (hd 1 (by decide)) rfl
      have HA := Lib.hid ha
      clear ha
      refine ⟨_, rfl, fun K hK => ?_⟩
      refine Reg.do_call rfl rfl Tryz.func25 (by kernel_rfl) rfl #[.string { data := #[102, 114, 101, 101] }, .slice (some ⟨g1, 0, none⟩) 1 1, .slice (some ⟨g2, 0, none⟩) 6 6] rfl (by simp [Reg.eval_tmp e21, Reg.eval_tmp e22]; rfl) ?_
      refine (fact_any ww _ _ _ _ _ _ _).mono ?_; rintro e w3 ⟨rfl, hb3⟩; refine ⟨_, rfl, ?_⟩
      exact hK.out _ _ ⟨g1, g2, g3, Y, M, by rw [HA.out]; exact Reg.fill_up 2 hb rfl rfl rfl, (HW.grow hb3 (hn 5 (by decide))).keep (show 2 ∉ [0, 1, 4, 5] by decide)⟩
    refine Reg.steps_cons (i := 3) ?_ ?_
    · rintro bb aa ww ⟨g1, g2, g3, Y, M, ha, HW⟩ hb hd hn
      have e1 : aa.tmps[1]? = some (.pointer (some ⟨w2.heap.size, 0, none⟩)) := by rw [ha]; exact (Reg.fill_off rfl).trans rfl
      have HA := Lib.hid ha
      clear ha
      refine ⟨_, rfl, fun K hK => ?_⟩
      refine Reg.do_load rfl rfl 39 _ rfl w2.heap.size (Reg.eval_tmp e1) (HW.old RT.out) Tryz.underlying39 rfl (by kernel_rfl) ?_
      exact hK.out _ _ ⟨g1, g2, g3, Y, M, by rw [HA.out]; exact Reg.fill_up 3 hb rfl rfl rfl, HW.keep (show 3 ∉ [0, 1, 4, 5] by decide)⟩
    refine Reg.steps_cons (i := 4) ?_ ?_
    · rintro bb aa ww ⟨g1, g2, g3, Y, M, ha, HW⟩ hb hd hn
      have e23 : aa.tmps[23]? = some (.agg #[.string { data := #[102, 114, 101, 101] }, .slice (some ⟨g1, 0, none⟩) 1 1, .slice (some ⟨g2, 0, none⟩) 6 6]) := by rw [ha]; exact Reg.fill_on 2 rfl rfl (hd 2 (by decide)) rfl
      have e24 : aa.tmps[24]? = some (.agg #[.string { data := #[99, 117, 116] }, .slice (some ⟨w.heap.size, 0, none⟩) 3 3, .slice (some ⟨(w.heap.size + 1), 0, none⟩) 3 3]) := by rw [ha]; exact Reg.fill_on 3 rfl rfl (hd 3 (by decide)) rfl
      have HA := Lib.hid ha
      clear ha
      refine ⟨_, rfl, fun K hK => ?_⟩
      refine Reg.do_val rfl rfl (v := .slice (some ⟨ww.heap.size, 0, none⟩) 2 2) (w1 := ww.alloc (.cells #[.string { data := #[102, 114, 101, 101] }, .slice (some ⟨g1, 0, none⟩) 1 1, .slice (some ⟨g2, 0, none⟩) 6 6, .string { data := #[99, 117, 116] }, .slice (some ⟨w.heap.size, 0, none⟩) 3 3, .slice (some ⟨(w.heap.size + 1), 0, none⟩) 3 3] 39)) ?_ ?_
      · simp only [List.getElem_toArray, List.getElem_cons_succ, List.getElem_cons_zero, execOp]
        go_simp
      exact hK.out _ _ ⟨g1, g2, ww.heap.size, Y, M, by rw [HA.out]; exact Reg.fill_up 4 hb rfl rfl rfl, HW.a4 (hn 5 (by decide))⟩
    refine Reg.steps_cons (i := 5) ?_ ?_
    · rintro bb aa ww ⟨g1, g2, g3, Y, M, ha, HW⟩ hb hd hn
      have e25 : aa.tmps[25]? = some (.slice (some ⟨g3, 0, none⟩) 2 2) := by rw [ha]; exact Reg.fill_on 4 rfl rfl (hd 4 (by decide)) rfl
      have HA := Lib.hid ha
      clear ha
      refine ⟨_, rfl, fun K hK => ?_⟩
      refine Reg.do_call rfl rfl Tryz.func10 (by kernel_rfl) rfl #[.slice (some ⟨g3, 0, none⟩) 2 2] rfl (by simp [Reg.eval_tmp e25]) ?_
      refine (replay_any (HW.list (hd 0 (by decide)) (hd 1 (by decide)) (hd 4 (by decide)) RN.out RV.out) (by decide) aw_short).mono ?_; rintro e w3 ⟨Y', M', rfl, hy3, hb3⟩; rw [Yp.aw_rep] at hy3 ⊢; refine ⟨_, rfl, ?_⟩
      exact hK.out _ _ ⟨g1, g2, g3, Y', M', by rw [HA.out]; exact (Reg.fill_up 5 hb rfl rfl rfl).trans (Reg.fill_swap ⟨rfl, rfl, fun _ => rfl, ⟨rfl, rfl, fun _ => rfl, ⟨rfl, rfl, fun _ => rfl, ⟨rfl, rfl, fun _ => rfl, ⟨rfl, rfl, fun _ => rfl, ⟨rfl, rfl, fun _ => rfl, ⟨rfl, rfl, Reg.not_up (show (6 : Nat) ≠ 5 by decide) (hn 6 (by decide)), ⟨rfl, rfl, Reg.not_up (show (7 : Nat) ≠ 5 by decide) (hn 7 (by decide)), ⟨rfl, rfl, fun _ => rfl, ⟨rfl, rfl, Reg.not_up (show (9 : Nat) ≠ 5 by decide) (hn 9 (by decide)), ⟨rfl, rfl, fun _ => rfl, trivial⟩⟩⟩⟩⟩⟩⟩⟩⟩⟩⟩), HW.call hy3 hb3⟩
    refine Reg.steps_cons (i := 6) ?_ ?_
    · rintro bb aa ww ⟨g1, g2, g3, Y, M, ha, HW⟩ hb hd hn
      have e26 : aa.tmps[26]? = some (.tuple #[.pointer (some ⟨Y, 0, none⟩), .int .i64 (-1)]) := by rw [ha]; exact Reg.fill_on 5 rfl rfl (hd 5 (by decide)) rfl
      have HA := Lib.hid ha
      clear ha
      refine ⟨_, rfl, fun K hK => ?_⟩
      refine Reg.do_val rfl rfl (v := .tuple #[.pointer (some ⟨Y, 0, none⟩), .int .i64 (-1)]) (w1 := ww) (by simp only [List.getElem_toArray, List.getElem_cons_succ, List.getElem_cons_zero, execOp, Reg.eval_tmp e26]; rfl) ?_
      exact hK.out _ _ ⟨g1, g2, g3, Y, M, by rw [HA.out]; exact Reg.fill_up 6 hb rfl rfl rfl, HW.keep (show 6 ∉ [0, 1, 4, 5] by decide)⟩
    refine Reg.steps_cons (i := 7) ?_ ?_
    · rintro bb aa ww ⟨g1, g2, g3, Y, M, ha, HW⟩ hb hd hn
      have e20 : aa.tmps[20]? = some (.tuple #[.pointer (some ⟨Y, 0, none⟩), .int .i64 (-1)]) := by rw [ha]; exact Reg.fill_on 6 rfl rfl (hd 6 (by decide)) rfl
      have HA := Lib.hid ha
      clear ha
      refine ⟨_, rfl, fun K hK => ?_⟩
      refine Reg.do_val rfl rfl (v := .pointer (some ⟨Y, 0, none⟩)) (w1 := ww) ?_ ?_
      · simp only [List.getElem_toArray, List.getElem_cons_succ, List.getElem_cons_zero, execOp, Reg.eval_tmp e20]
        go_simp
      exact hK.out _ _ ⟨g1, g2, g3, Y, M, by rw [HA.out]; exact Reg.fill_up 7 hb rfl rfl rfl, HW.keep (show 7 ∉ [0, 1, 4, 5] by decide)⟩
    refine Reg.steps_cons (i := 8) ?_ ?_
    · rintro bb aa ww ⟨g1, g2, g3, Y, M, ha, HW⟩ hb hd hn
      have e20 : aa.tmps[20]? = some (.tuple #[.pointer (some ⟨Y, 0, none⟩), .int .i64 (-1)]) := by rw [ha]; exact Reg.fill_on 6 rfl rfl (hd 6 (by decide)) rfl
      have HA := Lib.hid ha
      clear ha
      refine ⟨_, rfl, fun K hK => ?_⟩
      refine Reg.do_val rfl rfl (v := .int .i64 (-1)) (w1 := ww) ?_ ?_
      · simp only [List.getElem_toArray, List.getElem_cons_succ, List.getElem_cons_zero, execOp, Reg.eval_tmp e20]
        go_simp
      exact hK.out _ _ ⟨g1, g2, g3, Y, M, by rw [HA.out]; exact Reg.fill_up 8 hb rfl rfl rfl, HW.keep (show 8 ∉ [0, 1, 4, 5] by decide)⟩
    refine Reg.steps_cons (i := 9) ?_ ?_
    · rintro bb aa ww ⟨g1, g2, g3, Y, M, ha, HW⟩ hb hd hn
      have e27 : aa.tmps[27]? = some (.pointer (some ⟨Y, 0, none⟩)) := by rw [ha]; exact Reg.fill_on 7 rfl rfl (hd 7 (by decide)) rfl
      have HA := Lib.hid ha
      clear ha
      refine ⟨_, rfl, fun K hK => ?_⟩
      refine Reg.do_val rfl rfl (v := .pointer (some ⟨Y, 0, none⟩)) (w1 := ww) (by simp only [List.getElem_toArray, List.getElem_cons_succ, List.getElem_cons_zero, execOp, Reg.eval_tmp e27]; rfl) ?_
      exact hK.out _ _ ⟨g1, g2, g3, Y, M, by rw [HA.out]; exact Reg.fill_up 9 hb rfl rfl rfl, HW.keep (show 9 ∉ [0, 1, 4, 5] by decide)⟩
    refine Reg.steps_cons (i := 10) ?_ ?_
    · rintro bb aa ww ⟨g1, g2, g3, Y, M, ha, HW⟩ hb hd hn
      have e28 : aa.tmps[28]? = some (.int .i64 (-1)) := by rw [ha]; exact Reg.fill_on 8 rfl rfl (hd 8 (by decide)) rfl
      have HA := Lib.hid ha
      clear ha
      refine ⟨_, rfl, fun K hK => ?_⟩
      refine Reg.do_val rfl rfl (v := .int .i64 (-1)) (w1 := ww) (by simp only [List.getElem_toArray, List.getElem_cons_succ, List.getElem_cons_zero, execOp, Reg.eval_tmp e28]; rfl) ?_
      exact hK.out _ _ ⟨g1, g2, g3, Y, M, by rw [HA.out]; exact Reg.fill_up 10 hb rfl rfl rfl, HW.keep (show 10 ∉ [0, 1, 4, 5] by decide)⟩
    exact trivial
  rintro bb aa W3 hall ⟨g1, g2, g3, Y, M, ha, HW⟩
  obtain ⟨⟨FS, hy, hF⟩, hY, hM⟩ := HW.y (hall 5 (by decide))
  have HAS : Hid (AS w Y M FS Yp.aw1 W3) := Lib.hid ⟨hy, Nat.le_trans HB3.out.size hY, Nat.le_trans HB3.out.size hM, fun g e => Nat.le_trans HB3.out.size (hF g e), HB3.out.trans (HW.be.mono HB3.out.size)⟩
  have Q0 := Lib.hid (HW.rem P0.out hY hM hF)
  have Q1 := Lib.hid (HW.rem P1.out hY hM hF)
  have QT := Lib.hid (HW.rem RT.out hY hM hF)
  have hg1 := And.intro (HW.r1 (hall 0 (by decide))).1 (HW.r2 (hall 1 (by decide))).1
  clear HW hy hF hY hM hg1 P0 P1 RT RN RV HB1 HB2
  have hb0 := hall 0 (by decide)
  have hb1 := hall 1 (by decide)
  have hb2 := hall 2 (by decide)
  have hb3 := hall 3 (by decide)
  have hb4 := hall 4 (by decide)
  have hb5 := hall 5 (by decide)
  have hb6 := hall 6 (by decide)
  have hb7 := hall 7 (by decide)
  have hb8 := hall 8 (by decide)
  have hb9 := hall 9 (by decide)
  have hb10 := hall 10 (by decide)
  simp only [Reg.fill, hb0, hb1, hb2, hb3, hb4, hb5, hb6, hb7, hb8, hb9, hb10, if_true, Act.put, List.setIfInBounds_toArray, List.set_cons_zero, List.set_cons_succ] at ha
  clear hb0 hb1 hb2 hb3 hb4 hb5 hb6 hb7 hb8 hb9 hb10 hall
  subst ha
  have ht := totals_any HAS.out.yat Yp.aw_inv1
  rw [aw_tot] at ht
  go_wp2_with fail
  refine ht.mono ?_; rintro e w4 ⟨rfl, hb4⟩
  have HAS := Lib.hid (HAS.out.below hb4)
  have Q0 := Lib.hid (Q0.out.below hb4)
  have Q1 := Lib.hid (Q1.out.below hb4)
  have QT := Lib.hid (QT.out.below hb4)
  clear ht hb4
  go_wp2_with fail
  have Q4 := Lib.hid (Rem.new HAS.out.yat #[.int .i64 10000, .int .i64 0, .int .i64 9200, .int .i64 0, .int .i64 0, .int .i64 0, .int .i64 0, .int .i64 800] 53)
  have HAS := Lib.hid (HAS.out.below (al_below w4 (.cells #[.int .i64 10000, .int .i64 0, .int .i64 9200, .int .i64 0, .int .i64 0, .int .i64 0, .int .i64 0, .int .i64 800] 53)))
  have Q0 := Lib.hid (Q0.out.below (al_below w4 (.cells #[.int .i64 10000, .int .i64 0, .int .i64 9200, .int .i64 0, .int .i64 0, .int .i64 0, .int .i64 0, .int .i64 800] 53)))
  have Q1 := Lib.hid (Q1.out.below (al_below w4 (.cells #[.int .i64 10000, .int .i64 0, .int .i64 9200, .int .i64 0, .int .i64 0, .int .i64 0, .int .i64 0, .int .i64 800] 53)))
  have QT := Lib.hid (QT.out.below (al_below w4 (.cells #[.int .i64 10000, .int .i64 0, .int .i64 9200, .int .i64 0, .int .i64 0, .int .i64 0, .int .i64 0, .int .i64 800] 53)))
  generalize w4.alloc (.cells #[.int .i64 10000, .int .i64 0, .int .i64 9200, .int .i64 0, .int .i64 0, .int .i64 0, .int .i64 0, .int .i64 800] 53) = W4 at *
  have hpth := path_any HAS.out.yat (id := Yp.sR) (x := Yp.itR) (l := [Yp.sB]) (by kernel_rfl) (.step Yp.itR Yp.itB [] (by decide) (by kernel_rfl) (.top Yp.itB rfl)) (by decide)
  go_wp2_with fail
  refine hpth.mono ?_; rintro e w5 ⟨vp, rfl, hop, hb5⟩
  obtain ⟨gp, cp, rfl, hgp, _⟩ := own_slice hop (by decide)
  obtain ⟨cur, hqp, hcur⟩ := own_rem hop HAS.out
  have HAS := Lib.hid (HAS.out.below hb5)
  have Q0 := Lib.hid (Q0.out.below hb5)
  have Q1 := Lib.hid (Q1.out.below hb5)
  have QT := Lib.hid (QT.out.below hb5)
  have Q4 := Lib.hid (Q4.out.below hb5)
  have QP := Lib.hid hqp
  have HCUR := Lib.hid hcur
  clear hop hgp hqp hcur hb5
  go_wp2_with fail
  have QN := Lib.hid (Rem.new HAS.out.yat #[.string { data := #[108] }, .string { data := #[115] }] 9)
  have HAS := Lib.hid (HAS.out.below (al_below w5 (.cells #[.string { data := #[108] }, .string { data := #[115] }] 9)))
  have Q0 := Lib.hid (Q0.out.below (al_below w5 (.cells #[.string { data := #[108] }, .string { data := #[115] }] 9)))
  have Q1 := Lib.hid (Q1.out.below (al_below w5 (.cells #[.string { data := #[108] }, .string { data := #[115] }] 9)))
  have QT := Lib.hid (QT.out.below (al_below w5 (.cells #[.string { data := #[108] }, .string { data := #[115] }] 9)))
  have Q4 := Lib.hid (Q4.out.below (al_below w5 (.cells #[.string { data := #[108] }, .string { data := #[115] }] 9)))
  have QP := Lib.hid (QP.out.below (al_below w5 (.cells #[.string { data := #[108] }, .string { data := #[115] }] 9)))
  have hf := fact_any (w5.alloc (.cells #[.string { data := #[108] }, .string { data := #[115] }] 9)) Yp.asgF.kind (some ⟨w5.heap.size, 0, none⟩) none 2 2 0 0
  generalize w5.alloc (.cells #[.string { data := #[108] }, .string { data := #[115] }] 9) = W5 at *
  refine hf.mono ?_; rintro e w6 ⟨rfl, hb6⟩
  have HAS := Lib.hid (HAS.out.below hb6)
  have Q0 := Lib.hid (Q0.out.below hb6)
  have Q1 := Lib.hid (Q1.out.below hb6)
  have QT := Lib.hid (QT.out.below hb6)
  have Q4 := Lib.hid (Q4.out.below hb6)
  have QP := Lib.hid (QP.out.below hb6)
  have QN := Lib.hid (QN.out.below hb6)
  clear hf hb6
  go_wp2_with fail
  have hdo := do_aw HAS.out Yp.aw_inv1 (by decide) (by decide) Yp.asgF (.slice (some ⟨w5.heap.size, 0, none⟩) 2 2) (.slice none 0 0) (rd_rem (l := strV Yp.asgF.names) QN.out) (rd_nl _ _) Yp.aw_s2 Yp.aw_asg
  rw [Yp.aw_asg2] at hdo
  refine hdo.mono ?_; rintro e w7 ⟨rfl, FS2, has7, hrem7⟩
  have Q0 := Lib.hid (hrem7 _ _ Q0.out)
  have Q1 := Lib.hid (hrem7 _ _ Q1.out)
  have QT := Lib.hid (hrem7 _ _ QT.out)
  have Q4 := Lib.hid (hrem7 _ _ Q4.out)
  have QP := Lib.hid (hrem7 _ _ QP.out)
  have HAS := Lib.hid has7
  clear hdo has7 hrem7 QN
  go_wp2_with fail
  have QN := Lib.hid (Rem.new HAS.out.yat #[.string { data := #[108] }] 9)
  have HAS := Lib.hid (HAS.out.below (al_below w7 (.cells #[.string { data := #[108] }] 9)))
  have Q0 := Lib.hid (Q0.out.below (al_below w7 (.cells #[.string { data := #[108] }] 9)))
  have Q1 := Lib.hid (Q1.out.below (al_below w7 (.cells #[.string { data := #[108] }] 9)))
  have QT := Lib.hid (QT.out.below (al_below w7 (.cells #[.string { data := #[108] }] 9)))
  have Q4 := Lib.hid (Q4.out.below (al_below w7 (.cells #[.string { data := #[108] }] 9)))
  have QP := Lib.hid (QP.out.below (al_below w7 (.cells #[.string { data := #[108] }] 9)))
  have hf := fact_any (w7.alloc (.cells #[.string { data := #[108] }] 9)) Yp.setF.kind (some ⟨w7.heap.size, 0, none⟩) none 1 1 0 0
  generalize w7.alloc (.cells #[.string { data := #[108] }] 9) = W7 at *
  refine hf.mono ?_; rintro e w8 ⟨rfl, hb8⟩
  have HAS := Lib.hid (HAS.out.below hb8)
  have Q0 := Lib.hid (Q0.out.below hb8)
  have Q1 := Lib.hid (Q1.out.below hb8)
  have QT := Lib.hid (QT.out.below hb8)
  have Q4 := Lib.hid (Q4.out.below hb8)
  have QP := Lib.hid (QP.out.below hb8)
  have QN := Lib.hid (QN.out.below hb8)
  clear hf hb8
  go_wp2_with fail
  have hdo := do_aw HAS.out Yp.aw_inv2 (by decide) (by decide) Yp.setF (.slice (some ⟨w7.heap.size, 0, none⟩) 1 1) (.slice none 0 0) (rd_rem (l := strV Yp.setF.names) QN.out) (rd_nl _ _) Yp.aw_s3 Yp.aw_set
  rw [Yp.aw_set2] at hdo
  refine hdo.mono ?_; rintro e w9 ⟨rfl, FS3, has9, hrem9⟩
  have Q0 := Lib.hid (hrem9 _ _ Q0.out)
  have Q1 := Lib.hid (hrem9 _ _ Q1.out)
  have QT := Lib.hid (hrem9 _ _ QT.out)
  have Q4 := Lib.hid (hrem9 _ _ Q4.out)
  have QP := Lib.hid (hrem9 _ _ QP.out)
  have HAS := Lib.hid has9
  clear hdo has9 hrem9 QN
  have hst := stone_any HAS.out.yat Yp.sS
  go_wp2_with fail
  refine hst.mono ?_; rintro e w10 ⟨h10, hb10⟩
  have HAS := Lib.hid (HAS.out.below hb10)
  have Q0 := Lib.hid (Q0.out.below hb10)
  have Q1 := Lib.hid (Q1.out.below hb10)
  have QT := Lib.hid (QT.out.below hb10)
  have Q4 := Lib.hid (Q4.out.below hb10)
  have QP := Lib.hid (QP.out.below hb10)
  rcases h10 with ⟨x, hx, _, hxs, rfl⟩ | ⟨h10, _⟩
  rotate_left
  · rcases h10 with h10 | h10
    · exact absurd h10 (by decide)
    · exact absurd rfl (h10 (Yp.itL 4 Yp.sS) (.tail _ (.head _)))
  obtain rfl := aw_stone x hx hxs
  clear hx hxs hst hb10
  rw [show itC (Yp.itL 4 Yp.sS) = #[.string { data := #[108] }, .string { data := #[98] }, .int .i64 0, .int .i64 0, .int .i64 0, .int .i64 40, .int .i64 10, .int .i64 10, .int .i64 4, .string { data := #[115] }] from rfl]
  have Q9 := Lib.hid (Rem.new HAS.out.yat #[.string { data := #[108] }, .string { data := #[98] }, .int .i64 0, .int .i64 0, .int .i64 0, .int .i64 40, .int .i64 10, .int .i64 10, .int .i64 4, .string { data := #[115] }] 47)
  have HAS := Lib.hid (HAS.out.below (al_below w10 (.cells #[.string { data := #[108] }, .string { data := #[98] }, .int .i64 0, .int .i64 0, .int .i64 0, .int .i64 40, .int .i64 10, .int .i64 10, .int .i64 4, .string { data := #[115] }] 47)))
  have Q0 := Lib.hid (Q0.out.below (al_below w10 (.cells #[.string { data := #[108] }, .string { data := #[98] }, .int .i64 0, .int .i64 0, .int .i64 0, .int .i64 40, .int .i64 10, .int .i64 10, .int .i64 4, .string { data := #[115] }] 47)))
  have Q1 := Lib.hid (Q1.out.below (al_below w10 (.cells #[.string { data := #[108] }, .string { data := #[98] }, .int .i64 0, .int .i64 0, .int .i64 0, .int .i64 40, .int .i64 10, .int .i64 10, .int .i64 4, .string { data := #[115] }] 47)))
  have QT := Lib.hid (QT.out.below (al_below w10 (.cells #[.string { data := #[108] }, .string { data := #[98] }, .int .i64 0, .int .i64 0, .int .i64 0, .int .i64 40, .int .i64 10, .int .i64 10, .int .i64 4, .string { data := #[115] }] 47)))
  have Q4 := Lib.hid (Q4.out.below (al_below w10 (.cells #[.string { data := #[108] }, .string { data := #[98] }, .int .i64 0, .int .i64 0, .int .i64 0, .int .i64 40, .int .i64 10, .int .i64 10, .int .i64 4, .string { data := #[115] }] 47)))
  have QP := Lib.hid (QP.out.below (al_below w10 (.cells #[.string { data := #[108] }, .string { data := #[98] }, .int .i64 0, .int .i64 0, .int .i64 0, .int .i64 40, .int .i64 10, .int .i64 10, .int .i64 4, .string { data := #[115] }] 47)))
  have k0 := (row_cells QT.out.row).1 0
  have k1 := (row_cells QT.out.row).1 1
  have k2 := (row_cells QT.out.row).1 2
  have hen := enc_any (w := w10.alloc (.cells #[.string { data := #[108] }, .string { data := #[98] }, .int .i64 0, .int .i64 0, .int .i64 0, .int .i64 40, .int .i64 10, .int .i64 10, .int .i64 4, .string { data := #[115] }] 47)) Yp.cutF (.slice (some ⟨w.heap.size, 0, none⟩) 3 3) (.slice (some ⟨w.heap.size + 1, 0, none⟩) 3 3) (rd_rem (l := strV Yp.cutF.names) Q0.out) (rd_rem (l := intV Yp.cutF.vals) Q1.out) Yp.aw_s6 Yp.aw_i6 (HE.out.on HAS.out.be).tab
  rw [Yp.aw_enc] at hen
  have HEN := Lib.hid hen
  clear hen
  go_wp2_with fail
  clear k0 k1 k2
  generalize w10.alloc (.cells #[.string { data := #[108] }, .string { data := #[98] }, .int .i64 0, .int .i64 0, .int .i64 0, .int .i64 40, .int .i64 10, .int .i64 10, .int .i64 4, .string { data := #[115] }] 47) = W10 at *
  refine HEN.out.mono ?_; rintro e w11 ⟨rfl, hb11⟩
  have HAS := Lib.hid (HAS.out.below hb11)
  have Q0 := Lib.hid (Q0.out.below hb11)
  have Q1 := Lib.hid (Q1.out.below hb11)
  have QT := Lib.hid (QT.out.below hb11)
  have Q4 := Lib.hid (Q4.out.below hb11)
  have QP := Lib.hid (QP.out.below hb11)
  have Q9 := Lib.hid (Q9.out.below hb11)
  clear HEN hb11
  have hde := dec_any (HE.out.on HAS.out.be) Yp.sCut (by decide)
  rw [Yp.aw_dec] at hde
  go_wp2_with fail
  rw [show Yp.sCut = ({ data := #[99, 117, 116, 32, 98, 32, 108, 32, 114, 32, 48, 32, 52, 48, 32, 56] } : ByteArray) from rfl]
  refine hde.mono ?_; rintro e w12 ⟨dn, dv, rfl, hdn, hdv, hb12⟩
  have HAS := Lib.hid (HAS.out.below hb12)
  have Q0 := Lib.hid (Q0.out.below hb12)
  have Q1 := Lib.hid (Q1.out.below hb12)
  have QT := Lib.hid (QT.out.below hb12)
  have Q4 := Lib.hid (Q4.out.below hb12)
  have QP := Lib.hid (QP.out.below hb12)
  have Q9 := Lib.hid (Q9.out.below hb12)
  obtain ⟨An, cn, rfl, hxn⟩ := id hdn
  obtain ⟨Av, cv, rfl, hxv⟩ := id hdv
  have DN := Lib.hid (hdn.mono fun _ _ _ => trivial : Rd w12 (fun _ => True) _ _)
  have DV := Lib.hid (hdv.mono fun _ _ _ => trivial : Rd w12 (fun _ => True) _ _)
  clear hxn hxv hdn hdv hde hb12
  have hl3 : (strV Yp.cutF.names).length = 3 := rfl
  have hl4 : (intV Yp.cutF.vals).length = 3 := rfl
  rw [hl3] at DN ⊢
  rw [hl4] at DV ⊢
  clear hl3 hl4
  rw [show Yp.cutF.kind = ({ data := #[99, 117, 116] } : ByteArray) from rfl]
  go_wp2_with fail
  have QD := Lib.hid (Rem.new HAS.out.yat #[.string { data := #[99, 117, 116] }, .slice An 3 cn, .slice Av 3 cv] 39)
  have HAS := Lib.hid (HAS.out.below (al_below w12 (.cells #[.string { data := #[99, 117, 116] }, .slice An 3 cn, .slice Av 3 cv] 39)))
  have Q0 := Lib.hid (Q0.out.below (al_below w12 (.cells #[.string { data := #[99, 117, 116] }, .slice An 3 cn, .slice Av 3 cv] 39)))
  have Q1 := Lib.hid (Q1.out.below (al_below w12 (.cells #[.string { data := #[99, 117, 116] }, .slice An 3 cn, .slice Av 3 cv] 39)))
  have QT := Lib.hid (QT.out.below (al_below w12 (.cells #[.string { data := #[99, 117, 116] }, .slice An 3 cn, .slice Av 3 cv] 39)))
  have Q4 := Lib.hid (Q4.out.below (al_below w12 (.cells #[.string { data := #[99, 117, 116] }, .slice An 3 cn, .slice Av 3 cv] 39)))
  have QP := Lib.hid (QP.out.below (al_below w12 (.cells #[.string { data := #[99, 117, 116] }, .slice An 3 cn, .slice Av 3 cv] 39)))
  have Q9 := Lib.hid (Q9.out.below (al_below w12 (.cells #[.string { data := #[99, 117, 116] }, .slice An 3 cn, .slice Av 3 cv] 39)))
  have DN := Lib.hid (DN.out.below (al_below w12 (.cells #[.string { data := #[99, 117, 116] }, .slice An 3 cn, .slice Av 3 cv] 39)))
  have DV := Lib.hid (DV.out.below (al_below w12 (.cells #[.string { data := #[99, 117, 116] }, .slice An 3 cn, .slice Av 3 cv] 39)))
  generalize w12.alloc (.cells #[.string { data := #[99, 117, 116] }, .slice An 3 cn, .slice Av 3 cv] 39) = W12 at *
  have hfi := find_found HAS.out.yat (id := Yp.sR) (x := Yp.itR) (by kernel_rfl)
  rw [show itC Yp.itR = #[.string { data := #[114] }, .string { data := #[98] }, .int .i64 48, .int .i64 0, .int .i64 0, .int .i64 100, .int .i64 10, .int .i64 10, .int .i64 1, .string { data := #[] }] from rfl] at hfi
  refine hfi.mono ?_; rintro e w13 ⟨rfl, hb13⟩
  have HAS := Lib.hid (HAS.out.below hb13)
  have Q0 := Lib.hid (Q0.out.below hb13)
  have Q1 := Lib.hid (Q1.out.below hb13)
  have QT := Lib.hid (QT.out.below hb13)
  have Q4 := Lib.hid (Q4.out.below hb13)
  have QP := Lib.hid (QP.out.below hb13)
  have Q9 := Lib.hid (Q9.out.below hb13)
  have QD := Lib.hid (QD.out.below hb13)
  have DN := Lib.hid (DN.out.below hb13)
  have DV := Lib.hid (DV.out.below hb13)
  clear hfi hb13
  have QF := Lib.hid (Rem.new HAS.out.yat #[.string { data := #[114] }, .string { data := #[98] }, .int .i64 48, .int .i64 0, .int .i64 0, .int .i64 100, .int .i64 10, .int .i64 10, .int .i64 1, .string { data := #[] }] 47)
  have HAS := Lib.hid (HAS.out.below (al_below w13 (.cells #[.string { data := #[114] }, .string { data := #[98] }, .int .i64 48, .int .i64 0, .int .i64 0, .int .i64 100, .int .i64 10, .int .i64 10, .int .i64 1, .string { data := #[] }] 47)))
  have Q0 := Lib.hid (Q0.out.below (al_below w13 (.cells #[.string { data := #[114] }, .string { data := #[98] }, .int .i64 48, .int .i64 0, .int .i64 0, .int .i64 100, .int .i64 10, .int .i64 10, .int .i64 1, .string { data := #[] }] 47)))
  have Q1 := Lib.hid (Q1.out.below (al_below w13 (.cells #[.string { data := #[114] }, .string { data := #[98] }, .int .i64 48, .int .i64 0, .int .i64 0, .int .i64 100, .int .i64 10, .int .i64 10, .int .i64 1, .string { data := #[] }] 47)))
  have QT := Lib.hid (QT.out.below (al_below w13 (.cells #[.string { data := #[114] }, .string { data := #[98] }, .int .i64 48, .int .i64 0, .int .i64 0, .int .i64 100, .int .i64 10, .int .i64 10, .int .i64 1, .string { data := #[] }] 47)))
  have Q4 := Lib.hid (Q4.out.below (al_below w13 (.cells #[.string { data := #[114] }, .string { data := #[98] }, .int .i64 48, .int .i64 0, .int .i64 0, .int .i64 100, .int .i64 10, .int .i64 10, .int .i64 1, .string { data := #[] }] 47)))
  have QP := Lib.hid (QP.out.below (al_below w13 (.cells #[.string { data := #[114] }, .string { data := #[98] }, .int .i64 48, .int .i64 0, .int .i64 0, .int .i64 100, .int .i64 10, .int .i64 10, .int .i64 1, .string { data := #[] }] 47)))
  have Q9 := Lib.hid (Q9.out.below (al_below w13 (.cells #[.string { data := #[114] }, .string { data := #[98] }, .int .i64 48, .int .i64 0, .int .i64 0, .int .i64 100, .int .i64 10, .int .i64 10, .int .i64 1, .string { data := #[] }] 47)))
  have QD := Lib.hid (QD.out.below (al_below w13 (.cells #[.string { data := #[114] }, .string { data := #[98] }, .int .i64 48, .int .i64 0, .int .i64 0, .int .i64 100, .int .i64 10, .int .i64 10, .int .i64 1, .string { data := #[] }] 47)))
  have DN := Lib.hid (DN.out.below (al_below w13 (.cells #[.string { data := #[114] }, .string { data := #[98] }, .int .i64 48, .int .i64 0, .int .i64 0, .int .i64 100, .int .i64 10, .int .i64 10, .int .i64 1, .string { data := #[] }] 47)))
  have DV := Lib.hid (DV.out.below (al_below w13 (.cells #[.string { data := #[114] }, .string { data := #[98] }, .int .i64 48, .int .i64 0, .int .i64 0, .int .i64 100, .int .i64 10, .int .i64 10, .int .i64 1, .string { data := #[] }] 47)))
  have l0 := (row_cells Q4.out.row).1 0
  have l1 := (row_cells Q4.out.row).1 1
  have l2 := (row_cells Q4.out.row).1 2
  have l3 := (row_cells Q4.out.row).1 3
  have l4 := (row_cells Q4.out.row).1 4
  have l5 := (row_cells Q4.out.row).1 5
  have l6 := (row_cells Q4.out.row).1 6
  have l7 := (row_cells Q4.out.row).1 7
  have m0 := ((row_cells QP.out.row).1 0).trans (HCUR.out 0 (.string { data := #[98] }) rfl)
  have m1 := ((row_cells QP.out.row).1 1).trans (HCUR.out 1 (.string { data := #[114] }) rfl)
  have n0 := (row_cells Q9.out.row).1 0
  have n5 := (row_cells Q9.out.row).1 5
  have n8 := (row_cells Q9.out.row).1 8
  have heq : (Op.equalIn 9999 51 (.agg #[.int .i64 0, .int .i64 9200, .int .i64 0, .int .i64 0, .int .i64 0, .int .i64 0]) (.agg #[.int .i64 0, .int .i64 9200, .int .i64 0, .int .i64 0, .int .i64 0, .int .i64 0])).run Tryz.prog (w13.alloc (.cells #[.string { data := #[114] }, .string { data := #[98] }, .int .i64 48, .int .i64 0, .int .i64 0, .int .i64 100, .int .i64 10, .int .i64 10, .int .i64 1, .string { data := #[] }] 47)) = .ok true (w13.alloc (.cells #[.string { data := #[114] }, .string { data := #[98] }, .int .i64 48, .int .i64 0, .int .i64 0, .int .i64 100, .int .i64 10, .int .i64 10, .int .i64 1, .string { data := #[] }] 47)) := by kernel_rfl
  go_wp2_with fail
  have hsz : (w13.alloc (.cells #[.string { data := #[114] }, .string { data := #[98] }, .int .i64 48, .int .i64 0, .int .i64 0, .int .i64 100, .int .i64 10, .int .i64 10, .int .i64 1, .string { data := #[] }] 47)).heap.size = w13.heap.size + 1 := by simp
  have hbx := al_below (w13.alloc (.cells #[.string { data := #[114] }, .string { data := #[98] }, .int .i64 48, .int .i64 0, .int .i64 0, .int .i64 100, .int .i64 10, .int .i64 10, .int .i64 1, .string { data := #[] }] 47)) (.cells #[.string { data := #[114] }, .string { data := #[115] }] 9)
  have hqn := Rem.new HAS.out.yat #[.string { data := #[114] }, .string { data := #[115] }] 9
  rw [hsz] at hqn
  have QN := Lib.hid hqn
  have HAS := Lib.hid (HAS.out.below hbx)
  have Q0 := Lib.hid (Q0.out.below hbx)
  have Q1 := Lib.hid (Q1.out.below hbx)
  have QT := Lib.hid (QT.out.below hbx)
  have Q4 := Lib.hid (Q4.out.below hbx)
  have QP := Lib.hid (QP.out.below hbx)
  have Q9 := Lib.hid (Q9.out.below hbx)
  have QD := Lib.hid (QD.out.below hbx)
  have QF := Lib.hid (QF.out.below hbx)
  have DN := Lib.hid (DN.out.below hbx)
  have DV := Lib.hid (DV.out.below hbx)
  clear hqn hsz hbx heq l0 l1 l2 l3 l4 l5 l6 l7 m0 m1 n0 n5 n8
  have hf := fun W => fact_any W Yp.asg2F.kind (some ⟨w13.heap.size + 1, 0, none⟩) none 2 2 0 0
  generalize (w13.alloc (.cells #[.string { data := #[114] }, .string { data := #[98] }, .int .i64 48, .int .i64 0, .int .i64 0, .int .i64 100, .int .i64 10, .int .i64 10, .int .i64 1, .string { data := #[] }] 47)).alloc (.cells #[.string { data := #[114] }, .string { data := #[115] }] 9) = W14 at *
  refine (hf W14).mono ?_; rintro e w15 ⟨rfl, hb15⟩
  have HAS := Lib.hid (HAS.out.below hb15)
  have Q0 := Lib.hid (Q0.out.below hb15)
  have Q1 := Lib.hid (Q1.out.below hb15)
  have QT := Lib.hid (QT.out.below hb15)
  have Q4 := Lib.hid (Q4.out.below hb15)
  have QP := Lib.hid (QP.out.below hb15)
  have Q9 := Lib.hid (Q9.out.below hb15)
  have QD := Lib.hid (QD.out.below hb15)
  have QF := Lib.hid (QF.out.below hb15)
  have QN := Lib.hid (QN.out.below hb15)
  have DN := Lib.hid (DN.out.below hb15)
  have DV := Lib.hid (DV.out.below hb15)
  clear hf hb15
  have hck := check_any HAS.out.yat Yp.aw_inv3 (by decide) (by decide) _ Yp.asg2F _ _ (rd_rem (l := strV Yp.asg2F.names) QN.out) (rd_nl _ _) Yp.aw_s4
  rw [Yp.aw_dup] at hck
  go_wp2_with fail
  refine hck.mono ?_; rintro e w16 ⟨rfl, hb16⟩
  have HAS := Lib.hid (HAS.out.below hb16)
  have Q0 := Lib.hid (Q0.out.below hb16)
  have Q1 := Lib.hid (Q1.out.below hb16)
  have QT := Lib.hid (QT.out.below hb16)
  have Q4 := Lib.hid (Q4.out.below hb16)
  have QP := Lib.hid (QP.out.below hb16)
  have Q9 := Lib.hid (Q9.out.below hb16)
  have QD := Lib.hid (QD.out.below hb16)
  have QF := Lib.hid (QF.out.below hb16)
  have DN := Lib.hid (DN.out.below hb16)
  have DV := Lib.hid (DV.out.below hb16)
  clear hck hb16 QN
  go_wp2_with fail
  have QN := Lib.hid (Rem.new HAS.out.yat #[.string { data := #[108] }] 9)
  have HAS := Lib.hid (HAS.out.below (al_below w16 (.cells #[.string { data := #[108] }] 9)))
  have Q0 := Lib.hid (Q0.out.below (al_below w16 (.cells #[.string { data := #[108] }] 9)))
  have Q1 := Lib.hid (Q1.out.below (al_below w16 (.cells #[.string { data := #[108] }] 9)))
  have QT := Lib.hid (QT.out.below (al_below w16 (.cells #[.string { data := #[108] }] 9)))
  have Q4 := Lib.hid (Q4.out.below (al_below w16 (.cells #[.string { data := #[108] }] 9)))
  have QP := Lib.hid (QP.out.below (al_below w16 (.cells #[.string { data := #[108] }] 9)))
  have Q9 := Lib.hid (Q9.out.below (al_below w16 (.cells #[.string { data := #[108] }] 9)))
  have QD := Lib.hid (QD.out.below (al_below w16 (.cells #[.string { data := #[108] }] 9)))
  have QF := Lib.hid (QF.out.below (al_below w16 (.cells #[.string { data := #[108] }] 9)))
  have DN := Lib.hid (DN.out.below (al_below w16 (.cells #[.string { data := #[108] }] 9)))
  have DV := Lib.hid (DV.out.below (al_below w16 (.cells #[.string { data := #[108] }] 9)))
  have hf := fact_any (w16.alloc (.cells #[.string { data := #[108] }] 9)) Yp.relF.kind (some ⟨w16.heap.size, 0, none⟩) none 1 1 0 0
  generalize w16.alloc (.cells #[.string { data := #[108] }] 9) = W16 at *
  refine hf.mono ?_; rintro e w17 ⟨rfl, hb17⟩
  have HAS := Lib.hid (HAS.out.below hb17)
  have Q0 := Lib.hid (Q0.out.below hb17)
  have Q1 := Lib.hid (Q1.out.below hb17)
  have QT := Lib.hid (QT.out.below hb17)
  have Q4 := Lib.hid (Q4.out.below hb17)
  have QP := Lib.hid (QP.out.below hb17)
  have Q9 := Lib.hid (Q9.out.below hb17)
  have QD := Lib.hid (QD.out.below hb17)
  have QF := Lib.hid (QF.out.below hb17)
  have QN := Lib.hid (QN.out.below hb17)
  have DN := Lib.hid (DN.out.below hb17)
  have DV := Lib.hid (DV.out.below hb17)
  clear hf hb17
  have hdo := do_refused HAS.out.yat Yp.aw_inv3 (by decide) (by decide) _ Yp.relF _ _ (rd_rem (l := strV Yp.relF.names) QN.out) (rd_nl _ _) Yp.aw_s5 (by rw [Yp.aw_rel]; decide)
  rw [Yp.aw_rel] at hdo
  go_wp2_with fail
  refine hdo.mono ?_; rintro e w18 ⟨rfl, hb18⟩
  have HAS := Lib.hid (HAS.out.below hb18)
  have Q0 := Lib.hid (Q0.out.below hb18)
  have Q1 := Lib.hid (Q1.out.below hb18)
  have QT := Lib.hid (QT.out.below hb18)
  have Q4 := Lib.hid (Q4.out.below hb18)
  have QP := Lib.hid (QP.out.below hb18)
  have Q9 := Lib.hid (Q9.out.below hb18)
  have QD := Lib.hid (QD.out.below hb18)
  have QF := Lib.hid (QF.out.below hb18)
  have DN := Lib.hid (DN.out.below hb18)
  have DV := Lib.hid (DV.out.below hb18)
  clear hdo hb18 QN
  have k0 := (row_cells QT.out.row).1 0
  have k1 := (row_cells QT.out.row).1 1
  have k2 := (row_cells QT.out.row).1 2
  have d0 := (row_cells QD.out.row).1 0
  have d1 := (row_cells QD.out.row).1 1
  have d2 := (row_cells QD.out.row).1 2
  have hsm := same_any Yp.cutF Yp.cutF _ _ _ _ DN.out DV.out (rd_rem (l := strV Yp.cutF.names) Q0.out) (rd_rem (l := intV Yp.cutF.vals) Q1.out) (by decide)
  rw [show sameF Yp.cutF Yp.cutF = true from by decide] at hsm
  go_wp2_with fail
  refine hsm.mono ?_; rintro e w19 ⟨rfl, hb19⟩
  have HAS := Lib.hid (HAS.out.below hb19)
  have QF := Lib.hid (QF.out.below hb19)
  clear hsm hb19 k0 k1 k2 d0 d1 d2 Q0 Q1 QT Q4 QP Q9 QD DN DV
  have l1 := (row_cells QF.out.row).1 1
  have l2 := (row_cells QF.out.row).1 2
  have hit := items_any sort_said HAS.out.yat (by decide)
  go_wp2_with fail
  refine hit.mono ?_; rintro e w20 ⟨vi, li, rfl, hperm, _, hrow, hb20⟩
  have hli : li.length = 3 := hperm.length_eq
  unfold IRow at hrow
  rw [hli] at hrow
  obtain ⟨gi, ci, rfl⟩ := Go.Joins.ownsRow_form hrow (by decide)
  have HAS := Lib.hid (HAS.out.below hb20)
  clear hit hperm hrow hb20 hli l1 l2 QF
  have hfa := facts_any HAS.out.yat (by decide) Yp.aw_fs
  go_wp2_with fail
  refine hfa.mono ?_; rintro e w21 ⟨vf, rfl, hfl, hb21⟩
  obtain ⟨Af, cf, rfl, _⟩ := id hfl
  rw [show Yp.aw3.facts.length = 4 from rfl]
  have HAS := Lib.hid (HAS.out.below hb21)
  clear hfa hfl hb21
  go_wp2_with fail
  go_ret
  exact ⟨rfl, HAS.out.be⟩
end Go.Proofs.YtejhcbbfdfnfdaaGreatDoor.Yard

/- Small: whether facts are few and short. -/
namespace Go.Proofs.YtejhcbbfdfnfdaaGreatDoor.Yard
open Go.RowKit Go.Proofs.YtejhcbbfdfnfdaaGreatDoor.Base Go.Proofs.YtejhcbbfdfnfdaaGreatDoor.Mp
open Yp (It Yd Fact Bx)
def smallF (f : Fact) : Bool := decide (f.kind.size ≤ 60) && decide (f.names.length ≤ 12) && decide (f.vals.length ≤ 12) && f.names.all fun s => decide (s.size ≤ 60)
def smallL (l : List Fact) (n : Nat) : Bool := decide (l.length ≤ n) && l.all smallF
theorem smallL_off {l : List Fact} {n k : Nat} (h : k < l.length) (hf : smallF l[k] = false) : smallL l n = false := by
  unfold smallL
  rw [Bool.and_eq_false_iff]
  exact .inr (List.all_eq_false.2 ⟨l[k], List.getElem_mem h, by rw [hf]; decide⟩)
theorem smallL_on {l : List Fact} {n : Nat} (hn : l.length ≤ n) (h : ∀ (j : Nat) (f : Fact), j < l.length → l[j]? = some f → smallF f = true) : smallL l n = true := by
  unfold smallL
  rw [decide_eq_true hn, Bool.true_and, List.all_eq_true]
  intro f hf
  obtain ⟨j, hj, e⟩ := List.getElem_of_mem hf
  exact h j f hj (by rw [← e]; exact List.getElem?_eq_getElem hj)
theorem smallF_names {f : Fact} (h1 : f.kind.size ≤ 60) (h2 : f.names.length ≤ 12) (h3 : f.vals.length ≤ 12) (h : ∀ (j : Nat) (s : ByteArray), j < f.names.length → f.names[j]? = some s → s.size ≤ 60) : smallF f = true := by
  unfold smallF
  rw [decide_eq_true h1, decide_eq_true h2, decide_eq_true h3, Bool.true_and, Bool.true_and, Bool.true_and, List.all_eq_true]
  intro s hs
  obtain ⟨j, hj, e⟩ := List.getElem_of_mem hs
  exact decide_eq_true (h j s hj (by rw [← e]; exact List.getElem?_eq_getElem hj))
set_option maxRecDepth 100000 in
set_option maxHeartbeats 8000000 in
theorem small_any {w : World} {X : Nat → Prop} {v : Value} {l : List Fact} (hv : FLs w X v l) (n : Nat) (hn : n ≤ 1000) :
    Calls Tryz.prog 9 #[v, .int .i64 n] w fun e w' => e = .returned (.bool (smallL l n)) ∧ w' = w := by
  obtain ⟨A, c, rfl, hc, hcell⟩ := hv
  by_cases hl : l.length ≤ n
  rotate_left
  · have h1 : (n : Int) < (l.length : Int) := by omega
    have h2 : smallL l n = false := by unfold smallL; rw [decide_eq_false hl, Bool.false_and]
    rw [h2]
    clear hcell hc hl h2
    go_enter Tryz.func9, Tryz.ntmps9
    go_wp2_with fail
    go_ret
    exact ⟨rfl, rfl⟩
  have HC := Lib.hid hcell
  have HL := Lib.hid (And.intro hl hn)
  have h1 : decide (n < l.length) = false := by simp; omega
  clear hcell hl
  go_enter Tryz.func9, Tryz.ntmps9
  go_wp2_with fail
  go_loopw [5] (fun i wr => ∃ k : Nat, k ≤ l.length ∧ i = .int .i64 k ∧ (∀ (j : Nat) (f : Fact), j < k → l[j]? = some f → smallF f = true) ∧ w = wr) (fun i _ => l.length - (intOf i).toNat)
  case atStart => exact ⟨0, by omega, rfl, fun j f hj => by omega, rfl⟩
  case round =>
    obtain ⟨k, hk, rfl, hall, rfl⟩ := hrel
    have HA := Lib.hid hall
    clear hall
    by_cases hlt : k < l.length
    · have hlk := List.getElem?_eq_getElem hlt
      obtain ⟨b, o, rfl, hbl, _, hx⟩ := HC.out (by omega)
      obtain ⟨nv, vv, d0, d1, d2, hnn, hvv⟩ := hx k _ hlk
      obtain ⟨A1, c1, rfl, _, hnc⟩ := id hnn
      obtain ⟨A2, c2, rfl, _⟩ := id hvv
      have ln : ∀ l : List ByteArray, (strV l).length = l.length := fun l => by simp [strV]
      have lv : ∀ l : List Int, (intV l).length = l.length := fun l => by simp [intV]
      rw [ln] at d1 hnc
      rw [lv] at d2
      have HOFF : Hid (smallF l[k] = false → smallL l n = false) := Lib.hid (smallL_off hlt)
      have HLK := Lib.hid hlk
      have HNC := Lib.hid hnc
      have hk6 : k < 1000 := by have := HL.out; omega
      clear hx hlk hnn hvv ln lv hnc
      generalize l[k] = f at *
      by_cases q1 : f.kind.size ≤ 60
      · have q1' : (f.kind.size : Int) ≤ 60 := by omega
        by_cases q2 : f.names.length ≤ 12
        · have q2' : (f.names.length : Int) ≤ 12 := by omega
          by_cases q3 : f.vals.length ≤ 12
          · have q3' : (f.vals.length : Int) ≤ 12 := by omega
            go_wp2_with fail
            go_loopw [6] (fun i wr => ∃ m : Nat, m ≤ f.names.length ∧ i = .int .i64 m ∧ (∀ (j : Nat) (s : ByteArray), j < m → f.names[j]? = some s → s.size ≤ 60) ∧ w = wr) (fun i _ => f.names.length - (intOf i).toNat)
            case atStart => exact ⟨0, by omega, rfl, fun j f hj => by omega, rfl⟩
            case round =>
              obtain ⟨m, hm, rfl, hall2, rfl⟩ := hrel
              have HA2 := Lib.hid hall2
              clear hall2
              by_cases hlt2 : m < f.names.length
              · have hsk := List.getElem?_eq_getElem hlt2
                obtain ⟨b2, o2, rfl, hbl2, _, hx2⟩ := HNC.out (by omega)
                have d3 := hx2 m _ (by rw [strV, List.getElem?_map, hsk]; rfl)
                have HSK := Lib.hid hsk
                have HSM := Lib.hid (List.getElem_mem hlt2)
                clear hx2 hsk
                generalize f.names[m] = s at *
                by_cases q4 : s.size ≤ 60
                · have q4' : (s.size : Int) ≤ 60 := by omega
                  go_wp2_with fail
                  refine ⟨⟨m + 1, by omega, by go_num, fun j t hj ht => ?_, trivial⟩, by simp [intOf]; omega⟩
                  rcases Nat.lt_or_ge j m with g | g
                  · exact HA2.out j t g ht
                  · obtain rfl : j = m := by omega
                    rw [HSK.out] at ht
                    injection ht with ht
                    rw [← ht]; exact q4
                · have q4' : (60 : Int) < (s.size : Int) := by omega
                  have HF : Hid (smallL l n = false) := Lib.hid (HOFF.out (by
                    unfold smallF
                    rw [Bool.and_eq_false_iff]
                    exact .inr (List.all_eq_false.2 ⟨s, HSM.out, by rw [decide_eq_false q4]; decide⟩)))
                  go_wp2_with fail
                  go_ret
                  rw [HF.out]
                  exact ⟨rfl, rfl⟩
              · obtain rfl : m = f.names.length := by omega
                have HF : Hid (smallF f = true) := Lib.hid (smallF_names q1 q2 q3 HA2.out)
                go_wp2_with fail
                refine ⟨⟨k + 1, by omega, by go_num, fun j t hj ht => ?_, trivial⟩, by simp [intOf]; omega⟩
                rcases Nat.lt_or_ge j k with g | g
                · exact HA.out j t g ht
                · obtain rfl : j = k := by omega
                  rw [HLK.out] at ht
                  injection ht with ht
                  rw [← ht]; exact HF.out
          · have q3' : (12 : Int) < (f.vals.length : Int) := by omega
            have HF : Hid (smallL l n = false) := Lib.hid (HOFF.out (by unfold smallF; rw [decide_eq_false q3, Bool.and_false, Bool.false_and]))
            go_wp2_with fail
            go_ret
            rw [HF.out]
            exact ⟨rfl, rfl⟩
        · have q2' : (12 : Int) < (f.names.length : Int) := by omega
          have HF : Hid (smallL l n = false) := Lib.hid (HOFF.out (by unfold smallF; rw [decide_eq_false q2, Bool.and_false, Bool.false_and, Bool.false_and]))
          go_wp2_with fail
          go_ret
          rw [HF.out]
          exact ⟨rfl, rfl⟩
      · have q1' : (60 : Int) < (f.kind.size : Int) := by omega
        have HF : Hid (smallL l n = false) := Lib.hid (HOFF.out (by unfold smallF; rw [decide_eq_false q1, Bool.false_and, Bool.false_and, Bool.false_and]))
        go_wp2_with fail
        go_ret
        rw [HF.out]
        exact ⟨rfl, rfl⟩
    · obtain rfl : k = l.length := by omega
      have HF : Hid (smallL l n = true) := Lib.hid (smallL_on HL.out.1 HA.out)
      go_wp2_with fail
      go_ret
      rw [HF.out]
      exact ⟨rfl, rfl⟩
end Go.Proofs.YtejhcbbfdfnfdaaGreatDoor.Yard
