/- The reference's Check. -/
import Derived.Test.YtejhcbbfdfnfdaaGreatDoorR38
import Derived.Test.YtejhcbbfdfnfdaaGreatDoorR30
import Derived.Test.YtejhcbbfdfnfdaaGreatDoorR18
import Derived.Test.YtejhcbbfdfnfdaaGreatDoorR17
/- The reference's free: the error of a block that is freed. -/
namespace Go.Proofs.YtejhcbbfdfnfdaaGreatDoor.Yard
open Go.RowKit Go.Proofs.YtejhcbbfdfnfdaaGreatDoor.Base Go.Proofs.YtejhcbbfdfnfdaaGreatDoor.Mp
open Yp (It Yd Fact Bx)
theorem FI.of (p : It → ByteArray) (s : List It) (id : ByteArray) : ∃ r, FI p s id r ∧ (0 ≤ r ↔ ∃ x ∈ s, p x = id) ∧ r < s.length + 1 ∧ (0 ≤ r ∨ r = -1) := by
  cases h : s.findIdx? fun x => decide (p x = id) with
  | none =>
    rw [List.findIdx?_eq_none_iff] at h
    refine ⟨-1, .inr ⟨rfl, fun j x hj e => ?_⟩, ⟨fun h0 => absurd h0 (by decide), fun ⟨x, hx, e⟩ => ?_⟩, by omega, .inr rfl⟩
    · have := h x (List.mem_of_getElem? hj); simp [e] at this
    · have := h x hx; simp [e] at this
  | some i =>
    rw [List.findIdx?_eq_some_iff_getElem] at h
    obtain ⟨hi, h1, h2⟩ := h
    have h1 : p s[i] = id := by simpa using h1
    refine ⟨i, .inl ⟨i, rfl, hi, fun x hx => ?_, fun j x hj hx e => ?_⟩, ⟨fun _ => ⟨s[i], List.getElem_mem hi, h1⟩, fun _ => by omega⟩, by omega, .inl (by omega)⟩
    · rw [List.getElem?_eq_getElem hi] at hx
      rw [← Option.some.inj hx]; exact h1
    · have hjl : j < s.length := by omega
      have := h2 j hj
      rw [List.getElem?_eq_getElem hjl] at hx
      rw [Option.some.inj hx] at this
      simp [e] at this
theorem look_iff (s : List It) (id : ByteArray) : (Yp.look s id).isSome = true ↔ ∃ x ∈ s, x.id = id := by
  unfold Yp.look
  rw [List.find?_isSome]
  simp
set_option maxRecDepth 100000 in
set_option maxHeartbeats 16000000 in
theorem rfree_any {W : World} {R : Nat} {s : List It} {fs : List Fact} (h : RAt W R s fs) (hl : s.length < 4096) {X : Nat → Prop} (kd n0 : ByteArray) (b : Bx) (nv vv : Value) (hn : Rd W X nv (strV [n0])) (hv : Rd W X vv (intV [b.x0, b.y0, b.z0, b.x1, b.y1, b.z1])) :
    Calls Tryz.prog 83 #[.pointer (some ⟨R, 0, none⟩), .agg #[.string kd, nv, vv]] W fun e w' => e = .returned (.int .i64 (Yp.freeErr s n0 b)) ∧ Below W.heap.size W w' := by
  obtain ⟨r, hr, hri, hrl, hrn⟩ := FI.of (·.id) s n0
  have HFE : Hid (Yp.freeErr s n0 b = if (Yp.look s n0).isSome = true then 5 else if Yp.boxCheck b ≠ 0 then Yp.boxCheck b else if s.any (fun x => decide (x.par = Yp.es) && Yp.overB x.bx b) = true then 11 else 0) := Lib.hid rfl
  have HLK := Lib.hid (hri.trans (look_iff s n0).symm)
  have HANY : Hid (∀ (j : Nat) (x : It), s[j]? = some x → x.par = Yp.es → Yp.overB x.bx b = true → s.any (fun x => decide (x.par = Yp.es) && Yp.overB x.bx b) = true) := Lib.hid (fun j x hj h1 h2 => List.any_eq_true.2 ⟨x, List.mem_of_getElem? hj, by simp [h1, h2]⟩)
  have HNONE : Hid ((∀ (j : Nat) (x : It), j < s.length → s[j]? = some x → ¬ (x.par = Yp.es ∧ Yp.overB x.bx b = true)) → s.any (fun x => decide (x.par = Yp.es) && Yp.overB x.bx b) = false) := Lib.hid (fun hh => List.any_eq_false.2 fun x hx => by
    obtain ⟨j, hj, e⟩ := List.getElem_of_mem hx
    have := hh j x hj (by rw [← e]; exact List.getElem?_eq_getElem hj)
    simpa using this)
  generalize Yp.freeErr s n0 b = E at *
  generalize s.any (fun x => decide (x.par = Yp.es) && Yp.overB x.bx b) = AN at *
  have hfin := rfind_any h (by omega) n0 hr
  have HF := Lib.hid fun W' (hb : Below W.heap.size W W') => rfind_any (h.below hb) (by omega) n0 hr
  clear hfin hr hri
  obtain ⟨A, c, _, hy, hx⟩ := h.open
  have HY := Lib.hid hy
  have HXX := Lib.hid hx
  clear hy hx h
  have HBO := Lib.hid fun W' (hb : Below W.heap.size W W') => rboxOf_any X vv b.x0 b.y0 b.z0 b.x1 b.y1 b.z1 W' (hv.below hb)
  obtain ⟨A1, c1, rfl, _, rn⟩ := id hn
  obtain ⟨A2, c2, rfl, _, rv⟩ := id hv
  obtain ⟨b1, o1, rfl, hl1, _, cn⟩ := rn (by simp [strV])
  obtain ⟨b2, o2, rfl, _, _, _⟩ := rv (by simp [intV])
  rw [show (strV [n0]).length = 1 from rfl] at *
  rw [show (intV [b.x0, b.y0, b.z0, b.x1, b.y1, b.z1]).length = 6 from rfl] at *
  have HN0 : Hid (∀ W', Below W.heap.size W W' → W'.cell? ⟨b1, o1, none⟩ = some (.string n0)) := Lib.hid fun W' hW => (hW.cell (p := ⟨b1, _, none⟩) hl1).trans (cn 0 (.string n0) rfl)
  clear hn hv rn rv cn hl1
  have HB := Lib.hid (al_below W (.cells #[.string kd, .slice (some ⟨b1, o1, none⟩) 1 c1, .slice (some ⟨b2, o2, none⟩) 6 c2] 39))
  have HR := Lib.hid (new_block W (.cells #[.string kd, .slice (some ⟨b1, o1, none⟩) 1 c1, .slice (some ⟨b2, o2, none⟩) 6 c2] 39))
  have u1 := (row_cells HR.out).1 1
  have m0 := HN0.out _ HB.out
  go_enter Tryz.func83, Tryz.ntmps83
  go_wp2_with fail
  clear u1 m0
  generalize W.alloc (.cells #[.string kd, .slice (some ⟨b1, o1, none⟩) 1 c1, .slice (some ⟨b2, o2, none⟩) 6 c2] 39) = W1 at *
  refine (HF.out W1 HB.out).mono ?_; rintro e w2 ⟨rfl, hb⟩
  have HB := Lib.hid (HB.out.trans (hb.mono HB.out.size))
  have HR := Lib.hid (row_after hb HR.out)
  clear hb HF HN0
  by_cases hr0 : 0 ≤ r
  · have hE := HFE.out
    rw [if_pos (HLK.out.1 hr0)] at hE
    have HE := Lib.hid hE
    clear hE HFE HLK
    go_wp2_with fail
    refine bodyPost_ret (v := .int .i64 5) (by simp [results, Tryz.results83, go_sem, *]) rfl ⟨by rw [HE.out], HB.out⟩
  have hr1 : r < 0 := by omega
  have hE := HFE.out
  rw [if_neg (fun hh => hr0 (HLK.out.2 hh))] at hE
  have HE := Lib.hid hE
  clear hE HFE HLK hr0
  have y0 := HY.out _ HB.out
  have hlq : decide (4096 ≤ s.length) = false := by simp; omega
  have u2 := (row_cells HR.out).1 2
  go_wp2_with fail
  clear y0 u2
  refine (HBO.out _ HB.out).mono ?_; rintro e w3 ⟨rfl, hb⟩
  have HB := Lib.hid (HB.out.trans (hb.mono HB.out.size))
  clear hb HBO HR
  have hb4 := al_below w3 (.cells (bxC b) 45)
  have HG := Lib.hid (new_block w3 (.cells (bxC b) 45))
  have u0 := (row_cells HG.out).1 0
  have u1 := (row_cells HG.out).1 1
  have u2 := (row_cells HG.out).1 2
  have u3 := (row_cells HG.out).1 3
  have u4 := (row_cells HG.out).1 4
  have u5 := (row_cells HG.out).1 5
  have HB := Lib.hid (HB.out.trans (hb4.mono HB.out.size))
  clear hb4
  have hbc := rboxCheck_any b
  rw [show bxC b = #[.int .i64 b.x0, .int .i64 b.y0, .int .i64 b.z0, .int .i64 b.x1, .int .i64 b.y1, .int .i64 b.z1] from rfl] at *
  go_wp2_with fail
  generalize w3.alloc (.cells #[.int .i64 b.x0, .int .i64 b.y0, .int .i64 b.z0, .int .i64 b.x1, .int .i64 b.y1, .int .i64 b.z1] 45) = W4 at *
  generalize w3.heap.size = g5 at *
  clear u0 u1 u2 u3 u4 u5
  refine (hbc W4).mono ?_; rintro e w5 ⟨rfl, hb⟩
  have HB := Lib.hid (HB.out.trans (hb.mono HB.out.size))
  have HG := Lib.hid (row_after hb HG.out)
  clear hb hbc
  by_cases hb0 : Yp.boxCheck b = 0
  rotate_left
  · have hE := HE.out
    rw [if_pos hb0] at hE
    have HE := Lib.hid hE
    have hne : (Yp.boxCheck b != 0) = true := by simpa using hb0
    clear hE hb0
    generalize Yp.boxCheck b = Q at *
    go_wp2_with fail
    refine bodyPost_ret (v := .int .i64 Q) (by simp [results, Tryz.results83, go_sem, *]) rfl ⟨by rw [HE.out], HB.out⟩
  have hE := HE.out
  rw [if_neg (by rw [hb0]; decide)] at hE
  have HE := Lib.hid hE
  clear hE
  rw [hb0]
  clear hb0
  go_wp2_with fail
  go_loopw [7] (fun n wr => ∃ k : Nat, k ≤ s.length ∧ n = .int .i64 k ∧ (∀ (j : Nat) (x : It), j < k → s[j]? = some x → ¬ (x.par = Yp.es ∧ Yp.overB x.bx b = true)) ∧ wr.heap[g5]? = some (.cells #[.int .i64 b.x0, .int .i64 b.y0, .int .i64 b.z0, .int .i64 b.x1, .int .i64 b.y1, .int .i64 b.z1] 45 (0, 0)) ∧ Below W.heap.size W wr) (fun n _ => s.length - (intOf n).toNat)
  case atStart => exact ⟨0, by omega, rfl, fun j z h => by omega, HG.out, HB.out⟩
  case round =>
    obtain ⟨k, hk, rfl, hall, hg, hb⟩ := hrel
    have HA := Lib.hid hall
    have HB := Lib.hid hb
    have HG := Lib.hid hg
    have y0 := HY.out wr hb
    clear hall hb hg
    by_cases hlt : k < s.length
    · obtain ⟨g, rfl, hx⟩ := HXX.out (by omega)
      have HX := Lib.hid hx
      have HL : Hid (s[k]? = some s[k]) := Lib.hid (List.getElem?_eq_getElem hlt)
      clear hx
      generalize s[k] = x at *
      have HNX : Hid (¬ (x.par = Yp.es ∧ Yp.overB x.bx b = true) → ∀ (j : Nat) (z : It), j < k + 1 → s[j]? = some z → ¬ (z.par = Yp.es ∧ Yp.overB z.bx b = true)) := Lib.hid (fun hq j z hj hz => by
        rcases Nat.lt_or_ge j k with g | g
        · exact HA.out j z g hz
        · obtain rfl : j = k := by omega
          obtain rfl : z = x := Option.some.inj (hz.symm.trans HL.out)
          exact hq)
      by_cases hp : x.par = Yp.es
      · have hp0 : x.par.toList.isEmpty = true := by rw [(tl_nil _).2 hp]; rfl
        have hov := rover_any x.bx b
        rw [show bxC b = #[.int .i64 b.x0, .int .i64 b.y0, .int .i64 b.z0, .int .i64 b.x1, .int .i64 b.y1, .int .i64 b.z1] from rfl, show bxC x.bx = #[.int .i64 x.bx.x0, .int .i64 x.bx.y0, .int .i64 x.bx.z0, .int .i64 x.bx.x1, .int .i64 x.bx.y1, .int .i64 x.bx.z1] from rfl] at hov
        cases ho : Yp.overB x.bx b with
        | true =>
          rw [ho] at hov
          have hE := HE.out
          rw [if_pos (HANY.out k x HL.out hp ho)] at hE
          have HE := Lib.hid hE
          clear hp ho hE
          go_wp2_with fail
          refine Reg.region_inv [[], [0], [1], [2], [], [3, 4], [5], [6], [7], [8], [9], [9, 10], [9, 11], [9, 12], [9], [9, 13, 14], [9, 15], [9, 16], [9], [9, 17, 18], [9, 19]] [[], [0], [0, 1], [0, 1, 2], [], [0, 1, 2, 3, 4], [0, 1, 2, 3, 4, 5], [0, 1, 2, 3, 4, 5, 6], [0, 1, 2, 3, 4, 5, 6, 7], [0, 1, 2, 3, 4, 5, 6, 7, 8], [0, 1, 2, 3, 4, 5, 6, 7, 8, 9], [0, 1, 2, 3, 4, 5, 6, 7, 8, 9, 10], [0, 1, 2, 3, 4, 5, 6, 7, 8, 9, 10, 11], [0, 1, 2, 3, 4, 5, 6, 7, 8, 9, 10, 11, 12], [0, 1, 2, 3, 4, 5, 6, 7, 8, 9], [0, 1, 2, 3, 4, 5, 6, 7, 8, 9, 10, 11, 12, 13, 14], [0, 1, 2, 3, 4, 5, 6, 7, 8, 9, 10, 11, 12, 13, 14, 15], [0, 1, 2, 3, 4, 5, 6, 7, 8, 9, 10, 11, 12, 13, 14, 15, 16], [0, 1, 2, 3, 4, 5, 6, 7, 8, 9], [0, 1, 2, 3, 4, 5, 6, 7, 8, 9, 10, 11, 12, 13, 14, 15, 16, 17, 18], [0, 1, 2, 3, 4, 5, 6, 7, 8, 9, 10, 11, 12, 13, 14, 15, 16, 17, 18, 19]] (fun a0_ bb aa ww => aa = Reg.fill bb [(0, 38, .pointer (some ⟨R, 0, none⟩)), (1, 39, .pointer (some ⟨R, 0, none⟩)), (2, 40, .pointer (some ⟨R, 0, none⟩)), (3, 41, .slice (some ⟨g, 0, none⟩) s.length c), (4, 42, .int .i64 (k : Int)), (5, 43, .pointer (some ⟨g, k * 10, none⟩)), (6, 44, .pointer (some ⟨g, k * 10 + 1, none⟩)), (7, 45, .string x.par), (8, 46, .bool true), (9, 47, .bool true), (10, 48, .pointer (some ⟨R, 0, none⟩)), (11, 49, .pointer (some ⟨R, 0, none⟩)), (12, 50, .pointer (some ⟨R, 0, none⟩)), (13, 51, .slice (some ⟨g, 0, none⟩) s.length c), (14, 52, .int .i64 (k : Int)), (15, 53, .pointer (some ⟨g, k * 10, none⟩)), (16, 54, .pointer (some ⟨g, k * 10 + 2, none⟩)), (17, 55, .agg #[.int .i64 x.bx.x0, .int .i64 x.bx.y0, .int .i64 x.bx.z0, .int .i64 x.bx.x1, .int .i64 x.bx.y1, .int .i64 x.bx.z1]), (18, 56, .agg #[.int .i64 b.x0, .int .i64 b.y0, .int .i64 b.z0, .int .i64 b.x1, .int .i64 b.y1, .int .i64 b.z1]), (19, 57, .bool true), (20, 58, .bool true)] a0_ ∧ Below wr.heap.size wr ww) (by kernel_rfl) (by kernel_rfl) (by kernel_rfl) ?_ ?_ ?_
          · exact ⟨Reg.fill_start.symm, (Below.refl _ _).drew⟩
          · refine Reg.steps_cons (i := 0) ?_ ?_
            · rintro bb aa ww ⟨ha, HW⟩ hb hd hn
              have e0 : aa.tmps[0]? = some (.pointer (some ⟨R, 0, none⟩)) := by rw [ha]; exact (Reg.fill_off rfl).trans rfl
              have HA := Lib.hid ha; clear ha; refine ⟨_, rfl, fun K hK => ?_⟩
              refine Reg.do_val rfl rfl (v := .pointer (some ⟨R, 0, none⟩)) (w1 := ww) (by simp only [List.getElem_toArray, List.getElem_cons_zero, execOp, Reg.eval_tmp e0]; rfl) ?_
              exact hK.out _ _ ⟨by rw [HA.out]; exact Reg.fill_up 0 hb rfl rfl rfl, HW⟩
            refine Reg.steps_cons (i := 1) ?_ ?_
            · rintro bb aa ww ⟨ha, HW⟩ hb hd hn
              have e38 : aa.tmps[38]? = some (.pointer (some ⟨R, 0, none⟩)) := by rw [ha]; exact Reg.fill_on 0 rfl rfl (hd 0 (by decide)) rfl
              have HA := Lib.hid ha; clear ha; refine ⟨_, rfl, fun K hK => ?_⟩
              refine Reg.do_val rfl rfl (v := .pointer (some ⟨R, 0, none⟩)) (w1 := ww) ?_ ?_
              · simp only [List.getElem_toArray, List.getElem_cons_succ, List.getElem_cons_zero, execOp, Reg.eval_tmp e38]
                go_simp
              exact hK.out _ _ ⟨by rw [HA.out]; exact Reg.fill_up 1 hb rfl rfl rfl, HW⟩
            refine Reg.steps_cons (i := 2) ?_ ?_
            · rintro bb aa ww ⟨ha, HW⟩ hb hd hn
              have e39 : aa.tmps[39]? = some (.pointer (some ⟨R, 0, none⟩)) := by rw [ha]; exact Reg.fill_on 1 rfl rfl (hd 1 (by decide)) rfl
              have HA := Lib.hid ha; clear ha; refine ⟨_, rfl, fun K hK => ?_⟩
              refine Reg.do_val rfl rfl (v := .pointer (some ⟨R, 0, none⟩)) (w1 := ww) ?_ ?_
              · simp only [List.getElem_toArray, List.getElem_cons_succ, List.getElem_cons_zero, execOp, Reg.eval_tmp e39]
                go_simp
              exact hK.out _ _ ⟨by rw [HA.out]; exact Reg.fill_up 2 hb rfl rfl rfl, HW⟩
            refine Reg.steps_cons (i := 3) ?_ ?_
            · rintro bb aa ww ⟨ha, HW⟩ hb hd hn
              have e40 : aa.tmps[40]? = some (.pointer (some ⟨R, 0, none⟩)) := by rw [ha]; exact Reg.fill_on 2 rfl rfl (hd 2 (by decide)) rfl
              have HA := Lib.hid ha; clear ha; refine ⟨_, rfl, fun K hK => ?_⟩
              have y0 := HY.out ww (HB.out.trans (HW.mono HB.out.size))
              refine Reg.do_val rfl rfl (v := .slice (some ⟨g, 0, none⟩) s.length c) (w1 := ww) ?_ ?_
              · simp only [List.getElem_toArray, List.getElem_cons_succ, List.getElem_cons_zero, execOp, Reg.eval_tmp e40]
                go_simp
              exact hK.out _ _ ⟨by rw [HA.out]; exact Reg.fill_up 3 hb rfl rfl rfl, HW⟩
            refine Reg.steps_cons (i := 4) ?_ ?_
            · rintro bb aa ww ⟨ha, HW⟩ hb hd hn
              have e7 : aa.tmps[7]? = some (.int .i64 (k : Int)) := by rw [ha]; exact (Reg.fill_off rfl).trans rfl
              have HA := Lib.hid ha; clear ha; refine ⟨_, rfl, fun K hK => ?_⟩
              refine Reg.do_val rfl rfl (v := .int .i64 (k : Int)) (w1 := ww) (by simp only [List.getElem_toArray, List.getElem_cons_succ, List.getElem_cons_zero, execOp, Reg.eval_tmp e7]; rfl) ?_
              exact hK.out _ _ ⟨by rw [HA.out]; exact Reg.fill_up 4 hb rfl rfl rfl, HW⟩
            refine Reg.steps_cons (i := 5) ?_ ?_
            · rintro bb aa ww ⟨ha, HW⟩ hb hd hn
              have e41 : aa.tmps[41]? = some (.slice (some ⟨g, 0, none⟩) s.length c) := by rw [ha]; exact Reg.fill_on 3 rfl rfl (hd 3 (by decide)) rfl
              have e42 : aa.tmps[42]? = some (.int .i64 (k : Int)) := by rw [ha]; exact Reg.fill_on 4 rfl rfl (hd 4 (by decide)) rfl
              have HA := Lib.hid ha; clear ha; refine ⟨_, rfl, fun K hK => ?_⟩
              refine Reg.do_val rfl rfl (v := .pointer (some ⟨g, k * 10, none⟩)) (w1 := ww) ?_ ?_
              · simp only [List.getElem_toArray, List.getElem_cons_succ, List.getElem_cons_zero, execOp, Reg.eval_tmp e41, Reg.eval_tmp e42]
                go_simp
              exact hK.out _ _ ⟨by rw [HA.out]; exact Reg.fill_up 5 hb rfl rfl rfl, HW⟩
            refine Reg.steps_cons (i := 6) ?_ ?_
            · rintro bb aa ww ⟨ha, HW⟩ hb hd hn
              have e43 : aa.tmps[43]? = some (.pointer (some ⟨g, k * 10, none⟩)) := by rw [ha]; exact Reg.fill_on 5 rfl rfl (hd 5 (by decide)) rfl
              have HA := Lib.hid ha; clear ha; refine ⟨_, rfl, fun K hK => ?_⟩
              refine Reg.do_val rfl rfl (v := .pointer (some ⟨g, k * 10 + 1, none⟩)) (w1 := ww) ?_ ?_
              · simp only [List.getElem_toArray, List.getElem_cons_succ, List.getElem_cons_zero, execOp, Reg.eval_tmp e43]
                go_simp
              exact hK.out _ _ ⟨by rw [HA.out]; exact Reg.fill_up 6 hb rfl rfl rfl, HW⟩
            refine Reg.steps_cons (i := 7) ?_ ?_
            · rintro bb aa ww ⟨ha, HW⟩ hb hd hn
              have e44 : aa.tmps[44]? = some (.pointer (some ⟨g, k * 10 + 1, none⟩)) := by rw [ha]; exact Reg.fill_on 6 rfl rfl (hd 6 (by decide)) rfl
              have HA := Lib.hid ha; clear ha; refine ⟨_, rfl, fun K hK => ?_⟩
              obtain ⟨x0, x1, x2, x3, x4, x5, x6, x7, x8, x9⟩ := HX.out ww (HB.out.trans (HW.mono HB.out.size)) k x HL.out
              refine Reg.do_val rfl rfl (v := .string x.par) (w1 := ww) ?_ ?_
              · simp only [List.getElem_toArray, List.getElem_cons_succ, List.getElem_cons_zero, execOp, Reg.eval_tmp e44]
                go_simp
              exact hK.out _ _ ⟨by rw [HA.out]; exact Reg.fill_up 7 hb rfl rfl rfl, HW⟩
            refine Reg.steps_cons (i := 8) ?_ ?_
            · rintro bb aa ww ⟨ha, HW⟩ hb hd hn
              have e45 : aa.tmps[45]? = some (.string x.par) := by rw [ha]; exact Reg.fill_on 7 rfl rfl (hd 7 (by decide)) rfl
              have HA := Lib.hid ha; clear ha; refine ⟨_, rfl, fun K hK => ?_⟩
              refine Reg.do_val rfl rfl (v := .bool true) (w1 := ww) ?_ ?_
              · simp only [List.getElem_toArray, List.getElem_cons_succ, List.getElem_cons_zero, execOp, Reg.eval_tmp e45]
                go_simp
              exact hK.out _ _ ⟨by rw [HA.out]; exact Reg.fill_up 8 hb rfl rfl rfl, HW⟩
            refine Reg.steps_cons (i := 9) ?_ ?_
            · rintro bb aa ww ⟨ha, HW⟩ hb hd hn
              have e46 : aa.tmps[46]? = some (.bool true) := by rw [ha]; exact Reg.fill_on 8 rfl rfl (hd 8 (by decide)) rfl
              have HA := Lib.hid ha; clear ha; refine ⟨_, rfl, fun K hK => ?_⟩
              refine Reg.do_val rfl rfl (v := .bool true) (w1 := ww) (by simp only [List.getElem_toArray, List.getElem_cons_succ, List.getElem_cons_zero, execOp, Reg.eval_tmp e46]; rfl) ?_
              exact hK.out _ _ ⟨by rw [HA.out]; exact Reg.fill_up 9 hb rfl rfl rfl, HW⟩
            refine Reg.steps_cons (i := 10) ?_ ?_
            · rintro bb aa ww ⟨ha, HW⟩ hb hd hn
              have e0 : aa.tmps[0]? = some (.pointer (some ⟨R, 0, none⟩)) := by rw [ha]; exact (Reg.fill_off rfl).trans rfl
              have e47 : aa.tmps[47]? = some (.bool true) := by rw [ha]; exact Reg.fill_on 9 rfl rfl (hd 9 (by decide)) rfl
              have HA := Lib.hid ha; clear ha; refine ⟨_, rfl, fun K hK => ?_⟩
              refine Reg.won_val (Reg.want_on rfl rfl rfl e47) rfl (v := .pointer (some ⟨R, 0, none⟩)) (w1 := ww) (by simp only [List.getElem_toArray, List.getElem_cons_succ, List.getElem_cons_zero, execOp, Reg.eval_tmp e0]; rfl) ?_
              exact hK.out _ _ ⟨by rw [HA.out]; exact Reg.fill_up 10 hb rfl rfl rfl, HW⟩
            refine Reg.steps_cons (i := 11) ?_ ?_
            · rintro bb aa ww ⟨ha, HW⟩ hb hd hn
              have e48 : aa.tmps[48]? = some (.pointer (some ⟨R, 0, none⟩)) := by rw [ha]; exact Reg.fill_on 10 rfl rfl (hd 10 (by decide)) rfl
              have e47 : aa.tmps[47]? = some (.bool true) := by rw [ha]; exact Reg.fill_on 9 rfl rfl (hd 9 (by decide)) rfl
              have HA := Lib.hid ha; clear ha; refine ⟨_, rfl, fun K hK => ?_⟩
              refine Reg.won_val (Reg.want_on rfl rfl rfl e47) rfl (v := .pointer (some ⟨R, 0, none⟩)) (w1 := ww) ?_ ?_
              · simp only [List.getElem_toArray, List.getElem_cons_succ, List.getElem_cons_zero, execOp, Reg.eval_tmp e48]
                go_simp
              exact hK.out _ _ ⟨by rw [HA.out]; exact Reg.fill_up 11 hb rfl rfl rfl, HW⟩
            refine Reg.steps_cons (i := 12) ?_ ?_
            · rintro bb aa ww ⟨ha, HW⟩ hb hd hn
              have e49 : aa.tmps[49]? = some (.pointer (some ⟨R, 0, none⟩)) := by rw [ha]; exact Reg.fill_on 11 rfl rfl (hd 11 (by decide)) rfl
              have e47 : aa.tmps[47]? = some (.bool true) := by rw [ha]; exact Reg.fill_on 9 rfl rfl (hd 9 (by decide)) rfl
              have HA := Lib.hid ha; clear ha; refine ⟨_, rfl, fun K hK => ?_⟩
              refine Reg.won_val (Reg.want_on rfl rfl rfl e47) rfl (v := .pointer (some ⟨R, 0, none⟩)) (w1 := ww) ?_ ?_
              · simp only [List.getElem_toArray, List.getElem_cons_succ, List.getElem_cons_zero, execOp, Reg.eval_tmp e49]
                go_simp
              exact hK.out _ _ ⟨by rw [HA.out]; exact Reg.fill_up 12 hb rfl rfl rfl, HW⟩
            refine Reg.steps_cons (i := 13) ?_ ?_
            · rintro bb aa ww ⟨ha, HW⟩ hb hd hn
              have e50 : aa.tmps[50]? = some (.pointer (some ⟨R, 0, none⟩)) := by rw [ha]; exact Reg.fill_on 12 rfl rfl (hd 12 (by decide)) rfl
              have e47 : aa.tmps[47]? = some (.bool true) := by rw [ha]; exact Reg.fill_on 9 rfl rfl (hd 9 (by decide)) rfl
              have HA := Lib.hid ha; clear ha; refine ⟨_, rfl, fun K hK => ?_⟩
              have y0 := HY.out ww (HB.out.trans (HW.mono HB.out.size))
              refine Reg.won_val (Reg.want_on rfl rfl rfl e47) rfl (v := .slice (some ⟨g, 0, none⟩) s.length c) (w1 := ww) ?_ ?_
              · simp only [List.getElem_toArray, List.getElem_cons_succ, List.getElem_cons_zero, execOp, Reg.eval_tmp e50]
                go_simp
              exact hK.out _ _ ⟨by rw [HA.out]; exact Reg.fill_up 13 hb rfl rfl rfl, HW⟩
            refine Reg.steps_cons (i := 14) ?_ ?_
            · rintro bb aa ww ⟨ha, HW⟩ hb hd hn
              have e7 : aa.tmps[7]? = some (.int .i64 (k : Int)) := by rw [ha]; exact (Reg.fill_off rfl).trans rfl
              have e47 : aa.tmps[47]? = some (.bool true) := by rw [ha]; exact Reg.fill_on 9 rfl rfl (hd 9 (by decide)) rfl
              have HA := Lib.hid ha; clear ha; refine ⟨_, rfl, fun K hK => ?_⟩
              refine Reg.won_val (Reg.want_on rfl rfl rfl e47) rfl (v := .int .i64 (k : Int)) (w1 := ww) (by simp only [List.getElem_toArray, List.getElem_cons_succ, List.getElem_cons_zero, execOp, Reg.eval_tmp e7]; rfl) ?_
              exact hK.out _ _ ⟨by rw [HA.out]; exact Reg.fill_up 14 hb rfl rfl rfl, HW⟩
            refine Reg.steps_cons (i := 15) ?_ ?_
            · rintro bb aa ww ⟨ha, HW⟩ hb hd hn
              have e51 : aa.tmps[51]? = some (.slice (some ⟨g, 0, none⟩) s.length c) := by rw [ha]; exact Reg.fill_on 13 rfl rfl (hd 13 (by decide)) rfl
              have e52 : aa.tmps[52]? = some (.int .i64 (k : Int)) := by rw [ha]; exact Reg.fill_on 14 rfl rfl (hd 14 (by decide)) rfl
              have e47 : aa.tmps[47]? = some (.bool true) := by rw [ha]; exact Reg.fill_on 9 rfl rfl (hd 9 (by decide)) rfl
              have HA := Lib.hid ha; clear ha; refine ⟨_, rfl, fun K hK => ?_⟩
              refine Reg.won_val (Reg.want_on rfl rfl rfl e47) rfl (v := .pointer (some ⟨g, k * 10, none⟩)) (w1 := ww) ?_ ?_
              · simp only [List.getElem_toArray, List.getElem_cons_succ, List.getElem_cons_zero, execOp, Reg.eval_tmp e51, Reg.eval_tmp e52]
                go_simp
              exact hK.out _ _ ⟨by rw [HA.out]; exact Reg.fill_up 15 hb rfl rfl rfl, HW⟩
            refine Reg.steps_cons (i := 16) ?_ ?_
            · rintro bb aa ww ⟨ha, HW⟩ hb hd hn
              have e53 : aa.tmps[53]? = some (.pointer (some ⟨g, k * 10, none⟩)) := by rw [ha]; exact Reg.fill_on 15 rfl rfl (hd 15 (by decide)) rfl
              have e47 : aa.tmps[47]? = some (.bool true) := by rw [ha]; exact Reg.fill_on 9 rfl rfl (hd 9 (by decide)) rfl
              have HA := Lib.hid ha; clear ha; refine ⟨_, rfl, fun K hK => ?_⟩
              refine Reg.won_val (Reg.want_on rfl rfl rfl e47) rfl (v := .pointer (some ⟨g, k * 10 + 2, none⟩)) (w1 := ww) ?_ ?_
              · simp only [List.getElem_toArray, List.getElem_cons_succ, List.getElem_cons_zero, execOp, Reg.eval_tmp e53]
                go_simp
              exact hK.out _ _ ⟨by rw [HA.out]; exact Reg.fill_up 16 hb rfl rfl rfl, HW⟩
            refine Reg.steps_cons (i := 17) ?_ ?_
            · rintro bb aa ww ⟨ha, HW⟩ hb hd hn
              have e54 : aa.tmps[54]? = some (.pointer (some ⟨g, k * 10 + 2, none⟩)) := by rw [ha]; exact Reg.fill_on 16 rfl rfl (hd 16 (by decide)) rfl
              have e47 : aa.tmps[47]? = some (.bool true) := by rw [ha]; exact Reg.fill_on 9 rfl rfl (hd 9 (by decide)) rfl
              have HA := Lib.hid ha; clear ha; refine ⟨_, rfl, fun K hK => ?_⟩
              obtain ⟨x0, x1, x2, x3, x4, x5, x6, x7, x8, x9⟩ := HX.out ww (HB.out.trans (HW.mono HB.out.size)) k x HL.out
              refine Reg.won_val (Reg.want_on rfl rfl rfl e47) rfl (v := .agg #[.int .i64 x.bx.x0, .int .i64 x.bx.y0, .int .i64 x.bx.z0, .int .i64 x.bx.x1, .int .i64 x.bx.y1, .int .i64 x.bx.z1]) (w1 := ww) ?_ ?_
              · simp only [List.getElem_toArray, List.getElem_cons_succ, List.getElem_cons_zero, execOp, Reg.eval_tmp e54]
                go_simp
              exact hK.out _ _ ⟨by rw [HA.out]; exact Reg.fill_up 17 hb rfl rfl rfl, HW⟩
            refine Reg.steps_cons (i := 18) ?_ ?_
            · rintro bb aa ww ⟨ha, HW⟩ hb hd hn
              have e5 : aa.tmps[5]? = some (.pointer (some ⟨g5, 0, none⟩)) := by rw [ha]; exact (Reg.fill_off rfl).trans rfl
              have e47 : aa.tmps[47]? = some (.bool true) := by rw [ha]; exact Reg.fill_on 9 rfl rfl (hd 9 (by decide)) rfl
              have HA := Lib.hid ha; clear ha; refine ⟨_, rfl, fun K hK => ?_⟩
              have u0 := (row_cells (row_after HW HG.out)).1 0
              have u1 := (row_cells (row_after HW HG.out)).1 1
              have u2 := (row_cells (row_after HW HG.out)).1 2
              have u3 := (row_cells (row_after HW HG.out)).1 3
              have u4 := (row_cells (row_after HW HG.out)).1 4
              have u5 := (row_cells (row_after HW HG.out)).1 5
              refine Reg.won_val (Reg.want_on rfl rfl rfl e47) rfl (v := .agg #[.int .i64 b.x0, .int .i64 b.y0, .int .i64 b.z0, .int .i64 b.x1, .int .i64 b.y1, .int .i64 b.z1]) (w1 := ww) ?_ ?_
              · simp only [List.getElem_toArray, List.getElem_cons_succ, List.getElem_cons_zero, execOp, Reg.eval_tmp e5]
                go_simp
              exact hK.out _ _ ⟨by rw [HA.out]; exact Reg.fill_up 18 hb rfl rfl rfl, HW⟩
            refine Reg.steps_cons (i := 19) ?_ ?_
            · rintro bb aa ww ⟨ha, HW⟩ hb hd hn
              have e55 : aa.tmps[55]? = some (.agg #[.int .i64 x.bx.x0, .int .i64 x.bx.y0, .int .i64 x.bx.z0, .int .i64 x.bx.x1, .int .i64 x.bx.y1, .int .i64 x.bx.z1]) := by rw [ha]; exact Reg.fill_on 17 rfl rfl (hd 17 (by decide)) rfl
              have e56 : aa.tmps[56]? = some (.agg #[.int .i64 b.x0, .int .i64 b.y0, .int .i64 b.z0, .int .i64 b.x1, .int .i64 b.y1, .int .i64 b.z1]) := by rw [ha]; exact Reg.fill_on 18 rfl rfl (hd 18 (by decide)) rfl
              have e47 : aa.tmps[47]? = some (.bool true) := by rw [ha]; exact Reg.fill_on 9 rfl rfl (hd 9 (by decide)) rfl
              have HA := Lib.hid ha; clear ha; refine ⟨_, rfl, fun K hK => ?_⟩
              refine Reg.won_call (Reg.want_on rfl rfl rfl e47) rfl Tryz.func123 (by kernel_rfl) rfl #[.agg #[.int .i64 x.bx.x0, .int .i64 x.bx.y0, .int .i64 x.bx.z0, .int .i64 x.bx.x1, .int .i64 x.bx.y1, .int .i64 x.bx.z1], .agg #[.int .i64 b.x0, .int .i64 b.y0, .int .i64 b.z0, .int .i64 b.x1, .int .i64 b.y1, .int .i64 b.z1]] rfl (by simp [Reg.eval_tmp e55, Reg.eval_tmp e56]) ?_
              refine (hov ww).mono ?_; rintro e w3 ⟨rfl, hb3⟩; refine ⟨_, rfl, ?_⟩
              exact hK.out _ _ ⟨by rw [HA.out]; exact Reg.fill_up 19 hb rfl rfl rfl, HW.trans (hb3.mono HW.size)⟩
            refine Reg.steps_cons (i := 20) ?_ ?_
            · rintro bb aa ww ⟨ha, HW⟩ hb hd hn
              have e47 : aa.tmps[47]? = some (.bool true) := by rw [ha]; exact Reg.fill_on 9 rfl rfl (hd 9 (by decide)) rfl
              have e57 : aa.tmps[57]? = some (.bool true) := by rw [ha]; exact Reg.fill_on 19 rfl rfl (hd 19 (by decide)) rfl
              have HA := Lib.hid ha; clear ha; refine ⟨_, rfl, fun K hK => ?_⟩
              refine Reg.do_val rfl rfl (v := .bool true) (w1 := ww) ?_ ?_
              · simp only [List.getElem_toArray, List.getElem_cons_succ, List.getElem_cons_zero, execOp, Reg.eval_tmp e47, Reg.eval_tmp e57]
                go_simp
              exact hK.out _ _ ⟨by rw [HA.out]; exact Reg.fill_up 20 hb rfl rfl rfl, HW⟩
            exact trivial
          rintro bb aa W8 hall ⟨ha, HW⟩
          have hb0 := hall 0 (by decide)
          have hb1 := hall 1 (by decide)
          have hb2 := hall 2 (by decide)
          have hb3 := hall 3 (by decide)
          have hb4 := hall 4 (by decide)
          have hb5 := hall 5 (by decide)
          have hb6 := hall 6 (by decide)
          have hb7 := hall 7 (by decide)
          have hb8 := hall 8 (by decide)
          have hb9 := hall 9 (by decide)
          have hb10 := hall 10 (by decide)
          have hb11 := hall 11 (by decide)
          have hb12 := hall 12 (by decide)
          have hb13 := hall 13 (by decide)
          have hb14 := hall 14 (by decide)
          have hb15 := hall 15 (by decide)
          have hb16 := hall 16 (by decide)
          have hb17 := hall 17 (by decide)
          have hb18 := hall 18 (by decide)
          have hb19 := hall 19 (by decide)
          have hb20 := hall 20 (by decide)
          simp only [Reg.fill, hb0, hb1, hb2, hb3, hb4, hb5, hb6, hb7, hb8, hb9, hb10, hb11, hb12, hb13, hb14, hb15, hb16, hb17, hb18, hb19, hb20, if_true, Act.put, List.setIfInBounds_toArray, List.set_cons_zero, List.set_cons_succ] at ha
          clear hb0 hb1 hb2 hb3 hb4 hb5 hb6 hb7 hb8 hb9 hb10 hb11 hb12 hb13 hb14 hb15 hb16 hb17 hb18 hb19 hb20 hall
          subst ha
          have HB := Lib.hid (HB.out.trans (HW.mono HB.out.size))
          have HG := Lib.hid (row_after HW HG.out)
          clear HW
          go_wp2_with fail
          refine bodyPost_ret (v := .int .i64 11) (by simp [results, Tryz.results83, go_sem, *]) rfl ⟨by rw [HE.out], HB.out⟩
        | false =>
          rw [ho] at hov
          have HT := Lib.hid (HNX.out (fun hh => by rw [ho] at hh; exact absurd hh.2 (by decide)))
          clear hp ho
          go_wp2_with fail
          refine Reg.region_inv [[], [0], [1], [2], [], [3, 4], [5], [6], [7], [8], [9], [9, 10], [9, 11], [9, 12], [9], [9, 13, 14], [9, 15], [9, 16], [9], [9, 17, 18], [9, 19]] [[], [0], [0, 1], [0, 1, 2], [], [0, 1, 2, 3, 4], [0, 1, 2, 3, 4, 5], [0, 1, 2, 3, 4, 5, 6], [0, 1, 2, 3, 4, 5, 6, 7], [0, 1, 2, 3, 4, 5, 6, 7, 8], [0, 1, 2, 3, 4, 5, 6, 7, 8, 9], [0, 1, 2, 3, 4, 5, 6, 7, 8, 9, 10], [0, 1, 2, 3, 4, 5, 6, 7, 8, 9, 10, 11], [0, 1, 2, 3, 4, 5, 6, 7, 8, 9, 10, 11, 12], [0, 1, 2, 3, 4, 5, 6, 7, 8, 9], [0, 1, 2, 3, 4, 5, 6, 7, 8, 9, 10, 11, 12, 13, 14], [0, 1, 2, 3, 4, 5, 6, 7, 8, 9, 10, 11, 12, 13, 14, 15], [0, 1, 2, 3, 4, 5, 6, 7, 8, 9, 10, 11, 12, 13, 14, 15, 16], [0, 1, 2, 3, 4, 5, 6, 7, 8, 9], [0, 1, 2, 3, 4, 5, 6, 7, 8, 9, 10, 11, 12, 13, 14, 15, 16, 17, 18], [0, 1, 2, 3, 4, 5, 6, 7, 8, 9, 10, 11, 12, 13, 14, 15, 16, 17, 18, 19]] (fun a0_ bb aa ww => aa = Reg.fill bb [(0, 38, .pointer (some ⟨R, 0, none⟩)), (1, 39, .pointer (some ⟨R, 0, none⟩)), (2, 40, .pointer (some ⟨R, 0, none⟩)), (3, 41, .slice (some ⟨g, 0, none⟩) s.length c), (4, 42, .int .i64 (k : Int)), (5, 43, .pointer (some ⟨g, k * 10, none⟩)), (6, 44, .pointer (some ⟨g, k * 10 + 1, none⟩)), (7, 45, .string x.par), (8, 46, .bool true), (9, 47, .bool true), (10, 48, .pointer (some ⟨R, 0, none⟩)), (11, 49, .pointer (some ⟨R, 0, none⟩)), (12, 50, .pointer (some ⟨R, 0, none⟩)), (13, 51, .slice (some ⟨g, 0, none⟩) s.length c), (14, 52, .int .i64 (k : Int)), (15, 53, .pointer (some ⟨g, k * 10, none⟩)), (16, 54, .pointer (some ⟨g, k * 10 + 2, none⟩)), (17, 55, .agg #[.int .i64 x.bx.x0, .int .i64 x.bx.y0, .int .i64 x.bx.z0, .int .i64 x.bx.x1, .int .i64 x.bx.y1, .int .i64 x.bx.z1]), (18, 56, .agg #[.int .i64 b.x0, .int .i64 b.y0, .int .i64 b.z0, .int .i64 b.x1, .int .i64 b.y1, .int .i64 b.z1]), (19, 57, .bool false), (20, 58, .bool false)] a0_ ∧ Below wr.heap.size wr ww) (by kernel_rfl) (by kernel_rfl) (by kernel_rfl) ?_ ?_ ?_
          · exact ⟨Reg.fill_start.symm, (Below.refl _ _).drew⟩
          · refine Reg.steps_cons (i := 0) ?_ ?_
            · rintro bb aa ww ⟨ha, HW⟩ hb hd hn
              have e0 : aa.tmps[0]? = some (.pointer (some ⟨R, 0, none⟩)) := by rw [ha]; exact (Reg.fill_off rfl).trans rfl
              have HA := Lib.hid ha; clear ha; refine ⟨_, rfl, fun K hK => ?_⟩
              refine Reg.do_val rfl rfl (v := .pointer (some ⟨R, 0, none⟩)) (w1 := ww) (by simp only [List.getElem_toArray, List.getElem_cons_zero, execOp, Reg.eval_tmp e0]; rfl) ?_
              exact hK.out _ _ ⟨by rw [HA.out]; exact Reg.fill_up 0 hb rfl rfl rfl, HW⟩
            refine Reg.steps_cons (i := 1) ?_ ?_
            · rintro bb aa ww ⟨ha, HW⟩ hb hd hn
              have e38 : aa.tmps[38]? = some (.pointer (some ⟨R, 0, none⟩)) := by rw [ha]; exact Reg.fill_on 0 rfl rfl (hd 0 (by decide)) rfl
              have HA := Lib.hid ha; clear ha; refine ⟨_, rfl, fun K hK => ?_⟩
              refine Reg.do_val rfl rfl (v := .pointer (some ⟨R, 0, none⟩)) (w1 := ww) ?_ ?_
              · simp only [List.getElem_toArray, List.getElem_cons_succ, List.getElem_cons_zero, execOp, Reg.eval_tmp e38]
                go_simp
              exact hK.out _ _ ⟨by rw [HA.out]; exact Reg.fill_up 1 hb rfl rfl rfl, HW⟩
            refine Reg.steps_cons (i := 2) ?_ ?_
            · rintro bb aa ww ⟨ha, HW⟩ hb hd hn
              have e39 : aa.tmps[39]? = some (.pointer (some ⟨R, 0, none⟩)) := by rw [ha]; exact Reg.fill_on 1 rfl rfl (hd 1 (by decide)) rfl
              have HA := Lib.hid ha; clear ha; refine ⟨_, rfl, fun K hK => ?_⟩
              refine Reg.do_val rfl rfl (v := .pointer (some ⟨R, 0, none⟩)) (w1 := ww) ?_ ?_
              · simp only [List.getElem_toArray, List.getElem_cons_succ, List.getElem_cons_zero, execOp, Reg.eval_tmp e39]
                go_simp
              exact hK.out _ _ ⟨by rw [HA.out]; exact Reg.fill_up 2 hb rfl rfl rfl, HW⟩
            refine Reg.steps_cons (i := 3) ?_ ?_
            · rintro bb aa ww ⟨ha, HW⟩ hb hd hn
              have e40 : aa.tmps[40]? = some (.pointer (some ⟨R, 0, none⟩)) := by rw [ha]; exact Reg.fill_on 2 rfl rfl (hd 2 (by decide)) rfl
              have HA := Lib.hid ha; clear ha; refine ⟨_, rfl, fun K hK => ?_⟩
              have y0 := HY.out ww (HB.out.trans (HW.mono HB.out.size))
              refine Reg.do_val rfl rfl (v := .slice (some ⟨g, 0, none⟩) s.length c) (w1 := ww) ?_ ?_
              · simp only [List.getElem_toArray, List.getElem_cons_succ, List.getElem_cons_zero, execOp, Reg.eval_tmp e40]
                go_simp
              exact hK.out _ _ ⟨by rw [HA.out]; exact Reg.fill_up 3 hb rfl rfl rfl, HW⟩
            refine Reg.steps_cons (i := 4) ?_ ?_
            · rintro bb aa ww ⟨ha, HW⟩ hb hd hn
              have e7 : aa.tmps[7]? = some (.int .i64 (k : Int)) := by rw [ha]; exact (Reg.fill_off rfl).trans rfl
              have HA := Lib.hid ha; clear ha; refine ⟨_, rfl, fun K hK => ?_⟩
              refine Reg.do_val rfl rfl (v := .int .i64 (k : Int)) (w1 := ww) (by simp only [List.getElem_toArray, List.getElem_cons_succ, List.getElem_cons_zero, execOp, Reg.eval_tmp e7]; rfl) ?_
              exact hK.out _ _ ⟨by rw [HA.out]; exact Reg.fill_up 4 hb rfl rfl rfl, HW⟩
            refine Reg.steps_cons (i := 5) ?_ ?_
            · rintro bb aa ww ⟨ha, HW⟩ hb hd hn
              have e41 : aa.tmps[41]? = some (.slice (some ⟨g, 0, none⟩) s.length c) := by rw [ha]; exact Reg.fill_on 3 rfl rfl (hd 3 (by decide)) rfl
              have e42 : aa.tmps[42]? = some (.int .i64 (k : Int)) := by rw [ha]; exact Reg.fill_on 4 rfl rfl (hd 4 (by decide)) rfl
              have HA := Lib.hid ha; clear ha; refine ⟨_, rfl, fun K hK => ?_⟩
              refine Reg.do_val rfl rfl (v := .pointer (some ⟨g, k * 10, none⟩)) (w1 := ww) ?_ ?_
              · simp only [List.getElem_toArray, List.getElem_cons_succ, List.getElem_cons_zero, execOp, Reg.eval_tmp e41, Reg.eval_tmp e42]
                go_simp
              exact hK.out _ _ ⟨by rw [HA.out]; exact Reg.fill_up 5 hb rfl rfl rfl, HW⟩
            refine Reg.steps_cons (i := 6) ?_ ?_
            · rintro bb aa ww ⟨ha, HW⟩ hb hd hn
              have e43 : aa.tmps[43]? = some (.pointer (some ⟨g, k * 10, none⟩)) := by rw [ha]; exact Reg.fill_on 5 rfl rfl (hd 5 (by decide)) rfl
              have HA := Lib.hid ha; clear ha; refine ⟨_, rfl, fun K hK => ?_⟩
              refine Reg.do_val rfl rfl (v := .pointer (some ⟨g, k * 10 + 1, none⟩)) (w1 := ww) ?_ ?_
              · simp only [List.getElem_toArray, List.getElem_cons_succ, List.getElem_cons_zero, execOp, Reg.eval_tmp e43]
                go_simp
              exact hK.out _ _ ⟨by rw [HA.out]; exact Reg.fill_up 6 hb rfl rfl rfl, HW⟩
            refine Reg.steps_cons (i := 7) ?_ ?_
            · rintro bb aa ww ⟨ha, HW⟩ hb hd hn
              have e44 : aa.tmps[44]? = some (.pointer (some ⟨g, k * 10 + 1, none⟩)) := by rw [ha]; exact Reg.fill_on 6 rfl rfl (hd 6 (by decide)) rfl
              have HA := Lib.hid ha; clear ha; refine ⟨_, rfl, fun K hK => ?_⟩
              obtain ⟨x0, x1, x2, x3, x4, x5, x6, x7, x8, x9⟩ := HX.out ww (HB.out.trans (HW.mono HB.out.size)) k x HL.out
              refine Reg.do_val rfl rfl (v := .string x.par) (w1 := ww) ?_ ?_
              · simp only [List.getElem_toArray, List.getElem_cons_succ, List.getElem_cons_zero, execOp, Reg.eval_tmp e44]
                go_simp
              exact hK.out _ _ ⟨by rw [HA.out]; exact Reg.fill_up 7 hb rfl rfl rfl, HW⟩
            refine Reg.steps_cons (i := 8) ?_ ?_
            · rintro bb aa ww ⟨ha, HW⟩ hb hd hn
              have e45 : aa.tmps[45]? = some (.string x.par) := by rw [ha]; exact Reg.fill_on 7 rfl rfl (hd 7 (by decide)) rfl
              have HA := Lib.hid ha; clear ha; refine ⟨_, rfl, fun K hK => ?_⟩
              refine Reg.do_val rfl rfl (v := .bool true) (w1 := ww) ?_ ?_
              · simp only [List.getElem_toArray, List.getElem_cons_succ, List.getElem_cons_zero, execOp, Reg.eval_tmp e45]
                go_simp
              exact hK.out _ _ ⟨by rw [HA.out]; exact Reg.fill_up 8 hb rfl rfl rfl, HW⟩
            refine Reg.steps_cons (i := 9) ?_ ?_
            · rintro bb aa ww ⟨ha, HW⟩ hb hd hn
              have e46 : aa.tmps[46]? = some (.bool true) := by rw [ha]; exact Reg.fill_on 8 rfl rfl (hd 8 (by decide)) rfl
              have HA := Lib.hid ha; clear ha; refine ⟨_, rfl, fun K hK => ?_⟩
              refine Reg.do_val rfl rfl (v := .bool true) (w1 := ww) (by simp only [List.getElem_toArray, List.getElem_cons_succ, List.getElem_cons_zero, execOp, Reg.eval_tmp e46]; rfl) ?_
              exact hK.out _ _ ⟨by rw [HA.out]; exact Reg.fill_up 9 hb rfl rfl rfl, HW⟩
            refine Reg.steps_cons (i := 10) ?_ ?_
            · rintro bb aa ww ⟨ha, HW⟩ hb hd hn
              have e0 : aa.tmps[0]? = some (.pointer (some ⟨R, 0, none⟩)) := by rw [ha]; exact (Reg.fill_off rfl).trans rfl
              have e47 : aa.tmps[47]? = some (.bool true) := by rw [ha]; exact Reg.fill_on 9 rfl rfl (hd 9 (by decide)) rfl
              have HA := Lib.hid ha; clear ha; refine ⟨_, rfl, fun K hK => ?_⟩
              refine Reg.won_val (Reg.want_on rfl rfl rfl e47) rfl (v := .pointer (some ⟨R, 0, none⟩)) (w1 := ww) (by simp only [List.getElem_toArray, List.getElem_cons_succ, List.getElem_cons_zero, execOp, Reg.eval_tmp e0]; rfl) ?_
              exact hK.out _ _ ⟨by rw [HA.out]; exact Reg.fill_up 10 hb rfl rfl rfl, HW⟩
            refine Reg.steps_cons (i := 11) ?_ ?_
            · rintro bb aa ww ⟨ha, HW⟩ hb hd hn
              have e48 : aa.tmps[48]? = some (.pointer (some ⟨R, 0, none⟩)) := by rw [ha]; exact Reg.fill_on 10 rfl rfl (hd 10 (by decide)) rfl
              have e47 : aa.tmps[47]? = some (.bool true) := by rw [ha]; exact Reg.fill_on 9 rfl rfl (hd 9 (by decide)) rfl
              have HA := Lib.hid ha; clear ha; refine ⟨_, rfl, fun K hK => ?_⟩
              refine Reg.won_val (Reg.want_on rfl rfl rfl e47) rfl (v := .pointer (some ⟨R, 0, none⟩)) (w1 := ww) ?_ ?_
              · simp only [List.getElem_toArray, List.getElem_cons_succ, List.getElem_cons_zero, execOp, Reg.eval_tmp e48]
                go_simp
              exact hK.out _ _ ⟨by rw [HA.out]; exact Reg.fill_up 11 hb rfl rfl rfl, HW⟩
            refine Reg.steps_cons (i := 12) ?_ ?_
            · rintro bb aa ww ⟨ha, HW⟩ hb hd hn
              have e49 : aa.tmps[49]? = some (.pointer (some ⟨R, 0, none⟩)) := by rw [ha]; exact Reg.fill_on 11 rfl rfl (hd 11 (by decide)) rfl
              have e47 : aa.tmps[47]? = some (.bool true) := by rw [ha]; exact Reg.fill_on 9 rfl rfl (hd 9 (by decide)) rfl
              have HA := Lib.hid ha; clear ha; refine ⟨_, rfl, fun K hK => ?_⟩
              refine Reg.won_val (Reg.want_on rfl rfl rfl e47) rfl (v := .pointer (some ⟨R, 0, none⟩)) (w1 := ww) ?_ ?_
              · simp only [List.getElem_toArray, List.getElem_cons_succ, List.getElem_cons_zero, execOp, Reg.eval_tmp e49]
                go_simp
              exact hK.out _ _ ⟨by rw [HA.out]; exact Reg.fill_up 12 hb rfl rfl rfl, HW⟩
            refine Reg.steps_cons (i := 13) ?_ ?_
            · rintro bb aa ww ⟨ha, HW⟩ hb hd hn
              have e50 : aa.tmps[50]? = some (.pointer (some ⟨R, 0, none⟩)) := by rw [ha]; exact Reg.fill_on 12 rfl rfl (hd 12 (by decide)) rfl
              have e47 : aa.tmps[47]? = some (.bool true) := by rw [ha]; exact Reg.fill_on 9 rfl rfl (hd 9 (by decide)) rfl
              have HA := Lib.hid ha; clear ha; refine ⟨_, rfl, fun K hK => ?_⟩
              have y0 := HY.out ww (HB.out.trans (HW.mono HB.out.size))
              refine Reg.won_val (Reg.want_on rfl rfl rfl e47) rfl (v := .slice (some ⟨g, 0, none⟩) s.length c) (w1 := ww) ?_ ?_
              · simp only [List.getElem_toArray, List.getElem_cons_succ, List.getElem_cons_zero, execOp, Reg.eval_tmp e50]
                go_simp
              exact hK.out _ _ ⟨by rw [HA.out]; exact Reg.fill_up 13 hb rfl rfl rfl, HW⟩
            refine Reg.steps_cons (i := 14) ?_ ?_
            · rintro bb aa ww ⟨ha, HW⟩ hb hd hn
              have e7 : aa.tmps[7]? = some (.int .i64 (k : Int)) := by rw [ha]; exact (Reg.fill_off rfl).trans rfl
              have e47 : aa.tmps[47]? = some (.bool true) := by rw [ha]; exact Reg.fill_on 9 rfl rfl (hd 9 (by decide)) rfl
              have HA := Lib.hid ha; clear ha; refine ⟨_, rfl, fun K hK => ?_⟩
              refine Reg.won_val (Reg.want_on rfl rfl rfl e47) rfl (v := .int .i64 (k : Int)) (w1 := ww) (by simp only [List.getElem_toArray, List.getElem_cons_succ, List.getElem_cons_zero, execOp, Reg.eval_tmp e7]; rfl) ?_
              exact hK.out _ _ ⟨by rw [HA.out]; exact Reg.fill_up 14 hb rfl rfl rfl, HW⟩
            refine Reg.steps_cons (i := 15) ?_ ?_
            · rintro bb aa ww ⟨ha, HW⟩ hb hd hn
              have e51 : aa.tmps[51]? = some (.slice (some ⟨g, 0, none⟩) s.length c) := by rw [ha]; exact Reg.fill_on 13 rfl rfl (hd 13 (by decide)) rfl
              have e52 : aa.tmps[52]? = some (.int .i64 (k : Int)) := by rw [ha]; exact Reg.fill_on 14 rfl rfl (hd 14 (by decide)) rfl
              have e47 : aa.tmps[47]? = some (.bool true) := by rw [ha]; exact Reg.fill_on 9 rfl rfl (hd 9 (by decide)) rfl
              have HA := Lib.hid ha; clear ha; refine ⟨_, rfl, fun K hK => ?_⟩
              refine Reg.won_val (Reg.want_on rfl rfl rfl e47) rfl (v := .pointer (some ⟨g, k * 10, none⟩)) (w1 := ww) ?_ ?_
              · simp only [List.getElem_toArray, List.getElem_cons_succ, List.getElem_cons_zero, execOp, Reg.eval_tmp e51, Reg.eval_tmp e52]
                go_simp
              exact hK.out _ _ ⟨by rw [HA.out]; exact Reg.fill_up 15 hb rfl rfl rfl, HW⟩
            refine Reg.steps_cons (i := 16) ?_ ?_
            · rintro bb aa ww ⟨ha, HW⟩ hb hd hn
              have e53 : aa.tmps[53]? = some (.pointer (some ⟨g, k * 10, none⟩)) := by rw [ha]; exact Reg.fill_on 15 rfl rfl (hd 15 (by decide)) rfl
              have e47 : aa.tmps[47]? = some (.bool true) := by rw [ha]; exact Reg.fill_on 9 rfl rfl (hd 9 (by decide)) rfl
              have HA := Lib.hid ha; clear ha; refine ⟨_, rfl, fun K hK => ?_⟩
              refine Reg.won_val (Reg.want_on rfl rfl rfl e47) rfl (v := .pointer (some ⟨g, k * 10 + 2, none⟩)) (w1 := ww) ?_ ?_
              · simp only [List.getElem_toArray, List.getElem_cons_succ, List.getElem_cons_zero, execOp, Reg.eval_tmp e53]
                go_simp
              exact hK.out _ _ ⟨by rw [HA.out]; exact Reg.fill_up 16 hb rfl rfl rfl, HW⟩
            refine Reg.steps_cons (i := 17) ?_ ?_
            · rintro bb aa ww ⟨ha, HW⟩ hb hd hn
              have e54 : aa.tmps[54]? = some (.pointer (some ⟨g, k * 10 + 2, none⟩)) := by rw [ha]; exact Reg.fill_on 16 rfl rfl (hd 16 (by decide)) rfl
              have e47 : aa.tmps[47]? = some (.bool true) := by rw [ha]; exact Reg.fill_on 9 rfl rfl (hd 9 (by decide)) rfl
              have HA := Lib.hid ha; clear ha; refine ⟨_, rfl, fun K hK => ?_⟩
              obtain ⟨x0, x1, x2, x3, x4, x5, x6, x7, x8, x9⟩ := HX.out ww (HB.out.trans (HW.mono HB.out.size)) k x HL.out
              refine Reg.won_val (Reg.want_on rfl rfl rfl e47) rfl (v := .agg #[.int .i64 x.bx.x0, .int .i64 x.bx.y0, .int .i64 x.bx.z0, .int .i64 x.bx.x1, .int .i64 x.bx.y1, .int .i64 x.bx.z1]) (w1 := ww) ?_ ?_
              · simp only [List.getElem_toArray, List.getElem_cons_succ, List.getElem_cons_zero, execOp, Reg.eval_tmp e54]
                go_simp
              exact hK.out _ _ ⟨by rw [HA.out]; exact Reg.fill_up 17 hb rfl rfl rfl, HW⟩
            refine Reg.steps_cons (i := 18) ?_ ?_
            · rintro bb aa ww ⟨ha, HW⟩ hb hd hn
              have e5 : aa.tmps[5]? = some (.pointer (some ⟨g5, 0, none⟩)) := by rw [ha]; exact (Reg.fill_off rfl).trans rfl
              have e47 : aa.tmps[47]? = some (.bool true) := by rw [ha]; exact Reg.fill_on 9 rfl rfl (hd 9 (by decide)) rfl
              have HA := Lib.hid ha; clear ha; refine ⟨_, rfl, fun K hK => ?_⟩
              have u0 := (row_cells (row_after HW HG.out)).1 0
              have u1 := (row_cells (row_after HW HG.out)).1 1
              have u2 := (row_cells (row_after HW HG.out)).1 2
              have u3 := (row_cells (row_after HW HG.out)).1 3
              have u4 := (row_cells (row_after HW HG.out)).1 4
              have u5 := (row_cells (row_after HW HG.out)).1 5
              refine Reg.won_val (Reg.want_on rfl rfl rfl e47) rfl (v := .agg #[.int .i64 b.x0, .int .i64 b.y0, .int .i64 b.z0, .int .i64 b.x1, .int .i64 b.y1, .int .i64 b.z1]) (w1 := ww) ?_ ?_
              · simp only [List.getElem_toArray, List.getElem_cons_succ, List.getElem_cons_zero, execOp, Reg.eval_tmp e5]
                go_simp
              exact hK.out _ _ ⟨by rw [HA.out]; exact Reg.fill_up 18 hb rfl rfl rfl, HW⟩
            refine Reg.steps_cons (i := 19) ?_ ?_
            · rintro bb aa ww ⟨ha, HW⟩ hb hd hn
              have e55 : aa.tmps[55]? = some (.agg #[.int .i64 x.bx.x0, .int .i64 x.bx.y0, .int .i64 x.bx.z0, .int .i64 x.bx.x1, .int .i64 x.bx.y1, .int .i64 x.bx.z1]) := by rw [ha]; exact Reg.fill_on 17 rfl rfl (hd 17 (by decide)) rfl
              have e56 : aa.tmps[56]? = some (.agg #[.int .i64 b.x0, .int .i64 b.y0, .int .i64 b.z0, .int .i64 b.x1, .int .i64 b.y1, .int .i64 b.z1]) := by rw [ha]; exact Reg.fill_on 18 rfl rfl (hd 18 (by decide)) rfl
              have e47 : aa.tmps[47]? = some (.bool true) := by rw [ha]; exact Reg.fill_on 9 rfl rfl (hd 9 (by decide)) rfl
              have HA := Lib.hid ha; clear ha; refine ⟨_, rfl, fun K hK => ?_⟩
              refine Reg.won_call (Reg.want_on rfl rfl rfl e47) rfl Tryz.func123 (by kernel_rfl) rfl #[.agg #[.int .i64 x.bx.x0, .int .i64 x.bx.y0, .int .i64 x.bx.z0, .int .i64 x.bx.x1, .int .i64 x.bx.y1, .int .i64 x.bx.z1], .agg #[.int .i64 b.x0, .int .i64 b.y0, .int .i64 b.z0, .int .i64 b.x1, .int .i64 b.y1, .int .i64 b.z1]] rfl (by simp [Reg.eval_tmp e55, Reg.eval_tmp e56]) ?_
              refine (hov ww).mono ?_; rintro e w3 ⟨rfl, hb3⟩; refine ⟨_, rfl, ?_⟩
              exact hK.out _ _ ⟨by rw [HA.out]; exact Reg.fill_up 19 hb rfl rfl rfl, HW.trans (hb3.mono HW.size)⟩
            refine Reg.steps_cons (i := 20) ?_ ?_
            · rintro bb aa ww ⟨ha, HW⟩ hb hd hn
              have e47 : aa.tmps[47]? = some (.bool true) := by rw [ha]; exact Reg.fill_on 9 rfl rfl (hd 9 (by decide)) rfl
              have e57 : aa.tmps[57]? = some (.bool false) := by rw [ha]; exact Reg.fill_on 19 rfl rfl (hd 19 (by decide)) rfl
              have HA := Lib.hid ha; clear ha; refine ⟨_, rfl, fun K hK => ?_⟩
              refine Reg.do_val rfl rfl (v := .bool false) (w1 := ww) ?_ ?_
              · simp only [List.getElem_toArray, List.getElem_cons_succ, List.getElem_cons_zero, execOp, Reg.eval_tmp e47, Reg.eval_tmp e57]
                go_simp
              exact hK.out _ _ ⟨by rw [HA.out]; exact Reg.fill_up 20 hb rfl rfl rfl, HW⟩
            exact trivial
          rintro bb aa W8 hall ⟨ha, HW⟩
          have hb0 := hall 0 (by decide)
          have hb1 := hall 1 (by decide)
          have hb2 := hall 2 (by decide)
          have hb3 := hall 3 (by decide)
          have hb4 := hall 4 (by decide)
          have hb5 := hall 5 (by decide)
          have hb6 := hall 6 (by decide)
          have hb7 := hall 7 (by decide)
          have hb8 := hall 8 (by decide)
          have hb9 := hall 9 (by decide)
          have hb10 := hall 10 (by decide)
          have hb11 := hall 11 (by decide)
          have hb12 := hall 12 (by decide)
          have hb13 := hall 13 (by decide)
          have hb14 := hall 14 (by decide)
          have hb15 := hall 15 (by decide)
          have hb16 := hall 16 (by decide)
          have hb17 := hall 17 (by decide)
          have hb18 := hall 18 (by decide)
          have hb19 := hall 19 (by decide)
          have hb20 := hall 20 (by decide)
          simp only [Reg.fill, hb0, hb1, hb2, hb3, hb4, hb5, hb6, hb7, hb8, hb9, hb10, hb11, hb12, hb13, hb14, hb15, hb16, hb17, hb18, hb19, hb20, if_true, Act.put, List.setIfInBounds_toArray, List.set_cons_zero, List.set_cons_succ] at ha
          clear hb0 hb1 hb2 hb3 hb4 hb5 hb6 hb7 hb8 hb9 hb10 hb11 hb12 hb13 hb14 hb15 hb16 hb17 hb18 hb19 hb20 hall
          subst ha
          have HB := Lib.hid (HB.out.trans (HW.mono HB.out.size))
          have HG := Lib.hid (row_after HW HG.out)
          clear HW
          go_wp2_with fail
          exact ⟨⟨k + 1, hlt, by go_num, HT.out, HG.out, HB.out⟩, by simp [intOf]; omega⟩
      · have hp0 : x.par.toList.isEmpty = false := by
          have := fun e => hp ((tl_nil _).1 e)
          simpa using this
        have HT := Lib.hid (HNX.out (fun hh => hp hh.1))
        clear hp
        go_wp2_with fail
        refine Reg.region_inv [[], [0], [1], [2], [], [3, 4], [5], [6], [7], [8], [9], [9, 10], [9, 11], [9, 12], [9], [9, 13, 14], [9, 15], [9, 16], [9], [9, 17, 18], [9, 19]] [[], [0], [0, 1], [0, 1, 2], [], [0, 1, 2, 3, 4], [0, 1, 2, 3, 4, 5], [0, 1, 2, 3, 4, 5, 6], [0, 1, 2, 3, 4, 5, 6, 7], [0, 1, 2, 3, 4, 5, 6, 7, 8], [0, 1, 2, 3, 4, 5, 6, 7, 8, 9], [0, 1, 2, 3, 4, 5, 6, 7, 8, 9, 10], [0, 1, 2, 3, 4, 5, 6, 7, 8, 9, 10, 11], [0, 1, 2, 3, 4, 5, 6, 7, 8, 9, 10, 11, 12], [0, 1, 2, 3, 4, 5, 6, 7, 8, 9], [0, 1, 2, 3, 4, 5, 6, 7, 8, 9, 10, 11, 12, 13, 14], [0, 1, 2, 3, 4, 5, 6, 7, 8, 9, 10, 11, 12, 13, 14, 15], [0, 1, 2, 3, 4, 5, 6, 7, 8, 9, 10, 11, 12, 13, 14, 15, 16], [0, 1, 2, 3, 4, 5, 6, 7, 8, 9], [0, 1, 2, 3, 4, 5, 6, 7, 8, 9, 10, 11, 12, 13, 14, 15, 16, 17, 18], [0, 1, 2, 3, 4, 5, 6, 7, 8, 9, 10, 11, 12, 13, 14, 15, 16, 17, 18, 19]] (fun a0_ bb aa ww => aa = Reg.fill bb [(0, 38, .pointer (some ⟨R, 0, none⟩)), (1, 39, .pointer (some ⟨R, 0, none⟩)), (2, 40, .pointer (some ⟨R, 0, none⟩)), (3, 41, .slice (some ⟨g, 0, none⟩) s.length c), (4, 42, .int .i64 (k : Int)), (5, 43, .pointer (some ⟨g, k * 10, none⟩)), (6, 44, .pointer (some ⟨g, k * 10 + 1, none⟩)), (7, 45, .string x.par), (8, 46, .bool false), (9, 47, .bool false), (10, 48, undef), (11, 49, undef), (12, 50, undef), (13, 51, undef), (14, 52, undef), (15, 53, undef), (16, 54, undef), (17, 55, undef), (18, 56, undef), (19, 57, undef), (20, 58, .bool false)] a0_ ∧ Below wr.heap.size wr ww) (by kernel_rfl) (by kernel_rfl) (by kernel_rfl) ?_ ?_ ?_
        · exact ⟨Reg.fill_start.symm, (Below.refl _ _).drew⟩
        · refine Reg.steps_cons (i := 0) ?_ ?_
          · rintro bb aa ww ⟨ha, HW⟩ hb hd hn
            have e0 : aa.tmps[0]? = some (.pointer (some ⟨R, 0, none⟩)) := by rw [ha]; exact (Reg.fill_off rfl).trans rfl
            have HA := Lib.hid ha; clear ha; refine ⟨_, rfl, fun K hK => ?_⟩
            refine Reg.do_val rfl rfl (v := .pointer (some ⟨R, 0, none⟩)) (w1 := ww) (by simp only [List.getElem_toArray, List.getElem_cons_zero, execOp, Reg.eval_tmp e0]; rfl) ?_
            exact hK.out _ _ ⟨by rw [HA.out]; exact Reg.fill_up 0 hb rfl rfl rfl, HW⟩
          refine Reg.steps_cons (i := 1) ?_ ?_
          · rintro bb aa ww ⟨ha, HW⟩ hb hd hn
            have e38 : aa.tmps[38]? = some (.pointer (some ⟨R, 0, none⟩)) := by rw [ha]; exact Reg.fill_on 0 rfl rfl (hd 0 (by decide)) rfl
            have HA := Lib.hid ha; clear ha; refine ⟨_, rfl, fun K hK => ?_⟩
            refine Reg.do_val rfl rfl (v := .pointer (some ⟨R, 0, none⟩)) (w1 := ww) ?_ ?_
            · simp only [List.getElem_toArray, List.getElem_cons_succ, List.getElem_cons_zero, execOp, Reg.eval_tmp e38]
              go_simp
            exact hK.out _ _ ⟨by rw [HA.out]; exact Reg.fill_up 1 hb rfl rfl rfl, HW⟩
          refine Reg.steps_cons (i := 2) ?_ ?_
          · rintro bb aa ww ⟨ha, HW⟩ hb hd hn
            have e39 : aa.tmps[39]? = some (.pointer (some ⟨R, 0, none⟩)) := by rw [ha]; exact Reg.fill_on 1 rfl rfl (hd 1 (by decide)) rfl
            have HA := Lib.hid ha; clear ha; refine ⟨_, rfl, fun K hK => ?_⟩
            refine Reg.do_val rfl rfl (v := .pointer (some ⟨R, 0, none⟩)) (w1 := ww) ?_ ?_
            · simp only [List.getElem_toArray, List.getElem_cons_succ, List.getElem_cons_zero, execOp, Reg.eval_tmp e39]
              go_simp
            exact hK.out _ _ ⟨by rw [HA.out]; exact Reg.fill_up 2 hb rfl rfl rfl, HW⟩
          refine Reg.steps_cons (i := 3) ?_ ?_
          · rintro bb aa ww ⟨ha, HW⟩ hb hd hn
            have e40 : aa.tmps[40]? = some (.pointer (some ⟨R, 0, none⟩)) := by rw [ha]; exact Reg.fill_on 2 rfl rfl (hd 2 (by decide)) rfl
            have HA := Lib.hid ha; clear ha; refine ⟨_, rfl, fun K hK => ?_⟩
            have y0 := HY.out ww (HB.out.trans (HW.mono HB.out.size))
            refine Reg.do_val rfl rfl (v := .slice (some ⟨g, 0, none⟩) s.length c) (w1 := ww) ?_ ?_
            · simp only [List.getElem_toArray, List.getElem_cons_succ, List.getElem_cons_zero, execOp, Reg.eval_tmp e40]
              go_simp
            exact hK.out _ _ ⟨by rw [HA.out]; exact Reg.fill_up 3 hb rfl rfl rfl, HW⟩
          refine Reg.steps_cons (i := 4) ?_ ?_
          · rintro bb aa ww ⟨ha, HW⟩ hb hd hn
            have e7 : aa.tmps[7]? = some (.int .i64 (k : Int)) := by rw [ha]; exact (Reg.fill_off rfl).trans rfl
            have HA := Lib.hid ha; clear ha; refine ⟨_, rfl, fun K hK => ?_⟩
            refine Reg.do_val rfl rfl (v := .int .i64 (k : Int)) (w1 := ww) (by simp only [List.getElem_toArray, List.getElem_cons_succ, List.getElem_cons_zero, execOp, Reg.eval_tmp e7]; rfl) ?_
            exact hK.out _ _ ⟨by rw [HA.out]; exact Reg.fill_up 4 hb rfl rfl rfl, HW⟩
          refine Reg.steps_cons (i := 5) ?_ ?_
          · rintro bb aa ww ⟨ha, HW⟩ hb hd hn
            have e41 : aa.tmps[41]? = some (.slice (some ⟨g, 0, none⟩) s.length c) := by rw [ha]; exact Reg.fill_on 3 rfl rfl (hd 3 (by decide)) rfl
            have e42 : aa.tmps[42]? = some (.int .i64 (k : Int)) := by rw [ha]; exact Reg.fill_on 4 rfl rfl (hd 4 (by decide)) rfl
            have HA := Lib.hid ha; clear ha; refine ⟨_, rfl, fun K hK => ?_⟩
            refine Reg.do_val rfl rfl (v := .pointer (some ⟨g, k * 10, none⟩)) (w1 := ww) ?_ ?_
            · simp only [List.getElem_toArray, List.getElem_cons_succ, List.getElem_cons_zero, execOp, Reg.eval_tmp e41, Reg.eval_tmp e42]
              go_simp
            exact hK.out _ _ ⟨by rw [HA.out]; exact Reg.fill_up 5 hb rfl rfl rfl, HW⟩
          refine Reg.steps_cons (i := 6) ?_ ?_
          · rintro bb aa ww ⟨ha, HW⟩ hb hd hn
            have e43 : aa.tmps[43]? = some (.pointer (some ⟨g, k * 10, none⟩)) := by rw [ha]; exact Reg.fill_on 5 rfl rfl (hd 5 (by decide)) rfl
            have HA := Lib.hid ha; clear ha; refine ⟨_, rfl, fun K hK => ?_⟩
            refine Reg.do_val rfl rfl (v := .pointer (some ⟨g, k * 10 + 1, none⟩)) (w1 := ww) ?_ ?_
            · simp only [List.getElem_toArray, List.getElem_cons_succ, List.getElem_cons_zero, execOp, Reg.eval_tmp e43]
              go_simp
            exact hK.out _ _ ⟨by rw [HA.out]; exact Reg.fill_up 6 hb rfl rfl rfl, HW⟩
          refine Reg.steps_cons (i := 7) ?_ ?_
          · rintro bb aa ww ⟨ha, HW⟩ hb hd hn
            have e44 : aa.tmps[44]? = some (.pointer (some ⟨g, k * 10 + 1, none⟩)) := by rw [ha]; exact Reg.fill_on 6 rfl rfl (hd 6 (by decide)) rfl
            have HA := Lib.hid ha; clear ha; refine ⟨_, rfl, fun K hK => ?_⟩
            obtain ⟨x0, x1, x2, x3, x4, x5, x6, x7, x8, x9⟩ := HX.out ww (HB.out.trans (HW.mono HB.out.size)) k x HL.out
            refine Reg.do_val rfl rfl (v := .string x.par) (w1 := ww) ?_ ?_
            · simp only [List.getElem_toArray, List.getElem_cons_succ, List.getElem_cons_zero, execOp, Reg.eval_tmp e44]
              go_simp
            exact hK.out _ _ ⟨by rw [HA.out]; exact Reg.fill_up 7 hb rfl rfl rfl, HW⟩
          refine Reg.steps_cons (i := 8) ?_ ?_
          · rintro bb aa ww ⟨ha, HW⟩ hb hd hn
            have e45 : aa.tmps[45]? = some (.string x.par) := by rw [ha]; exact Reg.fill_on 7 rfl rfl (hd 7 (by decide)) rfl
            have HA := Lib.hid ha; clear ha; refine ⟨_, rfl, fun K hK => ?_⟩
            refine Reg.do_val rfl rfl (v := .bool false) (w1 := ww) ?_ ?_
            · simp only [List.getElem_toArray, List.getElem_cons_succ, List.getElem_cons_zero, execOp, Reg.eval_tmp e45]
              go_simp
            exact hK.out _ _ ⟨by rw [HA.out]; exact Reg.fill_up 8 hb rfl rfl rfl, HW⟩
          refine Reg.steps_cons (i := 9) ?_ ?_
          · rintro bb aa ww ⟨ha, HW⟩ hb hd hn
            have e46 : aa.tmps[46]? = some (.bool false) := by rw [ha]; exact Reg.fill_on 8 rfl rfl (hd 8 (by decide)) rfl
            have HA := Lib.hid ha; clear ha; refine ⟨_, rfl, fun K hK => ?_⟩
            refine Reg.do_val rfl rfl (v := .bool false) (w1 := ww) (by simp only [List.getElem_toArray, List.getElem_cons_succ, List.getElem_cons_zero, execOp, Reg.eval_tmp e46]; rfl) ?_
            exact hK.out _ _ ⟨by rw [HA.out]; exact Reg.fill_up 9 hb rfl rfl rfl, HW⟩
          refine Reg.steps_cons (i := 10) ?_ ?_
          · rintro bb aa ww ⟨ha, HW⟩ hb hd hn
            have e0 : aa.tmps[0]? = some (.pointer (some ⟨R, 0, none⟩)) := by rw [ha]; exact (Reg.fill_off rfl).trans rfl
            have e47 : aa.tmps[47]? = some (.bool false) := by rw [ha]; exact Reg.fill_on 9 rfl rfl (hd 9 (by decide)) rfl
            have HA := Lib.hid ha; clear ha; refine ⟨_, rfl, fun K hK => ?_⟩
            refine Reg.do_off rfl rfl rfl e47 rfl ?_
            exact hK.out _ _ ⟨by rw [HA.out]; exact Reg.fill_up 10 hb rfl rfl rfl, HW⟩
          refine Reg.steps_cons (i := 11) ?_ ?_
          · rintro bb aa ww ⟨ha, HW⟩ hb hd hn
            have e48 : aa.tmps[48]? = some (undef) := by rw [ha]; exact Reg.fill_on 10 rfl rfl (hd 10 (by decide)) rfl
            have e47 : aa.tmps[47]? = some (.bool false) := by rw [ha]; exact Reg.fill_on 9 rfl rfl (hd 9 (by decide)) rfl
            have HA := Lib.hid ha; clear ha; refine ⟨_, rfl, fun K hK => ?_⟩
            refine Reg.do_off rfl rfl rfl e47 rfl ?_
            exact hK.out _ _ ⟨by rw [HA.out]; exact Reg.fill_up 11 hb rfl rfl rfl, HW⟩
          refine Reg.steps_cons (i := 12) ?_ ?_
          · rintro bb aa ww ⟨ha, HW⟩ hb hd hn
            have e49 : aa.tmps[49]? = some (undef) := by rw [ha]; exact Reg.fill_on 11 rfl rfl (hd 11 (by decide)) rfl
            have e47 : aa.tmps[47]? = some (.bool false) := by rw [ha]; exact Reg.fill_on 9 rfl rfl (hd 9 (by decide)) rfl
            have HA := Lib.hid ha; clear ha; refine ⟨_, rfl, fun K hK => ?_⟩
            refine Reg.do_off rfl rfl rfl e47 rfl ?_
            exact hK.out _ _ ⟨by rw [HA.out]; exact Reg.fill_up 12 hb rfl rfl rfl, HW⟩
          refine Reg.steps_cons (i := 13) ?_ ?_
          · rintro bb aa ww ⟨ha, HW⟩ hb hd hn
            have e50 : aa.tmps[50]? = some (undef) := by rw [ha]; exact Reg.fill_on 12 rfl rfl (hd 12 (by decide)) rfl
            have e47 : aa.tmps[47]? = some (.bool false) := by rw [ha]; exact Reg.fill_on 9 rfl rfl (hd 9 (by decide)) rfl
            have HA := Lib.hid ha; clear ha; refine ⟨_, rfl, fun K hK => ?_⟩
            refine Reg.do_off rfl rfl rfl e47 rfl ?_
            exact hK.out _ _ ⟨by rw [HA.out]; exact Reg.fill_up 13 hb rfl rfl rfl, HW⟩
          refine Reg.steps_cons (i := 14) ?_ ?_
          · rintro bb aa ww ⟨ha, HW⟩ hb hd hn
            have e7 : aa.tmps[7]? = some (.int .i64 (k : Int)) := by rw [ha]; exact (Reg.fill_off rfl).trans rfl
            have e47 : aa.tmps[47]? = some (.bool false) := by rw [ha]; exact Reg.fill_on 9 rfl rfl (hd 9 (by decide)) rfl
            have HA := Lib.hid ha; clear ha; refine ⟨_, rfl, fun K hK => ?_⟩
            refine Reg.do_off rfl rfl rfl e47 rfl ?_
            exact hK.out _ _ ⟨by rw [HA.out]; exact Reg.fill_up 14 hb rfl rfl rfl, HW⟩
          refine Reg.steps_cons (i := 15) ?_ ?_
          · rintro bb aa ww ⟨ha, HW⟩ hb hd hn
            have e51 : aa.tmps[51]? = some (undef) := by rw [ha]; exact Reg.fill_on 13 rfl rfl (hd 13 (by decide)) rfl
            have e52 : aa.tmps[52]? = some (undef) := by rw [ha]; exact Reg.fill_on 14 rfl rfl (hd 14 (by decide)) rfl
            have e47 : aa.tmps[47]? = some (.bool false) := by rw [ha]; exact Reg.fill_on 9 rfl rfl (hd 9 (by decide)) rfl
            have HA := Lib.hid ha; clear ha; refine ⟨_, rfl, fun K hK => ?_⟩
            refine Reg.do_off rfl rfl rfl e47 rfl ?_
            exact hK.out _ _ ⟨by rw [HA.out]; exact Reg.fill_up 15 hb rfl rfl rfl, HW⟩
          refine Reg.steps_cons (i := 16) ?_ ?_
          · rintro bb aa ww ⟨ha, HW⟩ hb hd hn
            have e53 : aa.tmps[53]? = some (undef) := by rw [ha]; exact Reg.fill_on 15 rfl rfl (hd 15 (by decide)) rfl
            have e47 : aa.tmps[47]? = some (.bool false) := by rw [ha]; exact Reg.fill_on 9 rfl rfl (hd 9 (by decide)) rfl
            have HA := Lib.hid ha; clear ha; refine ⟨_, rfl, fun K hK => ?_⟩
            refine Reg.do_off rfl rfl rfl e47 rfl ?_
            exact hK.out _ _ ⟨by rw [HA.out]; exact Reg.fill_up 16 hb rfl rfl rfl, HW⟩
          refine Reg.steps_cons (i := 17) ?_ ?_
          · rintro bb aa ww ⟨ha, HW⟩ hb hd hn
            have e54 : aa.tmps[54]? = some (undef) := by rw [ha]; exact Reg.fill_on 16 rfl rfl (hd 16 (by decide)) rfl
            have e47 : aa.tmps[47]? = some (.bool false) := by rw [ha]; exact Reg.fill_on 9 rfl rfl (hd 9 (by decide)) rfl
            have HA := Lib.hid ha; clear ha; refine ⟨_, rfl, fun K hK => ?_⟩
            refine Reg.do_off rfl rfl rfl e47 rfl ?_
            exact hK.out _ _ ⟨by rw [HA.out]; exact Reg.fill_up 17 hb rfl rfl rfl, HW⟩
          refine Reg.steps_cons (i := 18) ?_ ?_
          · rintro bb aa ww ⟨ha, HW⟩ hb hd hn
            have e5 : aa.tmps[5]? = some (.pointer (some ⟨g5, 0, none⟩)) := by rw [ha]; exact (Reg.fill_off rfl).trans rfl
            have e47 : aa.tmps[47]? = some (.bool false) := by rw [ha]; exact Reg.fill_on 9 rfl rfl (hd 9 (by decide)) rfl
            have HA := Lib.hid ha; clear ha; refine ⟨_, rfl, fun K hK => ?_⟩
            refine Reg.do_off rfl rfl rfl e47 rfl ?_
            exact hK.out _ _ ⟨by rw [HA.out]; exact Reg.fill_up 18 hb rfl rfl rfl, HW⟩
          refine Reg.steps_cons (i := 19) ?_ ?_
          · rintro bb aa ww ⟨ha, HW⟩ hb hd hn
            have e55 : aa.tmps[55]? = some (undef) := by rw [ha]; exact Reg.fill_on 17 rfl rfl (hd 17 (by decide)) rfl
            have e56 : aa.tmps[56]? = some (undef) := by rw [ha]; exact Reg.fill_on 18 rfl rfl (hd 18 (by decide)) rfl
            have e47 : aa.tmps[47]? = some (.bool false) := by rw [ha]; exact Reg.fill_on 9 rfl rfl (hd 9 (by decide)) rfl
            have HA := Lib.hid ha; clear ha; refine ⟨_, rfl, fun K hK => ?_⟩
            refine Reg.do_off rfl rfl rfl e47 rfl ?_
            exact hK.out _ _ ⟨by rw [HA.out]; exact Reg.fill_up 19 hb rfl rfl rfl, HW⟩
          refine Reg.steps_cons (i := 20) ?_ ?_
          · rintro bb aa ww ⟨ha, HW⟩ hb hd hn
            have e47 : aa.tmps[47]? = some (.bool false) := by rw [ha]; exact Reg.fill_on 9 rfl rfl (hd 9 (by decide)) rfl
            have e57 : aa.tmps[57]? = some (undef) := by rw [ha]; exact Reg.fill_on 19 rfl rfl (hd 19 (by decide)) rfl
            have HA := Lib.hid ha; clear ha; refine ⟨_, rfl, fun K hK => ?_⟩
            refine Reg.do_val rfl rfl (v := .bool false) (w1 := ww) ?_ ?_
            · simp only [List.getElem_toArray, List.getElem_cons_succ, List.getElem_cons_zero, execOp, Reg.eval_tmp e47, Reg.eval_tmp e57]
              go_simp
            exact hK.out _ _ ⟨by rw [HA.out]; exact Reg.fill_up 20 hb rfl rfl rfl, HW⟩
          exact trivial
        rintro bb aa W8 hall ⟨ha, HW⟩
        have hb0 := hall 0 (by decide)
        have hb1 := hall 1 (by decide)
        have hb2 := hall 2 (by decide)
        have hb3 := hall 3 (by decide)
        have hb4 := hall 4 (by decide)
        have hb5 := hall 5 (by decide)
        have hb6 := hall 6 (by decide)
        have hb7 := hall 7 (by decide)
        have hb8 := hall 8 (by decide)
        have hb9 := hall 9 (by decide)
        have hb10 := hall 10 (by decide)
        have hb11 := hall 11 (by decide)
        have hb12 := hall 12 (by decide)
        have hb13 := hall 13 (by decide)
        have hb14 := hall 14 (by decide)
        have hb15 := hall 15 (by decide)
        have hb16 := hall 16 (by decide)
        have hb17 := hall 17 (by decide)
        have hb18 := hall 18 (by decide)
        have hb19 := hall 19 (by decide)
        have hb20 := hall 20 (by decide)
        simp only [Reg.fill, hb0, hb1, hb2, hb3, hb4, hb5, hb6, hb7, hb8, hb9, hb10, hb11, hb12, hb13, hb14, hb15, hb16, hb17, hb18, hb19, hb20, if_true, Act.put, List.setIfInBounds_toArray, List.set_cons_zero, List.set_cons_succ] at ha
        clear hb0 hb1 hb2 hb3 hb4 hb5 hb6 hb7 hb8 hb9 hb10 hb11 hb12 hb13 hb14 hb15 hb16 hb17 hb18 hb19 hb20 hall
        subst ha
        have HB := Lib.hid (HB.out.trans (HW.mono HB.out.size))
        have HG := Lib.hid (row_after HW HG.out)
        clear HW
        go_wp2_with fail
        exact ⟨⟨k + 1, hlt, by go_num, HT.out, HG.out, HB.out⟩, by simp [intOf]; omega⟩
    · obtain rfl : k = s.length := by omega
      have hE := HE.out
      rw [if_neg (by rw [HNONE.out HA.out]; decide)] at hE
      have HE := Lib.hid hE
      clear hE
      go_wp2_with fail
      refine bodyPost_ret (v := .int .i64 0) (by simp [results, Tryz.results83, go_sem, *]) rfl ⟨by rw [HE.out], HB.out⟩
end Go.Proofs.YtejhcbbfdfnfdaaGreatDoor.Yard

/- The reference's Check. -/
namespace Go.Proofs.YtejhcbbfdfnfdaaGreatDoor.Yard
open Go.RowKit Go.Proofs.YtejhcbbfdfnfdaaGreatDoor.Base Go.Proofs.YtejhcbbfdfnfdaaGreatDoor.Mp
open Yp (It Yd Fact Bx)
theorem look_no {s : List It} {id : ByteArray} (h : ∀ x ∈ s, x.id ≠ id) : Yp.look s id = none := by
  cases e : Yp.look s id with
  | none => rfl
  | some x => obtain ⟨h1, h2⟩ := Yp.look_some e; exact absurd h2 (h x h1)
theorem list1 {α : Type} {l : List α} (h : l.length = 1) : ∃ a, l = [a] := List.length_eq_one_iff.1 h
theorem list2 {α : Type} {l : List α} (h : l.length = 2) : ∃ a b, l = [a, b] := by
  match l, h with
  | [a, b], _ => exact ⟨a, b, rfl⟩
theorem list3 {α : Type} {l : List α} (h : l.length = 3) : ∃ a b c, l = [a, b, c] := by
  match l, h with
  | [a, b, c], _ => exact ⟨a, b, c, rfl⟩
theorem list6 {α : Type} {l : List α} (h : l.length = 6) : ∃ a b c d e f, l = [a, b, c, d, e, f] := by
  match l, h with
  | [a, b, c, d, e, f], _ => exact ⟨a, b, c, d, e, f, rfl⟩
set_option maxRecDepth 100000 in
set_option maxHeartbeats 32000000 in
theorem rcheck_any {W : World} {R : Nat} {s : List It} {fs : List Fact} (h : RAt W R s fs) (hu : s.Pairwise fun a b => a.id ≠ b.id) (hl : s.length < 4000) (hfl : fs.length < 4096) {X : Nat → Prop} (kd : ByteArray) (ns : List ByteArray) (vs : List Int) (nv vv : Value) (hn : Rd W X nv (strV ns)) (hv : Rd W X vv (intV vs)) :
    Calls Tryz.prog 46 #[.pointer (some ⟨R, 0, none⟩), .agg #[.string kd, nv, vv]] W fun e w' => e = .returned (.int .i64 (Yp.check ⟨s, fs, 0⟩ ⟨kd, ns, vs⟩)) ∧ Below W.heap.size W w' := by
  have HEO : Hid (Yp.kindNo kd = none → Yp.check ⟨s, fs, 0⟩ ⟨kd, ns, vs⟩ = 3) := Lib.hid Yp.check_out
  have HES : Hid (∀ k, Yp.kindNo kd = some k → (ns.length ≠ Yp.nNames k ∨ vs.length ≠ Yp.nVals k) → Yp.check ⟨s, fs, 0⟩ ⟨kd, ns, vs⟩ = 1) := Lib.hid fun k => Yp.check_shape
  have HEB : Hid (∀ k, Yp.kindNo kd = some k → ns.length = Yp.nNames k → vs.length = Yp.nVals k → (ns.any fun s => !Yp.isName s) = true → Yp.check ⟨s, fs, 0⟩ ⟨kd, ns, vs⟩ = 4) := Lib.hid fun k => Yp.check_bad
  have HEF : Hid (Yp.kindNo kd = some 0 → ns.length = Yp.nNames 0 → vs.length = Yp.nVals 0 → (ns.any fun s => !Yp.isName s) = false → Yp.check ⟨s, fs, 0⟩ ⟨kd, ns, vs⟩ = Yp.freeErr s (ns.getD 0 Yp.es) (Yp.boxOf vs)) := Lib.hid (Yp.check_free (y := ⟨s, fs, 0⟩))
  have HEM : Hid (∀ k, Yp.kindNo kd = some k → ns.length = Yp.nNames k → vs.length = Yp.nVals k → (ns.any fun s => !Yp.isName s) = false → k ≠ 0 → Yp.look s (ns.getD 0 Yp.es) = none → Yp.check ⟨s, fs, 0⟩ ⟨kd, ns, vs⟩ = 3) := Lib.hid fun k => Yp.check_miss (y := ⟨s, fs, 0⟩)
  have HEK : Hid (∀ k, Yp.kindNo kd = some k → ns.length = Yp.nNames k → vs.length = Yp.nVals k → (ns.any fun s => !Yp.isName s) = false → k ≠ 0 → ∀ x, Yp.look s (ns.getD 0 Yp.es) = some x → Yp.check ⟨s, fs, 0⟩ ⟨kd, ns, vs⟩ = if Yp.allowed k x.st = false then 8 else if k = 1 then Yp.cutErr s x ⟨kd, ns, vs⟩ else if k = 2 then Yp.assignErr s (ns.getD 1 Yp.es) else 0) := Lib.hid fun k h1 h2 h3 h4 h5 x h6 => Yp.check_found (y := ⟨s, fs, 0⟩) h1 h2 h3 h4 h5 h6
  generalize Yp.check ⟨s, fs, 0⟩ ⟨kd, ns, vs⟩ = E at *
  obtain ⟨A, c, _, hy, hx⟩ := h.open
  have HY := Lib.hid hy
  have HXX := Lib.hid hx
  obtain ⟨A5, c5, hf5⟩ : ∃ A5 c5, ∀ W', Below W.heap.size W W' → W'.cell? ⟨R, 1, none⟩ = some (.slice A5 fs.length c5) := by
    obtain ⟨IV, FV, h1, _, ⟨A5, c5, rfl, _⟩, _⟩ := h
    exact ⟨A5, c5, fun W' hb => (row_cells (row_after hb h1)).1 1⟩
  have HF5 := Lib.hid hf5
  have HRA := Lib.hid h
  clear hy hx h hf5
  have HNN := Lib.hid hn
  have HVV := Lib.hid hv
  obtain ⟨A1, c1, rfl, _, rn⟩ := id hn
  obtain ⟨A2, c2, rfl, _, rv⟩ := id hv
  rw [show (strV ns).length = ns.length by simp [strV]] at *
  rw [show (intV vs).length = vs.length by simp [intV]] at *
  have HNA : Hid (0 < ns.length → ∃ b1 o1, A1 = some ⟨b1, o1, none⟩ ∧ ∀ W', Below W.heap.size W W' → ∀ j u, (strV ns)[j]? = some u → W'.cell? ⟨b1, o1 + j, none⟩ = some u) := Lib.hid fun h0 => by
    obtain ⟨b1, o1, e, hl1, _, cn⟩ := rn h0
    exact ⟨b1, o1, e, fun W' hb j u hj => (hb.cell (p := ⟨b1, _, none⟩) hl1).trans (cn j u hj)⟩
  have HVA : Hid (0 < vs.length → ∃ b2 o2, A2 = some ⟨b2, o2, none⟩) := Lib.hid fun h0 => by
    obtain ⟨b2, o2, e, _⟩ := rv h0
    exact ⟨b2, o2, e⟩
  clear rn rv hn hv
  have HB := Lib.hid (al_below W (.cells #[.string kd, .slice A1 ns.length c1, .slice A2 vs.length c2] 39))
  have HR := Lib.hid (new_block W (.cells #[.string kd, .slice A1 ns.length c1, .slice A2 vs.length c2] 39))
  have u0 := (row_cells HR.out).1 0
  have hsh := rshape_any kd
  go_enter Tryz.func46, Tryz.ntmps46
  go_wp2_with fail
  clear u0
  generalize W.alloc (.cells #[.string kd, .slice A1 ns.length c1, .slice A2 vs.length c2] 39) = W1 at *
  cases hkn : Yp.kindNo kd with
  | none =>
    rw [hkn] at hsh
    have hE := HEO.out hkn
    refine (hsh W1).mono ?_; rintro e w2 ⟨rfl, hb⟩
    have HB := Lib.hid (HB.out.trans (hb.mono HB.out.size))
    have HR := Lib.hid (row_after hb HR.out)
    clear hb
    clear hkn hsh
    have HE := Lib.hid hE
    clear hE
    go_wp2_with fail
    refine bodyPost_ret (v := .int .i64 3) (by simp [results, Tryz.results46, go_sem, *]) rfl ⟨by rw [HE.out], HB.out⟩
  | some k =>
    rw [hkn] at hsh
    dsimp only at hsh
    by_cases h1 : ns.length = Yp.nNames k
    rotate_left
    · have hE := HES.out k hkn (.inl h1)
      have q1 : ((ns.length : Int) != ((Yp.nNames k : Nat) : Int)) = true := by simp; omega
      have q2 : (ns.length != Yp.nNames k) = true := by simp; omega
      clear h1 hkn
      generalize Yp.nNames k = K1 at *
      generalize Yp.nVals k = K2 at *
      refine (hsh W1).mono ?_; rintro e w2 ⟨rfl, hb⟩
      have HB := Lib.hid (HB.out.trans (hb.mono HB.out.size))
      have HR := Lib.hid (row_after hb HR.out)
      clear hb
      have u1 := (row_cells HR.out).1 1
      have HE := Lib.hid hE
      clear hE
      go_wp2_with fail
      refine bodyPost_ret (v := .int .i64 1) (by simp [results, Tryz.results46, go_sem, *]) rfl ⟨by rw [HE.out], HB.out⟩
    by_cases h2 : vs.length = Yp.nVals k
    rotate_left
    · have hE := HES.out k hkn (.inr h2)
      have q1 : ((vs.length : Int) != ((Yp.nVals k : Nat) : Int)) = true := by simp; omega
      have q2 : (vs.length != Yp.nVals k) = true := by simp; omega
      rw [← h1] at hsh
      clear h1 h2 hkn
      generalize Yp.nVals k = K2 at *
      refine (hsh W1).mono ?_; rintro e w2 ⟨rfl, hb⟩
      have HB := Lib.hid (HB.out.trans (hb.mono HB.out.size))
      have HR := Lib.hid (row_after hb HR.out)
      clear hb
      have u1 := (row_cells HR.out).1 1
      have u2 := (row_cells HR.out).1 2
      have HE := Lib.hid hE
      clear hE
      go_wp2_with fail
      refine bodyPost_ret (v := .int .i64 1) (by simp [results, Tryz.results46, go_sem, *]) rfl ⟨by rw [HE.out], HB.out⟩
    rw [← h1, ← h2] at hsh
    have hn3 : 0 < ns.length ∧ ns.length ≤ 3 := by rw [h1]; unfold Yp.nNames; split <;> omega
    refine (hsh W1).mono ?_; rintro e w2 ⟨rfl, hb⟩
    have HB := Lib.hid (HB.out.trans (hb.mono HB.out.size))
    have HR := Lib.hid (row_after hb HR.out)
    clear hb
    clear hsh
    have u1 := (row_cells HR.out).1 1
    have u2 := (row_cells HR.out).1 2
    go_wp2_with fail
    clear u1 u2
    go_loopw [8] (fun n wr => ∃ m : Nat, m ≤ ns.length ∧ n = .int .i64 m ∧ (∀ j (hj : j < ns.length), j < m → Yp.isName ns[j] = true) ∧ wr.heap[W.heap.size]? = some (.cells #[.string kd, .slice A1 ns.length c1, .slice A2 vs.length c2] 39 (0, 0)) ∧ Below W.heap.size W wr) (fun n _ => ns.length - (intOf n).toNat)
    case atStart => exact ⟨0, by omega, rfl, fun j z h => by omega, HR.out, HB.out⟩
    case round =>
      obtain ⟨m, hm, rfl, hall, hr, hb⟩ := hrel
      have HA := Lib.hid hall
      have HB := Lib.hid hb
      have HR := Lib.hid hr
      clear hall hb hr
      by_cases hlt : m < ns.length
      · obtain ⟨b1, o1, rfl, hnc⟩ := HNA.out (by omega)
        have m0 := hnc _ HB.out m (.string ns[m]) (by simp [strV, hlt])
        have u1 := (row_cells HR.out).1 1
        have hnm := rname_any ns[m]
        have HYES : Hid (Yp.isName ns[m] = true → ∀ j (hj : j < ns.length), j < m + 1 → Yp.isName ns[j] = true) := Lib.hid fun hq j hj hjm => by
          rcases Nat.lt_or_ge j m with g | g
          · exact HA.out j hj g
          · obtain rfl : j = m := by omega
            exact hq
        have HNO : Hid (Yp.isName ns[m] = false → E = 4) := Lib.hid fun hq => HEB.out k hkn h1 h2 (List.any_eq_true.2 ⟨ns[m], List.getElem_mem hlt, by rw [hq]; rfl⟩)
        clear hnc
        generalize ns[m] = z at *
        cases hz : Yp.isName z with
        | true =>
          rw [hz] at hnm
          have HT := Lib.hid (HYES.out hz)
          clear hz
          go_wp2_with fail
          clear u1 m0
          refine (hnm _).mono ?_; rintro e w4 ⟨rfl, hb⟩
          have HB := Lib.hid (HB.out.trans (hb.mono HB.out.size))
          have HR := Lib.hid (row_after hb HR.out)
          clear hb
          go_wp2_with fail
          exact ⟨⟨m + 1, hlt, by go_num, HT.out, HR.out, HB.out⟩, by simp [intOf]; omega⟩
        | false =>
          rw [hz] at hnm
          have HE := Lib.hid (HNO.out hz)
          clear hz
          go_wp2_with fail
          clear u1 m0
          refine (hnm _).mono ?_; rintro e w4 ⟨rfl, hb⟩
          have HB := Lib.hid (HB.out.trans (hb.mono HB.out.size))
          have HR := Lib.hid (row_after hb HR.out)
          clear hb
          go_wp2_with fail
          refine bodyPost_ret (v := .int .i64 4) (by simp [results, Tryz.results46, go_sem, *]) rfl ⟨by rw [HE.out], HB.out⟩
      · obtain rfl : m = ns.length := by omega
        have HALL1 : Hid (∀ z ∈ ns, Yp.isName z = true) := Lib.hid fun z hz => by
          obtain ⟨j, hj, e⟩ := List.getElem_of_mem hz
          rw [← e]; exact HA.out j hj hj
        have HALL : Hid ((ns.any fun s => !Yp.isName s) = false) := Lib.hid (List.any_eq_false.2 fun z hz => by rw [HALL1.out z hz]; decide)
        have y1 := HF5.out _ HB.out
        have hfq : decide (4096 ≤ fs.length) = false := by simp; omega
        have u0 := (row_cells HR.out).1 0
        have HH1 := Lib.hid h1
        have HH2 := Lib.hid h2
        clear HA hn3 hm hlt h1 h2
        rcases kindNo_cases hkn with ⟨hkd, rfl⟩ | ⟨hkd, rfl⟩ | ⟨hkd, rfl⟩ | ⟨hkd, rfl⟩ | ⟨hkd, rfl⟩ | ⟨hkd, rfl⟩
        · obtain ⟨n0, rfl⟩ : ∃ n0 : ByteArray, ns = [n0] := list1 HH1.out
          obtain ⟨v0, v1, v2, v3, v4, v5, rfl⟩ : ∃ v0 v1 v2 v3 v4 v5 : Int, vs = [v0, v1, v2, v3, v4, v5] := list6 HH2.out
          rw [show [n0].length = 1 from rfl] at *
          rw [show ([v0, v1, v2, v3, v4, v5] : List Int).length = 6 from rfl] at *
          obtain ⟨b1, o1, rfl, hnc⟩ := HNA.out (by decide)
          have HNC := Lib.hid hnc
          clear hnc HNA
          have p0 : (kd.toList == [102, 114, 101, 101]) = true := by rw [hkd]; kernel_rfl
          have p1 : (kd.toList == [99, 117, 116]) = false := by rw [hkd]; kernel_rfl
          have p2 : (kd.toList == [97, 115, 115, 105, 103, 110]) = false := by rw [hkd]; kernel_rfl
          have p3 : (kd.toList == [114, 101, 108, 101, 97, 115, 101]) = false := by rw [hkd]; kernel_rfl
          have p4 : (kd.toList == [115, 101, 116]) = false := by rw [hkd]; kernel_rfl
          have p5 : (kd.toList == [98, 114, 101, 97, 107]) = false := by rw [hkd]; kernel_rfl
          have HKN := Lib.hid hkn
          clear hkd hkn
          have hE : E = Yp.freeErr s n0 ⟨v0, v1, v2, v3, v4, v5⟩ := HEF.out HKN.out HH1.out HH2.out HALL.out
          have HE := Lib.hid hE
          have hfr := rfree_any (HRA.out.below HB.out) (by omega) kd n0 ⟨v0, v1, v2, v3, v4, v5⟩ _ _ (HNN.out.below HB.out) (HVV.out.below HB.out)
          clear hE
          have u0 := (row_cells HR.out).1 0
          have u1 := (row_cells HR.out).1 1
          have u2 := (row_cells HR.out).1 2
          generalize Yp.freeErr s n0 ⟨v0, v1, v2, v3, v4, v5⟩ = Q at *
          go_wp2_with fail
          clear u0 u1 u2
          refine (hfr).mono ?_; rintro e w4 ⟨rfl, hb⟩
          have HB := Lib.hid (HB.out.trans (hb.mono HB.out.size))
          have HR := Lib.hid (row_after hb HR.out)
          clear hb
          go_wp2_with fail
          refine bodyPost_ret (v := .int .i64 Q) (by simp [results, Tryz.results46, go_sem, *]) rfl ⟨by rw [HE.out], HB.out⟩
        · obtain ⟨n0, n1, n2, rfl⟩ : ∃ n0 n1 n2 : ByteArray, ns = [n0, n1, n2] := list3 HH1.out
          obtain ⟨v0, v1, v2, rfl⟩ : ∃ v0 v1 v2 : Int, vs = [v0, v1, v2] := list3 HH2.out
          rw [show [n0, n1, n2].length = 3 from rfl] at *
          rw [show ([v0, v1, v2] : List Int).length = 3 from rfl] at *
          obtain ⟨b1, o1, rfl, hnc⟩ := HNA.out (by decide)
          have HNC := Lib.hid hnc
          clear hnc HNA
          have p0 : (kd.toList == [102, 114, 101, 101]) = false := by rw [hkd]; kernel_rfl
          have p1 : (kd.toList == [99, 117, 116]) = true := by rw [hkd]; kernel_rfl
          have p2 : (kd.toList == [97, 115, 115, 105, 103, 110]) = false := by rw [hkd]; kernel_rfl
          have p3 : (kd.toList == [114, 101, 108, 101, 97, 115, 101]) = false := by rw [hkd]; kernel_rfl
          have p4 : (kd.toList == [115, 101, 116]) = false := by rw [hkd]; kernel_rfl
          have p5 : (kd.toList == [98, 114, 101, 97, 107]) = false := by rw [hkd]; kernel_rfl
          have HKN := Lib.hid hkn
          clear hkd hkn
          obtain ⟨r, hr, hri, hrl, hrn⟩ := FI.of (·.id) s n0
          have hfi := rfind_any (HRA.out.below HB.out) (by omega) n0 hr
          have u0 := (row_cells HR.out).1 0
          have u1 := (row_cells HR.out).1 1
          have m0 := HNC.out _ HB.out 0 _ rfl
          simp only [Nat.add_zero] at m0
          go_wp2_with fail
          clear u0 u1 m0
          refine (hfi).mono ?_; rintro e w4 ⟨rfl, hb⟩
          have HB := Lib.hid (HB.out.trans (hb.mono HB.out.size))
          have HR := Lib.hid (row_after hb HR.out)
          clear hb
          clear hfi
          by_cases hr0 : 0 ≤ r
          rotate_left
          · have hE : E = 3 := HEM.out _ HKN.out HH1.out HH2.out HALL.out (by decide) (look_no fun x hx e => hr0 (hri.2 ⟨x, hx, e⟩))
            have hr1 : r < 0 := by omega
            clear hr hri hrn hr0
            have HE := Lib.hid hE
            clear hE
            go_wp2_with fail
            refine bodyPost_ret (v := .int .i64 3) (by simp [results, Tryz.results46, go_sem, *]) rfl ⟨by rw [HE.out], HB.out⟩
          obtain ⟨i, rfl, hil, hix, _⟩ : ∃ i : Nat, r = i ∧ i < s.length ∧ (∀ x : It, s[i]? = some x → x.id = n0) ∧ True := by
            rcases hr with ⟨i, e, h1, h2, _⟩ | ⟨e, _⟩
            · exact ⟨i, e, h1, h2, trivial⟩
            · omega
          have HL : Hid (s[i]? = some s[i]) := Lib.hid (List.getElem?_eq_getElem hil)
          have hlk : Yp.look s n0 = some s[i] := by rw [← hix _ HL.out]; exact Yp.look_mem hu (List.getElem_mem hil)
          have HEK := Lib.hid (HEK.out _ HKN.out HH1.out HH2.out HALL.out (by decide) s[i] hlk)
          obtain ⟨g, rfl, hx⟩ := HXX.out (by omega)
          have HX := Lib.hid hx
          clear hr hri hrl hrn hix hlk hx hr0
          generalize s[i] = x at *
          have hpo := rpossible_any kd x.st 1 HKN.out (by decide)
          have KK : w4.cell? ⟨W.heap.size, 0, none⟩ = some (.string kd) ∧ w4.cell? ⟨R, 0, none⟩ = some (.slice (some ⟨g, 0, none⟩) s.length c) ∧ w4.cell? ⟨g, i * 10 + 8, none⟩ = some (.int .i64 x.st) := ⟨(row_cells HR.out).1 0, HY.out _ HB.out, (HX.out _ HB.out i x HL.out).2.2.2.2.2.2.2.2.1⟩
          have hi0 : (0 : Int) ≤ (i : Int) := by omega
          go_wp2_with fail
          go_region_held3 (fun w' => w'.cell? ⟨W.heap.size, 0, none⟩ = some (.string kd) ∧ w'.cell? ⟨R, 0, none⟩ = some (.slice (some ⟨g, 0, none⟩) s.length c) ∧ w'.cell? ⟨g, i * 10 + 8, none⟩ = some (.int .i64 x.st)) ((first | (simp only [*, and_self]; done) | (simp [*, go_sem]; done)))
            (first
              | (go_at_call 84; ((with_reducible refine (hpo _).mono ?_); rintro e wq ⟨rfl, hb⟩; have HB := Lib.hid (HB.out.drew.trans (hb.mono HB.out.size)); have HR := Lib.hid (row_after hb HR.out); clear hb; have KK : wq.cell? ⟨W.heap.size, 0, none⟩ = some (.string kd) ∧ wq.cell? ⟨R, 0, none⟩ = some (.slice (some ⟨g, 0, none⟩) s.length c) ∧ wq.cell? ⟨g, i * 10 + 8, none⟩ = some (.int .i64 x.st) := ⟨(row_cells HR.out).1 0, HY.out _ HB.out, (HX.out _ HB.out i x HL.out).2.2.2.2.2.2.2.2.1⟩)))
          clear KK hpo
          cases hal : Yp.allowed 1 x.st with
          | false =>
            have hE := HEK.out
            rw [if_pos hal] at hE
            clear hal
            have HE := Lib.hid hE
            clear hE
            go_wp2_with fail
            refine bodyPost_ret (v := .int .i64 8) (by simp [results, Tryz.results46, go_sem, *]) rfl ⟨by rw [HE.out], HB.out⟩
          | true =>
            have hE := HEK.out
            rw [if_neg (by rw [hal]; decide)] at hE
            clear hal HEK
            have u0 := (row_cells HR.out).1 0
            rw [if_pos trivial] at hE
            have hE : E = if (Yp.look s n1).isSome = true ∨ (Yp.look s n2).isSome = true ∨ n1 = n2 then 5 else Yp.kerfCheck x.bx v0 v1 v2 := hE
            have HEQ := Lib.hid hE
            obtain ⟨r1, hr1, hri1, _, hrn1⟩ := FI.of (·.id) s n1
            obtain ⟨r2, hr2, hri2, _, hrn2⟩ := FI.of (·.id) s n2
            have HF1 := Lib.hid fun W' (hb : Below W.heap.size W W') => rfind_any (HRA.out.below hb) (by omega) n1 hr1
            have HF2 := Lib.hid fun W' (hb : Below W.heap.size W W') => rfind_any (HRA.out.below hb) (by omega) n2 hr2
            have HI1 := Lib.hid (hri1.trans (look_iff s n1).symm)
            have HI2 := Lib.hid (hri2.trans (look_iff s n2).symm)
            have HKC := Lib.hid fun W' => rkCheck_any x.bx v0 v1 v2 W'
            rw [show bxC x.bx = #[.int .i64 x.bx.x0, .int .i64 x.bx.y0, .int .i64 x.bx.z0, .int .i64 x.bx.x1, .int .i64 x.bx.y1, .int .i64 x.bx.z1] from rfl] at HKC
            clear hE hr1 hr2 hri1 hri2
            generalize Yp.kerfCheck x.bx v0 v1 v2 = KE at *
            obtain ⟨b2, o2, rfl⟩ := HVA.out (by decide)
            go_wp2_with fail
            clear u0
            by_cases q1 : 0 ≤ r1
            · have hE : E = 5 := by rw [HEQ.out, if_pos (.inl (HI1.out.1 q1))]
              have HE := Lib.hid hE
              clear hE
              refine Reg.region_inv [[], [], [1], [2], [3], [0, 4], [5], [5, 6], [7], [7], [7, 9], [7, 10], [7, 11], [7, 8, 12], [7, 13], [7, 14], [13, 15], [16], [16, 17], [16, 18], [16, 19], [16], [16, 21], [16, 22], [16, 23], [16, 20, 24], [16, 25]] [[], [], [1], [1, 2], [1, 2, 3], [0, 1, 2, 3, 4], [0, 1, 2, 3, 4, 5], [0, 1, 2, 3, 4, 5, 6], [0, 1, 2, 3, 4, 5, 6, 7], [0, 1, 2, 3, 4, 5, 6, 7], [0, 1, 2, 3, 4, 5, 6, 7, 9], [0, 1, 2, 3, 4, 5, 6, 7, 9, 10], [0, 1, 2, 3, 4, 5, 6, 7, 9, 10, 11], [0, 1, 2, 3, 4, 5, 6, 7, 8, 9, 10, 11, 12], [0, 1, 2, 3, 4, 5, 6, 7, 8, 9, 10, 11, 12, 13], [0, 1, 2, 3, 4, 5, 6, 7, 8, 9, 10, 11, 12, 13, 14], [0, 1, 2, 3, 4, 5, 6, 7, 8, 9, 10, 11, 12, 13, 14, 15], [0, 1, 2, 3, 4, 5, 6, 7, 8, 9, 10, 11, 12, 13, 14, 15, 16], [0, 1, 2, 3, 4, 5, 6, 7, 8, 9, 10, 11, 12, 13, 14, 15, 16, 17], [0, 1, 2, 3, 4, 5, 6, 7, 8, 9, 10, 11, 12, 13, 14, 15, 16, 17, 18], [0, 1, 2, 3, 4, 5, 6, 7, 8, 9, 10, 11, 12, 13, 14, 15, 16, 17, 18, 19], [0, 1, 2, 3, 4, 5, 6, 7, 8, 9, 10, 11, 12, 13, 14, 15, 16], [0, 1, 2, 3, 4, 5, 6, 7, 8, 9, 10, 11, 12, 13, 14, 15, 16, 21], [0, 1, 2, 3, 4, 5, 6, 7, 8, 9, 10, 11, 12, 13, 14, 15, 16, 21, 22], [0, 1, 2, 3, 4, 5, 6, 7, 8, 9, 10, 11, 12, 13, 14, 15, 16, 21, 22, 23], [0, 1, 2, 3, 4, 5, 6, 7, 8, 9, 10, 11, 12, 13, 14, 15, 16, 17, 18, 19, 20, 21, 22, 23, 24], [0, 1, 2, 3, 4, 5, 6, 7, 8, 9, 10, 11, 12, 13, 14, 15, 16, 17, 18, 19, 20, 21, 22, 23, 24, 25]] (fun a0_ bb aa ww => aa = Reg.fill bb [(0, 88, .pointer (some ⟨R, 0, none⟩)), (1, 89, .pointer (some ⟨W.heap.size, 1, none⟩)), (2, 90, .slice (some ⟨b1, o1, none⟩) 3 c1), (3, 91, .pointer (some ⟨b1, o1 + 1, none⟩)), (4, 92, .string n1), (5, 93, .int .i64 r1), (6, 94, .bool true), (7, 95, .bool true), (8, 96, undef), (9, 97, undef), (10, 98, undef), (11, 99, undef), (12, 100, undef), (13, 101, undef), (14, 102, undef), (15, 103, .bool true), (16, 104, .bool true), (17, 105, undef), (18, 106, undef), (19, 107, undef), (20, 108, undef), (21, 109, undef), (22, 110, undef), (23, 111, undef), (24, 112, undef), (25, 113, undef), (26, 114, .bool true)] a0_ ∧ Below wq.heap.size wq ww) (by kernel_rfl) (by kernel_rfl) (by kernel_rfl) ?_ ?_ ?_
              · exact ⟨Reg.fill_start.symm, (Below.refl _ _).drew⟩
              · refine Reg.steps_cons (i := 0) ?_ ?_
                · rintro bb aa ww ⟨ha, HW⟩ hb hd hn
                  have e0 : aa.tmps[0]? = some (.pointer (some ⟨R, 0, none⟩)) := by rw [ha]; exact (Reg.fill_off rfl).trans rfl
                  have HA := Lib.hid ha; clear ha; refine ⟨_, rfl, fun K hK => ?_⟩
                  refine Reg.do_val rfl rfl (v := .pointer (some ⟨R, 0, none⟩)) (w1 := ww) (by simp only [List.getElem_toArray, List.getElem_cons_zero, execOp, Reg.eval_tmp e0]; rfl) ?_
                  exact hK.out _ _ ⟨by rw [HA.out]; exact Reg.fill_up 0 hb rfl rfl rfl, HW⟩
                refine Reg.steps_cons (i := 1) ?_ ?_
                · rintro bb aa ww ⟨ha, HW⟩ hb hd hn
                  have e3 : aa.tmps[3]? = some (.pointer (some ⟨W.heap.size, 0, none⟩)) := by rw [ha]; exact (Reg.fill_off rfl).trans rfl
                  have HA := Lib.hid ha; clear ha; refine ⟨_, rfl, fun K hK => ?_⟩
                  refine Reg.do_val rfl rfl (v := .pointer (some ⟨W.heap.size, 1, none⟩)) (w1 := ww) ?_ ?_
                  · simp only [List.getElem_toArray, List.getElem_cons_succ, List.getElem_cons_zero, execOp, Reg.eval_tmp e3]
                    go_simp
                  exact hK.out _ _ ⟨by rw [HA.out]; exact Reg.fill_up 1 hb rfl rfl rfl, HW⟩
                refine Reg.steps_cons (i := 2) ?_ ?_
                · rintro bb aa ww ⟨ha, HW⟩ hb hd hn
                  have e89 : aa.tmps[89]? = some (.pointer (some ⟨W.heap.size, 1, none⟩)) := by rw [ha]; exact Reg.fill_on 1 rfl rfl (hd 1 (by decide)) rfl
                  have HA := Lib.hid ha; clear ha; refine ⟨_, rfl, fun K hK => ?_⟩
                  have f1_ := (row_cells (row_after HW HR.out)).1 1
                  refine Reg.do_val rfl rfl (v := .slice (some ⟨b1, o1, none⟩) 3 c1) (w1 := ww) ?_ ?_
                  · simp only [List.getElem_toArray, List.getElem_cons_succ, List.getElem_cons_zero, execOp, Reg.eval_tmp e89]
                    go_simp
                  exact hK.out _ _ ⟨by rw [HA.out]; exact Reg.fill_up 2 hb rfl rfl rfl, HW⟩
                refine Reg.steps_cons (i := 3) ?_ ?_
                · rintro bb aa ww ⟨ha, HW⟩ hb hd hn
                  have e90 : aa.tmps[90]? = some (.slice (some ⟨b1, o1, none⟩) 3 c1) := by rw [ha]; exact Reg.fill_on 2 rfl rfl (hd 2 (by decide)) rfl
                  have HA := Lib.hid ha; clear ha; refine ⟨_, rfl, fun K hK => ?_⟩
                  refine Reg.do_val rfl rfl (v := .pointer (some ⟨b1, o1 + 1, none⟩)) (w1 := ww) ?_ ?_
                  · simp only [List.getElem_toArray, List.getElem_cons_succ, List.getElem_cons_zero, execOp, Reg.eval_tmp e90]
                    go_simp
                  exact hK.out _ _ ⟨by rw [HA.out]; exact Reg.fill_up 3 hb rfl rfl rfl, HW⟩
                refine Reg.steps_cons (i := 4) ?_ ?_
                · rintro bb aa ww ⟨ha, HW⟩ hb hd hn
                  have e91 : aa.tmps[91]? = some (.pointer (some ⟨b1, o1 + 1, none⟩)) := by rw [ha]; exact Reg.fill_on 3 rfl rfl (hd 3 (by decide)) rfl
                  have HA := Lib.hid ha; clear ha; refine ⟨_, rfl, fun K hK => ?_⟩
                  have n1_ := HNC.out ww (HB.out.trans (HW.mono HB.out.size)) 1 _ rfl
                  refine Reg.do_val rfl rfl (v := .string n1) (w1 := ww) ?_ ?_
                  · simp only [List.getElem_toArray, List.getElem_cons_succ, List.getElem_cons_zero, execOp, Reg.eval_tmp e91]
                    go_simp
                  exact hK.out _ _ ⟨by rw [HA.out]; exact Reg.fill_up 4 hb rfl rfl rfl, HW⟩
                refine Reg.steps_cons (i := 5) ?_ ?_
                · rintro bb aa ww ⟨ha, HW⟩ hb hd hn
                  have e88 : aa.tmps[88]? = some (.pointer (some ⟨R, 0, none⟩)) := by rw [ha]; exact Reg.fill_on 0 rfl rfl (hd 0 (by decide)) rfl
                  have e92 : aa.tmps[92]? = some (.string n1) := by rw [ha]; exact Reg.fill_on 4 rfl rfl (hd 4 (by decide)) rfl
                  have HA := Lib.hid ha; clear ha; refine ⟨_, rfl, fun K hK => ?_⟩
                  refine Reg.do_call rfl rfl Tryz.func49 (by kernel_rfl) rfl #[.pointer (some ⟨R, 0, none⟩), .string n1] rfl (by simp [Reg.eval_tmp e88, Reg.eval_tmp e92]) ?_
                  refine (HF1.out ww (HB.out.trans (HW.mono HB.out.size))).mono ?_; rintro e w3 ⟨rfl, hb3⟩; refine ⟨_, rfl, ?_⟩
                  exact hK.out _ _ ⟨by rw [HA.out]; exact Reg.fill_up 5 hb rfl rfl rfl, HW.trans (hb3.mono HW.size)⟩
                refine Reg.steps_cons (i := 6) ?_ ?_
                · rintro bb aa ww ⟨ha, HW⟩ hb hd hn
                  have e93 : aa.tmps[93]? = some (.int .i64 r1) := by rw [ha]; exact Reg.fill_on 5 rfl rfl (hd 5 (by decide)) rfl
                  have HA := Lib.hid ha; clear ha; refine ⟨_, rfl, fun K hK => ?_⟩
                  refine Reg.do_val rfl rfl (v := .bool true) (w1 := ww) ?_ ?_
                  · simp only [List.getElem_toArray, List.getElem_cons_succ, List.getElem_cons_zero, execOp, Reg.eval_tmp e93]
                    go_simp
                  exact hK.out _ _ ⟨by rw [HA.out]; exact Reg.fill_up 6 hb rfl rfl rfl, HW⟩
                refine Reg.steps_cons (i := 7) ?_ ?_
                · rintro bb aa ww ⟨ha, HW⟩ hb hd hn
                  have e94 : aa.tmps[94]? = some (.bool true) := by rw [ha]; exact Reg.fill_on 6 rfl rfl (hd 6 (by decide)) rfl
                  have HA := Lib.hid ha; clear ha; refine ⟨_, rfl, fun K hK => ?_⟩
                  refine Reg.do_val rfl rfl (v := .bool true) (w1 := ww) (by simp only [List.getElem_toArray, List.getElem_cons_succ, List.getElem_cons_zero, execOp, Reg.eval_tmp e94]; rfl) ?_
                  exact hK.out _ _ ⟨by rw [HA.out]; exact Reg.fill_up 7 hb rfl rfl rfl, HW⟩
                refine Reg.steps_cons (i := 8) ?_ ?_
                · rintro bb aa ww ⟨ha, HW⟩ hb hd hn
                  have e0 : aa.tmps[0]? = some (.pointer (some ⟨R, 0, none⟩)) := by rw [ha]; exact (Reg.fill_off rfl).trans rfl
                  have e95 : aa.tmps[95]? = some (.bool true) := by rw [ha]; exact Reg.fill_on 7 rfl rfl (hd 7 (by decide)) rfl
                  have HA := Lib.hid ha; clear ha; refine ⟨_, rfl, fun K hK => ?_⟩
                  refine Reg.do_off rfl rfl rfl e95 rfl ?_
                  exact hK.out _ _ ⟨by rw [HA.out]; exact Reg.fill_up 8 hb rfl rfl rfl, HW⟩
                refine Reg.steps_cons (i := 9) ?_ ?_
                · rintro bb aa ww ⟨ha, HW⟩ hb hd hn
                  have e3 : aa.tmps[3]? = some (.pointer (some ⟨W.heap.size, 0, none⟩)) := by rw [ha]; exact (Reg.fill_off rfl).trans rfl
                  have e95 : aa.tmps[95]? = some (.bool true) := by rw [ha]; exact Reg.fill_on 7 rfl rfl (hd 7 (by decide)) rfl
                  have HA := Lib.hid ha; clear ha; refine ⟨_, rfl, fun K hK => ?_⟩
                  refine Reg.do_off rfl rfl rfl e95 rfl ?_
                  exact hK.out _ _ ⟨by rw [HA.out]; exact Reg.fill_up 9 hb rfl rfl rfl, HW⟩
                refine Reg.steps_cons (i := 10) ?_ ?_
                · rintro bb aa ww ⟨ha, HW⟩ hb hd hn
                  have e97 : aa.tmps[97]? = some (undef) := by rw [ha]; exact Reg.fill_on 9 rfl rfl (hd 9 (by decide)) rfl
                  have e95 : aa.tmps[95]? = some (.bool true) := by rw [ha]; exact Reg.fill_on 7 rfl rfl (hd 7 (by decide)) rfl
                  have HA := Lib.hid ha; clear ha; refine ⟨_, rfl, fun K hK => ?_⟩
                  refine Reg.do_off rfl rfl rfl e95 rfl ?_
                  exact hK.out _ _ ⟨by rw [HA.out]; exact Reg.fill_up 10 hb rfl rfl rfl, HW⟩
                refine Reg.steps_cons (i := 11) ?_ ?_
                · rintro bb aa ww ⟨ha, HW⟩ hb hd hn
                  have e98 : aa.tmps[98]? = some (undef) := by rw [ha]; exact Reg.fill_on 10 rfl rfl (hd 10 (by decide)) rfl
                  have e95 : aa.tmps[95]? = some (.bool true) := by rw [ha]; exact Reg.fill_on 7 rfl rfl (hd 7 (by decide)) rfl
                  have HA := Lib.hid ha; clear ha; refine ⟨_, rfl, fun K hK => ?_⟩
                  refine Reg.do_off rfl rfl rfl e95 rfl ?_
                  exact hK.out _ _ ⟨by rw [HA.out]; exact Reg.fill_up 11 hb rfl rfl rfl, HW⟩
                refine Reg.steps_cons (i := 12) ?_ ?_
                · rintro bb aa ww ⟨ha, HW⟩ hb hd hn
                  have e99 : aa.tmps[99]? = some (undef) := by rw [ha]; exact Reg.fill_on 11 rfl rfl (hd 11 (by decide)) rfl
                  have e95 : aa.tmps[95]? = some (.bool true) := by rw [ha]; exact Reg.fill_on 7 rfl rfl (hd 7 (by decide)) rfl
                  have HA := Lib.hid ha; clear ha; refine ⟨_, rfl, fun K hK => ?_⟩
                  refine Reg.do_off rfl rfl rfl e95 rfl ?_
                  exact hK.out _ _ ⟨by rw [HA.out]; exact Reg.fill_up 12 hb rfl rfl rfl, HW⟩
                refine Reg.steps_cons (i := 13) ?_ ?_
                · rintro bb aa ww ⟨ha, HW⟩ hb hd hn
                  have e96 : aa.tmps[96]? = some (undef) := by rw [ha]; exact Reg.fill_on 8 rfl rfl (hd 8 (by decide)) rfl
                  have e100 : aa.tmps[100]? = some (undef) := by rw [ha]; exact Reg.fill_on 12 rfl rfl (hd 12 (by decide)) rfl
                  have e95 : aa.tmps[95]? = some (.bool true) := by rw [ha]; exact Reg.fill_on 7 rfl rfl (hd 7 (by decide)) rfl
                  have HA := Lib.hid ha; clear ha; refine ⟨_, rfl, fun K hK => ?_⟩
                  refine Reg.do_off rfl rfl rfl e95 rfl ?_
                  exact hK.out _ _ ⟨by rw [HA.out]; exact Reg.fill_up 13 hb rfl rfl rfl, HW⟩
                refine Reg.steps_cons (i := 14) ?_ ?_
                · rintro bb aa ww ⟨ha, HW⟩ hb hd hn
                  have e101 : aa.tmps[101]? = some (undef) := by rw [ha]; exact Reg.fill_on 13 rfl rfl (hd 13 (by decide)) rfl
                  have e95 : aa.tmps[95]? = some (.bool true) := by rw [ha]; exact Reg.fill_on 7 rfl rfl (hd 7 (by decide)) rfl
                  have HA := Lib.hid ha; clear ha; refine ⟨_, rfl, fun K hK => ?_⟩
                  refine Reg.do_off rfl rfl rfl e95 rfl ?_
                  exact hK.out _ _ ⟨by rw [HA.out]; exact Reg.fill_up 14 hb rfl rfl rfl, HW⟩
                refine Reg.steps_cons (i := 15) ?_ ?_
                · rintro bb aa ww ⟨ha, HW⟩ hb hd hn
                  have e95 : aa.tmps[95]? = some (.bool true) := by rw [ha]; exact Reg.fill_on 7 rfl rfl (hd 7 (by decide)) rfl
                  have e102 : aa.tmps[102]? = some (undef) := by rw [ha]; exact Reg.fill_on 14 rfl rfl (hd 14 (by decide)) rfl
                  have HA := Lib.hid ha; clear ha; refine ⟨_, rfl, fun K hK => ?_⟩
                  refine Reg.do_val rfl rfl (v := .bool true) (w1 := ww) ?_ ?_
                  · simp only [List.getElem_toArray, List.getElem_cons_succ, List.getElem_cons_zero, execOp, Reg.eval_tmp e95, Reg.eval_tmp e102]
                    go_simp
                  exact hK.out _ _ ⟨by rw [HA.out]; exact Reg.fill_up 15 hb rfl rfl rfl, HW⟩
                refine Reg.steps_cons (i := 16) ?_ ?_
                · rintro bb aa ww ⟨ha, HW⟩ hb hd hn
                  have e103 : aa.tmps[103]? = some (.bool true) := by rw [ha]; exact Reg.fill_on 15 rfl rfl (hd 15 (by decide)) rfl
                  have HA := Lib.hid ha; clear ha; refine ⟨_, rfl, fun K hK => ?_⟩
                  refine Reg.do_val rfl rfl (v := .bool true) (w1 := ww) (by simp only [List.getElem_toArray, List.getElem_cons_succ, List.getElem_cons_zero, execOp, Reg.eval_tmp e103]; rfl) ?_
                  exact hK.out _ _ ⟨by rw [HA.out]; exact Reg.fill_up 16 hb rfl rfl rfl, HW⟩
                refine Reg.steps_cons (i := 17) ?_ ?_
                · rintro bb aa ww ⟨ha, HW⟩ hb hd hn
                  have e3 : aa.tmps[3]? = some (.pointer (some ⟨W.heap.size, 0, none⟩)) := by rw [ha]; exact (Reg.fill_off rfl).trans rfl
                  have e104 : aa.tmps[104]? = some (.bool true) := by rw [ha]; exact Reg.fill_on 16 rfl rfl (hd 16 (by decide)) rfl
                  have HA := Lib.hid ha; clear ha; refine ⟨_, rfl, fun K hK => ?_⟩
                  refine Reg.do_off rfl rfl rfl e104 rfl ?_
                  exact hK.out _ _ ⟨by rw [HA.out]; exact Reg.fill_up 17 hb rfl rfl rfl, HW⟩
                refine Reg.steps_cons (i := 18) ?_ ?_
                · rintro bb aa ww ⟨ha, HW⟩ hb hd hn
                  have e105 : aa.tmps[105]? = some (undef) := by rw [ha]; exact Reg.fill_on 17 rfl rfl (hd 17 (by decide)) rfl
                  have e104 : aa.tmps[104]? = some (.bool true) := by rw [ha]; exact Reg.fill_on 16 rfl rfl (hd 16 (by decide)) rfl
                  have HA := Lib.hid ha; clear ha; refine ⟨_, rfl, fun K hK => ?_⟩
                  refine Reg.do_off rfl rfl rfl e104 rfl ?_
                  exact hK.out _ _ ⟨by rw [HA.out]; exact Reg.fill_up 18 hb rfl rfl rfl, HW⟩
                refine Reg.steps_cons (i := 19) ?_ ?_
                · rintro bb aa ww ⟨ha, HW⟩ hb hd hn
                  have e106 : aa.tmps[106]? = some (undef) := by rw [ha]; exact Reg.fill_on 18 rfl rfl (hd 18 (by decide)) rfl
                  have e104 : aa.tmps[104]? = some (.bool true) := by rw [ha]; exact Reg.fill_on 16 rfl rfl (hd 16 (by decide)) rfl
                  have HA := Lib.hid ha; clear ha; refine ⟨_, rfl, fun K hK => ?_⟩
                  refine Reg.do_off rfl rfl rfl e104 rfl ?_
                  exact hK.out _ _ ⟨by rw [HA.out]; exact Reg.fill_up 19 hb rfl rfl rfl, HW⟩
                refine Reg.steps_cons (i := 20) ?_ ?_
                · rintro bb aa ww ⟨ha, HW⟩ hb hd hn
                  have e107 : aa.tmps[107]? = some (undef) := by rw [ha]; exact Reg.fill_on 19 rfl rfl (hd 19 (by decide)) rfl
                  have e104 : aa.tmps[104]? = some (.bool true) := by rw [ha]; exact Reg.fill_on 16 rfl rfl (hd 16 (by decide)) rfl
                  have HA := Lib.hid ha; clear ha; refine ⟨_, rfl, fun K hK => ?_⟩
                  refine Reg.do_off rfl rfl rfl e104 rfl ?_
                  exact hK.out _ _ ⟨by rw [HA.out]; exact Reg.fill_up 20 hb rfl rfl rfl, HW⟩
                refine Reg.steps_cons (i := 21) ?_ ?_
                · rintro bb aa ww ⟨ha, HW⟩ hb hd hn
                  have e3 : aa.tmps[3]? = some (.pointer (some ⟨W.heap.size, 0, none⟩)) := by rw [ha]; exact (Reg.fill_off rfl).trans rfl
                  have e104 : aa.tmps[104]? = some (.bool true) := by rw [ha]; exact Reg.fill_on 16 rfl rfl (hd 16 (by decide)) rfl
                  have HA := Lib.hid ha; clear ha; refine ⟨_, rfl, fun K hK => ?_⟩
                  refine Reg.do_off rfl rfl rfl e104 rfl ?_
                  exact hK.out _ _ ⟨by rw [HA.out]; exact Reg.fill_up 21 hb rfl rfl rfl, HW⟩
                refine Reg.steps_cons (i := 22) ?_ ?_
                · rintro bb aa ww ⟨ha, HW⟩ hb hd hn
                  have e109 : aa.tmps[109]? = some (undef) := by rw [ha]; exact Reg.fill_on 21 rfl rfl (hd 21 (by decide)) rfl
                  have e104 : aa.tmps[104]? = some (.bool true) := by rw [ha]; exact Reg.fill_on 16 rfl rfl (hd 16 (by decide)) rfl
                  have HA := Lib.hid ha; clear ha; refine ⟨_, rfl, fun K hK => ?_⟩
                  refine Reg.do_off rfl rfl rfl e104 rfl ?_
                  exact hK.out _ _ ⟨by rw [HA.out]; exact Reg.fill_up 22 hb rfl rfl rfl, HW⟩
                refine Reg.steps_cons (i := 23) ?_ ?_
                · rintro bb aa ww ⟨ha, HW⟩ hb hd hn
                  have e110 : aa.tmps[110]? = some (undef) := by rw [ha]; exact Reg.fill_on 22 rfl rfl (hd 22 (by decide)) rfl
                  have e104 : aa.tmps[104]? = some (.bool true) := by rw [ha]; exact Reg.fill_on 16 rfl rfl (hd 16 (by decide)) rfl
                  have HA := Lib.hid ha; clear ha; refine ⟨_, rfl, fun K hK => ?_⟩
                  refine Reg.do_off rfl rfl rfl e104 rfl ?_
                  exact hK.out _ _ ⟨by rw [HA.out]; exact Reg.fill_up 23 hb rfl rfl rfl, HW⟩
                refine Reg.steps_cons (i := 24) ?_ ?_
                · rintro bb aa ww ⟨ha, HW⟩ hb hd hn
                  have e111 : aa.tmps[111]? = some (undef) := by rw [ha]; exact Reg.fill_on 23 rfl rfl (hd 23 (by decide)) rfl
                  have e104 : aa.tmps[104]? = some (.bool true) := by rw [ha]; exact Reg.fill_on 16 rfl rfl (hd 16 (by decide)) rfl
                  have HA := Lib.hid ha; clear ha; refine ⟨_, rfl, fun K hK => ?_⟩
                  refine Reg.do_off rfl rfl rfl e104 rfl ?_
                  exact hK.out _ _ ⟨by rw [HA.out]; exact Reg.fill_up 24 hb rfl rfl rfl, HW⟩
                refine Reg.steps_cons (i := 25) ?_ ?_
                · rintro bb aa ww ⟨ha, HW⟩ hb hd hn
                  have e108 : aa.tmps[108]? = some (undef) := by rw [ha]; exact Reg.fill_on 20 rfl rfl (hd 20 (by decide)) rfl
                  have e112 : aa.tmps[112]? = some (undef) := by rw [ha]; exact Reg.fill_on 24 rfl rfl (hd 24 (by decide)) rfl
                  have e104 : aa.tmps[104]? = some (.bool true) := by rw [ha]; exact Reg.fill_on 16 rfl rfl (hd 16 (by decide)) rfl
                  have HA := Lib.hid ha; clear ha; refine ⟨_, rfl, fun K hK => ?_⟩
                  refine Reg.do_off rfl rfl rfl e104 rfl ?_
                  exact hK.out _ _ ⟨by rw [HA.out]; exact Reg.fill_up 25 hb rfl rfl rfl, HW⟩
                refine Reg.steps_cons (i := 26) ?_ ?_
                · rintro bb aa ww ⟨ha, HW⟩ hb hd hn
                  have e104 : aa.tmps[104]? = some (.bool true) := by rw [ha]; exact Reg.fill_on 16 rfl rfl (hd 16 (by decide)) rfl
                  have e113 : aa.tmps[113]? = some (undef) := by rw [ha]; exact Reg.fill_on 25 rfl rfl (hd 25 (by decide)) rfl
                  have HA := Lib.hid ha; clear ha; refine ⟨_, rfl, fun K hK => ?_⟩
                  refine Reg.do_val rfl rfl (v := .bool true) (w1 := ww) ?_ ?_
                  · simp only [List.getElem_toArray, List.getElem_cons_succ, List.getElem_cons_zero, execOp, Reg.eval_tmp e104, Reg.eval_tmp e113]
                    go_simp
                  exact hK.out _ _ ⟨by rw [HA.out]; exact Reg.fill_up 26 hb rfl rfl rfl, HW⟩
                exact trivial
              rintro bb aa W8 hall ⟨ha, HW⟩
              have hb0 := hall 0 (by decide)
              have hb1 := hall 1 (by decide)
              have hb2 := hall 2 (by decide)
              have hb3 := hall 3 (by decide)
              have hb4 := hall 4 (by decide)
              have hb5 := hall 5 (by decide)
              have hb6 := hall 6 (by decide)
              have hb7 := hall 7 (by decide)
              have hb8 := hall 8 (by decide)
              have hb9 := hall 9 (by decide)
              have hb10 := hall 10 (by decide)
              have hb11 := hall 11 (by decide)
              have hb12 := hall 12 (by decide)
              have hb13 := hall 13 (by decide)
              have hb14 := hall 14 (by decide)
              have hb15 := hall 15 (by decide)
              have hb16 := hall 16 (by decide)
              have hb17 := hall 17 (by decide)
              have hb18 := hall 18 (by decide)
              have hb19 := hall 19 (by decide)
              have hb20 := hall 20 (by decide)
              have hb21 := hall 21 (by decide)
              have hb22 := hall 22 (by decide)
              have hb23 := hall 23 (by decide)
              have hb24 := hall 24 (by decide)
              have hb25 := hall 25 (by decide)
              have hb26 := hall 26 (by decide)
              simp only [Reg.fill, hb0, hb1, hb2, hb3, hb4, hb5, hb6, hb7, hb8, hb9, hb10, hb11, hb12, hb13, hb14, hb15, hb16, hb17, hb18, hb19, hb20, hb21, hb22, hb23, hb24, hb25, hb26, if_true, Act.put, List.setIfInBounds_toArray, List.set_cons_zero, List.set_cons_succ] at ha
              clear hb0 hb1 hb2 hb3 hb4 hb5 hb6 hb7 hb8 hb9 hb10 hb11 hb12 hb13 hb14 hb15 hb16 hb17 hb18 hb19 hb20 hb21 hb22 hb23 hb24 hb25 hb26 hall
              subst ha
              have HB := Lib.hid (HB.out.trans (HW.mono HB.out.size))
              have HR := Lib.hid (row_after HW HR.out)
              clear HW
              go_wp2_with fail
              refine bodyPost_ret (v := .int .i64 5) (by simp [results, Tryz.results46, go_sem, *]) rfl ⟨by rw [HE.out], HB.out⟩
            · have l1 : r1 < 0 := by omega
              by_cases q2 : 0 ≤ r2
              · have hE : E = 5 := by rw [HEQ.out, if_pos (.inr (.inl (HI2.out.1 q2)))]
                have HE := Lib.hid hE
                clear hE q1
                refine Reg.region_inv [[], [], [1], [2], [3], [0, 4], [5], [5, 6], [7], [7], [7, 9], [7, 10], [7, 11], [7, 8, 12], [7, 13], [7, 14], [13, 15], [16], [16, 17], [16, 18], [16, 19], [16], [16, 21], [16, 22], [16, 23], [16, 20, 24], [16, 25]] [[], [], [1], [1, 2], [1, 2, 3], [0, 1, 2, 3, 4], [0, 1, 2, 3, 4, 5], [0, 1, 2, 3, 4, 5, 6], [0, 1, 2, 3, 4, 5, 6, 7], [0, 1, 2, 3, 4, 5, 6, 7], [0, 1, 2, 3, 4, 5, 6, 7, 9], [0, 1, 2, 3, 4, 5, 6, 7, 9, 10], [0, 1, 2, 3, 4, 5, 6, 7, 9, 10, 11], [0, 1, 2, 3, 4, 5, 6, 7, 8, 9, 10, 11, 12], [0, 1, 2, 3, 4, 5, 6, 7, 8, 9, 10, 11, 12, 13], [0, 1, 2, 3, 4, 5, 6, 7, 8, 9, 10, 11, 12, 13, 14], [0, 1, 2, 3, 4, 5, 6, 7, 8, 9, 10, 11, 12, 13, 14, 15], [0, 1, 2, 3, 4, 5, 6, 7, 8, 9, 10, 11, 12, 13, 14, 15, 16], [0, 1, 2, 3, 4, 5, 6, 7, 8, 9, 10, 11, 12, 13, 14, 15, 16, 17], [0, 1, 2, 3, 4, 5, 6, 7, 8, 9, 10, 11, 12, 13, 14, 15, 16, 17, 18], [0, 1, 2, 3, 4, 5, 6, 7, 8, 9, 10, 11, 12, 13, 14, 15, 16, 17, 18, 19], [0, 1, 2, 3, 4, 5, 6, 7, 8, 9, 10, 11, 12, 13, 14, 15, 16], [0, 1, 2, 3, 4, 5, 6, 7, 8, 9, 10, 11, 12, 13, 14, 15, 16, 21], [0, 1, 2, 3, 4, 5, 6, 7, 8, 9, 10, 11, 12, 13, 14, 15, 16, 21, 22], [0, 1, 2, 3, 4, 5, 6, 7, 8, 9, 10, 11, 12, 13, 14, 15, 16, 21, 22, 23], [0, 1, 2, 3, 4, 5, 6, 7, 8, 9, 10, 11, 12, 13, 14, 15, 16, 17, 18, 19, 20, 21, 22, 23, 24], [0, 1, 2, 3, 4, 5, 6, 7, 8, 9, 10, 11, 12, 13, 14, 15, 16, 17, 18, 19, 20, 21, 22, 23, 24, 25]] (fun a0_ bb aa ww => aa = Reg.fill bb [(0, 88, .pointer (some ⟨R, 0, none⟩)), (1, 89, .pointer (some ⟨W.heap.size, 1, none⟩)), (2, 90, .slice (some ⟨b1, o1, none⟩) 3 c1), (3, 91, .pointer (some ⟨b1, o1 + 1, none⟩)), (4, 92, .string n1), (5, 93, .int .i64 r1), (6, 94, .bool false), (7, 95, .bool false), (8, 96, .pointer (some ⟨R, 0, none⟩)), (9, 97, .pointer (some ⟨W.heap.size, 1, none⟩)), (10, 98, .slice (some ⟨b1, o1, none⟩) 3 c1), (11, 99, .pointer (some ⟨b1, o1 + 2, none⟩)), (12, 100, .string n2), (13, 101, .int .i64 r2), (14, 102, .bool true), (15, 103, .bool true), (16, 104, .bool true), (17, 105, undef), (18, 106, undef), (19, 107, undef), (20, 108, undef), (21, 109, undef), (22, 110, undef), (23, 111, undef), (24, 112, undef), (25, 113, undef), (26, 114, .bool true)] a0_ ∧ Below wq.heap.size wq ww) (by kernel_rfl) (by kernel_rfl) (by kernel_rfl) ?_ ?_ ?_
                · exact ⟨Reg.fill_start.symm, (Below.refl _ _).drew⟩
                · refine Reg.steps_cons (i := 0) ?_ ?_
                  · rintro bb aa ww ⟨ha, HW⟩ hb hd hn
                    have e0 : aa.tmps[0]? = some (.pointer (some ⟨R, 0, none⟩)) := by rw [ha]; exact (Reg.fill_off rfl).trans rfl
                    have HA := Lib.hid ha; clear ha; refine ⟨_, rfl, fun K hK => ?_⟩
                    refine Reg.do_val rfl rfl (v := .pointer (some ⟨R, 0, none⟩)) (w1 := ww) (by simp only [List.getElem_toArray, List.getElem_cons_zero, execOp, Reg.eval_tmp e0]; rfl) ?_
                    exact hK.out _ _ ⟨by rw [HA.out]; exact Reg.fill_up 0 hb rfl rfl rfl, HW⟩
                  refine Reg.steps_cons (i := 1) ?_ ?_
                  · rintro bb aa ww ⟨ha, HW⟩ hb hd hn
                    have e3 : aa.tmps[3]? = some (.pointer (some ⟨W.heap.size, 0, none⟩)) := by rw [ha]; exact (Reg.fill_off rfl).trans rfl
                    have HA := Lib.hid ha; clear ha; refine ⟨_, rfl, fun K hK => ?_⟩
                    refine Reg.do_val rfl rfl (v := .pointer (some ⟨W.heap.size, 1, none⟩)) (w1 := ww) ?_ ?_
                    · simp only [List.getElem_toArray, List.getElem_cons_succ, List.getElem_cons_zero, execOp, Reg.eval_tmp e3]
                      go_simp
                    exact hK.out _ _ ⟨by rw [HA.out]; exact Reg.fill_up 1 hb rfl rfl rfl, HW⟩
                  refine Reg.steps_cons (i := 2) ?_ ?_
                  · rintro bb aa ww ⟨ha, HW⟩ hb hd hn
                    have e89 : aa.tmps[89]? = some (.pointer (some ⟨W.heap.size, 1, none⟩)) := by rw [ha]; exact Reg.fill_on 1 rfl rfl (hd 1 (by decide)) rfl
                    have HA := Lib.hid ha; clear ha; refine ⟨_, rfl, fun K hK => ?_⟩
                    have f1_ := (row_cells (row_after HW HR.out)).1 1
                    refine Reg.do_val rfl rfl (v := .slice (some ⟨b1, o1, none⟩) 3 c1) (w1 := ww) ?_ ?_
                    · simp only [List.getElem_toArray, List.getElem_cons_succ, List.getElem_cons_zero, execOp, Reg.eval_tmp e89]
                      go_simp
                    exact hK.out _ _ ⟨by rw [HA.out]; exact Reg.fill_up 2 hb rfl rfl rfl, HW⟩
                  refine Reg.steps_cons (i := 3) ?_ ?_
                  · rintro bb aa ww ⟨ha, HW⟩ hb hd hn
                    have e90 : aa.tmps[90]? = some (.slice (some ⟨b1, o1, none⟩) 3 c1) := by rw [ha]; exact Reg.fill_on 2 rfl rfl (hd 2 (by decide)) rfl
                    have HA := Lib.hid ha; clear ha; refine ⟨_, rfl, fun K hK => ?_⟩
                    refine Reg.do_val rfl rfl (v := .pointer (some ⟨b1, o1 + 1, none⟩)) (w1 := ww) ?_ ?_
                    · simp only [List.getElem_toArray, List.getElem_cons_succ, List.getElem_cons_zero, execOp, Reg.eval_tmp e90]
                      go_simp
                    exact hK.out _ _ ⟨by rw [HA.out]; exact Reg.fill_up 3 hb rfl rfl rfl, HW⟩
                  refine Reg.steps_cons (i := 4) ?_ ?_
                  · rintro bb aa ww ⟨ha, HW⟩ hb hd hn
                    have e91 : aa.tmps[91]? = some (.pointer (some ⟨b1, o1 + 1, none⟩)) := by rw [ha]; exact Reg.fill_on 3 rfl rfl (hd 3 (by decide)) rfl
                    have HA := Lib.hid ha; clear ha; refine ⟨_, rfl, fun K hK => ?_⟩
                    have n1_ := HNC.out ww (HB.out.trans (HW.mono HB.out.size)) 1 _ rfl
                    refine Reg.do_val rfl rfl (v := .string n1) (w1 := ww) ?_ ?_
                    · simp only [List.getElem_toArray, List.getElem_cons_succ, List.getElem_cons_zero, execOp, Reg.eval_tmp e91]
                      go_simp
                    exact hK.out _ _ ⟨by rw [HA.out]; exact Reg.fill_up 4 hb rfl rfl rfl, HW⟩
                  refine Reg.steps_cons (i := 5) ?_ ?_
                  · rintro bb aa ww ⟨ha, HW⟩ hb hd hn
                    have e88 : aa.tmps[88]? = some (.pointer (some ⟨R, 0, none⟩)) := by rw [ha]; exact Reg.fill_on 0 rfl rfl (hd 0 (by decide)) rfl
                    have e92 : aa.tmps[92]? = some (.string n1) := by rw [ha]; exact Reg.fill_on 4 rfl rfl (hd 4 (by decide)) rfl
                    have HA := Lib.hid ha; clear ha; refine ⟨_, rfl, fun K hK => ?_⟩
                    refine Reg.do_call rfl rfl Tryz.func49 (by kernel_rfl) rfl #[.pointer (some ⟨R, 0, none⟩), .string n1] rfl (by simp [Reg.eval_tmp e88, Reg.eval_tmp e92]) ?_
                    refine (HF1.out ww (HB.out.trans (HW.mono HB.out.size))).mono ?_; rintro e w3 ⟨rfl, hb3⟩; refine ⟨_, rfl, ?_⟩
                    exact hK.out _ _ ⟨by rw [HA.out]; exact Reg.fill_up 5 hb rfl rfl rfl, HW.trans (hb3.mono HW.size)⟩
                  refine Reg.steps_cons (i := 6) ?_ ?_
                  · rintro bb aa ww ⟨ha, HW⟩ hb hd hn
                    have e93 : aa.tmps[93]? = some (.int .i64 r1) := by rw [ha]; exact Reg.fill_on 5 rfl rfl (hd 5 (by decide)) rfl
                    have HA := Lib.hid ha; clear ha; refine ⟨_, rfl, fun K hK => ?_⟩
                    refine Reg.do_val rfl rfl (v := .bool false) (w1 := ww) ?_ ?_
                    · simp only [List.getElem_toArray, List.getElem_cons_succ, List.getElem_cons_zero, execOp, Reg.eval_tmp e93]
                      go_simp
                    exact hK.out _ _ ⟨by rw [HA.out]; exact Reg.fill_up 6 hb rfl rfl rfl, HW⟩
                  refine Reg.steps_cons (i := 7) ?_ ?_
                  · rintro bb aa ww ⟨ha, HW⟩ hb hd hn
                    have e94 : aa.tmps[94]? = some (.bool false) := by rw [ha]; exact Reg.fill_on 6 rfl rfl (hd 6 (by decide)) rfl
                    have HA := Lib.hid ha; clear ha; refine ⟨_, rfl, fun K hK => ?_⟩
                    refine Reg.do_val rfl rfl (v := .bool false) (w1 := ww) (by simp only [List.getElem_toArray, List.getElem_cons_succ, List.getElem_cons_zero, execOp, Reg.eval_tmp e94]; rfl) ?_
                    exact hK.out _ _ ⟨by rw [HA.out]; exact Reg.fill_up 7 hb rfl rfl rfl, HW⟩
                  refine Reg.steps_cons (i := 8) ?_ ?_
                  · rintro bb aa ww ⟨ha, HW⟩ hb hd hn
                    have e0 : aa.tmps[0]? = some (.pointer (some ⟨R, 0, none⟩)) := by rw [ha]; exact (Reg.fill_off rfl).trans rfl
                    have e95 : aa.tmps[95]? = some (.bool false) := by rw [ha]; exact Reg.fill_on 7 rfl rfl (hd 7 (by decide)) rfl
                    have HA := Lib.hid ha; clear ha; refine ⟨_, rfl, fun K hK => ?_⟩
                    refine Reg.won_val (Reg.want_on rfl rfl rfl e95) rfl (v := .pointer (some ⟨R, 0, none⟩)) (w1 := ww) (by simp only [List.getElem_toArray, List.getElem_cons_succ, List.getElem_cons_zero, execOp, Reg.eval_tmp e0]; rfl) ?_
                    exact hK.out _ _ ⟨by rw [HA.out]; exact Reg.fill_up 8 hb rfl rfl rfl, HW⟩
                  refine Reg.steps_cons (i := 9) ?_ ?_
                  · rintro bb aa ww ⟨ha, HW⟩ hb hd hn
                    have e3 : aa.tmps[3]? = some (.pointer (some ⟨W.heap.size, 0, none⟩)) := by rw [ha]; exact (Reg.fill_off rfl).trans rfl
                    have e95 : aa.tmps[95]? = some (.bool false) := by rw [ha]; exact Reg.fill_on 7 rfl rfl (hd 7 (by decide)) rfl
                    have HA := Lib.hid ha; clear ha; refine ⟨_, rfl, fun K hK => ?_⟩
                    refine Reg.won_val (Reg.want_on rfl rfl rfl e95) rfl (v := .pointer (some ⟨W.heap.size, 1, none⟩)) (w1 := ww) ?_ ?_
                    · simp only [List.getElem_toArray, List.getElem_cons_succ, List.getElem_cons_zero, execOp, Reg.eval_tmp e3]
                      go_simp
                    exact hK.out _ _ ⟨by rw [HA.out]; exact Reg.fill_up 9 hb rfl rfl rfl, HW⟩
                  refine Reg.steps_cons (i := 10) ?_ ?_
                  · rintro bb aa ww ⟨ha, HW⟩ hb hd hn
                    have e97 : aa.tmps[97]? = some (.pointer (some ⟨W.heap.size, 1, none⟩)) := by rw [ha]; exact Reg.fill_on 9 rfl rfl (hd 9 (by decide)) rfl
                    have e95 : aa.tmps[95]? = some (.bool false) := by rw [ha]; exact Reg.fill_on 7 rfl rfl (hd 7 (by decide)) rfl
                    have HA := Lib.hid ha; clear ha; refine ⟨_, rfl, fun K hK => ?_⟩
                    have f1_ := (row_cells (row_after HW HR.out)).1 1
                    refine Reg.won_val (Reg.want_on rfl rfl rfl e95) rfl (v := .slice (some ⟨b1, o1, none⟩) 3 c1) (w1 := ww) ?_ ?_
                    · simp only [List.getElem_toArray, List.getElem_cons_succ, List.getElem_cons_zero, execOp, Reg.eval_tmp e97]
                      go_simp
                    exact hK.out _ _ ⟨by rw [HA.out]; exact Reg.fill_up 10 hb rfl rfl rfl, HW⟩
                  refine Reg.steps_cons (i := 11) ?_ ?_
                  · rintro bb aa ww ⟨ha, HW⟩ hb hd hn
                    have e98 : aa.tmps[98]? = some (.slice (some ⟨b1, o1, none⟩) 3 c1) := by rw [ha]; exact Reg.fill_on 10 rfl rfl (hd 10 (by decide)) rfl
                    have e95 : aa.tmps[95]? = some (.bool false) := by rw [ha]; exact Reg.fill_on 7 rfl rfl (hd 7 (by decide)) rfl
                    have HA := Lib.hid ha; clear ha; refine ⟨_, rfl, fun K hK => ?_⟩
                    refine Reg.won_val (Reg.want_on rfl rfl rfl e95) rfl (v := .pointer (some ⟨b1, o1 + 2, none⟩)) (w1 := ww) ?_ ?_
                    · simp only [List.getElem_toArray, List.getElem_cons_succ, List.getElem_cons_zero, execOp, Reg.eval_tmp e98]
                      go_simp
                    exact hK.out _ _ ⟨by rw [HA.out]; exact Reg.fill_up 11 hb rfl rfl rfl, HW⟩
                  refine Reg.steps_cons (i := 12) ?_ ?_
                  · rintro bb aa ww ⟨ha, HW⟩ hb hd hn
                    have e99 : aa.tmps[99]? = some (.pointer (some ⟨b1, o1 + 2, none⟩)) := by rw [ha]; exact Reg.fill_on 11 rfl rfl (hd 11 (by decide)) rfl
                    have e95 : aa.tmps[95]? = some (.bool false) := by rw [ha]; exact Reg.fill_on 7 rfl rfl (hd 7 (by decide)) rfl
                    have HA := Lib.hid ha; clear ha; refine ⟨_, rfl, fun K hK => ?_⟩
                    have n2_ := HNC.out ww (HB.out.trans (HW.mono HB.out.size)) 2 _ rfl
                    refine Reg.won_val (Reg.want_on rfl rfl rfl e95) rfl (v := .string n2) (w1 := ww) ?_ ?_
                    · simp only [List.getElem_toArray, List.getElem_cons_succ, List.getElem_cons_zero, execOp, Reg.eval_tmp e99]
                      go_simp
                    exact hK.out _ _ ⟨by rw [HA.out]; exact Reg.fill_up 12 hb rfl rfl rfl, HW⟩
                  refine Reg.steps_cons (i := 13) ?_ ?_
                  · rintro bb aa ww ⟨ha, HW⟩ hb hd hn
                    have e96 : aa.tmps[96]? = some (.pointer (some ⟨R, 0, none⟩)) := by rw [ha]; exact Reg.fill_on 8 rfl rfl (hd 8 (by decide)) rfl
                    have e100 : aa.tmps[100]? = some (.string n2) := by rw [ha]; exact Reg.fill_on 12 rfl rfl (hd 12 (by decide)) rfl
                    have e95 : aa.tmps[95]? = some (.bool false) := by rw [ha]; exact Reg.fill_on 7 rfl rfl (hd 7 (by decide)) rfl
                    have HA := Lib.hid ha; clear ha; refine ⟨_, rfl, fun K hK => ?_⟩
                    refine Reg.won_call (Reg.want_on rfl rfl rfl e95) rfl Tryz.func49 (by kernel_rfl) rfl #[.pointer (some ⟨R, 0, none⟩), .string n2] rfl (by simp [Reg.eval_tmp e96, Reg.eval_tmp e100]) ?_
                    refine (HF2.out ww (HB.out.trans (HW.mono HB.out.size))).mono ?_; rintro e w3 ⟨rfl, hb3⟩; refine ⟨_, rfl, ?_⟩
                    exact hK.out _ _ ⟨by rw [HA.out]; exact Reg.fill_up 13 hb rfl rfl rfl, HW.trans (hb3.mono HW.size)⟩
                  refine Reg.steps_cons (i := 14) ?_ ?_
                  · rintro bb aa ww ⟨ha, HW⟩ hb hd hn
                    have e101 : aa.tmps[101]? = some (.int .i64 r2) := by rw [ha]; exact Reg.fill_on 13 rfl rfl (hd 13 (by decide)) rfl
                    have e95 : aa.tmps[95]? = some (.bool false) := by rw [ha]; exact Reg.fill_on 7 rfl rfl (hd 7 (by decide)) rfl
                    have HA := Lib.hid ha; clear ha; refine ⟨_, rfl, fun K hK => ?_⟩
                    refine Reg.won_val (Reg.want_on rfl rfl rfl e95) rfl (v := .bool true) (w1 := ww) ?_ ?_
                    · simp only [List.getElem_toArray, List.getElem_cons_succ, List.getElem_cons_zero, execOp, Reg.eval_tmp e101]
                      go_simp
                    exact hK.out _ _ ⟨by rw [HA.out]; exact Reg.fill_up 14 hb rfl rfl rfl, HW⟩
                  refine Reg.steps_cons (i := 15) ?_ ?_
                  · rintro bb aa ww ⟨ha, HW⟩ hb hd hn
                    have e95 : aa.tmps[95]? = some (.bool false) := by rw [ha]; exact Reg.fill_on 7 rfl rfl (hd 7 (by decide)) rfl
                    have e102 : aa.tmps[102]? = some (.bool true) := by rw [ha]; exact Reg.fill_on 14 rfl rfl (hd 14 (by decide)) rfl
                    have HA := Lib.hid ha; clear ha; refine ⟨_, rfl, fun K hK => ?_⟩
                    refine Reg.do_val rfl rfl (v := .bool true) (w1 := ww) ?_ ?_
                    · simp only [List.getElem_toArray, List.getElem_cons_succ, List.getElem_cons_zero, execOp, Reg.eval_tmp e95, Reg.eval_tmp e102]
                      go_simp
                    exact hK.out _ _ ⟨by rw [HA.out]; exact Reg.fill_up 15 hb rfl rfl rfl, HW⟩
                  refine Reg.steps_cons (i := 16) ?_ ?_
                  · rintro bb aa ww ⟨ha, HW⟩ hb hd hn
                    have e103 : aa.tmps[103]? = some (.bool true) := by rw [ha]; exact Reg.fill_on 15 rfl rfl (hd 15 (by decide)) rfl
                    have HA := Lib.hid ha; clear ha; refine ⟨_, rfl, fun K hK => ?_⟩
                    refine Reg.do_val rfl rfl (v := .bool true) (w1 := ww) (by simp only [List.getElem_toArray, List.getElem_cons_succ, List.getElem_cons_zero, execOp, Reg.eval_tmp e103]; rfl) ?_
                    exact hK.out _ _ ⟨by rw [HA.out]; exact Reg.fill_up 16 hb rfl rfl rfl, HW⟩
                  refine Reg.steps_cons (i := 17) ?_ ?_
                  · rintro bb aa ww ⟨ha, HW⟩ hb hd hn
                    have e3 : aa.tmps[3]? = some (.pointer (some ⟨W.heap.size, 0, none⟩)) := by rw [ha]; exact (Reg.fill_off rfl).trans rfl
                    have e104 : aa.tmps[104]? = some (.bool true) := by rw [ha]; exact Reg.fill_on 16 rfl rfl (hd 16 (by decide)) rfl
                    have HA := Lib.hid ha; clear ha; refine ⟨_, rfl, fun K hK => ?_⟩
                    refine Reg.do_off rfl rfl rfl e104 rfl ?_
                    exact hK.out _ _ ⟨by rw [HA.out]; exact Reg.fill_up 17 hb rfl rfl rfl, HW⟩
                  refine Reg.steps_cons (i := 18) ?_ ?_
                  · rintro bb aa ww ⟨ha, HW⟩ hb hd hn
                    have e105 : aa.tmps[105]? = some (undef) := by rw [ha]; exact Reg.fill_on 17 rfl rfl (hd 17 (by decide)) rfl
                    have e104 : aa.tmps[104]? = some (.bool true) := by rw [ha]; exact Reg.fill_on 16 rfl rfl (hd 16 (by decide)) rfl
                    have HA := Lib.hid ha; clear ha; refine ⟨_, rfl, fun K hK => ?_⟩
                    refine Reg.do_off rfl rfl rfl e104 rfl ?_
                    exact hK.out _ _ ⟨by rw [HA.out]; exact Reg.fill_up 18 hb rfl rfl rfl, HW⟩
                  refine Reg.steps_cons (i := 19) ?_ ?_
                  · rintro bb aa ww ⟨ha, HW⟩ hb hd hn
                    have e106 : aa.tmps[106]? = some (undef) := by rw [ha]; exact Reg.fill_on 18 rfl rfl (hd 18 (by decide)) rfl
                    have e104 : aa.tmps[104]? = some (.bool true) := by rw [ha]; exact Reg.fill_on 16 rfl rfl (hd 16 (by decide)) rfl
                    have HA := Lib.hid ha; clear ha; refine ⟨_, rfl, fun K hK => ?_⟩
                    refine Reg.do_off rfl rfl rfl e104 rfl ?_
                    exact hK.out _ _ ⟨by rw [HA.out]; exact Reg.fill_up 19 hb rfl rfl rfl, HW⟩
                  refine Reg.steps_cons (i := 20) ?_ ?_
                  · rintro bb aa ww ⟨ha, HW⟩ hb hd hn
                    have e107 : aa.tmps[107]? = some (undef) := by rw [ha]; exact Reg.fill_on 19 rfl rfl (hd 19 (by decide)) rfl
                    have e104 : aa.tmps[104]? = some (.bool true) := by rw [ha]; exact Reg.fill_on 16 rfl rfl (hd 16 (by decide)) rfl
                    have HA := Lib.hid ha; clear ha; refine ⟨_, rfl, fun K hK => ?_⟩
                    refine Reg.do_off rfl rfl rfl e104 rfl ?_
                    exact hK.out _ _ ⟨by rw [HA.out]; exact Reg.fill_up 20 hb rfl rfl rfl, HW⟩
                  refine Reg.steps_cons (i := 21) ?_ ?_
                  · rintro bb aa ww ⟨ha, HW⟩ hb hd hn
                    have e3 : aa.tmps[3]? = some (.pointer (some ⟨W.heap.size, 0, none⟩)) := by rw [ha]; exact (Reg.fill_off rfl).trans rfl
                    have e104 : aa.tmps[104]? = some (.bool true) := by rw [ha]; exact Reg.fill_on 16 rfl rfl (hd 16 (by decide)) rfl
                    have HA := Lib.hid ha; clear ha; refine ⟨_, rfl, fun K hK => ?_⟩
                    refine Reg.do_off rfl rfl rfl e104 rfl ?_
                    exact hK.out _ _ ⟨by rw [HA.out]; exact Reg.fill_up 21 hb rfl rfl rfl, HW⟩
                  refine Reg.steps_cons (i := 22) ?_ ?_
                  · rintro bb aa ww ⟨ha, HW⟩ hb hd hn
                    have e109 : aa.tmps[109]? = some (undef) := by rw [ha]; exact Reg.fill_on 21 rfl rfl (hd 21 (by decide)) rfl
                    have e104 : aa.tmps[104]? = some (.bool true) := by rw [ha]; exact Reg.fill_on 16 rfl rfl (hd 16 (by decide)) rfl
                    have HA := Lib.hid ha; clear ha; refine ⟨_, rfl, fun K hK => ?_⟩
                    refine Reg.do_off rfl rfl rfl e104 rfl ?_
                    exact hK.out _ _ ⟨by rw [HA.out]; exact Reg.fill_up 22 hb rfl rfl rfl, HW⟩
                  refine Reg.steps_cons (i := 23) ?_ ?_
                  · rintro bb aa ww ⟨ha, HW⟩ hb hd hn
                    have e110 : aa.tmps[110]? = some (undef) := by rw [ha]; exact Reg.fill_on 22 rfl rfl (hd 22 (by decide)) rfl
                    have e104 : aa.tmps[104]? = some (.bool true) := by rw [ha]; exact Reg.fill_on 16 rfl rfl (hd 16 (by decide)) rfl
                    have HA := Lib.hid ha; clear ha; refine ⟨_, rfl, fun K hK => ?_⟩
                    refine Reg.do_off rfl rfl rfl e104 rfl ?_
                    exact hK.out _ _ ⟨by rw [HA.out]; exact Reg.fill_up 23 hb rfl rfl rfl, HW⟩
                  refine Reg.steps_cons (i := 24) ?_ ?_
                  · rintro bb aa ww ⟨ha, HW⟩ hb hd hn
                    have e111 : aa.tmps[111]? = some (undef) := by rw [ha]; exact Reg.fill_on 23 rfl rfl (hd 23 (by decide)) rfl
                    have e104 : aa.tmps[104]? = some (.bool true) := by rw [ha]; exact Reg.fill_on 16 rfl rfl (hd 16 (by decide)) rfl
                    have HA := Lib.hid ha; clear ha; refine ⟨_, rfl, fun K hK => ?_⟩
                    refine Reg.do_off rfl rfl rfl e104 rfl ?_
                    exact hK.out _ _ ⟨by rw [HA.out]; exact Reg.fill_up 24 hb rfl rfl rfl, HW⟩
                  refine Reg.steps_cons (i := 25) ?_ ?_
                  · rintro bb aa ww ⟨ha, HW⟩ hb hd hn
                    have e108 : aa.tmps[108]? = some (undef) := by rw [ha]; exact Reg.fill_on 20 rfl rfl (hd 20 (by decide)) rfl
                    have e112 : aa.tmps[112]? = some (undef) := by rw [ha]; exact Reg.fill_on 24 rfl rfl (hd 24 (by decide)) rfl
                    have e104 : aa.tmps[104]? = some (.bool true) := by rw [ha]; exact Reg.fill_on 16 rfl rfl (hd 16 (by decide)) rfl
                    have HA := Lib.hid ha; clear ha; refine ⟨_, rfl, fun K hK => ?_⟩
                    refine Reg.do_off rfl rfl rfl e104 rfl ?_
                    exact hK.out _ _ ⟨by rw [HA.out]; exact Reg.fill_up 25 hb rfl rfl rfl, HW⟩
                  refine Reg.steps_cons (i := 26) ?_ ?_
                  · rintro bb aa ww ⟨ha, HW⟩ hb hd hn
                    have e104 : aa.tmps[104]? = some (.bool true) := by rw [ha]; exact Reg.fill_on 16 rfl rfl (hd 16 (by decide)) rfl
                    have e113 : aa.tmps[113]? = some (undef) := by rw [ha]; exact Reg.fill_on 25 rfl rfl (hd 25 (by decide)) rfl
                    have HA := Lib.hid ha; clear ha; refine ⟨_, rfl, fun K hK => ?_⟩
                    refine Reg.do_val rfl rfl (v := .bool true) (w1 := ww) ?_ ?_
                    · simp only [List.getElem_toArray, List.getElem_cons_succ, List.getElem_cons_zero, execOp, Reg.eval_tmp e104, Reg.eval_tmp e113]
                      go_simp
                    exact hK.out _ _ ⟨by rw [HA.out]; exact Reg.fill_up 26 hb rfl rfl rfl, HW⟩
                  exact trivial
                rintro bb aa W8 hall ⟨ha, HW⟩
                have hb0 := hall 0 (by decide)
                have hb1 := hall 1 (by decide)
                have hb2 := hall 2 (by decide)
                have hb3 := hall 3 (by decide)
                have hb4 := hall 4 (by decide)
                have hb5 := hall 5 (by decide)
                have hb6 := hall 6 (by decide)
                have hb7 := hall 7 (by decide)
                have hb8 := hall 8 (by decide)
                have hb9 := hall 9 (by decide)
                have hb10 := hall 10 (by decide)
                have hb11 := hall 11 (by decide)
                have hb12 := hall 12 (by decide)
                have hb13 := hall 13 (by decide)
                have hb14 := hall 14 (by decide)
                have hb15 := hall 15 (by decide)
                have hb16 := hall 16 (by decide)
                have hb17 := hall 17 (by decide)
                have hb18 := hall 18 (by decide)
                have hb19 := hall 19 (by decide)
                have hb20 := hall 20 (by decide)
                have hb21 := hall 21 (by decide)
                have hb22 := hall 22 (by decide)
                have hb23 := hall 23 (by decide)
                have hb24 := hall 24 (by decide)
                have hb25 := hall 25 (by decide)
                have hb26 := hall 26 (by decide)
                simp only [Reg.fill, hb0, hb1, hb2, hb3, hb4, hb5, hb6, hb7, hb8, hb9, hb10, hb11, hb12, hb13, hb14, hb15, hb16, hb17, hb18, hb19, hb20, hb21, hb22, hb23, hb24, hb25, hb26, if_true, Act.put, List.setIfInBounds_toArray, List.set_cons_zero, List.set_cons_succ] at ha
                clear hb0 hb1 hb2 hb3 hb4 hb5 hb6 hb7 hb8 hb9 hb10 hb11 hb12 hb13 hb14 hb15 hb16 hb17 hb18 hb19 hb20 hb21 hb22 hb23 hb24 hb25 hb26 hall
                subst ha
                have HB := Lib.hid (HB.out.trans (HW.mono HB.out.size))
                have HR := Lib.hid (row_after HW HR.out)
                clear HW
                go_wp2_with fail
                refine bodyPost_ret (v := .int .i64 5) (by simp [results, Tryz.results46, go_sem, *]) rfl ⟨by rw [HE.out], HB.out⟩
              · have l2 : r2 < 0 := by omega
                by_cases q3 : n1 = n2
                · have hE : E = 5 := by rw [HEQ.out, if_pos (.inr (.inr q3))]
                  have HE := Lib.hid hE
                  have q4 : (n1.toList == n2.toList) = true := by rw [q3]; simp
                  clear hE q1 q2 q3
                  refine Reg.region_inv [[], [], [1], [2], [3], [0, 4], [5], [5, 6], [7], [7], [7, 9], [7, 10], [7, 11], [7, 8, 12], [7, 13], [7, 14], [13, 15], [16], [16, 17], [16, 18], [16, 19], [16], [16, 21], [16, 22], [16, 23], [16, 20, 24], [16, 25]] [[], [], [1], [1, 2], [1, 2, 3], [0, 1, 2, 3, 4], [0, 1, 2, 3, 4, 5], [0, 1, 2, 3, 4, 5, 6], [0, 1, 2, 3, 4, 5, 6, 7], [0, 1, 2, 3, 4, 5, 6, 7], [0, 1, 2, 3, 4, 5, 6, 7, 9], [0, 1, 2, 3, 4, 5, 6, 7, 9, 10], [0, 1, 2, 3, 4, 5, 6, 7, 9, 10, 11], [0, 1, 2, 3, 4, 5, 6, 7, 8, 9, 10, 11, 12], [0, 1, 2, 3, 4, 5, 6, 7, 8, 9, 10, 11, 12, 13], [0, 1, 2, 3, 4, 5, 6, 7, 8, 9, 10, 11, 12, 13, 14], [0, 1, 2, 3, 4, 5, 6, 7, 8, 9, 10, 11, 12, 13, 14, 15], [0, 1, 2, 3, 4, 5, 6, 7, 8, 9, 10, 11, 12, 13, 14, 15, 16], [0, 1, 2, 3, 4, 5, 6, 7, 8, 9, 10, 11, 12, 13, 14, 15, 16, 17], [0, 1, 2, 3, 4, 5, 6, 7, 8, 9, 10, 11, 12, 13, 14, 15, 16, 17, 18], [0, 1, 2, 3, 4, 5, 6, 7, 8, 9, 10, 11, 12, 13, 14, 15, 16, 17, 18, 19], [0, 1, 2, 3, 4, 5, 6, 7, 8, 9, 10, 11, 12, 13, 14, 15, 16], [0, 1, 2, 3, 4, 5, 6, 7, 8, 9, 10, 11, 12, 13, 14, 15, 16, 21], [0, 1, 2, 3, 4, 5, 6, 7, 8, 9, 10, 11, 12, 13, 14, 15, 16, 21, 22], [0, 1, 2, 3, 4, 5, 6, 7, 8, 9, 10, 11, 12, 13, 14, 15, 16, 21, 22, 23], [0, 1, 2, 3, 4, 5, 6, 7, 8, 9, 10, 11, 12, 13, 14, 15, 16, 17, 18, 19, 20, 21, 22, 23, 24], [0, 1, 2, 3, 4, 5, 6, 7, 8, 9, 10, 11, 12, 13, 14, 15, 16, 17, 18, 19, 20, 21, 22, 23, 24, 25]] (fun a0_ bb aa ww => aa = Reg.fill bb [(0, 88, .pointer (some ⟨R, 0, none⟩)), (1, 89, .pointer (some ⟨W.heap.size, 1, none⟩)), (2, 90, .slice (some ⟨b1, o1, none⟩) 3 c1), (3, 91, .pointer (some ⟨b1, o1 + 1, none⟩)), (4, 92, .string n1), (5, 93, .int .i64 r1), (6, 94, .bool false), (7, 95, .bool false), (8, 96, .pointer (some ⟨R, 0, none⟩)), (9, 97, .pointer (some ⟨W.heap.size, 1, none⟩)), (10, 98, .slice (some ⟨b1, o1, none⟩) 3 c1), (11, 99, .pointer (some ⟨b1, o1 + 2, none⟩)), (12, 100, .string n2), (13, 101, .int .i64 r2), (14, 102, .bool false), (15, 103, .bool false), (16, 104, .bool false), (17, 105, .pointer (some ⟨W.heap.size, 1, none⟩)), (18, 106, .slice (some ⟨b1, o1, none⟩) 3 c1), (19, 107, .pointer (some ⟨b1, o1 + 1, none⟩)), (20, 108, .string n1), (21, 109, .pointer (some ⟨W.heap.size, 1, none⟩)), (22, 110, .slice (some ⟨b1, o1, none⟩) 3 c1), (23, 111, .pointer (some ⟨b1, o1 + 2, none⟩)), (24, 112, .string n2), (25, 113, .bool true), (26, 114, .bool true)] a0_ ∧ Below wq.heap.size wq ww) (by kernel_rfl) (by kernel_rfl) (by kernel_rfl) ?_ ?_ ?_
                  · exact ⟨Reg.fill_start.symm, (Below.refl _ _).drew⟩
                  · refine Reg.steps_cons (i := 0) ?_ ?_
                    · rintro bb aa ww ⟨ha, HW⟩ hb hd hn
                      have e0 : aa.tmps[0]? = some (.pointer (some ⟨R, 0, none⟩)) := by rw [ha]; exact (Reg.fill_off rfl).trans rfl
                      have HA := Lib.hid ha; clear ha; refine ⟨_, rfl, fun K hK => ?_⟩
                      refine Reg.do_val rfl rfl (v := .pointer (some ⟨R, 0, none⟩)) (w1 := ww) (by simp only [List.getElem_toArray, List.getElem_cons_zero, execOp, Reg.eval_tmp e0]; rfl) ?_
                      exact hK.out _ _ ⟨by rw [HA.out]; exact Reg.fill_up 0 hb rfl rfl rfl, HW⟩
                    refine Reg.steps_cons (i := 1) ?_ ?_
                    · rintro bb aa ww ⟨ha, HW⟩ hb hd hn
                      have e3 : aa.tmps[3]? = some (.pointer (some ⟨W.heap.size, 0, none⟩)) := by rw [ha]; exact (Reg.fill_off rfl).trans rfl
                      have HA := Lib.hid ha; clear ha; refine ⟨_, rfl, fun K hK => ?_⟩
                      refine Reg.do_val rfl rfl (v := .pointer (some ⟨W.heap.size, 1, none⟩)) (w1 := ww) ?_ ?_
                      · simp only [List.getElem_toArray, List.getElem_cons_succ, List.getElem_cons_zero, execOp, Reg.eval_tmp e3]
                        go_simp
                      exact hK.out _ _ ⟨by rw [HA.out]; exact Reg.fill_up 1 hb rfl rfl rfl, HW⟩
                    refine Reg.steps_cons (i := 2) ?_ ?_
                    · rintro bb aa ww ⟨ha, HW⟩ hb hd hn
                      have e89 : aa.tmps[89]? = some (.pointer (some ⟨W.heap.size, 1, none⟩)) := by rw [ha]; exact Reg.fill_on 1 rfl rfl (hd 1 (by decide)) rfl
                      have HA := Lib.hid ha; clear ha; refine ⟨_, rfl, fun K hK => ?_⟩
                      have f1_ := (row_cells (row_after HW HR.out)).1 1
                      refine Reg.do_val rfl rfl (v := .slice (some ⟨b1, o1, none⟩) 3 c1) (w1 := ww) ?_ ?_
                      · simp only [List.getElem_toArray, List.getElem_cons_succ, List.getElem_cons_zero, execOp, Reg.eval_tmp e89]
                        go_simp
                      exact hK.out _ _ ⟨by rw [HA.out]; exact Reg.fill_up 2 hb rfl rfl rfl, HW⟩
                    refine Reg.steps_cons (i := 3) ?_ ?_
                    · rintro bb aa ww ⟨ha, HW⟩ hb hd hn
                      have e90 : aa.tmps[90]? = some (.slice (some ⟨b1, o1, none⟩) 3 c1) := by rw [ha]; exact Reg.fill_on 2 rfl rfl (hd 2 (by decide)) rfl
                      have HA := Lib.hid ha; clear ha; refine ⟨_, rfl, fun K hK => ?_⟩
                      refine Reg.do_val rfl rfl (v := .pointer (some ⟨b1, o1 + 1, none⟩)) (w1 := ww) ?_ ?_
                      · simp only [List.getElem_toArray, List.getElem_cons_succ, List.getElem_cons_zero, execOp, Reg.eval_tmp e90]
                        go_simp
                      exact hK.out _ _ ⟨by rw [HA.out]; exact Reg.fill_up 3 hb rfl rfl rfl, HW⟩
                    refine Reg.steps_cons (i := 4) ?_ ?_
                    · rintro bb aa ww ⟨ha, HW⟩ hb hd hn
                      have e91 : aa.tmps[91]? = some (.pointer (some ⟨b1, o1 + 1, none⟩)) := by rw [ha]; exact Reg.fill_on 3 rfl rfl (hd 3 (by decide)) rfl
                      have HA := Lib.hid ha; clear ha; refine ⟨_, rfl, fun K hK => ?_⟩
                      have n1_ := HNC.out ww (HB.out.trans (HW.mono HB.out.size)) 1 _ rfl
                      refine Reg.do_val rfl rfl (v := .string n1) (w1 := ww) ?_ ?_
                      · simp only [List.getElem_toArray, List.getElem_cons_succ, List.getElem_cons_zero, execOp, Reg.eval_tmp e91]
                        go_simp
                      exact hK.out _ _ ⟨by rw [HA.out]; exact Reg.fill_up 4 hb rfl rfl rfl, HW⟩
                    refine Reg.steps_cons (i := 5) ?_ ?_
                    · rintro bb aa ww ⟨ha, HW⟩ hb hd hn
                      have e88 : aa.tmps[88]? = some (.pointer (some ⟨R, 0, none⟩)) := by rw [ha]; exact Reg.fill_on 0 rfl rfl (hd 0 (by decide)) rfl
                      have e92 : aa.tmps[92]? = some (.string n1) := by rw [ha]; exact Reg.fill_on 4 rfl rfl (hd 4 (by decide)) rfl
                      have HA := Lib.hid ha; clear ha; refine ⟨_, rfl, fun K hK => ?_⟩
                      refine Reg.do_call rfl rfl Tryz.func49 (by kernel_rfl) rfl #[.pointer (some ⟨R, 0, none⟩), .string n1] rfl (by simp [Reg.eval_tmp e88, Reg.eval_tmp e92]) ?_
                      refine (HF1.out ww (HB.out.trans (HW.mono HB.out.size))).mono ?_; rintro e w3 ⟨rfl, hb3⟩; refine ⟨_, rfl, ?_⟩
                      exact hK.out _ _ ⟨by rw [HA.out]; exact Reg.fill_up 5 hb rfl rfl rfl, HW.trans (hb3.mono HW.size)⟩
                    refine Reg.steps_cons (i := 6) ?_ ?_
                    · rintro bb aa ww ⟨ha, HW⟩ hb hd hn
                      have e93 : aa.tmps[93]? = some (.int .i64 r1) := by rw [ha]; exact Reg.fill_on 5 rfl rfl (hd 5 (by decide)) rfl
                      have HA := Lib.hid ha; clear ha; refine ⟨_, rfl, fun K hK => ?_⟩
                      refine Reg.do_val rfl rfl (v := .bool false) (w1 := ww) ?_ ?_
                      · simp only [List.getElem_toArray, List.getElem_cons_succ, List.getElem_cons_zero, execOp, Reg.eval_tmp e93]
                        go_simp
                      exact hK.out _ _ ⟨by rw [HA.out]; exact Reg.fill_up 6 hb rfl rfl rfl, HW⟩
                    refine Reg.steps_cons (i := 7) ?_ ?_
                    · rintro bb aa ww ⟨ha, HW⟩ hb hd hn
                      have e94 : aa.tmps[94]? = some (.bool false) := by rw [ha]; exact Reg.fill_on 6 rfl rfl (hd 6 (by decide)) rfl
                      have HA := Lib.hid ha; clear ha; refine ⟨_, rfl, fun K hK => ?_⟩
                      refine Reg.do_val rfl rfl (v := .bool false) (w1 := ww) (by simp only [List.getElem_toArray, List.getElem_cons_succ, List.getElem_cons_zero, execOp, Reg.eval_tmp e94]; rfl) ?_
                      exact hK.out _ _ ⟨by rw [HA.out]; exact Reg.fill_up 7 hb rfl rfl rfl, HW⟩
                    refine Reg.steps_cons (i := 8) ?_ ?_
                    · rintro bb aa ww ⟨ha, HW⟩ hb hd hn
                      have e0 : aa.tmps[0]? = some (.pointer (some ⟨R, 0, none⟩)) := by rw [ha]; exact (Reg.fill_off rfl).trans rfl
                      have e95 : aa.tmps[95]? = some (.bool false) := by rw [ha]; exact Reg.fill_on 7 rfl rfl (hd 7 (by decide)) rfl
                      have HA := Lib.hid ha; clear ha; refine ⟨_, rfl, fun K hK => ?_⟩
                      refine Reg.won_val (Reg.want_on rfl rfl rfl e95) rfl (v := .pointer (some ⟨R, 0, none⟩)) (w1 := ww) (by simp only [List.getElem_toArray, List.getElem_cons_succ, List.getElem_cons_zero, execOp, Reg.eval_tmp e0]; rfl) ?_
                      exact hK.out _ _ ⟨by rw [HA.out]; exact Reg.fill_up 8 hb rfl rfl rfl, HW⟩
                    refine Reg.steps_cons (i := 9) ?_ ?_
                    · rintro bb aa ww ⟨ha, HW⟩ hb hd hn
                      have e3 : aa.tmps[3]? = some (.pointer (some ⟨W.heap.size, 0, none⟩)) := by rw [ha]; exact (Reg.fill_off rfl).trans rfl
                      have e95 : aa.tmps[95]? = some (.bool false) := by rw [ha]; exact Reg.fill_on 7 rfl rfl (hd 7 (by decide)) rfl
                      have HA := Lib.hid ha; clear ha; refine ⟨_, rfl, fun K hK => ?_⟩
                      refine Reg.won_val (Reg.want_on rfl rfl rfl e95) rfl (v := .pointer (some ⟨W.heap.size, 1, none⟩)) (w1 := ww) ?_ ?_
                      · simp only [List.getElem_toArray, List.getElem_cons_succ, List.getElem_cons_zero, execOp, Reg.eval_tmp e3]
                        go_simp
                      exact hK.out _ _ ⟨by rw [HA.out]; exact Reg.fill_up 9 hb rfl rfl rfl, HW⟩
                    refine Reg.steps_cons (i := 10) ?_ ?_
                    · rintro bb aa ww ⟨ha, HW⟩ hb hd hn
                      have e97 : aa.tmps[97]? = some (.pointer (some ⟨W.heap.size, 1, none⟩)) := by rw [ha]; exact Reg.fill_on 9 rfl rfl (hd 9 (by decide)) rfl
                      have e95 : aa.tmps[95]? = some (.bool false) := by rw [ha]; exact Reg.fill_on 7 rfl rfl (hd 7 (by decide)) rfl
                      have HA := Lib.hid ha; clear ha; refine ⟨_, rfl, fun K hK => ?_⟩
                      have f1_ := (row_cells (row_after HW HR.out)).1 1
                      refine Reg.won_val (Reg.want_on rfl rfl rfl e95) rfl (v := .slice (some ⟨b1, o1, none⟩) 3 c1) (w1 := ww) ?_ ?_
                      · simp only [List.getElem_toArray, List.getElem_cons_succ, List.getElem_cons_zero, execOp, Reg.eval_tmp e97]
                        go_simp
                      exact hK.out _ _ ⟨by rw [HA.out]; exact Reg.fill_up 10 hb rfl rfl rfl, HW⟩
                    refine Reg.steps_cons (i := 11) ?_ ?_
                    · rintro bb aa ww ⟨ha, HW⟩ hb hd hn
                      have e98 : aa.tmps[98]? = some (.slice (some ⟨b1, o1, none⟩) 3 c1) := by rw [ha]; exact Reg.fill_on 10 rfl rfl (hd 10 (by decide)) rfl
                      have e95 : aa.tmps[95]? = some (.bool false) := by rw [ha]; exact Reg.fill_on 7 rfl rfl (hd 7 (by decide)) rfl
                      have HA := Lib.hid ha; clear ha; refine ⟨_, rfl, fun K hK => ?_⟩
                      refine Reg.won_val (Reg.want_on rfl rfl rfl e95) rfl (v := .pointer (some ⟨b1, o1 + 2, none⟩)) (w1 := ww) ?_ ?_
                      · simp only [List.getElem_toArray, List.getElem_cons_succ, List.getElem_cons_zero, execOp, Reg.eval_tmp e98]
                        go_simp
                      exact hK.out _ _ ⟨by rw [HA.out]; exact Reg.fill_up 11 hb rfl rfl rfl, HW⟩
                    refine Reg.steps_cons (i := 12) ?_ ?_
                    · rintro bb aa ww ⟨ha, HW⟩ hb hd hn
                      have e99 : aa.tmps[99]? = some (.pointer (some ⟨b1, o1 + 2, none⟩)) := by rw [ha]; exact Reg.fill_on 11 rfl rfl (hd 11 (by decide)) rfl
                      have e95 : aa.tmps[95]? = some (.bool false) := by rw [ha]; exact Reg.fill_on 7 rfl rfl (hd 7 (by decide)) rfl
                      have HA := Lib.hid ha; clear ha; refine ⟨_, rfl, fun K hK => ?_⟩
                      have n2_ := HNC.out ww (HB.out.trans (HW.mono HB.out.size)) 2 _ rfl
                      refine Reg.won_val (Reg.want_on rfl rfl rfl e95) rfl (v := .string n2) (w1 := ww) ?_ ?_
                      · simp only [List.getElem_toArray, List.getElem_cons_succ, List.getElem_cons_zero, execOp, Reg.eval_tmp e99]
                        go_simp
                      exact hK.out _ _ ⟨by rw [HA.out]; exact Reg.fill_up 12 hb rfl rfl rfl, HW⟩
                    refine Reg.steps_cons (i := 13) ?_ ?_
                    · rintro bb aa ww ⟨ha, HW⟩ hb hd hn
                      have e96 : aa.tmps[96]? = some (.pointer (some ⟨R, 0, none⟩)) := by rw [ha]; exact Reg.fill_on 8 rfl rfl (hd 8 (by decide)) rfl
                      have e100 : aa.tmps[100]? = some (.string n2) := by rw [ha]; exact Reg.fill_on 12 rfl rfl (hd 12 (by decide)) rfl
                      have e95 : aa.tmps[95]? = some (.bool false) := by rw [ha]; exact Reg.fill_on 7 rfl rfl (hd 7 (by decide)) rfl
                      have HA := Lib.hid ha; clear ha; refine ⟨_, rfl, fun K hK => ?_⟩
                      refine Reg.won_call (Reg.want_on rfl rfl rfl e95) rfl Tryz.func49 (by kernel_rfl) rfl #[.pointer (some ⟨R, 0, none⟩), .string n2] rfl (by simp [Reg.eval_tmp e96, Reg.eval_tmp e100]) ?_
                      refine (HF2.out ww (HB.out.trans (HW.mono HB.out.size))).mono ?_; rintro e w3 ⟨rfl, hb3⟩; refine ⟨_, rfl, ?_⟩
                      exact hK.out _ _ ⟨by rw [HA.out]; exact Reg.fill_up 13 hb rfl rfl rfl, HW.trans (hb3.mono HW.size)⟩
                    refine Reg.steps_cons (i := 14) ?_ ?_
                    · rintro bb aa ww ⟨ha, HW⟩ hb hd hn
                      have e101 : aa.tmps[101]? = some (.int .i64 r2) := by rw [ha]; exact Reg.fill_on 13 rfl rfl (hd 13 (by decide)) rfl
                      have e95 : aa.tmps[95]? = some (.bool false) := by rw [ha]; exact Reg.fill_on 7 rfl rfl (hd 7 (by decide)) rfl
                      have HA := Lib.hid ha; clear ha; refine ⟨_, rfl, fun K hK => ?_⟩
                      refine Reg.won_val (Reg.want_on rfl rfl rfl e95) rfl (v := .bool false) (w1 := ww) ?_ ?_
                      · simp only [List.getElem_toArray, List.getElem_cons_succ, List.getElem_cons_zero, execOp, Reg.eval_tmp e101]
                        go_simp
                      exact hK.out _ _ ⟨by rw [HA.out]; exact Reg.fill_up 14 hb rfl rfl rfl, HW⟩
                    refine Reg.steps_cons (i := 15) ?_ ?_
                    · rintro bb aa ww ⟨ha, HW⟩ hb hd hn
                      have e95 : aa.tmps[95]? = some (.bool false) := by rw [ha]; exact Reg.fill_on 7 rfl rfl (hd 7 (by decide)) rfl
                      have e102 : aa.tmps[102]? = some (.bool false) := by rw [ha]; exact Reg.fill_on 14 rfl rfl (hd 14 (by decide)) rfl
                      have HA := Lib.hid ha; clear ha; refine ⟨_, rfl, fun K hK => ?_⟩
                      refine Reg.do_val rfl rfl (v := .bool false) (w1 := ww) ?_ ?_
                      · simp only [List.getElem_toArray, List.getElem_cons_succ, List.getElem_cons_zero, execOp, Reg.eval_tmp e95, Reg.eval_tmp e102]
                        go_simp
                      exact hK.out _ _ ⟨by rw [HA.out]; exact Reg.fill_up 15 hb rfl rfl rfl, HW⟩
                    refine Reg.steps_cons (i := 16) ?_ ?_
                    · rintro bb aa ww ⟨ha, HW⟩ hb hd hn
                      have e103 : aa.tmps[103]? = some (.bool false) := by rw [ha]; exact Reg.fill_on 15 rfl rfl (hd 15 (by decide)) rfl
                      have HA := Lib.hid ha; clear ha; refine ⟨_, rfl, fun K hK => ?_⟩
                      refine Reg.do_val rfl rfl (v := .bool false) (w1 := ww) (by simp only [List.getElem_toArray, List.getElem_cons_succ, List.getElem_cons_zero, execOp, Reg.eval_tmp e103]; rfl) ?_
                      exact hK.out _ _ ⟨by rw [HA.out]; exact Reg.fill_up 16 hb rfl rfl rfl, HW⟩
                    refine Reg.steps_cons (i := 17) ?_ ?_
                    · rintro bb aa ww ⟨ha, HW⟩ hb hd hn
                      have e3 : aa.tmps[3]? = some (.pointer (some ⟨W.heap.size, 0, none⟩)) := by rw [ha]; exact (Reg.fill_off rfl).trans rfl
                      have e104 : aa.tmps[104]? = some (.bool false) := by rw [ha]; exact Reg.fill_on 16 rfl rfl (hd 16 (by decide)) rfl
                      have HA := Lib.hid ha; clear ha; refine ⟨_, rfl, fun K hK => ?_⟩
                      refine Reg.won_val (Reg.want_on rfl rfl rfl e104) rfl (v := .pointer (some ⟨W.heap.size, 1, none⟩)) (w1 := ww) ?_ ?_
                      · simp only [List.getElem_toArray, List.getElem_cons_succ, List.getElem_cons_zero, execOp, Reg.eval_tmp e3]
                        go_simp
                      exact hK.out _ _ ⟨by rw [HA.out]; exact Reg.fill_up 17 hb rfl rfl rfl, HW⟩
                    refine Reg.steps_cons (i := 18) ?_ ?_
                    · rintro bb aa ww ⟨ha, HW⟩ hb hd hn
                      have e105 : aa.tmps[105]? = some (.pointer (some ⟨W.heap.size, 1, none⟩)) := by rw [ha]; exact Reg.fill_on 17 rfl rfl (hd 17 (by decide)) rfl
                      have e104 : aa.tmps[104]? = some (.bool false) := by rw [ha]; exact Reg.fill_on 16 rfl rfl (hd 16 (by decide)) rfl
                      have HA := Lib.hid ha; clear ha; refine ⟨_, rfl, fun K hK => ?_⟩
                      have f1_ := (row_cells (row_after HW HR.out)).1 1
                      refine Reg.won_val (Reg.want_on rfl rfl rfl e104) rfl (v := .slice (some ⟨b1, o1, none⟩) 3 c1) (w1 := ww) ?_ ?_
                      · simp only [List.getElem_toArray, List.getElem_cons_succ, List.getElem_cons_zero, execOp, Reg.eval_tmp e105]
                        go_simp
                      exact hK.out _ _ ⟨by rw [HA.out]; exact Reg.fill_up 18 hb rfl rfl rfl, HW⟩
                    refine Reg.steps_cons (i := 19) ?_ ?_
                    · rintro bb aa ww ⟨ha, HW⟩ hb hd hn
                      have e106 : aa.tmps[106]? = some (.slice (some ⟨b1, o1, none⟩) 3 c1) := by rw [ha]; exact Reg.fill_on 18 rfl rfl (hd 18 (by decide)) rfl
                      have e104 : aa.tmps[104]? = some (.bool false) := by rw [ha]; exact Reg.fill_on 16 rfl rfl (hd 16 (by decide)) rfl
                      have HA := Lib.hid ha; clear ha; refine ⟨_, rfl, fun K hK => ?_⟩
                      refine Reg.won_val (Reg.want_on rfl rfl rfl e104) rfl (v := .pointer (some ⟨b1, o1 + 1, none⟩)) (w1 := ww) ?_ ?_
                      · simp only [List.getElem_toArray, List.getElem_cons_succ, List.getElem_cons_zero, execOp, Reg.eval_tmp e106]
                        go_simp
                      exact hK.out _ _ ⟨by rw [HA.out]; exact Reg.fill_up 19 hb rfl rfl rfl, HW⟩
                    refine Reg.steps_cons (i := 20) ?_ ?_
                    · rintro bb aa ww ⟨ha, HW⟩ hb hd hn
                      have e107 : aa.tmps[107]? = some (.pointer (some ⟨b1, o1 + 1, none⟩)) := by rw [ha]; exact Reg.fill_on 19 rfl rfl (hd 19 (by decide)) rfl
                      have e104 : aa.tmps[104]? = some (.bool false) := by rw [ha]; exact Reg.fill_on 16 rfl rfl (hd 16 (by decide)) rfl
                      have HA := Lib.hid ha; clear ha; refine ⟨_, rfl, fun K hK => ?_⟩
                      have n1_ := HNC.out ww (HB.out.trans (HW.mono HB.out.size)) 1 _ rfl
                      refine Reg.won_val (Reg.want_on rfl rfl rfl e104) rfl (v := .string n1) (w1 := ww) ?_ ?_
                      · simp only [List.getElem_toArray, List.getElem_cons_succ, List.getElem_cons_zero, execOp, Reg.eval_tmp e107]
                        go_simp
                      exact hK.out _ _ ⟨by rw [HA.out]; exact Reg.fill_up 20 hb rfl rfl rfl, HW⟩
                    refine Reg.steps_cons (i := 21) ?_ ?_
                    · rintro bb aa ww ⟨ha, HW⟩ hb hd hn
                      have e3 : aa.tmps[3]? = some (.pointer (some ⟨W.heap.size, 0, none⟩)) := by rw [ha]; exact (Reg.fill_off rfl).trans rfl
                      have e104 : aa.tmps[104]? = some (.bool false) := by rw [ha]; exact Reg.fill_on 16 rfl rfl (hd 16 (by decide)) rfl
                      have HA := Lib.hid ha; clear ha; refine ⟨_, rfl, fun K hK => ?_⟩
                      refine Reg.won_val (Reg.want_on rfl rfl rfl e104) rfl (v := .pointer (some ⟨W.heap.size, 1, none⟩)) (w1 := ww) ?_ ?_
                      · simp only [List.getElem_toArray, List.getElem_cons_succ, List.getElem_cons_zero, execOp, Reg.eval_tmp e3]
                        go_simp
                      exact hK.out _ _ ⟨by rw [HA.out]; exact Reg.fill_up 21 hb rfl rfl rfl, HW⟩
                    refine Reg.steps_cons (i := 22) ?_ ?_
                    · rintro bb aa ww ⟨ha, HW⟩ hb hd hn
                      have e109 : aa.tmps[109]? = some (.pointer (some ⟨W.heap.size, 1, none⟩)) := by rw [ha]; exact Reg.fill_on 21 rfl rfl (hd 21 (by decide)) rfl
                      have e104 : aa.tmps[104]? = some (.bool false) := by rw [ha]; exact Reg.fill_on 16 rfl rfl (hd 16 (by decide)) rfl
                      have HA := Lib.hid ha; clear ha; refine ⟨_, rfl, fun K hK => ?_⟩
                      have f1_ := (row_cells (row_after HW HR.out)).1 1
                      refine Reg.won_val (Reg.want_on rfl rfl rfl e104) rfl (v := .slice (some ⟨b1, o1, none⟩) 3 c1) (w1 := ww) ?_ ?_
                      · simp only [List.getElem_toArray, List.getElem_cons_succ, List.getElem_cons_zero, execOp, Reg.eval_tmp e109]
                        go_simp
                      exact hK.out _ _ ⟨by rw [HA.out]; exact Reg.fill_up 22 hb rfl rfl rfl, HW⟩
                    refine Reg.steps_cons (i := 23) ?_ ?_
                    · rintro bb aa ww ⟨ha, HW⟩ hb hd hn
                      have e110 : aa.tmps[110]? = some (.slice (some ⟨b1, o1, none⟩) 3 c1) := by rw [ha]; exact Reg.fill_on 22 rfl rfl (hd 22 (by decide)) rfl
                      have e104 : aa.tmps[104]? = some (.bool false) := by rw [ha]; exact Reg.fill_on 16 rfl rfl (hd 16 (by decide)) rfl
                      have HA := Lib.hid ha; clear ha; refine ⟨_, rfl, fun K hK => ?_⟩
                      refine Reg.won_val (Reg.want_on rfl rfl rfl e104) rfl (v := .pointer (some ⟨b1, o1 + 2, none⟩)) (w1 := ww) ?_ ?_
                      · simp only [List.getElem_toArray, List.getElem_cons_succ, List.getElem_cons_zero, execOp, Reg.eval_tmp e110]
                        go_simp
                      exact hK.out _ _ ⟨by rw [HA.out]; exact Reg.fill_up 23 hb rfl rfl rfl, HW⟩
                    refine Reg.steps_cons (i := 24) ?_ ?_
                    · rintro bb aa ww ⟨ha, HW⟩ hb hd hn
                      have e111 : aa.tmps[111]? = some (.pointer (some ⟨b1, o1 + 2, none⟩)) := by rw [ha]; exact Reg.fill_on 23 rfl rfl (hd 23 (by decide)) rfl
                      have e104 : aa.tmps[104]? = some (.bool false) := by rw [ha]; exact Reg.fill_on 16 rfl rfl (hd 16 (by decide)) rfl
                      have HA := Lib.hid ha; clear ha; refine ⟨_, rfl, fun K hK => ?_⟩
                      have n2_ := HNC.out ww (HB.out.trans (HW.mono HB.out.size)) 2 _ rfl
                      refine Reg.won_val (Reg.want_on rfl rfl rfl e104) rfl (v := .string n2) (w1 := ww) ?_ ?_
                      · simp only [List.getElem_toArray, List.getElem_cons_succ, List.getElem_cons_zero, execOp, Reg.eval_tmp e111]
                        go_simp
                      exact hK.out _ _ ⟨by rw [HA.out]; exact Reg.fill_up 24 hb rfl rfl rfl, HW⟩
                    refine Reg.steps_cons (i := 25) ?_ ?_
                    · rintro bb aa ww ⟨ha, HW⟩ hb hd hn
                      have e108 : aa.tmps[108]? = some (.string n1) := by rw [ha]; exact Reg.fill_on 20 rfl rfl (hd 20 (by decide)) rfl
                      have e112 : aa.tmps[112]? = some (.string n2) := by rw [ha]; exact Reg.fill_on 24 rfl rfl (hd 24 (by decide)) rfl
                      have e104 : aa.tmps[104]? = some (.bool false) := by rw [ha]; exact Reg.fill_on 16 rfl rfl (hd 16 (by decide)) rfl
                      have HA := Lib.hid ha; clear ha; refine ⟨_, rfl, fun K hK => ?_⟩
                      refine Reg.won_val (Reg.want_on rfl rfl rfl e104) rfl (v := .bool true) (w1 := ww) ?_ ?_
                      · simp only [List.getElem_toArray, List.getElem_cons_succ, List.getElem_cons_zero, execOp, Reg.eval_tmp e108, Reg.eval_tmp e112]
                        go_simp
                      exact hK.out _ _ ⟨by rw [HA.out]; exact Reg.fill_up 25 hb rfl rfl rfl, HW⟩
                    refine Reg.steps_cons (i := 26) ?_ ?_
                    · rintro bb aa ww ⟨ha, HW⟩ hb hd hn
                      have e104 : aa.tmps[104]? = some (.bool false) := by rw [ha]; exact Reg.fill_on 16 rfl rfl (hd 16 (by decide)) rfl
                      have e113 : aa.tmps[113]? = some (.bool true) := by rw [ha]; exact Reg.fill_on 25 rfl rfl (hd 25 (by decide)) rfl
                      have HA := Lib.hid ha; clear ha; refine ⟨_, rfl, fun K hK => ?_⟩
                      refine Reg.do_val rfl rfl (v := .bool true) (w1 := ww) ?_ ?_
                      · simp only [List.getElem_toArray, List.getElem_cons_succ, List.getElem_cons_zero, execOp, Reg.eval_tmp e104, Reg.eval_tmp e113]
                        go_simp
                      exact hK.out _ _ ⟨by rw [HA.out]; exact Reg.fill_up 26 hb rfl rfl rfl, HW⟩
                    exact trivial
                  rintro bb aa W8 hall ⟨ha, HW⟩
                  have hb0 := hall 0 (by decide)
                  have hb1 := hall 1 (by decide)
                  have hb2 := hall 2 (by decide)
                  have hb3 := hall 3 (by decide)
                  have hb4 := hall 4 (by decide)
                  have hb5 := hall 5 (by decide)
                  have hb6 := hall 6 (by decide)
                  have hb7 := hall 7 (by decide)
                  have hb8 := hall 8 (by decide)
                  have hb9 := hall 9 (by decide)
                  have hb10 := hall 10 (by decide)
                  have hb11 := hall 11 (by decide)
                  have hb12 := hall 12 (by decide)
                  have hb13 := hall 13 (by decide)
                  have hb14 := hall 14 (by decide)
                  have hb15 := hall 15 (by decide)
                  have hb16 := hall 16 (by decide)
                  have hb17 := hall 17 (by decide)
                  have hb18 := hall 18 (by decide)
                  have hb19 := hall 19 (by decide)
                  have hb20 := hall 20 (by decide)
                  have hb21 := hall 21 (by decide)
                  have hb22 := hall 22 (by decide)
                  have hb23 := hall 23 (by decide)
                  have hb24 := hall 24 (by decide)
                  have hb25 := hall 25 (by decide)
                  have hb26 := hall 26 (by decide)
                  simp only [Reg.fill, hb0, hb1, hb2, hb3, hb4, hb5, hb6, hb7, hb8, hb9, hb10, hb11, hb12, hb13, hb14, hb15, hb16, hb17, hb18, hb19, hb20, hb21, hb22, hb23, hb24, hb25, hb26, if_true, Act.put, List.setIfInBounds_toArray, List.set_cons_zero, List.set_cons_succ] at ha
                  clear hb0 hb1 hb2 hb3 hb4 hb5 hb6 hb7 hb8 hb9 hb10 hb11 hb12 hb13 hb14 hb15 hb16 hb17 hb18 hb19 hb20 hb21 hb22 hb23 hb24 hb25 hb26 hall
                  subst ha
                  have HB := Lib.hid (HB.out.trans (HW.mono HB.out.size))
                  have HR := Lib.hid (row_after HW HR.out)
                  clear HW
                  go_wp2_with fail
                  refine bodyPost_ret (v := .int .i64 5) (by simp [results, Tryz.results46, go_sem, *]) rfl ⟨by rw [HE.out], HB.out⟩
                · have hE : E = KE := by rw [HEQ.out, if_neg (fun hh => hh.elim (fun hh => q1 (HI1.out.2 hh)) (fun hh => hh.elim (fun hh => q2 (HI2.out.2 hh)) q3))]
                  have HE := Lib.hid hE
                  have q4 : (n1.toList == n2.toList) = false := by rw [tl_beq]; exact decide_eq_false q3
                  clear hE q1 q2 q3
                  refine Reg.region_inv [[], [], [1], [2], [3], [0, 4], [5], [5, 6], [7], [7], [7, 9], [7, 10], [7, 11], [7, 8, 12], [7, 13], [7, 14], [13, 15], [16], [16, 17], [16, 18], [16, 19], [16], [16, 21], [16, 22], [16, 23], [16, 20, 24], [16, 25]] [[], [], [1], [1, 2], [1, 2, 3], [0, 1, 2, 3, 4], [0, 1, 2, 3, 4, 5], [0, 1, 2, 3, 4, 5, 6], [0, 1, 2, 3, 4, 5, 6, 7], [0, 1, 2, 3, 4, 5, 6, 7], [0, 1, 2, 3, 4, 5, 6, 7, 9], [0, 1, 2, 3, 4, 5, 6, 7, 9, 10], [0, 1, 2, 3, 4, 5, 6, 7, 9, 10, 11], [0, 1, 2, 3, 4, 5, 6, 7, 8, 9, 10, 11, 12], [0, 1, 2, 3, 4, 5, 6, 7, 8, 9, 10, 11, 12, 13], [0, 1, 2, 3, 4, 5, 6, 7, 8, 9, 10, 11, 12, 13, 14], [0, 1, 2, 3, 4, 5, 6, 7, 8, 9, 10, 11, 12, 13, 14, 15], [0, 1, 2, 3, 4, 5, 6, 7, 8, 9, 10, 11, 12, 13, 14, 15, 16], [0, 1, 2, 3, 4, 5, 6, 7, 8, 9, 10, 11, 12, 13, 14, 15, 16, 17], [0, 1, 2, 3, 4, 5, 6, 7, 8, 9, 10, 11, 12, 13, 14, 15, 16, 17, 18], [0, 1, 2, 3, 4, 5, 6, 7, 8, 9, 10, 11, 12, 13, 14, 15, 16, 17, 18, 19], [0, 1, 2, 3, 4, 5, 6, 7, 8, 9, 10, 11, 12, 13, 14, 15, 16], [0, 1, 2, 3, 4, 5, 6, 7, 8, 9, 10, 11, 12, 13, 14, 15, 16, 21], [0, 1, 2, 3, 4, 5, 6, 7, 8, 9, 10, 11, 12, 13, 14, 15, 16, 21, 22], [0, 1, 2, 3, 4, 5, 6, 7, 8, 9, 10, 11, 12, 13, 14, 15, 16, 21, 22, 23], [0, 1, 2, 3, 4, 5, 6, 7, 8, 9, 10, 11, 12, 13, 14, 15, 16, 17, 18, 19, 20, 21, 22, 23, 24], [0, 1, 2, 3, 4, 5, 6, 7, 8, 9, 10, 11, 12, 13, 14, 15, 16, 17, 18, 19, 20, 21, 22, 23, 24, 25]] (fun a0_ bb aa ww => aa = Reg.fill bb [(0, 88, .pointer (some ⟨R, 0, none⟩)), (1, 89, .pointer (some ⟨W.heap.size, 1, none⟩)), (2, 90, .slice (some ⟨b1, o1, none⟩) 3 c1), (3, 91, .pointer (some ⟨b1, o1 + 1, none⟩)), (4, 92, .string n1), (5, 93, .int .i64 r1), (6, 94, .bool false), (7, 95, .bool false), (8, 96, .pointer (some ⟨R, 0, none⟩)), (9, 97, .pointer (some ⟨W.heap.size, 1, none⟩)), (10, 98, .slice (some ⟨b1, o1, none⟩) 3 c1), (11, 99, .pointer (some ⟨b1, o1 + 2, none⟩)), (12, 100, .string n2), (13, 101, .int .i64 r2), (14, 102, .bool false), (15, 103, .bool false), (16, 104, .bool false), (17, 105, .pointer (some ⟨W.heap.size, 1, none⟩)), (18, 106, .slice (some ⟨b1, o1, none⟩) 3 c1), (19, 107, .pointer (some ⟨b1, o1 + 1, none⟩)), (20, 108, .string n1), (21, 109, .pointer (some ⟨W.heap.size, 1, none⟩)), (22, 110, .slice (some ⟨b1, o1, none⟩) 3 c1), (23, 111, .pointer (some ⟨b1, o1 + 2, none⟩)), (24, 112, .string n2), (25, 113, .bool false), (26, 114, .bool false)] a0_ ∧ Below wq.heap.size wq ww) (by kernel_rfl) (by kernel_rfl) (by kernel_rfl) ?_ ?_ ?_
                  · exact ⟨Reg.fill_start.symm, (Below.refl _ _).drew⟩
                  · refine Reg.steps_cons (i := 0) ?_ ?_
                    · rintro bb aa ww ⟨ha, HW⟩ hb hd hn
                      have e0 : aa.tmps[0]? = some (.pointer (some ⟨R, 0, none⟩)) := by rw [ha]; exact (Reg.fill_off rfl).trans rfl
                      have HA := Lib.hid ha; clear ha; refine ⟨_, rfl, fun K hK => ?_⟩
                      refine Reg.do_val rfl rfl (v := .pointer (some ⟨R, 0, none⟩)) (w1 := ww) (by simp only [List.getElem_toArray, List.getElem_cons_zero, execOp, Reg.eval_tmp e0]; rfl) ?_
                      exact hK.out _ _ ⟨by rw [HA.out]; exact Reg.fill_up 0 hb rfl rfl rfl, HW⟩
                    refine Reg.steps_cons (i := 1) ?_ ?_
                    · rintro bb aa ww ⟨ha, HW⟩ hb hd hn
                      have e3 : aa.tmps[3]? = some (.pointer (some ⟨W.heap.size, 0, none⟩)) := by rw [ha]; exact (Reg.fill_off rfl).trans rfl
                      have HA := Lib.hid ha; clear ha; refine ⟨_, rfl, fun K hK => ?_⟩
                      refine Reg.do_val rfl rfl (v := .pointer (some ⟨W.heap.size, 1, none⟩)) (w1 := ww) ?_ ?_
                      · simp only [List.getElem_toArray, List.getElem_cons_succ, List.getElem_cons_zero, execOp, Reg.eval_tmp e3]
                        go_simp
                      exact hK.out _ _ ⟨by rw [HA.out]; exact Reg.fill_up 1 hb rfl rfl rfl, HW⟩
                    refine Reg.steps_cons (i := 2) ?_ ?_
                    · rintro bb aa ww ⟨ha, HW⟩ hb hd hn
                      have e89 : aa.tmps[89]? = some (.pointer (some ⟨W.heap.size, 1, none⟩)) := by rw [ha]; exact Reg.fill_on 1 rfl rfl (hd 1 (by decide)) rfl
                      have HA := Lib.hid ha; clear ha; refine ⟨_, rfl, fun K hK => ?_⟩
                      have f1_ := (row_cells (row_after HW HR.out)).1 1
                      refine Reg.do_val rfl rfl (v := .slice (some ⟨b1, o1, none⟩) 3 c1) (w1 := ww) ?_ ?_
                      · simp only [List.getElem_toArray, List.getElem_cons_succ, List.getElem_cons_zero, execOp, Reg.eval_tmp e89]
                        go_simp
                      exact hK.out _ _ ⟨by rw [HA.out]; exact Reg.fill_up 2 hb rfl rfl rfl, HW⟩
                    refine Reg.steps_cons (i := 3) ?_ ?_
                    · rintro bb aa ww ⟨ha, HW⟩ hb hd hn
                      have e90 : aa.tmps[90]? = some (.slice (some ⟨b1, o1, none⟩) 3 c1) := by rw [ha]; exact Reg.fill_on 2 rfl rfl (hd 2 (by decide)) rfl
                      have HA := Lib.hid ha; clear ha; refine ⟨_, rfl, fun K hK => ?_⟩
                      refine Reg.do_val rfl rfl (v := .pointer (some ⟨b1, o1 + 1, none⟩)) (w1 := ww) ?_ ?_
                      · simp only [List.getElem_toArray, List.getElem_cons_succ, List.getElem_cons_zero, execOp, Reg.eval_tmp e90]
                        go_simp
                      exact hK.out _ _ ⟨by rw [HA.out]; exact Reg.fill_up 3 hb rfl rfl rfl, HW⟩
                    refine Reg.steps_cons (i := 4) ?_ ?_
                    · rintro bb aa ww ⟨ha, HW⟩ hb hd hn
                      have e91 : aa.tmps[91]? = some (.pointer (some ⟨b1, o1 + 1, none⟩)) := by rw [ha]; exact Reg.fill_on 3 rfl rfl (hd 3 (by decide)) rfl
                      have HA := Lib.hid ha; clear ha; refine ⟨_, rfl, fun K hK => ?_⟩
                      have n1_ := HNC.out ww (HB.out.trans (HW.mono HB.out.size)) 1 _ rfl
                      refine Reg.do_val rfl rfl (v := .string n1) (w1 := ww) ?_ ?_
                      · simp only [List.getElem_toArray, List.getElem_cons_succ, List.getElem_cons_zero, execOp, Reg.eval_tmp e91]
                        go_simp
                      exact hK.out _ _ ⟨by rw [HA.out]; exact Reg.fill_up 4 hb rfl rfl rfl, HW⟩
                    refine Reg.steps_cons (i := 5) ?_ ?_
                    · rintro bb aa ww ⟨ha, HW⟩ hb hd hn
                      have e88 : aa.tmps[88]? = some (.pointer (some ⟨R, 0, none⟩)) := by rw [ha]; exact Reg.fill_on 0 rfl rfl (hd 0 (by decide)) rfl
                      have e92 : aa.tmps[92]? = some (.string n1) := by rw [ha]; exact Reg.fill_on 4 rfl rfl (hd 4 (by decide)) rfl
                      have HA := Lib.hid ha; clear ha; refine ⟨_, rfl, fun K hK => ?_⟩
                      refine Reg.do_call rfl rfl Tryz.func49 (by kernel_rfl) rfl #[.pointer (some ⟨R, 0, none⟩), .string n1] rfl (by simp [Reg.eval_tmp e88, Reg.eval_tmp e92]) ?_
                      refine (HF1.out ww (HB.out.trans (HW.mono HB.out.size))).mono ?_; rintro e w3 ⟨rfl, hb3⟩; refine ⟨_, rfl, ?_⟩
                      exact hK.out _ _ ⟨by rw [HA.out]; exact Reg.fill_up 5 hb rfl rfl rfl, HW.trans (hb3.mono HW.size)⟩
                    refine Reg.steps_cons (i := 6) ?_ ?_
                    · rintro bb aa ww ⟨ha, HW⟩ hb hd hn
                      have e93 : aa.tmps[93]? = some (.int .i64 r1) := by rw [ha]; exact Reg.fill_on 5 rfl rfl (hd 5 (by decide)) rfl
                      have HA := Lib.hid ha; clear ha; refine ⟨_, rfl, fun K hK => ?_⟩
                      refine Reg.do_val rfl rfl (v := .bool false) (w1 := ww) ?_ ?_
                      · simp only [List.getElem_toArray, List.getElem_cons_succ, List.getElem_cons_zero, execOp, Reg.eval_tmp e93]
                        go_simp
                      exact hK.out _ _ ⟨by rw [HA.out]; exact Reg.fill_up 6 hb rfl rfl rfl, HW⟩
                    refine Reg.steps_cons (i := 7) ?_ ?_
                    · rintro bb aa ww ⟨ha, HW⟩ hb hd hn
                      have e94 : aa.tmps[94]? = some (.bool false) := by rw [ha]; exact Reg.fill_on 6 rfl rfl (hd 6 (by decide)) rfl
                      have HA := Lib.hid ha; clear ha; refine ⟨_, rfl, fun K hK => ?_⟩
                      refine Reg.do_val rfl rfl (v := .bool false) (w1 := ww) (by simp only [List.getElem_toArray, List.getElem_cons_succ, List.getElem_cons_zero, execOp, Reg.eval_tmp e94]; rfl) ?_
                      exact hK.out _ _ ⟨by rw [HA.out]; exact Reg.fill_up 7 hb rfl rfl rfl, HW⟩
                    refine Reg.steps_cons (i := 8) ?_ ?_
                    · rintro bb aa ww ⟨ha, HW⟩ hb hd hn
                      have e0 : aa.tmps[0]? = some (.pointer (some ⟨R, 0, none⟩)) := by rw [ha]; exact (Reg.fill_off rfl).trans rfl
                      have e95 : aa.tmps[95]? = some (.bool false) := by rw [ha]; exact Reg.fill_on 7 rfl rfl (hd 7 (by decide)) rfl
                      have HA := Lib.hid ha; clear ha; refine ⟨_, rfl, fun K hK => ?_⟩
                      refine Reg.won_val (Reg.want_on rfl rfl rfl e95) rfl (v := .pointer (some ⟨R, 0, none⟩)) (w1 := ww) (by simp only [List.getElem_toArray, List.getElem_cons_succ, List.getElem_cons_zero, execOp, Reg.eval_tmp e0]; rfl) ?_
                      exact hK.out _ _ ⟨by rw [HA.out]; exact Reg.fill_up 8 hb rfl rfl rfl, HW⟩
                    refine Reg.steps_cons (i := 9) ?_ ?_
                    · rintro bb aa ww ⟨ha, HW⟩ hb hd hn
                      have e3 : aa.tmps[3]? = some (.pointer (some ⟨W.heap.size, 0, none⟩)) := by rw [ha]; exact (Reg.fill_off rfl).trans rfl
                      have e95 : aa.tmps[95]? = some (.bool false) := by rw [ha]; exact Reg.fill_on 7 rfl rfl (hd 7 (by decide)) rfl
                      have HA := Lib.hid ha; clear ha; refine ⟨_, rfl, fun K hK => ?_⟩
                      refine Reg.won_val (Reg.want_on rfl rfl rfl e95) rfl (v := .pointer (some ⟨W.heap.size, 1, none⟩)) (w1 := ww) ?_ ?_
                      · simp only [List.getElem_toArray, List.getElem_cons_succ, List.getElem_cons_zero, execOp, Reg.eval_tmp e3]
                        go_simp
                      exact hK.out _ _ ⟨by rw [HA.out]; exact Reg.fill_up 9 hb rfl rfl rfl, HW⟩
                    refine Reg.steps_cons (i := 10) ?_ ?_
                    · rintro bb aa ww ⟨ha, HW⟩ hb hd hn
                      have e97 : aa.tmps[97]? = some (.pointer (some ⟨W.heap.size, 1, none⟩)) := by rw [ha]; exact Reg.fill_on 9 rfl rfl (hd 9 (by decide)) rfl
                      have e95 : aa.tmps[95]? = some (.bool false) := by rw [ha]; exact Reg.fill_on 7 rfl rfl (hd 7 (by decide)) rfl
                      have HA := Lib.hid ha; clear ha; refine ⟨_, rfl, fun K hK => ?_⟩
                      have f1_ := (row_cells (row_after HW HR.out)).1 1
                      refine Reg.won_val (Reg.want_on rfl rfl rfl e95) rfl (v := .slice (some ⟨b1, o1, none⟩) 3 c1) (w1 := ww) ?_ ?_
                      · simp only [List.getElem_toArray, List.getElem_cons_succ, List.getElem_cons_zero, execOp, Reg.eval_tmp e97]
                        go_simp
                      exact hK.out _ _ ⟨by rw [HA.out]; exact Reg.fill_up 10 hb rfl rfl rfl, HW⟩
                    refine Reg.steps_cons (i := 11) ?_ ?_
                    · rintro bb aa ww ⟨ha, HW⟩ hb hd hn
                      have e98 : aa.tmps[98]? = some (.slice (some ⟨b1, o1, none⟩) 3 c1) := by rw [ha]; exact Reg.fill_on 10 rfl rfl (hd 10 (by decide)) rfl
                      have e95 : aa.tmps[95]? = some (.bool false) := by rw [ha]; exact Reg.fill_on 7 rfl rfl (hd 7 (by decide)) rfl
                      have HA := Lib.hid ha; clear ha; refine ⟨_, rfl, fun K hK => ?_⟩
                      refine Reg.won_val (Reg.want_on rfl rfl rfl e95) rfl (v := .pointer (some ⟨b1, o1 + 2, none⟩)) (w1 := ww) ?_ ?_
                      · simp only [List.getElem_toArray, List.getElem_cons_succ, List.getElem_cons_zero, execOp, Reg.eval_tmp e98]
                        go_simp
                      exact hK.out _ _ ⟨by rw [HA.out]; exact Reg.fill_up 11 hb rfl rfl rfl, HW⟩
                    refine Reg.steps_cons (i := 12) ?_ ?_
                    · rintro bb aa ww ⟨ha, HW⟩ hb hd hn
                      have e99 : aa.tmps[99]? = some (.pointer (some ⟨b1, o1 + 2, none⟩)) := by rw [ha]; exact Reg.fill_on 11 rfl rfl (hd 11 (by decide)) rfl
                      have e95 : aa.tmps[95]? = some (.bool false) := by rw [ha]; exact Reg.fill_on 7 rfl rfl (hd 7 (by decide)) rfl
                      have HA := Lib.hid ha; clear ha; refine ⟨_, rfl, fun K hK => ?_⟩
                      have n2_ := HNC.out ww (HB.out.trans (HW.mono HB.out.size)) 2 _ rfl
                      refine Reg.won_val (Reg.want_on rfl rfl rfl e95) rfl (v := .string n2) (w1 := ww) ?_ ?_
                      · simp only [List.getElem_toArray, List.getElem_cons_succ, List.getElem_cons_zero, execOp, Reg.eval_tmp e99]
                        go_simp
                      exact hK.out _ _ ⟨by rw [HA.out]; exact Reg.fill_up 12 hb rfl rfl rfl, HW⟩
                    refine Reg.steps_cons (i := 13) ?_ ?_
                    · rintro bb aa ww ⟨ha, HW⟩ hb hd hn
                      have e96 : aa.tmps[96]? = some (.pointer (some ⟨R, 0, none⟩)) := by rw [ha]; exact Reg.fill_on 8 rfl rfl (hd 8 (by decide)) rfl
                      have e100 : aa.tmps[100]? = some (.string n2) := by rw [ha]; exact Reg.fill_on 12 rfl rfl (hd 12 (by decide)) rfl
                      have e95 : aa.tmps[95]? = some (.bool false) := by rw [ha]; exact Reg.fill_on 7 rfl rfl (hd 7 (by decide)) rfl
                      have HA := Lib.hid ha; clear ha; refine ⟨_, rfl, fun K hK => ?_⟩
                      refine Reg.won_call (Reg.want_on rfl rfl rfl e95) rfl Tryz.func49 (by kernel_rfl) rfl #[.pointer (some ⟨R, 0, none⟩), .string n2] rfl (by simp [Reg.eval_tmp e96, Reg.eval_tmp e100]) ?_
                      refine (HF2.out ww (HB.out.trans (HW.mono HB.out.size))).mono ?_; rintro e w3 ⟨rfl, hb3⟩; refine ⟨_, rfl, ?_⟩
                      exact hK.out _ _ ⟨by rw [HA.out]; exact Reg.fill_up 13 hb rfl rfl rfl, HW.trans (hb3.mono HW.size)⟩
                    refine Reg.steps_cons (i := 14) ?_ ?_
                    · rintro bb aa ww ⟨ha, HW⟩ hb hd hn
                      have e101 : aa.tmps[101]? = some (.int .i64 r2) := by rw [ha]; exact Reg.fill_on 13 rfl rfl (hd 13 (by decide)) rfl
                      have e95 : aa.tmps[95]? = some (.bool false) := by rw [ha]; exact Reg.fill_on 7 rfl rfl (hd 7 (by decide)) rfl
                      have HA := Lib.hid ha; clear ha; refine ⟨_, rfl, fun K hK => ?_⟩
                      refine Reg.won_val (Reg.want_on rfl rfl rfl e95) rfl (v := .bool false) (w1 := ww) ?_ ?_
                      · simp only [List.getElem_toArray, List.getElem_cons_succ, List.getElem_cons_zero, execOp, Reg.eval_tmp e101]
                        go_simp
                      exact hK.out _ _ ⟨by rw [HA.out]; exact Reg.fill_up 14 hb rfl rfl rfl, HW⟩
                    refine Reg.steps_cons (i := 15) ?_ ?_
                    · rintro bb aa ww ⟨ha, HW⟩ hb hd hn
                      have e95 : aa.tmps[95]? = some (.bool false) := by rw [ha]; exact Reg.fill_on 7 rfl rfl (hd 7 (by decide)) rfl
                      have e102 : aa.tmps[102]? = some (.bool false) := by rw [ha]; exact Reg.fill_on 14 rfl rfl (hd 14 (by decide)) rfl
                      have HA := Lib.hid ha; clear ha; refine ⟨_, rfl, fun K hK => ?_⟩
                      refine Reg.do_val rfl rfl (v := .bool false) (w1 := ww) ?_ ?_
                      · simp only [List.getElem_toArray, List.getElem_cons_succ, List.getElem_cons_zero, execOp, Reg.eval_tmp e95, Reg.eval_tmp e102]
                        go_simp
                      exact hK.out _ _ ⟨by rw [HA.out]; exact Reg.fill_up 15 hb rfl rfl rfl, HW⟩
                    refine Reg.steps_cons (i := 16) ?_ ?_
                    · rintro bb aa ww ⟨ha, HW⟩ hb hd hn
                      have e103 : aa.tmps[103]? = some (.bool false) := by rw [ha]; exact Reg.fill_on 15 rfl rfl (hd 15 (by decide)) rfl
                      have HA := Lib.hid ha; clear ha; refine ⟨_, rfl, fun K hK => ?_⟩
                      refine Reg.do_val rfl rfl (v := .bool false) (w1 := ww) (by simp only [List.getElem_toArray, List.getElem_cons_succ, List.getElem_cons_zero, execOp, Reg.eval_tmp e103]; rfl) ?_
                      exact hK.out _ _ ⟨by rw [HA.out]; exact Reg.fill_up 16 hb rfl rfl rfl, HW⟩
                    refine Reg.steps_cons (i := 17) ?_ ?_
                    · rintro bb aa ww ⟨ha, HW⟩ hb hd hn
                      have e3 : aa.tmps[3]? = some (.pointer (some ⟨W.heap.size, 0, none⟩)) := by rw [ha]; exact (Reg.fill_off rfl).trans rfl
                      have e104 : aa.tmps[104]? = some (.bool false) := by rw [ha]; exact Reg.fill_on 16 rfl rfl (hd 16 (by decide)) rfl
                      have HA := Lib.hid ha; clear ha; refine ⟨_, rfl, fun K hK => ?_⟩
                      refine Reg.won_val (Reg.want_on rfl rfl rfl e104) rfl (v := .pointer (some ⟨W.heap.size, 1, none⟩)) (w1 := ww) ?_ ?_
                      · simp only [List.getElem_toArray, List.getElem_cons_succ, List.getElem_cons_zero, execOp, Reg.eval_tmp e3]
                        go_simp
                      exact hK.out _ _ ⟨by rw [HA.out]; exact Reg.fill_up 17 hb rfl rfl rfl, HW⟩
                    refine Reg.steps_cons (i := 18) ?_ ?_
                    · rintro bb aa ww ⟨ha, HW⟩ hb hd hn
                      have e105 : aa.tmps[105]? = some (.pointer (some ⟨W.heap.size, 1, none⟩)) := by rw [ha]; exact Reg.fill_on 17 rfl rfl (hd 17 (by decide)) rfl
                      have e104 : aa.tmps[104]? = some (.bool false) := by rw [ha]; exact Reg.fill_on 16 rfl rfl (hd 16 (by decide)) rfl
                      have HA := Lib.hid ha; clear ha; refine ⟨_, rfl, fun K hK => ?_⟩
                      have f1_ := (row_cells (row_after HW HR.out)).1 1
                      refine Reg.won_val (Reg.want_on rfl rfl rfl e104) rfl (v := .slice (some ⟨b1, o1, none⟩) 3 c1) (w1 := ww) ?_ ?_
                      · simp only [List.getElem_toArray, List.getElem_cons_succ, List.getElem_cons_zero, execOp, Reg.eval_tmp e105]
                        go_simp
                      exact hK.out _ _ ⟨by rw [HA.out]; exact Reg.fill_up 18 hb rfl rfl rfl, HW⟩
                    refine Reg.steps_cons (i := 19) ?_ ?_
                    · rintro bb aa ww ⟨ha, HW⟩ hb hd hn
                      have e106 : aa.tmps[106]? = some (.slice (some ⟨b1, o1, none⟩) 3 c1) := by rw [ha]; exact Reg.fill_on 18 rfl rfl (hd 18 (by decide)) rfl
                      have e104 : aa.tmps[104]? = some (.bool false) := by rw [ha]; exact Reg.fill_on 16 rfl rfl (hd 16 (by decide)) rfl
                      have HA := Lib.hid ha; clear ha; refine ⟨_, rfl, fun K hK => ?_⟩
                      refine Reg.won_val (Reg.want_on rfl rfl rfl e104) rfl (v := .pointer (some ⟨b1, o1 + 1, none⟩)) (w1 := ww) ?_ ?_
                      · simp only [List.getElem_toArray, List.getElem_cons_succ, List.getElem_cons_zero, execOp, Reg.eval_tmp e106]
                        go_simp
                      exact hK.out _ _ ⟨by rw [HA.out]; exact Reg.fill_up 19 hb rfl rfl rfl, HW⟩
                    refine Reg.steps_cons (i := 20) ?_ ?_
                    · rintro bb aa ww ⟨ha, HW⟩ hb hd hn
                      have e107 : aa.tmps[107]? = some (.pointer (some ⟨b1, o1 + 1, none⟩)) := by rw [ha]; exact Reg.fill_on 19 rfl rfl (hd 19 (by decide)) rfl
                      have e104 : aa.tmps[104]? = some (.bool false) := by rw [ha]; exact Reg.fill_on 16 rfl rfl (hd 16 (by decide)) rfl
                      have HA := Lib.hid ha; clear ha; refine ⟨_, rfl, fun K hK => ?_⟩
                      have n1_ := HNC.out ww (HB.out.trans (HW.mono HB.out.size)) 1 _ rfl
                      refine Reg.won_val (Reg.want_on rfl rfl rfl e104) rfl (v := .string n1) (w1 := ww) ?_ ?_
                      · simp only [List.getElem_toArray, List.getElem_cons_succ, List.getElem_cons_zero, execOp, Reg.eval_tmp e107]
                        go_simp
                      exact hK.out _ _ ⟨by rw [HA.out]; exact Reg.fill_up 20 hb rfl rfl rfl, HW⟩
                    refine Reg.steps_cons (i := 21) ?_ ?_
                    · rintro bb aa ww ⟨ha, HW⟩ hb hd hn
                      have e3 : aa.tmps[3]? = some (.pointer (some ⟨W.heap.size, 0, none⟩)) := by rw [ha]; exact (Reg.fill_off rfl).trans rfl
                      have e104 : aa.tmps[104]? = some (.bool false) := by rw [ha]; exact Reg.fill_on 16 rfl rfl (hd 16 (by decide)) rfl
                      have HA := Lib.hid ha; clear ha; refine ⟨_, rfl, fun K hK => ?_⟩
                      refine Reg.won_val (Reg.want_on rfl rfl rfl e104) rfl (v := .pointer (some ⟨W.heap.size, 1, none⟩)) (w1 := ww) ?_ ?_
                      · simp only [List.getElem_toArray, List.getElem_cons_succ, List.getElem_cons_zero, execOp, Reg.eval_tmp e3]
                        go_simp
                      exact hK.out _ _ ⟨by rw [HA.out]; exact Reg.fill_up 21 hb rfl rfl rfl, HW⟩
                    refine Reg.steps_cons (i := 22) ?_ ?_
                    · rintro bb aa ww ⟨ha, HW⟩ hb hd hn
                      have e109 : aa.tmps[109]? = some (.pointer (some ⟨W.heap.size, 1, none⟩)) := by rw [ha]; exact Reg.fill_on 21 rfl rfl (hd 21 (by decide)) rfl
                      have e104 : aa.tmps[104]? = some (.bool false) := by rw [ha]; exact Reg.fill_on 16 rfl rfl (hd 16 (by decide)) rfl
                      have HA := Lib.hid ha; clear ha; refine ⟨_, rfl, fun K hK => ?_⟩
                      have f1_ := (row_cells (row_after HW HR.out)).1 1
                      refine Reg.won_val (Reg.want_on rfl rfl rfl e104) rfl (v := .slice (some ⟨b1, o1, none⟩) 3 c1) (w1 := ww) ?_ ?_
                      · simp only [List.getElem_toArray, List.getElem_cons_succ, List.getElem_cons_zero, execOp, Reg.eval_tmp e109]
                        go_simp
                      exact hK.out _ _ ⟨by rw [HA.out]; exact Reg.fill_up 22 hb rfl rfl rfl, HW⟩
                    refine Reg.steps_cons (i := 23) ?_ ?_
                    · rintro bb aa ww ⟨ha, HW⟩ hb hd hn
                      have e110 : aa.tmps[110]? = some (.slice (some ⟨b1, o1, none⟩) 3 c1) := by rw [ha]; exact Reg.fill_on 22 rfl rfl (hd 22 (by decide)) rfl
                      have e104 : aa.tmps[104]? = some (.bool false) := by rw [ha]; exact Reg.fill_on 16 rfl rfl (hd 16 (by decide)) rfl
                      have HA := Lib.hid ha; clear ha; refine ⟨_, rfl, fun K hK => ?_⟩
                      refine Reg.won_val (Reg.want_on rfl rfl rfl e104) rfl (v := .pointer (some ⟨b1, o1 + 2, none⟩)) (w1 := ww) ?_ ?_
                      · simp only [List.getElem_toArray, List.getElem_cons_succ, List.getElem_cons_zero, execOp, Reg.eval_tmp e110]
                        go_simp
                      exact hK.out _ _ ⟨by rw [HA.out]; exact Reg.fill_up 23 hb rfl rfl rfl, HW⟩
                    refine Reg.steps_cons (i := 24) ?_ ?_
                    · rintro bb aa ww ⟨ha, HW⟩ hb hd hn
                      have e111 : aa.tmps[111]? = some (.pointer (some ⟨b1, o1 + 2, none⟩)) := by rw [ha]; exact Reg.fill_on 23 rfl rfl (hd 23 (by decide)) rfl
                      have e104 : aa.tmps[104]? = some (.bool false) := by rw [ha]; exact Reg.fill_on 16 rfl rfl (hd 16 (by decide)) rfl
                      have HA := Lib.hid ha; clear ha; refine ⟨_, rfl, fun K hK => ?_⟩
                      have n2_ := HNC.out ww (HB.out.trans (HW.mono HB.out.size)) 2 _ rfl
                      refine Reg.won_val (Reg.want_on rfl rfl rfl e104) rfl (v := .string n2) (w1 := ww) ?_ ?_
                      · simp only [List.getElem_toArray, List.getElem_cons_succ, List.getElem_cons_zero, execOp, Reg.eval_tmp e111]
                        go_simp
                      exact hK.out _ _ ⟨by rw [HA.out]; exact Reg.fill_up 24 hb rfl rfl rfl, HW⟩
                    refine Reg.steps_cons (i := 25) ?_ ?_
                    · rintro bb aa ww ⟨ha, HW⟩ hb hd hn
                      have e108 : aa.tmps[108]? = some (.string n1) := by rw [ha]; exact Reg.fill_on 20 rfl rfl (hd 20 (by decide)) rfl
                      have e112 : aa.tmps[112]? = some (.string n2) := by rw [ha]; exact Reg.fill_on 24 rfl rfl (hd 24 (by decide)) rfl
                      have e104 : aa.tmps[104]? = some (.bool false) := by rw [ha]; exact Reg.fill_on 16 rfl rfl (hd 16 (by decide)) rfl
                      have HA := Lib.hid ha; clear ha; refine ⟨_, rfl, fun K hK => ?_⟩
                      refine Reg.won_val (Reg.want_on rfl rfl rfl e104) rfl (v := .bool false) (w1 := ww) ?_ ?_
                      · simp only [List.getElem_toArray, List.getElem_cons_succ, List.getElem_cons_zero, execOp, Reg.eval_tmp e108, Reg.eval_tmp e112]
                        go_simp
                      exact hK.out _ _ ⟨by rw [HA.out]; exact Reg.fill_up 25 hb rfl rfl rfl, HW⟩
                    refine Reg.steps_cons (i := 26) ?_ ?_
                    · rintro bb aa ww ⟨ha, HW⟩ hb hd hn
                      have e104 : aa.tmps[104]? = some (.bool false) := by rw [ha]; exact Reg.fill_on 16 rfl rfl (hd 16 (by decide)) rfl
                      have e113 : aa.tmps[113]? = some (.bool false) := by rw [ha]; exact Reg.fill_on 25 rfl rfl (hd 25 (by decide)) rfl
                      have HA := Lib.hid ha; clear ha; refine ⟨_, rfl, fun K hK => ?_⟩
                      refine Reg.do_val rfl rfl (v := .bool false) (w1 := ww) ?_ ?_
                      · simp only [List.getElem_toArray, List.getElem_cons_succ, List.getElem_cons_zero, execOp, Reg.eval_tmp e104, Reg.eval_tmp e113]
                        go_simp
                      exact hK.out _ _ ⟨by rw [HA.out]; exact Reg.fill_up 26 hb rfl rfl rfl, HW⟩
                    exact trivial
                  rintro bb aa W8 hall ⟨ha, HW⟩
                  have hb0 := hall 0 (by decide)
                  have hb1 := hall 1 (by decide)
                  have hb2 := hall 2 (by decide)
                  have hb3 := hall 3 (by decide)
                  have hb4 := hall 4 (by decide)
                  have hb5 := hall 5 (by decide)
                  have hb6 := hall 6 (by decide)
                  have hb7 := hall 7 (by decide)
                  have hb8 := hall 8 (by decide)
                  have hb9 := hall 9 (by decide)
                  have hb10 := hall 10 (by decide)
                  have hb11 := hall 11 (by decide)
                  have hb12 := hall 12 (by decide)
                  have hb13 := hall 13 (by decide)
                  have hb14 := hall 14 (by decide)
                  have hb15 := hall 15 (by decide)
                  have hb16 := hall 16 (by decide)
                  have hb17 := hall 17 (by decide)
                  have hb18 := hall 18 (by decide)
                  have hb19 := hall 19 (by decide)
                  have hb20 := hall 20 (by decide)
                  have hb21 := hall 21 (by decide)
                  have hb22 := hall 22 (by decide)
                  have hb23 := hall 23 (by decide)
                  have hb24 := hall 24 (by decide)
                  have hb25 := hall 25 (by decide)
                  have hb26 := hall 26 (by decide)
                  simp only [Reg.fill, hb0, hb1, hb2, hb3, hb4, hb5, hb6, hb7, hb8, hb9, hb10, hb11, hb12, hb13, hb14, hb15, hb16, hb17, hb18, hb19, hb20, hb21, hb22, hb23, hb24, hb25, hb26, if_true, Act.put, List.setIfInBounds_toArray, List.set_cons_zero, List.set_cons_succ] at ha
                  clear hb0 hb1 hb2 hb3 hb4 hb5 hb6 hb7 hb8 hb9 hb10 hb11 hb12 hb13 hb14 hb15 hb16 hb17 hb18 hb19 hb20 hb21 hb22 hb23 hb24 hb25 hb26 hall
                  subst ha
                  have HB := Lib.hid (HB.out.trans (HW.mono HB.out.size))
                  have HR := Lib.hid (row_after HW HR.out)
                  clear HW
                  have y0 := HY.out _ HB.out
                  have hlq : decide (4096 < s.length + 2) = false := by simp; omega
                  go_wp2_with fail
                  clear y0
                  generalize W8 = wq at *
                  refine Reg.region_inv [[], [0], [1], [2], [], [3, 4], [5], [6], [], [8], [9], [7, 10], [0, 1, 2, 3, 4, 5, 6, 7, 8, 9, 10, 11]] [[], [0], [0, 1], [0, 1, 2], [], [0, 1, 2, 3, 4], [0, 1, 2, 3, 4, 5], [0, 1, 2, 3, 4, 5, 6], [], [8], [8, 9], [0, 1, 2, 3, 4, 5, 6, 7, 8, 9, 10], [0, 1, 2, 3, 4, 5, 6, 7, 8, 9, 10, 11]] (fun a0_ bb aa ww => aa = Reg.fill bb [(0, 122, .pointer (some ⟨R, 0, none⟩)), (1, 123, .pointer (some ⟨R, 0, none⟩)), (2, 124, .pointer (some ⟨R, 0, none⟩)), (3, 125, .slice (some ⟨g, 0, none⟩) s.length c), (4, 126, .int .i64 (i : Int)), (5, 127, .pointer (some ⟨g, i * 10, none⟩)), (6, 128, .pointer (some ⟨g, i * 10 + 2, none⟩)), (7, 129, .agg #[.int .i64 x.bx.x0, .int .i64 x.bx.y0, .int .i64 x.bx.z0, .int .i64 x.bx.x1, .int .i64 x.bx.y1, .int .i64 x.bx.z1]), (8, 130, .pointer (some ⟨W.heap.size, 2, none⟩)), (9, 131, .slice (some ⟨b2, o2, none⟩) 3 c2), (10, 132, .agg #[.int .i64 v0, .int .i64 v1, .int .i64 v2]), (11, 133, .int .i64 KE), (12, 4, .int .i64 KE)] a0_ ∧ Below wq.heap.size wq ww) (by kernel_rfl) (by kernel_rfl) (by kernel_rfl) ?_ ?_ ?_
                  · exact ⟨Reg.fill_start.symm, (Below.refl _ _).drew⟩
                  · refine Reg.steps_cons (i := 0) ?_ ?_
                    · rintro bb aa ww ⟨ha, HW⟩ hb hd hn
                      have e0 : aa.tmps[0]? = some (.pointer (some ⟨R, 0, none⟩)) := by rw [ha]; exact (Reg.fill_off rfl).trans rfl
                      have HA := Lib.hid ha; clear ha; refine ⟨_, rfl, fun K hK => ?_⟩
                      refine Reg.do_val rfl rfl (v := .pointer (some ⟨R, 0, none⟩)) (w1 := ww) (by simp only [List.getElem_toArray, List.getElem_cons_zero, execOp, Reg.eval_tmp e0]; rfl) ?_
                      exact hK.out _ _ ⟨by rw [HA.out]; exact Reg.fill_up 0 hb rfl rfl rfl, HW⟩
                    refine Reg.steps_cons (i := 1) ?_ ?_
                    · rintro bb aa ww ⟨ha, HW⟩ hb hd hn
                      have e122 : aa.tmps[122]? = some (.pointer (some ⟨R, 0, none⟩)) := by rw [ha]; exact Reg.fill_on 0 rfl rfl (hd 0 (by decide)) rfl
                      have HA := Lib.hid ha; clear ha; refine ⟨_, rfl, fun K hK => ?_⟩
                      refine Reg.do_val rfl rfl (v := .pointer (some ⟨R, 0, none⟩)) (w1 := ww) ?_ ?_
                      · simp only [List.getElem_toArray, List.getElem_cons_succ, List.getElem_cons_zero, execOp, Reg.eval_tmp e122]
                        go_simp
                      exact hK.out _ _ ⟨by rw [HA.out]; exact Reg.fill_up 1 hb rfl rfl rfl, HW⟩
                    refine Reg.steps_cons (i := 2) ?_ ?_
                    · rintro bb aa ww ⟨ha, HW⟩ hb hd hn
                      have e123 : aa.tmps[123]? = some (.pointer (some ⟨R, 0, none⟩)) := by rw [ha]; exact Reg.fill_on 1 rfl rfl (hd 1 (by decide)) rfl
                      have HA := Lib.hid ha; clear ha; refine ⟨_, rfl, fun K hK => ?_⟩
                      refine Reg.do_val rfl rfl (v := .pointer (some ⟨R, 0, none⟩)) (w1 := ww) ?_ ?_
                      · simp only [List.getElem_toArray, List.getElem_cons_succ, List.getElem_cons_zero, execOp, Reg.eval_tmp e123]
                        go_simp
                      exact hK.out _ _ ⟨by rw [HA.out]; exact Reg.fill_up 2 hb rfl rfl rfl, HW⟩
                    refine Reg.steps_cons (i := 3) ?_ ?_
                    · rintro bb aa ww ⟨ha, HW⟩ hb hd hn
                      have e124 : aa.tmps[124]? = some (.pointer (some ⟨R, 0, none⟩)) := by rw [ha]; exact Reg.fill_on 2 rfl rfl (hd 2 (by decide)) rfl
                      have HA := Lib.hid ha; clear ha; refine ⟨_, rfl, fun K hK => ?_⟩
                      have y0 := HY.out ww (HB.out.trans (HW.mono HB.out.size))
                      refine Reg.do_val rfl rfl (v := .slice (some ⟨g, 0, none⟩) s.length c) (w1 := ww) ?_ ?_
                      · simp only [List.getElem_toArray, List.getElem_cons_succ, List.getElem_cons_zero, execOp, Reg.eval_tmp e124]
                        go_simp
                      exact hK.out _ _ ⟨by rw [HA.out]; exact Reg.fill_up 3 hb rfl rfl rfl, HW⟩
                    refine Reg.steps_cons (i := 4) ?_ ?_
                    · rintro bb aa ww ⟨ha, HW⟩ hb hd hn
                      have e9 : aa.tmps[9]? = some (.int .i64 (i : Int)) := by rw [ha]; exact (Reg.fill_off rfl).trans rfl
                      have HA := Lib.hid ha; clear ha; refine ⟨_, rfl, fun K hK => ?_⟩
                      refine Reg.do_val rfl rfl (v := .int .i64 (i : Int)) (w1 := ww) (by simp only [List.getElem_toArray, List.getElem_cons_succ, List.getElem_cons_zero, execOp, Reg.eval_tmp e9]; rfl) ?_
                      exact hK.out _ _ ⟨by rw [HA.out]; exact Reg.fill_up 4 hb rfl rfl rfl, HW⟩
                    refine Reg.steps_cons (i := 5) ?_ ?_
                    · rintro bb aa ww ⟨ha, HW⟩ hb hd hn
                      have e125 : aa.tmps[125]? = some (.slice (some ⟨g, 0, none⟩) s.length c) := by rw [ha]; exact Reg.fill_on 3 rfl rfl (hd 3 (by decide)) rfl
                      have e126 : aa.tmps[126]? = some (.int .i64 (i : Int)) := by rw [ha]; exact Reg.fill_on 4 rfl rfl (hd 4 (by decide)) rfl
                      have HA := Lib.hid ha; clear ha; refine ⟨_, rfl, fun K hK => ?_⟩
                      refine Reg.do_val rfl rfl (v := .pointer (some ⟨g, i * 10, none⟩)) (w1 := ww) ?_ ?_
                      · simp only [List.getElem_toArray, List.getElem_cons_succ, List.getElem_cons_zero, execOp, Reg.eval_tmp e125, Reg.eval_tmp e126]
                        go_simp
                      exact hK.out _ _ ⟨by rw [HA.out]; exact Reg.fill_up 5 hb rfl rfl rfl, HW⟩
                    refine Reg.steps_cons (i := 6) ?_ ?_
                    · rintro bb aa ww ⟨ha, HW⟩ hb hd hn
                      have e127 : aa.tmps[127]? = some (.pointer (some ⟨g, i * 10, none⟩)) := by rw [ha]; exact Reg.fill_on 5 rfl rfl (hd 5 (by decide)) rfl
                      have HA := Lib.hid ha; clear ha; refine ⟨_, rfl, fun K hK => ?_⟩
                      refine Reg.do_val rfl rfl (v := .pointer (some ⟨g, i * 10 + 2, none⟩)) (w1 := ww) ?_ ?_
                      · simp only [List.getElem_toArray, List.getElem_cons_succ, List.getElem_cons_zero, execOp, Reg.eval_tmp e127]
                        go_simp
                      exact hK.out _ _ ⟨by rw [HA.out]; exact Reg.fill_up 6 hb rfl rfl rfl, HW⟩
                    refine Reg.steps_cons (i := 7) ?_ ?_
                    · rintro bb aa ww ⟨ha, HW⟩ hb hd hn
                      have e128 : aa.tmps[128]? = some (.pointer (some ⟨g, i * 10 + 2, none⟩)) := by rw [ha]; exact Reg.fill_on 6 rfl rfl (hd 6 (by decide)) rfl
                      have HA := Lib.hid ha; clear ha; refine ⟨_, rfl, fun K hK => ?_⟩
                      obtain ⟨x0, x1, x2, x3, x4, x5, x6, x7, x8, x9⟩ := HX.out ww (HB.out.trans (HW.mono HB.out.size)) i x HL.out
                      refine Reg.do_val rfl rfl (v := .agg #[.int .i64 x.bx.x0, .int .i64 x.bx.y0, .int .i64 x.bx.z0, .int .i64 x.bx.x1, .int .i64 x.bx.y1, .int .i64 x.bx.z1]) (w1 := ww) ?_ ?_
                      · simp only [List.getElem_toArray, List.getElem_cons_succ, List.getElem_cons_zero, execOp, Reg.eval_tmp e128]
                        go_simp
                      exact hK.out _ _ ⟨by rw [HA.out]; exact Reg.fill_up 7 hb rfl rfl rfl, HW⟩
                    refine Reg.steps_cons (i := 8) ?_ ?_
                    · rintro bb aa ww ⟨ha, HW⟩ hb hd hn
                      have e3 : aa.tmps[3]? = some (.pointer (some ⟨W.heap.size, 0, none⟩)) := by rw [ha]; exact (Reg.fill_off rfl).trans rfl
                      have HA := Lib.hid ha; clear ha; refine ⟨_, rfl, fun K hK => ?_⟩
                      refine Reg.do_val rfl rfl (v := .pointer (some ⟨W.heap.size, 2, none⟩)) (w1 := ww) ?_ ?_
                      · simp only [List.getElem_toArray, List.getElem_cons_succ, List.getElem_cons_zero, execOp, Reg.eval_tmp e3]
                        go_simp
                      exact hK.out _ _ ⟨by rw [HA.out]; exact Reg.fill_up 8 hb rfl rfl rfl, HW⟩
                    refine Reg.steps_cons (i := 9) ?_ ?_
                    · rintro bb aa ww ⟨ha, HW⟩ hb hd hn
                      have e130 : aa.tmps[130]? = some (.pointer (some ⟨W.heap.size, 2, none⟩)) := by rw [ha]; exact Reg.fill_on 8 rfl rfl (hd 8 (by decide)) rfl
                      have HA := Lib.hid ha; clear ha; refine ⟨_, rfl, fun K hK => ?_⟩
                      have f2_ := (row_cells (row_after HW HR.out)).1 2
                      refine Reg.do_val rfl rfl (v := .slice (some ⟨b2, o2, none⟩) 3 c2) (w1 := ww) ?_ ?_
                      · simp only [List.getElem_toArray, List.getElem_cons_succ, List.getElem_cons_zero, execOp, Reg.eval_tmp e130]
                        go_simp
                      exact hK.out _ _ ⟨by rw [HA.out]; exact Reg.fill_up 9 hb rfl rfl rfl, HW⟩
                    refine Reg.steps_cons (i := 10) ?_ ?_
                    · rintro bb aa ww ⟨ha, HW⟩ hb hd hn
                      have e131 : aa.tmps[131]? = some (.slice (some ⟨b2, o2, none⟩) 3 c2) := by rw [ha]; exact Reg.fill_on 9 rfl rfl (hd 9 (by decide)) rfl
                      have HA := Lib.hid ha; clear ha; refine ⟨_, rfl, fun K hK => ?_⟩
                      refine Reg.do_call rfl rfl Tryz.func51 (by kernel_rfl) rfl #[.slice (some ⟨b2, o2, none⟩) 3 c2] rfl (by simp [Reg.eval_tmp e131]) ?_
                      refine (rcutOf_any X _ v0 v1 v2 ww (HVV.out.below (HB.out.trans (HW.mono HB.out.size)))).mono ?_; rintro e w3 ⟨rfl, hb3⟩; refine ⟨_, rfl, ?_⟩
                      exact hK.out _ _ ⟨by rw [HA.out]; exact Reg.fill_up 10 hb rfl rfl rfl, HW.trans (hb3.mono HW.size)⟩
                    refine Reg.steps_cons (i := 11) ?_ ?_
                    · rintro bb aa ww ⟨ha, HW⟩ hb hd hn
                      have e129 : aa.tmps[129]? = some (.agg #[.int .i64 x.bx.x0, .int .i64 x.bx.y0, .int .i64 x.bx.z0, .int .i64 x.bx.x1, .int .i64 x.bx.y1, .int .i64 x.bx.z1]) := by rw [ha]; exact Reg.fill_on 7 rfl rfl (hd 7 (by decide)) rfl
                      have e132 : aa.tmps[132]? = some (.agg #[.int .i64 v0, .int .i64 v1, .int .i64 v2]) := by rw [ha]; exact Reg.fill_on 10 rfl rfl (hd 10 (by decide)) rfl
                      have HA := Lib.hid ha; clear ha; refine ⟨_, rfl, fun K hK => ?_⟩
                      refine Reg.do_call rfl rfl Tryz.func86 (by kernel_rfl) rfl #[.agg #[.int .i64 x.bx.x0, .int .i64 x.bx.y0, .int .i64 x.bx.z0, .int .i64 x.bx.x1, .int .i64 x.bx.y1, .int .i64 x.bx.z1], .agg #[.int .i64 v0, .int .i64 v1, .int .i64 v2]] rfl (by simp [Reg.eval_tmp e129, Reg.eval_tmp e132]) ?_
                      refine (HKC.out ww).mono ?_; rintro e w3 ⟨rfl, hb3⟩; refine ⟨_, rfl, ?_⟩
                      exact hK.out _ _ ⟨by rw [HA.out]; exact Reg.fill_up 11 hb rfl rfl rfl, HW.trans (hb3.mono HW.size)⟩
                    refine Reg.steps_cons (i := 12) ?_ ?_
                    · rintro bb aa ww ⟨ha, HW⟩ hb hd hn
                      have e133 : aa.tmps[133]? = some (.int .i64 KE) := by rw [ha]; exact Reg.fill_on 11 rfl rfl (hd 11 (by decide)) rfl
                      have HA := Lib.hid ha; clear ha; refine ⟨_, rfl, fun K hK => ?_⟩
                      refine Reg.do_val rfl rfl (v := .int .i64 KE) (w1 := ww) (by simp only [List.getElem_toArray, List.getElem_cons_succ, List.getElem_cons_zero, execOp, Reg.eval_tmp e133]; rfl) ?_
                      exact hK.out _ _ ⟨by rw [HA.out]; exact Reg.fill_up 12 hb rfl rfl rfl, HW⟩
                    exact trivial
                  rintro bb aa W8 hall ⟨ha, HW⟩
                  have hb0 := hall 0 (by decide)
                  have hb1 := hall 1 (by decide)
                  have hb2 := hall 2 (by decide)
                  have hb3 := hall 3 (by decide)
                  have hb4 := hall 4 (by decide)
                  have hb5 := hall 5 (by decide)
                  have hb6 := hall 6 (by decide)
                  have hb7 := hall 7 (by decide)
                  have hb8 := hall 8 (by decide)
                  have hb9 := hall 9 (by decide)
                  have hb10 := hall 10 (by decide)
                  have hb11 := hall 11 (by decide)
                  have hb12 := hall 12 (by decide)
                  simp only [Reg.fill, hb0, hb1, hb2, hb3, hb4, hb5, hb6, hb7, hb8, hb9, hb10, hb11, hb12, if_true, Act.put, List.setIfInBounds_toArray, List.set_cons_zero, List.set_cons_succ] at ha
                  clear hb0 hb1 hb2 hb3 hb4 hb5 hb6 hb7 hb8 hb9 hb10 hb11 hb12 hall
                  subst ha
                  have HB := Lib.hid (HB.out.trans (HW.mono HB.out.size))
                  have HR := Lib.hid (row_after HW HR.out)
                  clear HW
                  go_wp2_with fail
                  refine bodyPost_ret (v := .int .i64 KE) (by simp [results, Tryz.results46, go_sem, *]) rfl ⟨by rw [HE.out], HB.out⟩
        · obtain ⟨n0, n1, rfl⟩ : ∃ n0 n1 : ByteArray, ns = [n0, n1] := list2 HH1.out
          obtain rfl : vs = [] := List.length_eq_zero_iff.1 HH2.out
          rw [show [n0, n1].length = 2 from rfl] at *
          rw [show ([] : List Int).length = 0 from rfl] at *
          obtain ⟨b1, o1, rfl, hnc⟩ := HNA.out (by decide)
          have HNC := Lib.hid hnc
          clear hnc HNA
          have p0 : (kd.toList == [102, 114, 101, 101]) = false := by rw [hkd]; kernel_rfl
          have p1 : (kd.toList == [99, 117, 116]) = false := by rw [hkd]; kernel_rfl
          have p2 : (kd.toList == [97, 115, 115, 105, 103, 110]) = true := by rw [hkd]; kernel_rfl
          have p3 : (kd.toList == [114, 101, 108, 101, 97, 115, 101]) = false := by rw [hkd]; kernel_rfl
          have p4 : (kd.toList == [115, 101, 116]) = false := by rw [hkd]; kernel_rfl
          have p5 : (kd.toList == [98, 114, 101, 97, 107]) = false := by rw [hkd]; kernel_rfl
          have HKN := Lib.hid hkn
          clear hkd hkn
          obtain ⟨r, hr, hri, hrl, hrn⟩ := FI.of (·.id) s n0
          have hfi := rfind_any (HRA.out.below HB.out) (by omega) n0 hr
          have u0 := (row_cells HR.out).1 0
          have u1 := (row_cells HR.out).1 1
          have m0 := HNC.out _ HB.out 0 _ rfl
          simp only [Nat.add_zero] at m0
          go_wp2_with fail
          clear u0 u1 m0
          refine (hfi).mono ?_; rintro e w4 ⟨rfl, hb⟩
          have HB := Lib.hid (HB.out.trans (hb.mono HB.out.size))
          have HR := Lib.hid (row_after hb HR.out)
          clear hb
          clear hfi
          by_cases hr0 : 0 ≤ r
          rotate_left
          · have hE : E = 3 := HEM.out _ HKN.out HH1.out HH2.out HALL.out (by decide) (look_no fun x hx e => hr0 (hri.2 ⟨x, hx, e⟩))
            have hr1 : r < 0 := by omega
            clear hr hri hrn hr0
            have HE := Lib.hid hE
            clear hE
            go_wp2_with fail
            refine bodyPost_ret (v := .int .i64 3) (by simp [results, Tryz.results46, go_sem, *]) rfl ⟨by rw [HE.out], HB.out⟩
          obtain ⟨i, rfl, hil, hix, _⟩ : ∃ i : Nat, r = i ∧ i < s.length ∧ (∀ x : It, s[i]? = some x → x.id = n0) ∧ True := by
            rcases hr with ⟨i, e, h1, h2, _⟩ | ⟨e, _⟩
            · exact ⟨i, e, h1, h2, trivial⟩
            · omega
          have HL : Hid (s[i]? = some s[i]) := Lib.hid (List.getElem?_eq_getElem hil)
          have hlk : Yp.look s n0 = some s[i] := by rw [← hix _ HL.out]; exact Yp.look_mem hu (List.getElem_mem hil)
          have HEK := Lib.hid (HEK.out _ HKN.out HH1.out HH2.out HALL.out (by decide) s[i] hlk)
          obtain ⟨g, rfl, hx⟩ := HXX.out (by omega)
          have HX := Lib.hid hx
          clear hr hri hrl hrn hix hlk hx hr0
          generalize s[i] = x at *
          have hpo := rpossible_any kd x.st 2 HKN.out (by decide)
          have KK : w4.cell? ⟨W.heap.size, 0, none⟩ = some (.string kd) ∧ w4.cell? ⟨R, 0, none⟩ = some (.slice (some ⟨g, 0, none⟩) s.length c) ∧ w4.cell? ⟨g, i * 10 + 8, none⟩ = some (.int .i64 x.st) := ⟨(row_cells HR.out).1 0, HY.out _ HB.out, (HX.out _ HB.out i x HL.out).2.2.2.2.2.2.2.2.1⟩
          have hi0 : (0 : Int) ≤ (i : Int) := by omega
          go_wp2_with fail
          go_region_held3 (fun w' => w'.cell? ⟨W.heap.size, 0, none⟩ = some (.string kd) ∧ w'.cell? ⟨R, 0, none⟩ = some (.slice (some ⟨g, 0, none⟩) s.length c) ∧ w'.cell? ⟨g, i * 10 + 8, none⟩ = some (.int .i64 x.st)) ((first | (simp only [*, and_self]; done) | (simp [*, go_sem]; done)))
            (first
              | (go_at_call 84; ((with_reducible refine (hpo _).mono ?_); rintro e wq ⟨rfl, hb⟩; have HB := Lib.hid (HB.out.drew.trans (hb.mono HB.out.size)); have HR := Lib.hid (row_after hb HR.out); clear hb; have KK : wq.cell? ⟨W.heap.size, 0, none⟩ = some (.string kd) ∧ wq.cell? ⟨R, 0, none⟩ = some (.slice (some ⟨g, 0, none⟩) s.length c) ∧ wq.cell? ⟨g, i * 10 + 8, none⟩ = some (.int .i64 x.st) := ⟨(row_cells HR.out).1 0, HY.out _ HB.out, (HX.out _ HB.out i x HL.out).2.2.2.2.2.2.2.2.1⟩)))
          clear KK hpo
          cases hal : Yp.allowed 2 x.st with
          | false =>
            have hE := HEK.out
            rw [if_pos hal] at hE
            clear hal
            have HE := Lib.hid hE
            clear hE
            go_wp2_with fail
            refine bodyPost_ret (v := .int .i64 8) (by simp [results, Tryz.results46, go_sem, *]) rfl ⟨by rw [HE.out], HB.out⟩
          | true =>
            have hE := HEK.out
            rw [if_neg (by rw [hal]; decide)] at hE
            clear hal HEK
            have u0 := (row_cells HR.out).1 0
            rw [if_neg (by decide), if_pos trivial] at hE
            obtain ⟨r, hr, hri, hrl, hrn⟩ := FI.of (·.stone) s n1
            have hno : n1 ≠ Yp.es := Yp.name_ne (HALL1.out n1 (by simp))
            have hst := rstone_any (HRA.out.below HB.out) (by omega) n1 hno hr
            have HAS : Hid (Yp.assignErr s n1 = if s.any (fun z => decide (z.stone = n1)) = true then 5 else 0) := Lib.hid rfl
            have HIF : Hid (0 ≤ r ↔ s.any (fun z => decide (z.stone = n1)) = true) := Lib.hid (by rw [hri, List.any_eq_true]; simp)
            have u1 := (row_cells HR.out).1 1
            have m1 := HNC.out _ HB.out 1 _ rfl
            have hE : E = Yp.assignErr s n1 := hE
            have HEQ := Lib.hid hE
            clear hE hr hri hno
            generalize Yp.assignErr s n1 = Q at *
            generalize s.any (fun z => decide (z.stone = n1)) = AN at *
            go_wp2_with fail
            clear u0 u1 m1
            refine (hst).mono ?_; rintro e w5 ⟨rfl, hb⟩
            have HB := Lib.hid (HB.out.trans (hb.mono HB.out.size))
            have HR := Lib.hid (row_after hb HR.out)
            clear hb
            by_cases hr0 : 0 ≤ r
            · have hE : E = 5 := by rw [HEQ.out, HAS.out, if_pos (HIF.out.1 hr0)]
              have HE := Lib.hid hE
              clear hE
              go_wp2_with fail
              refine bodyPost_ret (v := .int .i64 5) (by simp [results, Tryz.results46, go_sem, *]) rfl ⟨by rw [HE.out], HB.out⟩
            · have hE : E = 0 := by rw [HEQ.out, HAS.out, if_neg fun hh => hr0 (HIF.out.2 hh)]
              have hr1 : r < 0 := by omega
              clear hr0
              have HE := Lib.hid hE
              clear hE
              go_wp2_with fail
              refine bodyPost_ret (v := .int .i64 0) (by simp [results, Tryz.results46, go_sem, *]) rfl ⟨by rw [HE.out], HB.out⟩
        · obtain ⟨n0, rfl⟩ : ∃ n0 : ByteArray, ns = [n0] := list1 HH1.out
          obtain rfl : vs = [] := List.length_eq_zero_iff.1 HH2.out
          rw [show [n0].length = 1 from rfl] at *
          rw [show ([] : List Int).length = 0 from rfl] at *
          obtain ⟨b1, o1, rfl, hnc⟩ := HNA.out (by decide)
          have HNC := Lib.hid hnc
          clear hnc HNA
          have p0 : (kd.toList == [102, 114, 101, 101]) = false := by rw [hkd]; kernel_rfl
          have p1 : (kd.toList == [99, 117, 116]) = false := by rw [hkd]; kernel_rfl
          have p2 : (kd.toList == [97, 115, 115, 105, 103, 110]) = false := by rw [hkd]; kernel_rfl
          have p3 : (kd.toList == [114, 101, 108, 101, 97, 115, 101]) = true := by rw [hkd]; kernel_rfl
          have p4 : (kd.toList == [115, 101, 116]) = false := by rw [hkd]; kernel_rfl
          have p5 : (kd.toList == [98, 114, 101, 97, 107]) = false := by rw [hkd]; kernel_rfl
          have HKN := Lib.hid hkn
          clear hkd hkn
          obtain ⟨r, hr, hri, hrl, hrn⟩ := FI.of (·.id) s n0
          have hfi := rfind_any (HRA.out.below HB.out) (by omega) n0 hr
          have u0 := (row_cells HR.out).1 0
          have u1 := (row_cells HR.out).1 1
          have m0 := HNC.out _ HB.out 0 _ rfl
          simp only [Nat.add_zero] at m0
          go_wp2_with fail
          clear u0 u1 m0
          refine (hfi).mono ?_; rintro e w4 ⟨rfl, hb⟩
          have HB := Lib.hid (HB.out.trans (hb.mono HB.out.size))
          have HR := Lib.hid (row_after hb HR.out)
          clear hb
          clear hfi
          by_cases hr0 : 0 ≤ r
          rotate_left
          · have hE : E = 3 := HEM.out _ HKN.out HH1.out HH2.out HALL.out (by decide) (look_no fun x hx e => hr0 (hri.2 ⟨x, hx, e⟩))
            have hr1 : r < 0 := by omega
            clear hr hri hrn hr0
            have HE := Lib.hid hE
            clear hE
            go_wp2_with fail
            refine bodyPost_ret (v := .int .i64 3) (by simp [results, Tryz.results46, go_sem, *]) rfl ⟨by rw [HE.out], HB.out⟩
          obtain ⟨i, rfl, hil, hix, _⟩ : ∃ i : Nat, r = i ∧ i < s.length ∧ (∀ x : It, s[i]? = some x → x.id = n0) ∧ True := by
            rcases hr with ⟨i, e, h1, h2, _⟩ | ⟨e, _⟩
            · exact ⟨i, e, h1, h2, trivial⟩
            · omega
          have HL : Hid (s[i]? = some s[i]) := Lib.hid (List.getElem?_eq_getElem hil)
          have hlk : Yp.look s n0 = some s[i] := by rw [← hix _ HL.out]; exact Yp.look_mem hu (List.getElem_mem hil)
          have HEK := Lib.hid (HEK.out _ HKN.out HH1.out HH2.out HALL.out (by decide) s[i] hlk)
          obtain ⟨g, rfl, hx⟩ := HXX.out (by omega)
          have HX := Lib.hid hx
          clear hr hri hrl hrn hix hlk hx hr0
          generalize s[i] = x at *
          have hpo := rpossible_any kd x.st 3 HKN.out (by decide)
          have KK : w4.cell? ⟨W.heap.size, 0, none⟩ = some (.string kd) ∧ w4.cell? ⟨R, 0, none⟩ = some (.slice (some ⟨g, 0, none⟩) s.length c) ∧ w4.cell? ⟨g, i * 10 + 8, none⟩ = some (.int .i64 x.st) := ⟨(row_cells HR.out).1 0, HY.out _ HB.out, (HX.out _ HB.out i x HL.out).2.2.2.2.2.2.2.2.1⟩
          have hi0 : (0 : Int) ≤ (i : Int) := by omega
          go_wp2_with fail
          go_region_held3 (fun w' => w'.cell? ⟨W.heap.size, 0, none⟩ = some (.string kd) ∧ w'.cell? ⟨R, 0, none⟩ = some (.slice (some ⟨g, 0, none⟩) s.length c) ∧ w'.cell? ⟨g, i * 10 + 8, none⟩ = some (.int .i64 x.st)) ((first | (simp only [*, and_self]; done) | (simp [*, go_sem]; done)))
            (first
              | (go_at_call 84; ((with_reducible refine (hpo _).mono ?_); rintro e wq ⟨rfl, hb⟩; have HB := Lib.hid (HB.out.drew.trans (hb.mono HB.out.size)); have HR := Lib.hid (row_after hb HR.out); clear hb; have KK : wq.cell? ⟨W.heap.size, 0, none⟩ = some (.string kd) ∧ wq.cell? ⟨R, 0, none⟩ = some (.slice (some ⟨g, 0, none⟩) s.length c) ∧ wq.cell? ⟨g, i * 10 + 8, none⟩ = some (.int .i64 x.st) := ⟨(row_cells HR.out).1 0, HY.out _ HB.out, (HX.out _ HB.out i x HL.out).2.2.2.2.2.2.2.2.1⟩)))
          clear KK hpo
          cases hal : Yp.allowed 3 x.st with
          | false =>
            have hE := HEK.out
            rw [if_pos hal] at hE
            clear hal
            have HE := Lib.hid hE
            clear hE
            go_wp2_with fail
            refine bodyPost_ret (v := .int .i64 8) (by simp [results, Tryz.results46, go_sem, *]) rfl ⟨by rw [HE.out], HB.out⟩
          | true =>
            have hE := HEK.out
            rw [if_neg (by rw [hal]; decide)] at hE
            clear hal HEK
            have u0 := (row_cells HR.out).1 0
            rw [if_neg (by decide), if_neg (by decide)] at hE
            have HE := Lib.hid hE
            clear hE
            go_wp2_with fail
            refine bodyPost_ret (v := .int .i64 0) (by simp [results, Tryz.results46, go_sem, *]) rfl ⟨by rw [HE.out], HB.out⟩
        · obtain ⟨n0, rfl⟩ : ∃ n0 : ByteArray, ns = [n0] := list1 HH1.out
          obtain rfl : vs = [] := List.length_eq_zero_iff.1 HH2.out
          rw [show [n0].length = 1 from rfl] at *
          rw [show ([] : List Int).length = 0 from rfl] at *
          obtain ⟨b1, o1, rfl, hnc⟩ := HNA.out (by decide)
          have HNC := Lib.hid hnc
          clear hnc HNA
          have p0 : (kd.toList == [102, 114, 101, 101]) = false := by rw [hkd]; kernel_rfl
          have p1 : (kd.toList == [99, 117, 116]) = false := by rw [hkd]; kernel_rfl
          have p2 : (kd.toList == [97, 115, 115, 105, 103, 110]) = false := by rw [hkd]; kernel_rfl
          have p3 : (kd.toList == [114, 101, 108, 101, 97, 115, 101]) = false := by rw [hkd]; kernel_rfl
          have p4 : (kd.toList == [115, 101, 116]) = true := by rw [hkd]; kernel_rfl
          have p5 : (kd.toList == [98, 114, 101, 97, 107]) = false := by rw [hkd]; kernel_rfl
          have HKN := Lib.hid hkn
          clear hkd hkn
          obtain ⟨r, hr, hri, hrl, hrn⟩ := FI.of (·.id) s n0
          have hfi := rfind_any (HRA.out.below HB.out) (by omega) n0 hr
          have u0 := (row_cells HR.out).1 0
          have u1 := (row_cells HR.out).1 1
          have m0 := HNC.out _ HB.out 0 _ rfl
          simp only [Nat.add_zero] at m0
          go_wp2_with fail
          clear u0 u1 m0
          refine (hfi).mono ?_; rintro e w4 ⟨rfl, hb⟩
          have HB := Lib.hid (HB.out.trans (hb.mono HB.out.size))
          have HR := Lib.hid (row_after hb HR.out)
          clear hb
          clear hfi
          by_cases hr0 : 0 ≤ r
          rotate_left
          · have hE : E = 3 := HEM.out _ HKN.out HH1.out HH2.out HALL.out (by decide) (look_no fun x hx e => hr0 (hri.2 ⟨x, hx, e⟩))
            have hr1 : r < 0 := by omega
            clear hr hri hrn hr0
            have HE := Lib.hid hE
            clear hE
            go_wp2_with fail
            refine bodyPost_ret (v := .int .i64 3) (by simp [results, Tryz.results46, go_sem, *]) rfl ⟨by rw [HE.out], HB.out⟩
          obtain ⟨i, rfl, hil, hix, _⟩ : ∃ i : Nat, r = i ∧ i < s.length ∧ (∀ x : It, s[i]? = some x → x.id = n0) ∧ True := by
            rcases hr with ⟨i, e, h1, h2, _⟩ | ⟨e, _⟩
            · exact ⟨i, e, h1, h2, trivial⟩
            · omega
          have HL : Hid (s[i]? = some s[i]) := Lib.hid (List.getElem?_eq_getElem hil)
          have hlk : Yp.look s n0 = some s[i] := by rw [← hix _ HL.out]; exact Yp.look_mem hu (List.getElem_mem hil)
          have HEK := Lib.hid (HEK.out _ HKN.out HH1.out HH2.out HALL.out (by decide) s[i] hlk)
          obtain ⟨g, rfl, hx⟩ := HXX.out (by omega)
          have HX := Lib.hid hx
          clear hr hri hrl hrn hix hlk hx hr0
          generalize s[i] = x at *
          have hpo := rpossible_any kd x.st 4 HKN.out (by decide)
          have KK : w4.cell? ⟨W.heap.size, 0, none⟩ = some (.string kd) ∧ w4.cell? ⟨R, 0, none⟩ = some (.slice (some ⟨g, 0, none⟩) s.length c) ∧ w4.cell? ⟨g, i * 10 + 8, none⟩ = some (.int .i64 x.st) := ⟨(row_cells HR.out).1 0, HY.out _ HB.out, (HX.out _ HB.out i x HL.out).2.2.2.2.2.2.2.2.1⟩
          have hi0 : (0 : Int) ≤ (i : Int) := by omega
          go_wp2_with fail
          go_region_held3 (fun w' => w'.cell? ⟨W.heap.size, 0, none⟩ = some (.string kd) ∧ w'.cell? ⟨R, 0, none⟩ = some (.slice (some ⟨g, 0, none⟩) s.length c) ∧ w'.cell? ⟨g, i * 10 + 8, none⟩ = some (.int .i64 x.st)) ((first | (simp only [*, and_self]; done) | (simp [*, go_sem]; done)))
            (first
              | (go_at_call 84; ((with_reducible refine (hpo _).mono ?_); rintro e wq ⟨rfl, hb⟩; have HB := Lib.hid (HB.out.drew.trans (hb.mono HB.out.size)); have HR := Lib.hid (row_after hb HR.out); clear hb; have KK : wq.cell? ⟨W.heap.size, 0, none⟩ = some (.string kd) ∧ wq.cell? ⟨R, 0, none⟩ = some (.slice (some ⟨g, 0, none⟩) s.length c) ∧ wq.cell? ⟨g, i * 10 + 8, none⟩ = some (.int .i64 x.st) := ⟨(row_cells HR.out).1 0, HY.out _ HB.out, (HX.out _ HB.out i x HL.out).2.2.2.2.2.2.2.2.1⟩)))
          clear KK hpo
          cases hal : Yp.allowed 4 x.st with
          | false =>
            have hE := HEK.out
            rw [if_pos hal] at hE
            clear hal
            have HE := Lib.hid hE
            clear hE
            go_wp2_with fail
            refine bodyPost_ret (v := .int .i64 8) (by simp [results, Tryz.results46, go_sem, *]) rfl ⟨by rw [HE.out], HB.out⟩
          | true =>
            have hE := HEK.out
            rw [if_neg (by rw [hal]; decide)] at hE
            clear hal HEK
            have u0 := (row_cells HR.out).1 0
            rw [if_neg (by decide), if_neg (by decide)] at hE
            have HE := Lib.hid hE
            clear hE
            go_wp2_with fail
            refine bodyPost_ret (v := .int .i64 0) (by simp [results, Tryz.results46, go_sem, *]) rfl ⟨by rw [HE.out], HB.out⟩
        · obtain ⟨n0, rfl⟩ : ∃ n0 : ByteArray, ns = [n0] := list1 HH1.out
          obtain rfl : vs = [] := List.length_eq_zero_iff.1 HH2.out
          rw [show [n0].length = 1 from rfl] at *
          rw [show ([] : List Int).length = 0 from rfl] at *
          obtain ⟨b1, o1, rfl, hnc⟩ := HNA.out (by decide)
          have HNC := Lib.hid hnc
          clear hnc HNA
          have p0 : (kd.toList == [102, 114, 101, 101]) = false := by rw [hkd]; kernel_rfl
          have p1 : (kd.toList == [99, 117, 116]) = false := by rw [hkd]; kernel_rfl
          have p2 : (kd.toList == [97, 115, 115, 105, 103, 110]) = false := by rw [hkd]; kernel_rfl
          have p3 : (kd.toList == [114, 101, 108, 101, 97, 115, 101]) = false := by rw [hkd]; kernel_rfl
          have p4 : (kd.toList == [115, 101, 116]) = false := by rw [hkd]; kernel_rfl
          have p5 : (kd.toList == [98, 114, 101, 97, 107]) = true := by rw [hkd]; kernel_rfl
          have HKN := Lib.hid hkn
          clear hkd hkn
          obtain ⟨r, hr, hri, hrl, hrn⟩ := FI.of (·.id) s n0
          have hfi := rfind_any (HRA.out.below HB.out) (by omega) n0 hr
          have u0 := (row_cells HR.out).1 0
          have u1 := (row_cells HR.out).1 1
          have m0 := HNC.out _ HB.out 0 _ rfl
          simp only [Nat.add_zero] at m0
          go_wp2_with fail
          clear u0 u1 m0
          refine (hfi).mono ?_; rintro e w4 ⟨rfl, hb⟩
          have HB := Lib.hid (HB.out.trans (hb.mono HB.out.size))
          have HR := Lib.hid (row_after hb HR.out)
          clear hb
          clear hfi
          by_cases hr0 : 0 ≤ r
          rotate_left
          · have hE : E = 3 := HEM.out _ HKN.out HH1.out HH2.out HALL.out (by decide) (look_no fun x hx e => hr0 (hri.2 ⟨x, hx, e⟩))
            have hr1 : r < 0 := by omega
            clear hr hri hrn hr0
            have HE := Lib.hid hE
            clear hE
            go_wp2_with fail
            refine bodyPost_ret (v := .int .i64 3) (by simp [results, Tryz.results46, go_sem, *]) rfl ⟨by rw [HE.out], HB.out⟩
          obtain ⟨i, rfl, hil, hix, _⟩ : ∃ i : Nat, r = i ∧ i < s.length ∧ (∀ x : It, s[i]? = some x → x.id = n0) ∧ True := by
            rcases hr with ⟨i, e, h1, h2, _⟩ | ⟨e, _⟩
            · exact ⟨i, e, h1, h2, trivial⟩
            · omega
          have HL : Hid (s[i]? = some s[i]) := Lib.hid (List.getElem?_eq_getElem hil)
          have hlk : Yp.look s n0 = some s[i] := by rw [← hix _ HL.out]; exact Yp.look_mem hu (List.getElem_mem hil)
          have HEK := Lib.hid (HEK.out _ HKN.out HH1.out HH2.out HALL.out (by decide) s[i] hlk)
          obtain ⟨g, rfl, hx⟩ := HXX.out (by omega)
          have HX := Lib.hid hx
          clear hr hri hrl hrn hix hlk hx hr0
          generalize s[i] = x at *
          have hpo := rpossible_any kd x.st 5 HKN.out (by decide)
          have KK : w4.cell? ⟨W.heap.size, 0, none⟩ = some (.string kd) ∧ w4.cell? ⟨R, 0, none⟩ = some (.slice (some ⟨g, 0, none⟩) s.length c) ∧ w4.cell? ⟨g, i * 10 + 8, none⟩ = some (.int .i64 x.st) := ⟨(row_cells HR.out).1 0, HY.out _ HB.out, (HX.out _ HB.out i x HL.out).2.2.2.2.2.2.2.2.1⟩
          have hi0 : (0 : Int) ≤ (i : Int) := by omega
          go_wp2_with fail
          go_region_held3 (fun w' => w'.cell? ⟨W.heap.size, 0, none⟩ = some (.string kd) ∧ w'.cell? ⟨R, 0, none⟩ = some (.slice (some ⟨g, 0, none⟩) s.length c) ∧ w'.cell? ⟨g, i * 10 + 8, none⟩ = some (.int .i64 x.st)) ((first | (simp only [*, and_self]; done) | (simp [*, go_sem]; done)))
            (first
              | (go_at_call 84; ((with_reducible refine (hpo _).mono ?_); rintro e wq ⟨rfl, hb⟩; have HB := Lib.hid (HB.out.drew.trans (hb.mono HB.out.size)); have HR := Lib.hid (row_after hb HR.out); clear hb; have KK : wq.cell? ⟨W.heap.size, 0, none⟩ = some (.string kd) ∧ wq.cell? ⟨R, 0, none⟩ = some (.slice (some ⟨g, 0, none⟩) s.length c) ∧ wq.cell? ⟨g, i * 10 + 8, none⟩ = some (.int .i64 x.st) := ⟨(row_cells HR.out).1 0, HY.out _ HB.out, (HX.out _ HB.out i x HL.out).2.2.2.2.2.2.2.2.1⟩)))
          clear KK hpo
          cases hal : Yp.allowed 5 x.st with
          | false =>
            have hE := HEK.out
            rw [if_pos hal] at hE
            clear hal
            have HE := Lib.hid hE
            clear hE
            go_wp2_with fail
            refine bodyPost_ret (v := .int .i64 8) (by simp [results, Tryz.results46, go_sem, *]) rfl ⟨by rw [HE.out], HB.out⟩
          | true =>
            have hE := HEK.out
            rw [if_neg (by rw [hal]; decide)] at hE
            clear hal HEK
            have u0 := (row_cells HR.out).1 0
            rw [if_neg (by decide), if_neg (by decide)] at hE
            have HE := Lib.hid hE
            clear hE
            go_wp2_with fail
            refine bodyPost_ret (v := .int .i64 0) (by simp [results, Tryz.results46, go_sem, *]) rfl ⟨by rw [HE.out], HB.out⟩
end Go.Proofs.YtejhcbbfdfnfdaaGreatDoor.Yard
