/-
  YardAdds: in every state that a list of facts leads to, the volume of all blocks is the sum of the volumes of the states and the kerfs, the kerfs are those of the cuts, and no volume is negative: the law returns true for every list of facts, and the list reads afterwards as it read before. Conditions: the row's own (the listed variables of Go's library hold what the program's text lays).
-/
import Derived.Test.YtejhcbbfdfnfdaaGreatDoorA36
import Derived.Deep.QuietTactic
import Derived.BigQuiet
import Derived.Test.YtejhcbbfdfnfdaaGreatDoorA26
import Derived.Deep.DeepHandedRow
import Derived.Lay
import Derived.SevenTiedAt
/- YardAdds. -/
namespace Go.Proofs.YtejhcbbfdfnfdaaGreatDoor.Yard
open Go.RowKit Go.Proofs.YtejhcbbfdfnfdaaGreatDoor.Base Go.Proofs.YtejhcbbfdfnfdaaGreatDoor.Mp
open Yp (It Yd Fact Bx)
/-- The sum of the kerfs and the states' volumes, up to state c. -/
def partS (K s1 s3 s4 s5 : Int) : Nat → Int
  | 0 => K
  | 1 => K
  | 2 => K + s1
  | 3 => K + s1
  | 4 => K + s1 + s3
  | 5 => K + s1 + s3 + s4
  | _ => K + s1 + s3 + s4 + s5
set_option maxRecDepth 100000 in
set_option maxHeartbeats 16000000 in
theorem adds_any {w : World} (hE : Env w) {X : Nat → Prop} {v : Value} {l : List Fact} (hv : FLs w X v l) :
    Calls Tryz.prog 5 #[v] w fun e w' => e = .returned (.bool true) ∧ Below w.heap.size w w' := by
  have haw := awake_any hE
  have HV := Lib.hid hv
  have HE := Lib.hid hE
  clear hE hv
  go_enter Tryz.func5, Tryz.ntmps5
  go_wp2_with fail
  refine haw.mono ?_; rintro e w1 ⟨rfl, hb1⟩
  have HB1 := Lib.hid hb1
  have hsm := small_any (HV.out.below hb1) 40 (by decide)
  clear haw hb1
  cases hs : smallL l 40 with
  | false =>
    rw [hs] at hsm
    clear hs
    go_wp2_with fail
    refine hsm.mono ?_; rintro e w2 ⟨rfl, rfl⟩
    clear hsm
    go_wp2_with fail
    go_ret
    exact ⟨rfl, HB1.out⟩
  | true =>
    obtain ⟨hshort, hlen⟩ := small_short hs
    rw [hs] at hsm
    have HS := Lib.hid hshort
    clear hs hshort
    go_wp2_with fail
    refine hsm.mono ?_; rintro e w2 ⟨rfl, rfl⟩
    clear hsm
    have hnew := new_own w2
    go_wp2_with fail
    refine hnew.mono ?_; rintro e w3 ⟨Y, M, rfl, hy3, hb3⟩
    obtain ⟨FS0, has⟩ := as_new HB1.out hy3 hb3
    have HAS0 := Lib.hid has
    clear hnew hy3 hb3 HB1 has
    obtain ⟨A, c, hve, hc, _⟩ := id HV.out
    subst hve
    go_wp2_with fail
    go_loopw [4, 5] (fun kv i wr => ∃ (k : Nat) (FS : Value), k ≤ l.length ∧ i = .int .i64 k ∧ kv = .int .i64 (Yp.steps Yp.yNew (l.take k)).kerfs ∧ AS w Y M FS (Yp.steps Yp.yNew (l.take k)) wr) (fun _ i _ => l.length - (intOf i).toNat)
    case atStart => exact ⟨0, FS0, by omega, rfl, rfl, HAS0.out⟩
    case round =>
      obtain ⟨k, FS, hk, rfl, rfl, has⟩ := hrel
      by_cases hlt : k < l.length
      · have HINV : Hid (Yp.Inv (Yp.steps Yp.yNew (l.take k))) := Lib.hid (Yp.inv_steps _ Yp.inv_new)
        have HINV2 : Hid (Yp.Inv (Yp.steps Yp.yNew (l.take (k + 1)))) := Lib.hid (Yp.inv_steps _ Yp.inv_new)
        have hbd := yd_bound l k (by omega)
        have hit := items_any sort_said has.yat (by omega)
        go_wp2_with fail
        refine hit.mono ?_; rintro e w5 ⟨vi, li, rfl, hperm, _, hrow, hb5⟩
        obtain ⟨Ai, ci, rfl, hrem⟩ := irow_rem hrow has
        have has5 := has.below hb5
        obtain ⟨b, o, c', nv, vv, ev, hcells, hdo⟩ := do_step2 HV.out (by omega) HS.out hlt has5
        injection ev with ev1 _ ev2
        subst ev1 ev2
        obtain ⟨e0, e1, e2, _, _⟩ := hcells w5 has5.be
        have HSTEP : Hid (Yp.steps Yp.yNew (l.take (k + 1)) = Yp.step (Yp.steps Yp.yNew (l.take k)) l[k]) := Lib.hid (by rw [List.take_succ_eq_append_getElem hlt, Yp.steps_snoc])
        have HCELLS := Lib.hid hcells
        have HREM := Lib.hid hrem
        have HPERM := Lib.hid hperm
        have HLI : Hid (li.length ≤ 4000) := Lib.hid (by rw [hperm.length_eq]; omega)
        clear hit hrow hb5 has has5 hcells hrem hperm hbd
        generalize l[k] = f at *
        generalize hye2 : Yp.steps Yp.yNew (l.take (k + 1)) = y2 at *
        have HYE2 := Lib.hid hye2
        clear hye2
        generalize Yp.steps Yp.yNew (l.take k) = y at *
        go_wp2_with fail
        refine hdo.mono ?_; rintro e w6 ⟨rfl, FS6, has6, hremd⟩
        have HAS6 := Lib.hid has6
        have HREMD := Lib.hid hremd
        obtain ⟨f0, f1, f2, hnn, hvv⟩ := HCELLS.out w6 has6.be
        clear hdo has6 hremd e0 e1 e2
        by_cases hc0 : Yp.check y f = 0
        · by_cases hkd : f.kind = Yp.kCut
          · obtain ⟨x, n0, n1, n2, a, p, kf, hfn, hfv, hlook, ha, hkf, hkerf⟩ := Yp.cut_facts hc0 hkd
            have HK2 : Hid (y2.kerfs = y.kerfs + Yp.lost x.bx a p kf) := Lib.hid (by rw [HSTEP.out]; exact hkerf)
            have HPL : Hid (Yp.prodTo x.bx a kf 3 = Yp.lost x.bx a p kf) := Lib.hid (Yp.prod_lost x.bx a p kf ha hkf.1)
            obtain ⟨hxm, hxid⟩ := Yp.look_some hlook
            have hok := HINV.out.ok x hxm
            obtain ⟨q, hql, hq⟩ := List.getElem_of_mem (HPERM.out.mem_iff.2 hxm)
            obtain ⟨g, cur, rfl, hrg, hat⟩ := HREM.out (by omega)
            have HRG := Lib.hid (HREMD.out _ _ hrg)
            have HAT := Lib.hid hat
            have hnl : f.names.length = 3 := by rw [hfn]; rfl
            have hvl : f.vals.length = 3 := by rw [hfv]; rfl
            have hkl : ({ data := #[99, 117, 116] } : ByteArray).toList = [99, 117, 116] := by kernel_rfl
            have hkq : (f.kind.toList == ({ data := #[99, 117, 116] } : ByteArray).toList) = true := by rw [tl_beq]; exact decide_eq_true hkd
            have hkq2 : (f.kind.toList == [99, 117, 116]) = true := by rw [← hkl]; exact hkq
            obtain ⟨A3, c3, e3, _, rn⟩ := id hnn
            obtain ⟨A4, c4, e4, _, rv⟩ := id hvv
            rw [show (strV f.names).length = 3 by simp [strV, hnl]] at e3 rn
            rw [show (intV f.vals).length = 3 by simp [intV, hvl]] at e4 rv
            subst e3 e4
            obtain ⟨b3, o3, rfl, hl3, _, cn⟩ := rn (by decide)
            obtain ⟨b4, o4, rfl, hl4, _, cv⟩ := rv (by decide)
            have HN0 : Hid (∀ W, Below w6.heap.size w6 W → W.cell? ⟨b3, o3, none⟩ = some (.string n0)) := Lib.hid fun W hW => (hW.cell (p := ⟨b3, _, none⟩) hl3).trans (cn 0 (.string n0) (by rw [hfn]; rfl))
            have HV0 : Hid (∀ W, Below w6.heap.size w6 W → W.cell? ⟨b4, o4, none⟩ = some (.int .i64 a)) := Lib.hid fun W hW => (hW.cell (p := ⟨b4, _, none⟩) hl4).trans (cv 0 (.int .i64 a) (by rw [hfv]; rfl))
            have HV2 : Hid (∀ W, Below w6.heap.size w6 W → W.cell? ⟨b4, o4 + 2, none⟩ = some (.int .i64 kf)) := Lib.hid fun W hW => (hW.cell (p := ⟨b4, _, none⟩) hl4).trans (cv 2 (.int .i64 kf) (by rw [hfv]; rfl))
            clear rn rv cn cv hnn hvv
            rw [hc0]
            have hkle := Yp.kerfs_le HINV2.out
            have hklo := Yp.kerfs_low HINV.out
            rw [HK2.out] at hkle
            have hLn : 0 ≤ Yp.lost x.bx a p kf := by rw [← HPL.out]; exact (Yp.prod_bounds hok ha hkf 3 (by omega)).1
            have HPB := Lib.hid (Yp.prod_bounds hok ha hkf)
            have HMB := Lib.hid (Yp.prod_mul_bounds hok ha hkf)
            generalize Yp.lost x.bx a p kf = L at *
            generalize y.kerfs = K at *
            go_wp2_with fail
            go_loopw [4, 8] (fun kv i wi => ∃ m : Nat, m ≤ li.length ∧ i = .int .i64 m ∧ kv = .int .i64 (if q < m then K + L else K) ∧ Below w6.heap.size w6 wi) (fun _ i _ => li.length - (intOf i).toNat)
            case atStart => exact ⟨0, by omega, rfl, by rw [if_neg (Nat.not_lt_zero q)], by first | exact Below.refl _ _ | exact (Below.refl _ _).drew | exact below_drewN (Below.refl _ _) _⟩
            case round =>
              obtain ⟨m, hm, rfl, rfl, hbi⟩ := hrel
              have HBI := Lib.hid hbi
              have hli := HLI.out
              by_cases hlt2 : m < li.length
              · obtain ⟨z0, z1, z2, z3, z4, z5, z6, z7, z8, z9⟩ := HAT.out wr (row_after hbi HRG.out.row) m li[m] (List.getElem?_eq_getElem hlt2)
                have g0 := HN0.out wr hbi
                obtain ⟨f0, f1, f2, _, _⟩ := HCELLS.out wr (HAS6.out.be.trans (hbi.mono HAS6.out.be.size))
                clear hbi
                by_cases hmq : m = q
                · subst hmq
                  have hzx : li[m] = x := hq
                  rw [hzx] at z0 z1 z2 z3 z4 z5 z6 z7 z8 z9
                  rw [hxid] at z0
                  rw [if_neg (Nat.lt_irrefl m)]
                  have hne : (n0.toList == n0.toList) = true := by simp
                  go_wp2_with fail
                  go_quiet (fail)
                  have HBI := Lib.hid (below_drewN HBI.out nq)
                  clear hne z0 z1 z2 z3 z4 z5 z6 z7 z8 z9 g0 f0 f1 f2
                  generalize wr.drewN nq = wr at *
                  obtain ⟨z0, z1, z2, z3, z4, z5, z6, z7, z8, z9⟩ := HAT.out wr (row_after HBI.out HRG.out.row) m x (by rw [List.getElem?_eq_getElem hlt2]; exact congrArg some hzx)
                  obtain ⟨k1, k2, k3, k4, k5, k6, k7, k8, k9⟩ := id hok
                  have hb7 : Below wr.heap.size wr ((wr.alloc (.cells #[.int .i64 0, .int .i64 0, .int .i64 0, .int .i64 0, .int .i64 0, .int .i64 0] 45)).setRow wr.heap.size #[.int .i64 x.bx.x0, .int .i64 x.bx.y0, .int .i64 x.bx.z0, .int .i64 x.bx.x1, .int .i64 x.bx.y1, .int .i64 x.bx.z1]) := below_setRow (al_below wr _) (Nat.le_refl _) #[.int .i64 x.bx.x0, .int .i64 x.bx.y0, .int .i64 x.bx.z0, .int .i64 x.bx.x1, .int .i64 x.bx.y1, .int .i64 x.bx.z1]
                  have R7 := setRow_heap (wr.alloc (.cells #[.int .i64 0, .int .i64 0, .int .i64 0, .int .i64 0, .int .i64 0, .int .i64 0] 45)) wr.heap.size #[.int .i64 0, .int .i64 0, .int .i64 0, .int .i64 0, .int .i64 0, .int .i64 0] #[.int .i64 x.bx.x0, .int .i64 x.bx.y0, .int .i64 x.bx.z0, .int .i64 x.bx.x1, .int .i64 x.bx.y1, .int .i64 x.bx.z1] 45 (0, 0) (new_block wr _)
                  have r0 := (row_cells R7).1 0
                  have r1 := (row_cells R7).1 1
                  have r2 := (row_cells R7).1 2
                  have r3 := (row_cells R7).1 3
                  have r4 := (row_cells R7).1 4
                  have r5 := (row_cells R7).1 5
                  have hb8 : Below wr.heap.size wr (((wr.alloc (.cells #[.int .i64 0, .int .i64 0, .int .i64 0, .int .i64 0, .int .i64 0, .int .i64 0] 45)).setRow wr.heap.size #[.int .i64 x.bx.x0, .int .i64 x.bx.y0, .int .i64 x.bx.z0, .int .i64 x.bx.x1, .int .i64 x.bx.y1, .int .i64 x.bx.z1]).alloc (.cells #[.int .i64 (x.bx.x1 - x.bx.x0), .int .i64 (x.bx.y1 - x.bx.y0), .int .i64 (x.bx.z1 - x.bx.z0)] 2)) := hb7.trans ((al_below _ _).mono hb7.size)
                  have HB8 := Lib.hid (HBI.out.trans (hb8.mono HBI.out.size))
                  have hr8 := new_block ((wr.alloc (.cells #[.int .i64 0, .int .i64 0, .int .i64 0, .int .i64 0, .int .i64 0, .int .i64 0] 45)).setRow wr.heap.size #[.int .i64 x.bx.x0, .int .i64 x.bx.y0, .int .i64 x.bx.z0, .int .i64 x.bx.x1, .int .i64 x.bx.y1, .int .i64 x.bx.z1]) (.cells #[.int .i64 (x.bx.x1 - x.bx.x0), .int .i64 (x.bx.y1 - x.bx.y0), .int .i64 (x.bx.z1 - x.bx.z0)] 2)
                  rw [show ((wr.alloc (.cells #[.int .i64 0, .int .i64 0, .int .i64 0, .int .i64 0, .int .i64 0, .int .i64 0] 45)).setRow wr.heap.size #[.int .i64 x.bx.x0, .int .i64 x.bx.y0, .int .i64 x.bx.z0, .int .i64 x.bx.x1, .int .i64 x.bx.y1, .int .i64 x.bx.z1]).heap.size = wr.heap.size + 1 by simp] at hr8
                  have HR8 := Lib.hid hr8
                  clear hr8
                  have v2 := HV2.out _ HB8.out
                  obtain ⟨i0, i1, i2, _, _⟩ := HCELLS.out _ (HAS6.out.be.trans (HB8.out.mono HAS6.out.be.size))
                  clear hb7 R7 hb8 i0 i1
                  go_wp2_with (refine wpList_store_row rfl 45 (.tmp 9) (.tmp 87) rfl wr.heap.size #[.int .i64 x.bx.x0, .int .i64 x.bx.y0, .int .i64 x.bx.z0, .int .i64 x.bx.x1, .int .i64 x.bx.y1, .int .i64 x.bx.z1] rfl rfl 45 #[.int .i64 0, .int .i64 0, .int .i64 0, .int .i64 0, .int .i64 0, .int .i64 0] (new_block wr _) ?_ ?_ ?_ ?_; (kernel_rfl); (kernel_rfl); (kernel_rfl))
                  clear r0 r1 r2 r3 r4 r5 v2 i2 z0 z1 z2 z3 z4 z5 z6 z7 z8 z9
                  generalize (((wr.alloc (.cells #[.int .i64 0, .int .i64 0, .int .i64 0, .int .i64 0, .int .i64 0, .int .i64 0] 45)).setRow wr.heap.size #[.int .i64 x.bx.x0, .int .i64 x.bx.y0, .int .i64 x.bx.z0, .int .i64 x.bx.x1, .int .i64 x.bx.y1, .int .i64 x.bx.z1]).alloc (.cells #[.int .i64 (x.bx.x1 - x.bx.x0), .int .i64 (x.bx.y1 - x.bx.y0), .int .i64 (x.bx.z1 - x.bx.z0)] 2)) = W8 at *
                  go_loopw [11, 12] (fun nv cv wj => ∃ c : Nat, c ≤ 3 ∧ cv = .int .i64 c ∧ nv = .int .i64 (Yp.prodTo x.bx a kf c) ∧ Below W8.heap.size W8 wj) (fun _ cv _ => 3 - (intOf cv).toNat)
                  case atStart => exact ⟨0, by omega, rfl, rfl, Below.refl _ _⟩
                  case round =>
                    obtain ⟨c, hc3, rfl, rfl, hbj⟩ := hrel
                    have HBW := Lib.hid (HB8.out.trans (hbj.mono HB8.out.size))
                    have v0 := HV0.out _ HBW.out
                    obtain ⟨_, _, f2, _, _⟩ := HCELLS.out _ (HAS6.out.be.trans (HBW.out.mono HAS6.out.be.size))
                    have hpb := HPB.out c hc3
                    by_cases hlc : c < 3
                    · have rr := (row_cells (row_after hbj HR8.out)).1
                      have s0 := rr 0
                      have s1 := rr 1
                      have s2 := rr 2
                      have hmb := HMB.out c hlc
                      have HBJ := Lib.hid hbj
                      clear rr hbj hc3 HBW
                      obtain rfl | rfl | rfl : c = 0 ∨ c = 1 ∨ c = 2 := by omega
                      all_goals
                        obtain rfl | rfl | rfl : a = 0 ∨ a = 1 ∨ a = 2 := by omega
                        all_goals
                          first
                            | (have hmb := hmb (by decide)
                               simp only [Yp.sideOf] at hmb
                               go_wp2_with fail
                               first
                                 | exact ⟨⟨1, by decide, rfl, rfl, HBJ.out⟩, by simp [intOf]⟩
                                 | exact ⟨⟨2, by decide, rfl, rfl, HBJ.out⟩, by simp [intOf]⟩
                                 | exact ⟨⟨3, by decide, rfl, rfl, HBJ.out⟩, by simp [intOf]⟩)
                            | (clear hmb
                               go_wp2_with fail
                               first
                                 | exact ⟨⟨1, by decide, rfl, rfl, HBJ.out⟩, by simp [intOf]⟩
                                 | exact ⟨⟨2, by decide, rfl, rfl, HBJ.out⟩, by simp [intOf]⟩
                                 | exact ⟨⟨3, by decide, rfl, rfl, HBJ.out⟩, by simp [intOf]⟩)
                    · obtain rfl : c = 3 := by omega
                      rw [HPL.out]
                      clear hpb v0 f2
                      go_wp2_with fail
                      exact ⟨⟨m + 1, by omega, by go_num, by rw [if_pos (by omega)], by first | exact HBW.out | exact HBW.out.drew | exact below_drewN HBW.out _⟩, by simp [intOf]; omega⟩
                · have hzn : li[m].id ≠ n0 := by
                    intro e
                    rcases Nat.lt_or_gt_of_ne hmq with h | h
                    · exact aw_uniq HPERM.out HINV.out.uniq (List.getElem?_eq_getElem hlt2) (List.getElem?_eq_getElem hql) h (by rw [hq, hxid, e])
                    · exact aw_uniq HPERM.out HINV.out.uniq (List.getElem?_eq_getElem hql) (List.getElem?_eq_getElem hlt2) h (by rw [hq, hxid, e])
                  have hne : (li[m].id.toList == n0.toList) = false := by rw [tl_beq]; exact decide_eq_false hzn
                  have hkv : (if q < m + 1 then K + L else K) = (if q < m then K + L else K) := by
                    rcases Nat.lt_or_gt_of_ne hmq with h | h
                    · rw [if_neg (by omega), if_neg (by omega)]
                    · rw [if_pos (by omega), if_pos (by omega)]
                  have HKV := Lib.hid hkv
                  clear hkv hzn
                  generalize li[m] = z at *
                  generalize (if q < m then K + L else K) = KV at *
                  go_wp2_with fail
                  go_quiet (fail)
                  go_wp2_with fail
                  exact ⟨⟨m + 1, by omega, by go_num, by rw [HKV.out], by first | exact HBI.out | exact HBI.out.drew | exact below_drewN HBI.out _⟩, by simp [intOf]; omega⟩
              · obtain rfl : m = li.length := by omega
                rw [if_pos hql]
                have HAS6 := Lib.hid (HAS6.out.below HBI.out)
                generalize K + L = K at *
                clear hbi
                go_wp2_with fail
                have ht := totals_any HAS6.out.yat HINV2.out
                rw [HK2.out] at ht
                have n1 := Yp.stVol_nonneg HINV2.out 1
                have n3 := Yp.stVol_nonneg HINV2.out 3
                have n4 := Yp.stVol_nonneg HINV2.out 4
                have n5 := Yp.stVol_nonneg HINV2.out 5
                have hsum := HINV2.out.sum
                rw [Yp.liveVol_states HINV2.out.sts, HK2.out] at hsum
                have hrle := Yp.rootVol_le HINV2.out
                have hrnn := Yp.rootVol_nonneg HINV2.out
                have hlle := Yp.liveVol_le HINV2.out
                rw [Yp.liveVol_states HINV2.out.sts] at hlle
                unfold totV at ht
                generalize Yp.rootVol y2.items = R at *
                generalize Yp.stVol 1 y2.items = s1 at *
                generalize Yp.stVol 3 y2.items = s3 at *
                generalize Yp.stVol 4 y2.items = s4 at *
                generalize Yp.stVol 5 y2.items = s5 at *
                have hb0 : -8000000000000000000 ≤ K := by omega
                have hb1 : K + s1 + s3 + s4 + s5 ≤ 8000000000000000000 := by omega
                have HSUM := Lib.hid hsum
                clear hsum hlle hrle hrnn
                go_wp2_with fail
                refine ht.mono ?_; rintro e w7 ⟨rfl, hb7⟩
                have hrow7 := new_block w7 (.cells #[.int .i64 R, .int .i64 0, .int .i64 s1, .int .i64 0, .int .i64 s3, .int .i64 s4, .int .i64 s5, .int .i64 K] 53)
                have HAS7 := Lib.hid ((HAS6.out.below hb7).below (al_below w7 (.cells #[.int .i64 R, .int .i64 0, .int .i64 s1, .int .i64 0, .int .i64 s3, .int .i64 s4, .int .i64 s5, .int .i64 K] 53)))
                have q7 := (row_cells hrow7).1 7
                have HR7 := Lib.hid hrow7
                clear ht hb7 hrow7
                go_wp2_with fail
                clear q7
                generalize w7.alloc (.cells #[.int .i64 R, .int .i64 0, .int .i64 s1, .int .i64 0, .int .i64 s3, .int .i64 s4, .int .i64 s5, .int .i64 K] 53) = W7 at *
                go_loopw [14, 15] (fun sv i wi => ∃ c : Nat, c ≤ 6 ∧ i = .int .i64 c ∧ sv = .int .i64 (partS K s1 s3 s4 s5 c) ∧ Below W7.heap.size W7 wi) (fun _ i _ => 6 - (intOf i).toNat)
                case atStart => exact ⟨0, by omega, rfl, rfl, Below.refl _ _⟩
                case round =>
                  obtain ⟨c, hc6, rfl, rfl, hbi⟩ := hrel
                  have HBI := Lib.hid hbi
                  have hrw := (row_cells (row_after hbi HR7.out)).1
                  have r0 := hrw 0
                  have r1 := hrw 1
                  have r2 := hrw 2
                  have r3 := hrw 3
                  have r4 := hrw 4
                  have r5 := hrw 5
                  have r6 := hrw 6
                  have r7 := hrw 7
                  clear hbi hrw
                  by_cases hlc : c < 6
                  · obtain rfl | rfl | rfl | rfl | rfl | rfl : c = 0 ∨ c = 1 ∨ c = 2 ∨ c = 3 ∨ c = 4 ∨ c = 5 := by omega
                    all_goals
                      simp only [partS]
                      go_wp2_with fail
                      first
                        | exact ⟨⟨1, by decide, rfl, rfl, HBI.out⟩, by simp [intOf]⟩
                        | exact ⟨⟨2, by decide, rfl, rfl, HBI.out⟩, by simp [intOf]⟩
                        | exact ⟨⟨3, by decide, rfl, rfl, HBI.out⟩, by simp [intOf]⟩
                        | exact ⟨⟨4, by decide, rfl, rfl, HBI.out⟩, by simp [intOf]⟩
                        | exact ⟨⟨5, by decide, rfl, rfl, HBI.out⟩, by simp [intOf]⟩
                        | exact ⟨⟨6, by decide, rfl, rfl, HBI.out⟩, by simp [intOf]⟩
                  · obtain rfl : c = 6 := by omega
                    have hsum := HSUM.out
                    have hne : ((K + s1 + s3 + s4 + s5 : Int) != R) = false := by simp; omega
                    clear hsum
                    simp only [partS]
                    go_wp2_with fail
                    exact ⟨⟨k + 1, FS6, hlt, by go_num, by rw [HYE2.out, HK2.out], by rw [HYE2.out]; exact HAS7.out.below HBI.out⟩, by simp [intOf]; omega⟩
          · have HK2 : Hid (y2.kerfs = y.kerfs) := Lib.hid (by rw [HSTEP.out]; exact Yp.other_kerfs hkd)
            have hkq : (f.kind.toList == ({ data := #[99, 117, 116] } : ByteArray).toList) = false := by rw [tl_beq]; exact decide_eq_false hkd
            have hkl : ({ data := #[99, 117, 116] } : ByteArray).toList = [99, 117, 116] := by kernel_rfl
            have hkq2 : (f.kind.toList == [99, 117, 116]) = false := by rw [← hkl]; exact hkq
            rw [hc0]
            clear hc0 hkd
            generalize y.kerfs = K at *
            go_wp2_with fail
            have ht := totals_any HAS6.out.yat HINV2.out
            rw [HK2.out] at ht
            have n1 := Yp.stVol_nonneg HINV2.out 1
            have n3 := Yp.stVol_nonneg HINV2.out 3
            have n4 := Yp.stVol_nonneg HINV2.out 4
            have n5 := Yp.stVol_nonneg HINV2.out 5
            have hsum := HINV2.out.sum
            rw [Yp.liveVol_states HINV2.out.sts, HK2.out] at hsum
            have hrle := Yp.rootVol_le HINV2.out
            have hrnn := Yp.rootVol_nonneg HINV2.out
            have hlle := Yp.liveVol_le HINV2.out
            rw [Yp.liveVol_states HINV2.out.sts] at hlle
            unfold totV at ht
            generalize Yp.rootVol y2.items = R at *
            generalize Yp.stVol 1 y2.items = s1 at *
            generalize Yp.stVol 3 y2.items = s3 at *
            generalize Yp.stVol 4 y2.items = s4 at *
            generalize Yp.stVol 5 y2.items = s5 at *
            have hb0 : -8000000000000000000 ≤ K := by omega
            have hb1 : K + s1 + s3 + s4 + s5 ≤ 8000000000000000000 := by omega
            have HSUM := Lib.hid hsum
            clear hsum hlle hrle hrnn
            go_wp2_with fail
            refine ht.mono ?_; rintro e w7 ⟨rfl, hb7⟩
            have hrow7 := new_block w7 (.cells #[.int .i64 R, .int .i64 0, .int .i64 s1, .int .i64 0, .int .i64 s3, .int .i64 s4, .int .i64 s5, .int .i64 K] 53)
            have HAS7 := Lib.hid ((HAS6.out.below hb7).below (al_below w7 (.cells #[.int .i64 R, .int .i64 0, .int .i64 s1, .int .i64 0, .int .i64 s3, .int .i64 s4, .int .i64 s5, .int .i64 K] 53)))
            have q7 := (row_cells hrow7).1 7
            have HR7 := Lib.hid hrow7
            clear ht hb7 hrow7
            go_wp2_with fail
            clear q7
            generalize w7.alloc (.cells #[.int .i64 R, .int .i64 0, .int .i64 s1, .int .i64 0, .int .i64 s3, .int .i64 s4, .int .i64 s5, .int .i64 K] 53) = W7 at *
            go_loopw [14, 15] (fun sv i wi => ∃ c : Nat, c ≤ 6 ∧ i = .int .i64 c ∧ sv = .int .i64 (partS K s1 s3 s4 s5 c) ∧ Below W7.heap.size W7 wi) (fun _ i _ => 6 - (intOf i).toNat)
            case atStart => exact ⟨0, by omega, rfl, rfl, Below.refl _ _⟩
            case round =>
              obtain ⟨c, hc6, rfl, rfl, hbi⟩ := hrel
              have HBI := Lib.hid hbi
              have hrw := (row_cells (row_after hbi HR7.out)).1
              have r0 := hrw 0
              have r1 := hrw 1
              have r2 := hrw 2
              have r3 := hrw 3
              have r4 := hrw 4
              have r5 := hrw 5
              have r6 := hrw 6
              have r7 := hrw 7
              clear hbi hrw
              by_cases hlc : c < 6
              · obtain rfl | rfl | rfl | rfl | rfl | rfl : c = 0 ∨ c = 1 ∨ c = 2 ∨ c = 3 ∨ c = 4 ∨ c = 5 := by omega
                all_goals
                  simp only [partS]
                  go_wp2_with fail
                  first
                    | exact ⟨⟨1, by decide, rfl, rfl, HBI.out⟩, by simp [intOf]⟩
                    | exact ⟨⟨2, by decide, rfl, rfl, HBI.out⟩, by simp [intOf]⟩
                    | exact ⟨⟨3, by decide, rfl, rfl, HBI.out⟩, by simp [intOf]⟩
                    | exact ⟨⟨4, by decide, rfl, rfl, HBI.out⟩, by simp [intOf]⟩
                    | exact ⟨⟨5, by decide, rfl, rfl, HBI.out⟩, by simp [intOf]⟩
                    | exact ⟨⟨6, by decide, rfl, rfl, HBI.out⟩, by simp [intOf]⟩
              · obtain rfl : c = 6 := by omega
                have hsum := HSUM.out
                have hne : ((K + s1 + s3 + s4 + s5 : Int) != R) = false := by simp; omega
                clear hsum
                simp only [partS]
                go_wp2_with fail
                exact ⟨⟨k + 1, FS6, hlt, by go_num, by rw [HYE2.out, HK2.out], by rw [HYE2.out]; exact HAS7.out.below HBI.out⟩, by simp [intOf]; omega⟩
        · have hce : (Yp.check y f == 0) = false := by simpa using hc0
          have HK2 : Hid (y2.kerfs = y.kerfs) := Lib.hid (by rw [HSTEP.out]; unfold Yp.step; rw [if_neg hc0])
          clear hc0
          generalize y.kerfs = K at *
          go_wp2_with fail
          have ht := totals_any HAS6.out.yat HINV2.out
          rw [HK2.out] at ht
          have n1 := Yp.stVol_nonneg HINV2.out 1
          have n3 := Yp.stVol_nonneg HINV2.out 3
          have n4 := Yp.stVol_nonneg HINV2.out 4
          have n5 := Yp.stVol_nonneg HINV2.out 5
          have hsum := HINV2.out.sum
          rw [Yp.liveVol_states HINV2.out.sts, HK2.out] at hsum
          have hrle := Yp.rootVol_le HINV2.out
          have hrnn := Yp.rootVol_nonneg HINV2.out
          have hlle := Yp.liveVol_le HINV2.out
          rw [Yp.liveVol_states HINV2.out.sts] at hlle
          unfold totV at ht
          generalize Yp.rootVol y2.items = R at *
          generalize Yp.stVol 1 y2.items = s1 at *
          generalize Yp.stVol 3 y2.items = s3 at *
          generalize Yp.stVol 4 y2.items = s4 at *
          generalize Yp.stVol 5 y2.items = s5 at *
          have hb0 : -8000000000000000000 ≤ K := by omega
          have hb1 : K + s1 + s3 + s4 + s5 ≤ 8000000000000000000 := by omega
          have HSUM := Lib.hid hsum
          clear hsum hlle hrle hrnn
          go_wp2_with fail
          refine ht.mono ?_; rintro e w7 ⟨rfl, hb7⟩
          have hrow7 := new_block w7 (.cells #[.int .i64 R, .int .i64 0, .int .i64 s1, .int .i64 0, .int .i64 s3, .int .i64 s4, .int .i64 s5, .int .i64 K] 53)
          have HAS7 := Lib.hid ((HAS6.out.below hb7).below (al_below w7 (.cells #[.int .i64 R, .int .i64 0, .int .i64 s1, .int .i64 0, .int .i64 s3, .int .i64 s4, .int .i64 s5, .int .i64 K] 53)))
          have q7 := (row_cells hrow7).1 7
          have HR7 := Lib.hid hrow7
          clear ht hb7 hrow7
          go_wp2_with fail
          clear q7
          generalize w7.alloc (.cells #[.int .i64 R, .int .i64 0, .int .i64 s1, .int .i64 0, .int .i64 s3, .int .i64 s4, .int .i64 s5, .int .i64 K] 53) = W7 at *
          go_loopw [14, 15] (fun sv i wi => ∃ c : Nat, c ≤ 6 ∧ i = .int .i64 c ∧ sv = .int .i64 (partS K s1 s3 s4 s5 c) ∧ Below W7.heap.size W7 wi) (fun _ i _ => 6 - (intOf i).toNat)
          case atStart => exact ⟨0, by omega, rfl, rfl, Below.refl _ _⟩
          case round =>
            obtain ⟨c, hc6, rfl, rfl, hbi⟩ := hrel
            have HBI := Lib.hid hbi
            have hrw := (row_cells (row_after hbi HR7.out)).1
            have r0 := hrw 0
            have r1 := hrw 1
            have r2 := hrw 2
            have r3 := hrw 3
            have r4 := hrw 4
            have r5 := hrw 5
            have r6 := hrw 6
            have r7 := hrw 7
            clear hbi hrw
            by_cases hlc : c < 6
            · obtain rfl | rfl | rfl | rfl | rfl | rfl : c = 0 ∨ c = 1 ∨ c = 2 ∨ c = 3 ∨ c = 4 ∨ c = 5 := by omega
              all_goals
                simp only [partS]
                go_wp2_with fail
                first
                  | exact ⟨⟨1, by decide, rfl, rfl, HBI.out⟩, by simp [intOf]⟩
                  | exact ⟨⟨2, by decide, rfl, rfl, HBI.out⟩, by simp [intOf]⟩
                  | exact ⟨⟨3, by decide, rfl, rfl, HBI.out⟩, by simp [intOf]⟩
                  | exact ⟨⟨4, by decide, rfl, rfl, HBI.out⟩, by simp [intOf]⟩
                  | exact ⟨⟨5, by decide, rfl, rfl, HBI.out⟩, by simp [intOf]⟩
                  | exact ⟨⟨6, by decide, rfl, rfl, HBI.out⟩, by simp [intOf]⟩
            · obtain rfl : c = 6 := by omega
              have hsum := HSUM.out
              have hne : ((K + s1 + s3 + s4 + s5 : Int) != R) = false := by simp; omega
              clear hsum
              simp only [partS]
              go_wp2_with fail
              exact ⟨⟨k + 1, FS6, hlt, by go_num, by rw [HYE2.out, HK2.out], by rw [HYE2.out]; exact HAS7.out.below HBI.out⟩, by simp [intOf]; omega⟩
      · obtain rfl : k = l.length := by omega
        have HBW := Lib.hid has.be
        clear has
        go_wp2_with fail
        go_ret
        exact ⟨rfl, HBW.out⟩
end Go.Proofs.YtejhcbbfdfnfdaaGreatDoor.Yard

/-
  YardAdds: in every state that a list of facts leads to, the volume of all blocks is the sum of the volumes of the states and the kerfs, the kerfs are those of the cuts, and no volume is negative: the law returns true for every list of facts, and the list reads afterwards as it read before. Conditions: the row's own (the listed variables of Go's library hold what the program's text lays).
-/
namespace Go.Proofs.YtejhcbbfdfnfdaaGreatDoor.AddsRow
open Go.ChangeShapes Go.WideShapes Go.ChangeAt Go.RowKit Go.Proofs.YtejhcbbfdfnfdaaGreatDoor.Yard
set_option maxRecDepth 100000 in
theorem contract (H : Type) (enc : TypeId × Value → H) (W : World) (base : Nat) (args : Array Value) (ds gs : List (DataW H)) (before : List MemPlace)
    (hval : ∀ (j : Nat) t v, Tryz.f5.params[j]? = some t → args[j]? = some v → Value.okWide Tryz.prog W .any base t v)
    (hW : DataW.Whole enc Tryz.prog Tryz.f5.params.toList Rows.yardAddsSpec.vars false W args.toList ds gs before) (hL : laidMetH Tryz.prog Rows.yardAddsRow.laid W) (hsh : W.ShapedOpen Tryz.prog) :
    Calls Tryz.prog 5 args W fun e W' => ∃ v, e = .returned v ∧ Rows.yardAddsSpec.post enc Tryz.prog Tryz.f5 false true false false W args v W' := by
  have hW' := hW
  obtain ⟨p, q, hA0, hV, rfl, hfz, hnd⟩ := hW
  have hA : DataW.TrodAll enc Tryz.prog W 0 (fun _ => true) true Tryz.f5.params.toList args.toList ds p := hA0
  rw [Tryz.params5] at hA hval
  obtain ⟨v0, vs0, d0, ds0, p0, q0, hargs, rfl, rfl, h0, r0⟩ := trodAll_cons hA
  obtain ⟨rfl, rfl, rfl⟩ := trodAll_nil r0
  obtain rfl : args = #[v0] := by cases args; simp_all
  obtain ⟨rfl, rfl⟩ := trodVars_none hV
  obtain ⟨a0, len0, cap0, rfl⟩ := okWide_slice Tryz.underlying22 (hval 0 22 v0 rfl rfl)
  have k0 := h0
  have lt0 : ∀ x ∈ p0, x.block < W.heap.size := by obtain ⟨m, hm⟩ := k0; exact DataW.trod_lt m _ _ _ hm
  obtain ⟨fuel, hf⟩ := h0
  obtain ⟨l, hl, _⟩ := fls_of_trod hf
  refine (adds_any (env_of hL hsh) hl).mono fun e W' ⟨he, bel⟩ => ?_
  subst he
  simp only [List.append_nil] at hW'
  exact ⟨_, rfl, _, _, _, [], _, [], hW', trodAll_mk1 (shut_bool Tryz.underlying4 _), trodAll_mk1 (Below.trod laidOut (by kernel_rfl) (of_decide_eq_true (by kernel_rfl)) k0 bel lt0), rfl, bel.frame _, fun h => by cases h⟩
theorem laid_met (os : Os) (args : Array Value) : laidMetH Tryz.prog Rows.yardAddsRow.laid ((World.laidAll Tryz.prog os Rows.yardAddsRow.laid).forCall (fun _ _ => 0) ⟨#[], args, []⟩).memory := by
  rw [MakeChecks.laidMetH_plain _ _ _ (by kernel_rfl)]
  exact laidMet_laidAll _ (by kernel_rfl) (by kernel_rfl)
theorem reads (os : Os) {H : Type} (enc : TypeId × Value → H) : ∃ places, DataW.whole enc Tryz.prog ((World.laidAll Tryz.prog os Rows.yardAddsRow.laid).forCall (fun _ _ => 0) ⟨#[], #[.slice none 0 0], []⟩).memory Tryz.f5.params.toList Rows.yardAddsSpec.vars false #[Value.slice none 0 0].toList 8 = some ([.nil], [], places) :=
  ⟨[], by kernel_rfl⟩
set_option maxRecDepth 100000 in
theorem lifted (os : Os) (started : os.Started) (H : Type) (enc : TypeId × Value → H) (F : Stop.Interp) :
    ReturnsInHanded {} Tryz.checked os 5 .any ((OpenSpec.ofChange Rows.yardAddsSpec).preRow enc Tryz.prog Tryz.f5 Rows.yardAddsRow.domain false Rows.yardAddsRow.laid) (((OpenSpec.ofChange Rows.yardAddsSpec).at F).post enc Tryz.prog Tryz.f5 false true false false) := by
  obtain ⟨places, hx⟩ := reads os enc
  refine returnsInHanded_of_row (C := Tryz.checked) (s := OpenSpec.ofChange Rows.yardAddsSpec) own started (by kernel_rfl) Tryz.func5
    (witness_row_at (enc := enc) (C := Tryz.checked) false (World.laidAll Tryz.prog os Rows.yardAddsRow.laid) #[.slice none 0 0] (World.laidAll_os _ _ _) (by kernel_rfl) (by kernel_rfl) (by kernel_rfl)
      (OpenSpec.preRow_of_cond 8 hx (by kernel_rfl) (fun k hk => by cases hk) (by kernel_rfl) (laid_met os _))) ?_
  intro W base args ds gs before hval hW _ _ _ hL hsh _
  exact contract H enc W base args ds gs before hval hW hL hsh
theorem said : Rows.YardAddsSaid :=
  OpenClaim.holds_of_cond 5 Tryz.f5 rfl rfl rfl rfl rfl rfl rfl ⟨rfl, rfl, rfl, rfl, rfl⟩ rfl rfl rfl rfl rfl (by kernel_rfl) Tryz.func5 (by kernel_rfl)
    (of_decide_eq_true (by kernel_rfl)) (by unfold Func.isWrapper; first | (rw [if_pos (by decide +kernel)]; kernel_rfl) | (rw [if_neg (by decide +kernel)]; exact ⟨rfl, rfl⟩))
    (fun os started H enc _ F => by rw [OpenClaim.pre_eq_preRow]; exact lifted os started H enc F)
theorem plain (f : FuncId) (fn : Func) (hf : Tryz.pinned.checked.prog.funcNamed "gangsaw/gangsawlaw59.YardAdds" = some f) (hfn : Tryz.pinned.checked.prog.funcs[f]? = some fn) :
    true = Tryz.pinned.checked.prog.looks [] ∧ ∀ (j : Nat) t, fn.params[j]? = some t → Tryz.pinned.checked.prog.wantsStandIn t = false := by
  obtain rfl : f = 5 := Option.some.inj ((show Tryz.prog.funcNamed "gangsaw/gangsawlaw59.YardAdds" = some 5 by kernel_rfl).symm.trans hf) |>.symm
  obtain rfl : fn = Tryz.f5 := (Option.some.inj (Tryz.func5.symm.trans hfn)).symm
  refine ⟨by kernel_rfl, fun j t ht => ?_⟩
  rw [Tryz.params5] at ht
  obtain rfl : t = 22 := by simpa using Array.mem_of_getElem? ht
  exact (show Tryz.prog.wantsStandIn 22 = false by kernel_rfl)
end Go.Proofs.YtejhcbbfdfnfdaaGreatDoor.AddsRow
namespace Go.Proofs.YtejhcbbfdfnfdaaGreatDoor
open Go
theorem yardAdds_holds : Rows.YardAddsCardSaid :=
  Claim7.holds_tied_plain_at .later [] _ _ _ _ AddsRow.said (fun _ h => by cases h) (by kernel_rfl) (fun _ h => by cases h) yardAdds_row_tie rfl ⟨rfl, rfl⟩ (by kernel_rfl) rfl AddsRow.plain (by kernel_rfl)
end Go.Proofs.YtejhcbbfdfnfdaaGreatDoor
