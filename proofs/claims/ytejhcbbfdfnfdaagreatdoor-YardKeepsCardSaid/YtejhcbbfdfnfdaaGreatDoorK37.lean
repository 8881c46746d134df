/-
  YardKeeps: a refused fact changes nothing, an item that is set stays as it is, no two items have the same stone, and the state is the replay of its facts: the law returns true for every list of facts, and the list reads afterwards as it read before. Conditions: the row's own (the listed variables of Go's library hold what the program's text lays).
-/
import Derived.Test.YtejhcbbfdfnfdaaGreatDoorK36
import Derived.Deep.QuietTactic
import Derived.BigQuiet
import Derived.Test.YtejhcbbfdfnfdaaGreatDoorK26
import Derived.Deep.DeepHandedRow
import Derived.Lay
import Derived.SevenTiedAt
/- YardKeeps. -/
namespace Go.Proofs.YtejhcbbfdfnfdaaGreatDoor.Yard
open Go.RowKit Go.Proofs.YtejhcbbfdfnfdaaGreatDoor.Base Go.Proofs.YtejhcbbfdfnfdaaGreatDoor.Mp
open Yp (It Yd Fact Bx)
set_option maxRecDepth 100000 in
set_option maxHeartbeats 16000000 in
theorem keeps_any {w : World} (hE : Env w) {X : Nat → Prop} {v : Value} {l : List Fact} (hv : FLs w X v l) :
    Calls Tryz.prog 6 #[v] w fun e w' => e = .returned (.bool true) ∧ Below w.heap.size w w' := by
  have haw := awake_any hE
  have HV := Lib.hid hv
  have HE := Lib.hid hE
  clear hE hv
  go_enter Tryz.func6, Tryz.ntmps6
  go_wp2_with fail
  refine haw.mono ?_; rintro e w1 ⟨rfl, hb1⟩
  have HB1 := Lib.hid hb1
  have hsm := small_any (HV.out.below hb1) 30 (by decide)
  clear haw hb1
  cases hs : smallL l 30 with
  | false =>
    rw [hs] at hsm
    clear hs
    go_wp2_with fail
    refine hsm.mono ?_; rintro e w2 ⟨rfl, rfl⟩
    clear hsm
    go_wp2_with fail
    go_ret
    exact ⟨rfl, HB1.out⟩
  | true =>
    obtain ⟨hshort, hlen⟩ := small_short hs
    rw [hs] at hsm
    have HLENS := Lib.hid (small_lens hs)
    have HS := Lib.hid hshort
    clear hs hshort
    go_wp2_with fail
    refine hsm.mono ?_; rintro e w2 ⟨rfl, rfl⟩
    clear hsm
    have hnew := new_own w2
    go_wp2_with fail
    refine hnew.mono ?_; rintro e w3 ⟨Y, M, rfl, hy3, hb3⟩
    obtain ⟨FS0, has⟩ := as_new HB1.out hy3 hb3
    have HAS0 := Lib.hid has
    clear hnew hy3 hb3 HB1 has
    obtain ⟨A, c, hve, hc, _⟩ := id HV.out
    subst hve
    go_wp2_with fail
    go_loopw [4, 5] (fun dv i wr => ∃ (k : Nat) (FS : Value), k ≤ l.length ∧ i = .int .i64 k ∧ dv = .int .i64 ((Yp.steps Yp.yNew (l.take k)).facts.length : Nat) ∧ AS w Y M FS (Yp.steps Yp.yNew (l.take k)) wr) (fun _ i _ => l.length - (intOf i).toNat)
    case atStart => exact ⟨0, FS0, by omega, rfl, rfl, HAS0.out⟩
    case round =>
      obtain ⟨k, FS, hk, rfl, rfl, has⟩ := hrel
      by_cases hlt : k < l.length
      · have HINV : Hid (Yp.Inv (Yp.steps Yp.yNew (l.take k))) := Lib.hid (Yp.inv_steps _ Yp.inv_new)
        have HINV2 : Hid (Yp.Inv (Yp.steps Yp.yNew (l.take (k + 1)))) := Lib.hid (Yp.inv_steps _ Yp.inv_new)
        have hbd := yd_bound l k (by omega)
        have HB2 := Lib.hid (yd_bound l (k + 1) (by omega)).1
        have hit := items_any sort_said has.yat (by omega)
        go_wp2_with fail
        refine hit.mono ?_; rintro e w5 ⟨vi, li, rfl, hperm, hsort, hrow, hb5⟩
        obtain ⟨Ai, ci, rfl, hrem⟩ := irow_rem hrow has
        have has5 := has.below hb5
        obtain ⟨b, o, c', nv, vv, ev, hcells, hdo⟩ := do_step2 HV.out (by omega) HS.out hlt has5
        injection ev with ev1 _ ev2
        subst ev1 ev2
        obtain ⟨e0, e1, e2, _, _⟩ := hcells w5 has5.be
        have HSTEP : Hid (Yp.steps Yp.yNew (l.take (k + 1)) = Yp.step (Yp.steps Yp.yNew (l.take k)) l[k]) := Lib.hid (by rw [List.take_succ_eq_append_getElem hlt, Yp.steps_snoc])
        have HREM := Lib.hid hrem
        have HPERM := Lib.hid hperm
        have HSORT := Lib.hid hsort
        have HLI : Hid (li.length ≤ 4000) := Lib.hid (by rw [hperm.length_eq]; omega)
        have hfb := hbd.2
        clear hit hrow hb5 has has5 hcells hrem hperm hsort hbd
        generalize l[k] = f at *
        generalize hye2 : Yp.steps Yp.yNew (l.take (k + 1)) = y2 at *
        have HYE2 := Lib.hid hye2
        clear hye2
        generalize Yp.steps Yp.yNew (l.take k) = y at *
        go_wp2_with fail
        refine hdo.mono ?_; rintro e w6 ⟨rfl, FS6, has6, hremd⟩
        have HAS6 := Lib.hid has6
        have HREMD := Lib.hid hremd
        clear hdo has6 hremd e0 e1 e2
        by_cases hc0 : Yp.check y f = 0
        · have HD2 : Hid (y2.facts.length = y.facts.length + 1) := Lib.hid (by rw [HSTEP.out, Yp.step_facts hc0]; simp)
          rw [hc0]
          clear hc0
          generalize y.facts.length = D at *
          have HBA : Hid (Below w6.heap.size w6 w6) := Lib.hid (Below.refl _ _)
          go_wp2_with fail
          go_loopw [9] (fun i wi => ∃ m : Nat, m ≤ li.length ∧ i = .int .i64 m ∧ Below w6.heap.size w6 wi) (fun i _ => li.length - (intOf i).toNat)
          case atStart => exact ⟨0, by omega, rfl, by first | exact HBA.out | exact (HBA.out).drew | exact below_drewN (HBA.out) _⟩
          case round =>
            obtain ⟨m, hm, rfl, hbi⟩ := hrel
            have HBI := Lib.hid hbi
            have hli := HLI.out
            by_cases hlt2 : m < li.length
            · obtain ⟨g, cur, rfl, hrg, hat⟩ := HREM.out (by omega)
              have HRG := Lib.hid (HREMD.out _ _ hrg)
              have HAT := Lib.hid hat
              have HLZ : Hid (li[m]? = some li[m]) := Lib.hid (List.getElem?_eq_getElem hlt2)
              obtain ⟨u, hlu, hst⟩ := kept_look HINV.out f (HPERM.out.mem_iff.1 (List.getElem_mem hlt2))
              rw [← HSTEP.out] at hlu
              have hfi := find_found (HAS6.out.below hbi).yat hlu
              rw [show itC u = #[.string u.id, .string u.par, .int .i64 u.bx.x0, .int .i64 u.bx.y0, .int .i64 u.bx.z0, .int .i64 u.bx.x1, .int .i64 u.bx.y1, .int .i64 u.bx.z1, .int .i64 u.st, .string u.stone] from rfl] at hfi
              clear hrg hat hlu
              generalize li[m] = z at *
              obtain ⟨z0, z1, z2, z3, z4, z5, z6, z7, z8, z9⟩ := HAT.out wr (row_after hbi HRG.out.row) m z HLZ.out
              clear hbi
              by_cases hz4 : z.st = 4
              · obtain rfl := hst hz4
                have hq : (u.st == 4) = true := by simp [hz4]
                clear hst hz4
                go_wp2_with fail
                refine hfi.mono ?_; rintro e w8 ⟨rfl, hb8⟩
                have HR8 := Lib.hid (new_block w8 (.cells #[.string u.id, .string u.par, .int .i64 u.bx.x0, .int .i64 u.bx.y0, .int .i64 u.bx.z0, .int .i64 u.bx.x1, .int .i64 u.bx.y1, .int .i64 u.bx.z1, .int .i64 u.st, .string u.stone] 47))
                have HBI := Lib.hid (HBI.out.trans ((hb8.trans ((al_below w8 (.cells #[.string u.id, .string u.par, .int .i64 u.bx.x0, .int .i64 u.bx.y0, .int .i64 u.bx.z0, .int .i64 u.bx.x1, .int .i64 u.bx.y1, .int .i64 u.bx.z1, .int .i64 u.st, .string u.stone] 47)).mono hb8.size)).mono HBI.out.size))
                clear hfi hb8 z0 z1 z2 z3 z4 z5 z6 z7 z8 z9
                go_wp2_with fail
                generalize w8.alloc (.cells #[.string u.id, .string u.par, .int .i64 u.bx.x0, .int .i64 u.bx.y0, .int .i64 u.bx.z0, .int .i64 u.bx.x1, .int .i64 u.bx.y1, .int .i64 u.bx.z1, .int .i64 u.st, .string u.stone] 47) = wr at *
                obtain ⟨z0, z1, z2, z3, z4, z5, z6, z7, z8, z9⟩ := HAT.out wr (row_after HBI.out HRG.out.row) m u HLZ.out
                have u0 := (row_cells HR8.out).1 0
                have u1 := (row_cells HR8.out).1 1
                have u2 := (row_cells HR8.out).1 2
                have u3 := (row_cells HR8.out).1 3
                have u4 := (row_cells HR8.out).1 4
                have u5 := (row_cells HR8.out).1 5
                have u6 := (row_cells HR8.out).1 6
                have u7 := (row_cells HR8.out).1 7
                have u8 := (row_cells HR8.out).1 8
                have u9 := (row_cells HR8.out).1 9
                go_quiet (fail)
                go_wp2_with fail
                exact ⟨⟨m + 1, by omega, by go_num, by first | exact HBI.out | exact (HBI.out).drew | exact below_drewN (HBI.out) _⟩, by simp [intOf]; omega⟩
              · have hq : (z.st == 4) = false := by simpa using hz4
                clear hst hz4
                go_wp2_with fail
                refine hfi.mono ?_; rintro e w8 ⟨rfl, hb8⟩
                have HR8 := Lib.hid (new_block w8 (.cells #[.string u.id, .string u.par, .int .i64 u.bx.x0, .int .i64 u.bx.y0, .int .i64 u.bx.z0, .int .i64 u.bx.x1, .int .i64 u.bx.y1, .int .i64 u.bx.z1, .int .i64 u.st, .string u.stone] 47))
                have HBI := Lib.hid (HBI.out.trans ((hb8.trans ((al_below w8 (.cells #[.string u.id, .string u.par, .int .i64 u.bx.x0, .int .i64 u.bx.y0, .int .i64 u.bx.z0, .int .i64 u.bx.x1, .int .i64 u.bx.y1, .int .i64 u.bx.z1, .int .i64 u.st, .string u.stone] 47)).mono hb8.size)).mono HBI.out.size))
                clear hfi hb8 z0 z1 z2 z3 z4 z5 z6 z7 z8 z9
                go_wp2_with fail
                generalize w8.alloc (.cells #[.string u.id, .string u.par, .int .i64 u.bx.x0, .int .i64 u.bx.y0, .int .i64 u.bx.z0, .int .i64 u.bx.x1, .int .i64 u.bx.y1, .int .i64 u.bx.z1, .int .i64 u.st, .string u.stone] 47) = wr at *
                obtain ⟨z0, z1, z2, z3, z4, z5, z6, z7, z8, z9⟩ := HAT.out wr (row_after HBI.out HRG.out.row) m z HLZ.out
                have u0 := (row_cells HR8.out).1 0
                have u1 := (row_cells HR8.out).1 1
                have u2 := (row_cells HR8.out).1 2
                have u3 := (row_cells HR8.out).1 3
                have u4 := (row_cells HR8.out).1 4
                have u5 := (row_cells HR8.out).1 5
                have u6 := (row_cells HR8.out).1 6
                have u7 := (row_cells HR8.out).1 7
                have u8 := (row_cells HR8.out).1 8
                have u9 := (row_cells HR8.out).1 9
                go_quiet (fail)
                go_wp2_with fail
                exact ⟨⟨m + 1, by omega, by go_num, by first | exact HBI.out | exact (HBI.out).drew | exact below_drewN (HBI.out) _⟩, by simp [intOf]; omega⟩
            · obtain rfl : m = li.length := by omega
              have hit9 := items_any sort_said (HAS6.out.below hbi).yat (by have := HB2.out; omega)
              have HAS9 := Lib.hid (HAS6.out.below hbi)
              clear hbi
              go_wp2_with fail
              refine hit9.mono ?_; rintro e w9 ⟨v9, l9, rfl, hperm9, _, hrow9, hb9⟩
              obtain ⟨A9, c9, rfl, hcells9⟩ := irow_slice hrow9
              have HAS9 := Lib.hid (HAS9.out.below hb9)
              have HC9 := Lib.hid hcells9
              have HP9 := Lib.hid hperm9
              have HL9 : Hid (l9.length ≤ 4000) := Lib.hid (by rw [hperm9.length_eq]; have := HB2.out; omega)
              clear hit9 hperm9 hrow9 hb9 hcells9
              go_wp2_with fail
              go_loopw [13] (fun i wi => ∃ m : Nat, m ≤ l9.length ∧ i = .int .i64 m ∧ Below w9.heap.size w9 wi) (fun i _ => l9.length - (intOf i).toNat)
              case atStart => exact ⟨0, by omega, rfl, by first | exact Below.refl _ _ | exact (Below.refl _ _).drew | exact below_drewN (Below.refl _ _) _⟩
              case round =>
                obtain ⟨m, hm, rfl, hbi⟩ := hrel
                have HBI := Lib.hid hbi
                have hli9 := HL9.out
                by_cases hlt2 : m < l9.length
                · obtain ⟨g, rfl, hgl, hx⟩ := HC9.out (by omega)
                  have HX := Lib.hid hx
                  have HLZ : Hid (l9[m]? = some l9[m]) := Lib.hid (List.getElem?_eq_getElem hlt2)
                  have HZM : Hid (l9[m] ∈ y2.items) := Lib.hid (HP9.out.mem_iff.1 (List.getElem_mem hlt2))
                  clear hx
                  generalize l9[m] = z at *
                  obtain ⟨z0, z1, z2, z3, z4, z5, z6, z7, z8, z9⟩ := HX.out wr hbi m z HLZ.out
                  have hyz := (HAS9.out.below hbi).yat
                  clear hbi
                  by_cases hs : z.stone = Yp.es
                  · have hp0 : z.stone.toList.isEmpty = true := by rw [(tl_nil _).2 hs]; rfl
                    clear hs hyz
                    go_wp2_with fail
                    exact ⟨⟨m + 1, by omega, by go_num, by first | exact HBI.out | exact (HBI.out).drew | exact below_drewN (HBI.out) _⟩, by simp [intOf]; omega⟩
                  · have hp0 : z.stone.toList.isEmpty = false := by
                      have := fun e => hs ((tl_nil _).1 e)
                      simpa using this
                    have hsto := stone_of hyz HINV2.out HZM.out hs
                    rw [show itC z = #[.string z.id, .string z.par, .int .i64 z.bx.x0, .int .i64 z.bx.y0, .int .i64 z.bx.z0, .int .i64 z.bx.x1, .int .i64 z.bx.y1, .int .i64 z.bx.z1, .int .i64 z.st, .string z.stone] from rfl] at hsto
                    clear hs hyz
                    go_wp2_with fail
                    refine hsto.mono ?_; rintro e w8 ⟨rfl, hb8⟩
                    have HR8 := Lib.hid (new_block w8 (.cells #[.string z.id, .string z.par, .int .i64 z.bx.x0, .int .i64 z.bx.y0, .int .i64 z.bx.z0, .int .i64 z.bx.x1, .int .i64 z.bx.y1, .int .i64 z.bx.z1, .int .i64 z.st, .string z.stone] 47))
                    have HBI := Lib.hid (HBI.out.trans ((hb8.trans ((al_below w8 (.cells #[.string z.id, .string z.par, .int .i64 z.bx.x0, .int .i64 z.bx.y0, .int .i64 z.bx.z0, .int .i64 z.bx.x1, .int .i64 z.bx.y1, .int .i64 z.bx.z1, .int .i64 z.st, .string z.stone] 47)).mono hb8.size)).mono HBI.out.size))
                    clear hsto hb8 z0 z1 z2 z3 z4 z5 z6 z7 z8 z9
                    go_wp2_with fail
                    generalize w8.alloc (.cells #[.string z.id, .string z.par, .int .i64 z.bx.x0, .int .i64 z.bx.y0, .int .i64 z.bx.z0, .int .i64 z.bx.x1, .int .i64 z.bx.y1, .int .i64 z.bx.z1, .int .i64 z.st, .string z.stone] 47) = wr at *
                    obtain ⟨z0, z1, z2, z3, z4, z5, z6, z7, z8, z9⟩ := HX.out wr HBI.out m z HLZ.out
                    have u0 := (row_cells HR8.out).1 0
                    have u1 := (row_cells HR8.out).1 1
                    have u2 := (row_cells HR8.out).1 2
                    have u3 := (row_cells HR8.out).1 3
                    have u4 := (row_cells HR8.out).1 4
                    have u5 := (row_cells HR8.out).1 5
                    have u6 := (row_cells HR8.out).1 6
                    have u7 := (row_cells HR8.out).1 7
                    have u8 := (row_cells HR8.out).1 8
                    have u9 := (row_cells HR8.out).1 9
                    go_quiet (fail)
                    go_wp2_with fail
                    exact ⟨⟨m + 1, by omega, by go_num, by first | exact HBI.out | exact (HBI.out).drew | exact below_drewN (HBI.out) _⟩, by simp [intOf]; omega⟩
                · obtain rfl : m = l9.length := by omega
                  have HASE := Lib.hid (HAS9.out.below hbi)
                  clear hbi
                  go_wp2_with fail
                  exact ⟨⟨k + 1, FS6, hlt, by go_num, by rw [HYE2.out, HD2.out] <;> go_num, by rw [HYE2.out]; exact HASE.out⟩, by simp [intOf]; omega⟩
        · have hce : (Yp.check y f == 0) = false := by simpa using hc0
          have hyy : y2 = y := by rw [HSTEP.out]; unfold Yp.step; rw [if_neg hc0]
          have HD2 : Hid (y2.facts.length = y.facts.length) := Lib.hid (by rw [hyy])
          have hit7 := items_any sort_said HAS6.out.yat (by have := HB2.out; omega)
          have HYY := Lib.hid hyy
          clear hc0 hyy
          generalize y.facts.length = D at *
          go_wp2_with fail
          refine hit7.mono ?_; rintro e w7 ⟨v7, l7, rfl, hperm7, hsort7, hrow7, hb7⟩
          obtain ⟨A7, c7, rfl, hcells7⟩ := irow_slice hrow7
          rw [HYY.out] at hperm7
          obtain rfl : li = l7 := sorted_eq HPERM.out hperm7 HSORT.out hsort7 HINV.out.uniq
          have HC7 := Lib.hid hcells7
          clear hit7 hperm7 hsort7 hrow7 hcells7 HYY
          go_wp2_with fail
          go_loopw [8] (fun i wi => ∃ m : Nat, m ≤ li.length ∧ i = .int .i64 m ∧ Below w7.heap.size w7 wi) (fun i _ => li.length - (intOf i).toNat)
          case atStart => exact ⟨0, by omega, rfl, by first | exact Below.refl _ _ | exact (Below.refl _ _).drew | exact below_drewN (Below.refl _ _) _⟩
          case round =>
            obtain ⟨m, hm, rfl, hbi⟩ := hrel
            have HBI := Lib.hid hbi
            have hli := HLI.out
            by_cases hlt2 : m < li.length
            · have HLZ : Hid (li[m]? = some li[m]) := Lib.hid (List.getElem?_eq_getElem hlt2)
              obtain ⟨g, cur, rfl, hrg, hat⟩ := HREM.out (by omega)
              obtain ⟨z0, z1, z2, z3, z4, z5, z6, z7, z8, z9⟩ := hat wr (row_after (hb7.trans (hbi.mono hb7.size)) (HREMD.out _ _ hrg).row) m li[m] HLZ.out
              obtain ⟨g2, rfl, _, hx⟩ := HC7.out (by omega)
              obtain ⟨t0, t1, t2, t3, t4, t5, t6, t7, t8, t9⟩ := hx wr hbi m li[m] HLZ.out
              clear hrg hat hx
              clear hbi
              generalize li[m] = z at *
              go_wp2_with fail
              go_quiet (fail)
              go_wp2_with fail
              exact ⟨⟨m + 1, by omega, by go_num, by first | exact HBI.out | exact (HBI.out).drew | exact below_drewN (HBI.out) _⟩, by simp [intOf]; omega⟩
            · obtain rfl : m = li.length := by omega
              have HBA := Lib.hid (hb7.trans (hbi.mono hb7.size))
              clear hbi
              go_wp2_with fail
              go_loopw [9] (fun i wi => ∃ m : Nat, m ≤ li.length ∧ i = .int .i64 m ∧ Below w6.heap.size w6 wi) (fun i _ => li.length - (intOf i).toNat)
              case atStart => exact ⟨0, by omega, rfl, by first | exact HBA.out | exact (HBA.out).drew | exact below_drewN (HBA.out) _⟩
              case round =>
                obtain ⟨m, hm, rfl, hbi⟩ := hrel
                have HBI := Lib.hid hbi
                have hli := HLI.out
                by_cases hlt2 : m < li.length
                · obtain ⟨g, cur, rfl, hrg, hat⟩ := HREM.out (by omega)
                  have HRG := Lib.hid (HREMD.out _ _ hrg)
                  have HAT := Lib.hid hat
                  have HLZ : Hid (li[m]? = some li[m]) := Lib.hid (List.getElem?_eq_getElem hlt2)
                  obtain ⟨u, hlu, hst⟩ := kept_look HINV.out f (HPERM.out.mem_iff.1 (List.getElem_mem hlt2))
                  rw [← HSTEP.out] at hlu
                  have hfi := find_found (HAS6.out.below hbi).yat hlu
                  rw [show itC u = #[.string u.id, .string u.par, .int .i64 u.bx.x0, .int .i64 u.bx.y0, .int .i64 u.bx.z0, .int .i64 u.bx.x1, .int .i64 u.bx.y1, .int .i64 u.bx.z1, .int .i64 u.st, .string u.stone] from rfl] at hfi
                  clear hrg hat hlu
                  generalize li[m] = z at *
                  obtain ⟨z0, z1, z2, z3, z4, z5, z6, z7, z8, z9⟩ := HAT.out wr (row_after hbi HRG.out.row) m z HLZ.out
                  clear hbi
                  by_cases hz4 : z.st = 4
                  · obtain rfl := hst hz4
                    have hq : (u.st == 4) = true := by simp [hz4]
                    clear hst hz4
                    go_wp2_with fail
                    refine hfi.mono ?_; rintro e w8 ⟨rfl, hb8⟩
                    have HR8 := Lib.hid (new_block w8 (.cells #[.string u.id, .string u.par, .int .i64 u.bx.x0, .int .i64 u.bx.y0, .int .i64 u.bx.z0, .int .i64 u.bx.x1, .int .i64 u.bx.y1, .int .i64 u.bx.z1, .int .i64 u.st, .string u.stone] 47))
                    have HBI := Lib.hid (HBI.out.trans ((hb8.trans ((al_below w8 (.cells #[.string u.id, .string u.par, .int .i64 u.bx.x0, .int .i64 u.bx.y0, .int .i64 u.bx.z0, .int .i64 u.bx.x1, .int .i64 u.bx.y1, .int .i64 u.bx.z1, .int .i64 u.st, .string u.stone] 47)).mono hb8.size)).mono HBI.out.size))
                    clear hfi hb8 z0 z1 z2 z3 z4 z5 z6 z7 z8 z9
                    go_wp2_with fail
                    generalize w8.alloc (.cells #[.string u.id, .string u.par, .int .i64 u.bx.x0, .int .i64 u.bx.y0, .int .i64 u.bx.z0, .int .i64 u.bx.x1, .int .i64 u.bx.y1, .int .i64 u.bx.z1, .int .i64 u.st, .string u.stone] 47) = wr at *
                    obtain ⟨z0, z1, z2, z3, z4, z5, z6, z7, z8, z9⟩ := HAT.out wr (row_after HBI.out HRG.out.row) m u HLZ.out
                    have u0 := (row_cells HR8.out).1 0
                    have u1 := (row_cells HR8.out).1 1
                    have u2 := (row_cells HR8.out).1 2
                    have u3 := (row_cells HR8.out).1 3
                    have u4 := (row_cells HR8.out).1 4
                    have u5 := (row_cells HR8.out).1 5
                    have u6 := (row_cells HR8.out).1 6
                    have u7 := (row_cells HR8.out).1 7
                    have u8 := (row_cells HR8.out).1 8
                    have u9 := (row_cells HR8.out).1 9
                    go_quiet (fail)
                    go_wp2_with fail
                    exact ⟨⟨m + 1, by omega, by go_num, by first | exact HBI.out | exact (HBI.out).drew | exact below_drewN (HBI.out) _⟩, by simp [intOf]; omega⟩
                  · have hq : (z.st == 4) = false := by simpa using hz4
                    clear hst hz4
                    go_wp2_with fail
                    refine hfi.mono ?_; rintro e w8 ⟨rfl, hb8⟩
                    have HR8 := Lib.hid (new_block w8 (.cells #[.string u.id, .string u.par, .int .i64 u.bx.x0, .int .i64 u.bx.y0, .int .i64 u.bx.z0, .int .i64 u.bx.x1, .int .i64 u.bx.y1, .int .i64 u.bx.z1, .int .i64 u.st, .string u.stone] 47))
                    have HBI := Lib.hid (HBI.out.trans ((hb8.trans ((al_below w8 (.cells #[.string u.id, .string u.par, .int .i64 u.bx.x0, .int .i64 u.bx.y0, .int .i64 u.bx.z0, .int .i64 u.bx.x1, .int .i64 u.bx.y1, .int .i64 u.bx.z1, .int .i64 u.st, .string u.stone] 47)).mono hb8.size)).mono HBI.out.size))
                    clear hfi hb8 z0 z1 z2 z3 z4 z5 z6 z7 z8 z9
                    go_wp2_with fail
                    generalize w8.alloc (.cells #[.string u.id, .string u.par, .int .i64 u.bx.x0, .int .i64 u.bx.y0, .int .i64 u.bx.z0, .int .i64 u.bx.x1, .int .i64 u.bx.y1, .int .i64 u.bx.z1, .int .i64 u.st, .string u.stone] 47) = wr at *
                    obtain ⟨z0, z1, z2, z3, z4, z5, z6, z7, z8, z9⟩ := HAT.out wr (row_after HBI.out HRG.out.row) m z HLZ.out
                    have u0 := (row_cells HR8.out).1 0
                    have u1 := (row_cells HR8.out).1 1
                    have u2 := (row_cells HR8.out).1 2
                    have u3 := (row_cells HR8.out).1 3
                    have u4 := (row_cells HR8.out).1 4
                    have u5 := (row_cells HR8.out).1 5
                    have u6 := (row_cells HR8.out).1 6
                    have u7 := (row_cells HR8.out).1 7
                    have u8 := (row_cells HR8.out).1 8
                    have u9 := (row_cells HR8.out).1 9
                    go_quiet (fail)
                    go_wp2_with fail
                    exact ⟨⟨m + 1, by omega, by go_num, by first | exact HBI.out | exact (HBI.out).drew | exact below_drewN (HBI.out) _⟩, by simp [intOf]; omega⟩
                · obtain rfl : m = li.length := by omega
                  have hit9 := items_any sort_said (HAS6.out.below hbi).yat (by have := HB2.out; omega)
                  have HAS9 := Lib.hid (HAS6.out.below hbi)
                  clear hbi
                  go_wp2_with fail
                  refine hit9.mono ?_; rintro e w9 ⟨v9, l9, rfl, hperm9, _, hrow9, hb9⟩
                  obtain ⟨A9, c9, rfl, hcells9⟩ := irow_slice hrow9
                  have HAS9 := Lib.hid (HAS9.out.below hb9)
                  have HC9 := Lib.hid hcells9
                  have HP9 := Lib.hid hperm9
                  have HL9 : Hid (l9.length ≤ 4000) := Lib.hid (by rw [hperm9.length_eq]; have := HB2.out; omega)
                  clear hit9 hperm9 hrow9 hb9 hcells9
                  go_wp2_with fail
                  go_loopw [13] (fun i wi => ∃ m : Nat, m ≤ l9.length ∧ i = .int .i64 m ∧ Below w9.heap.size w9 wi) (fun i _ => l9.length - (intOf i).toNat)
                  case atStart => exact ⟨0, by omega, rfl, by first | exact Below.refl _ _ | exact (Below.refl _ _).drew | exact below_drewN (Below.refl _ _) _⟩
                  case round =>
                    obtain ⟨m, hm, rfl, hbi⟩ := hrel
                    have HBI := Lib.hid hbi
                    have hli9 := HL9.out
                    by_cases hlt2 : m < l9.length
                    · obtain ⟨g, rfl, hgl, hx⟩ := HC9.out (by omega)
                      have HX := Lib.hid hx
                      have HLZ : Hid (l9[m]? = some l9[m]) := Lib.hid (List.getElem?_eq_getElem hlt2)
                      have HZM : Hid (l9[m] ∈ y2.items) := Lib.hid (HP9.out.mem_iff.1 (List.getElem_mem hlt2))
                      clear hx
                      generalize l9[m] = z at *
                      obtain ⟨z0, z1, z2, z3, z4, z5, z6, z7, z8, z9⟩ := HX.out wr hbi m z HLZ.out
                      have hyz := (HAS9.out.below hbi).yat
                      clear hbi
                      by_cases hs : z.stone = Yp.es
                      · have hp0 : z.stone.toList.isEmpty = true := by rw [(tl_nil _).2 hs]; rfl
                        clear hs hyz
                        go_wp2_with fail
                        exact ⟨⟨m + 1, by omega, by go_num, by first | exact HBI.out | exact (HBI.out).drew | exact below_drewN (HBI.out) _⟩, by simp [intOf]; omega⟩
                      · have hp0 : z.stone.toList.isEmpty = false := by
                          have := fun e => hs ((tl_nil _).1 e)
                          simpa using this
                        have hsto := stone_of hyz HINV2.out HZM.out hs
                        rw [show itC z = #[.string z.id, .string z.par, .int .i64 z.bx.x0, .int .i64 z.bx.y0, .int .i64 z.bx.z0, .int .i64 z.bx.x1, .int .i64 z.bx.y1, .int .i64 z.bx.z1, .int .i64 z.st, .string z.stone] from rfl] at hsto
                        clear hs hyz
                        go_wp2_with fail
                        refine hsto.mono ?_; rintro e w8 ⟨rfl, hb8⟩
                        have HR8 := Lib.hid (new_block w8 (.cells #[.string z.id, .string z.par, .int .i64 z.bx.x0, .int .i64 z.bx.y0, .int .i64 z.bx.z0, .int .i64 z.bx.x1, .int .i64 z.bx.y1, .int .i64 z.bx.z1, .int .i64 z.st, .string z.stone] 47))
                        have HBI := Lib.hid (HBI.out.trans ((hb8.trans ((al_below w8 (.cells #[.string z.id, .string z.par, .int .i64 z.bx.x0, .int .i64 z.bx.y0, .int .i64 z.bx.z0, .int .i64 z.bx.x1, .int .i64 z.bx.y1, .int .i64 z.bx.z1, .int .i64 z.st, .string z.stone] 47)).mono hb8.size)).mono HBI.out.size))
                        clear hsto hb8 z0 z1 z2 z3 z4 z5 z6 z7 z8 z9
                        go_wp2_with fail
                        generalize w8.alloc (.cells #[.string z.id, .string z.par, .int .i64 z.bx.x0, .int .i64 z.bx.y0, .int .i64 z.bx.z0, .int .i64 z.bx.x1, .int .i64 z.bx.y1, .int .i64 z.bx.z1, .int .i64 z.st, .string z.stone] 47) = wr at *
                        obtain ⟨z0, z1, z2, z3, z4, z5, z6, z7, z8, z9⟩ := HX.out wr HBI.out m z HLZ.out
                        have u0 := (row_cells HR8.out).1 0
                        have u1 := (row_cells HR8.out).1 1
                        have u2 := (row_cells HR8.out).1 2
                        have u3 := (row_cells HR8.out).1 3
                        have u4 := (row_cells HR8.out).1 4
                        have u5 := (row_cells HR8.out).1 5
                        have u6 := (row_cells HR8.out).1 6
                        have u7 := (row_cells HR8.out).1 7
                        have u8 := (row_cells HR8.out).1 8
                        have u9 := (row_cells HR8.out).1 9
                        go_quiet (fail)
                        go_wp2_with fail
                        exact ⟨⟨m + 1, by omega, by go_num, by first | exact HBI.out | exact (HBI.out).drew | exact below_drewN (HBI.out) _⟩, by simp [intOf]; omega⟩
                    · obtain rfl : m = l9.length := by omega
                      have HASE := Lib.hid (HAS9.out.below hbi)
                      clear hbi
                      go_wp2_with fail
                      exact ⟨⟨k + 1, FS6, hlt, by go_num, by rw [HYE2.out, HD2.out] <;> go_num, by rw [HYE2.out]; exact HASE.out⟩, by simp [intOf]; omega⟩
      · obtain rfl : k = l.length := by omega
        rw [List.take_length] at has ⊢
        have hbd := yd_bound l l.length (by omega)
        rw [List.take_length] at hbd
        have HINV : Hid (Yp.Inv (Yp.steps Yp.yNew l)) := Lib.hid (Yp.inv_steps _ Yp.inv_new)
        have hsub : ∀ f ∈ (Yp.steps Yp.yNew l).facts, f ∈ l := fun f hf => (facts_sub l Yp.yNew f hf).resolve_left (fun h => absurd h List.not_mem_nil)
        have hfa := facts_any has.yat hbd.2 (fun f hf => HLENS.out f (hsub f hf))
        have hfs : shortNames (Yp.steps Yp.yNew l).facts := fun f hf => HS.out f (hsub f hf)
        have hfle := Yp.facts_le l Yp.yNew
        have hf0 : Yp.yNew.facts.length = 0 := rfl
        have hfl : (Yp.steps Yp.yNew l).facts.length ≤ 1000 := by omega
        have HFS := Lib.hid hfs
        have HREP := Lib.hid (rep_own l)
        have HAS := Lib.hid has
        have hil := hbd.1
        clear has hsub hfs hfle hf0 hbd
        generalize Yp.steps Yp.yNew l = y at *
        go_wp2_with fail
        refine hfa.mono ?_; rintro e w5 ⟨v5, rfl, hfl5, hb5⟩
        have hre := replay_any hfl5 (by omega) HFS.out
        rw [HREP.out] at hre
        obtain ⟨A5, c5, rfl, _, _⟩ := id hfl5
        have HAS := Lib.hid (HAS.out.below hb5)
        clear hfa hfl5 hb5 HFS HREP
        go_wp2_with fail
        refine hre.mono ?_; rintro e w6 ⟨Z, N, rfl, hz6, hb6⟩
        have HAS := Lib.hid (HAS.out.below hb6)
        have HZ := Lib.hid hz6
        have hit7 := items_any sort_said HAS.out.yat (by omega)
        clear hre hz6 hb6
        generalize y.facts.length = D at *
        go_wp2_with fail
        refine hit7.mono ?_; rintro e w7 ⟨v7, l7, rfl, hperm7, hsort7, hrow7, hb7⟩
        obtain ⟨A7, c7, rfl, hcells7⟩ := irow_slice hrow7
        have HAS := Lib.hid (HAS.out.below hb7)
        have HZ := Lib.hid (HZ.out.below hb7)
        obtain ⟨⟨FZ, hyz, _⟩, _, _⟩ := HZ.out
        have hit8 := items_any sort_said hyz (by omega)
        have HC7 := Lib.hid hcells7
        clear hit7 hrow7 hb7 hcells7 hyz
        go_wp2_with fail
        refine hit8.mono ?_; rintro e w8 ⟨v8, l8, rfl, hperm8, hsort8, hrow8, hb8⟩
        obtain ⟨A8, c8, rfl, hcells8⟩ := irow_slice hrow8
        obtain rfl : l8 = l7 := sorted_eq hperm8 hperm7 hsort8 hsort7 HINV.out.uniq
        have HC8 := Lib.hid hcells8
        have HB8 := Lib.hid (HAS.out.be.trans (hb8.mono HAS.out.be.size))
        have HLI : Hid (l8.length ≤ 4000) := Lib.hid (by rw [hperm8.length_eq]; omega)
        clear hit8 hrow8 hcells8 hperm8 hsort8 hperm7 hsort7
        go_wp2_with fail
        go_loopw [21] (fun i wi => ∃ m : Nat, m ≤ l8.length ∧ i = .int .i64 m ∧ Below w8.heap.size w8 wi) (fun i _ => l8.length - (intOf i).toNat)
        case atStart => exact ⟨0, by omega, rfl, by first | exact Below.refl _ _ | exact (Below.refl _ _).drew | exact below_drewN (Below.refl _ _) _⟩
        case round =>
          obtain ⟨m, hm, rfl, hbi⟩ := hrel
          have HBI := Lib.hid hbi
          have hli := HLI.out
          by_cases hlt2 : m < l8.length
          · have HLZ : Hid (l8[m]? = some l8[m]) := Lib.hid (List.getElem?_eq_getElem hlt2)
            obtain ⟨g, rfl, hgl, hx⟩ := HC7.out (by omega)
            obtain ⟨z0, z1, z2, z3, z4, z5, z6, z7, z8, z9⟩ := hx wr (hb8.trans (hbi.mono hb8.size)) m l8[m] HLZ.out
            clear hx
            obtain ⟨g2, rfl, hgl2, hx2⟩ := HC8.out (by omega)
            obtain ⟨t0, t1, t2, t3, t4, t5, t6, t7, t8, t9⟩ := hx2 wr hbi m l8[m] HLZ.out
            clear hx2
            clear hbi
            generalize l8[m] = z at *
            go_wp2_with fail
            go_quiet (fail)
            go_wp2_with fail
            exact ⟨⟨m + 1, by omega, by go_num, by first | exact HBI.out | exact (HBI.out).drew | exact below_drewN (HBI.out) _⟩, by simp [intOf]; omega⟩
          · obtain rfl : m = l8.length := by omega
            have HBW := Lib.hid (HB8.out.trans (hbi.mono HB8.out.size))
            clear hbi
            go_wp2_with fail
            go_ret
            exact ⟨rfl, HBW.out⟩
end Go.Proofs.YtejhcbbfdfnfdaaGreatDoor.Yard

/-
  YardKeeps: a refused fact changes nothing, an item that is set stays as it is, no two items have the same stone, and the state is the replay of its facts: the law returns true for every list of facts, and the list reads afterwards as it read before. Conditions: the row's own (the listed variables of Go's library hold what the program's text lays).
-/
namespace Go.Proofs.YtejhcbbfdfnfdaaGreatDoor.KeepsRow
open Go.ChangeShapes Go.WideShapes Go.ChangeAt Go.RowKit Go.Proofs.YtejhcbbfdfnfdaaGreatDoor.Yard
set_option maxRecDepth 100000 in
theorem contract (H : Type) (enc : TypeId × Value → H) (W : World) (base : Nat) (args : Array Value) (ds gs : List (DataW H)) (before : List MemPlace)
    (hval : ∀ (j : Nat) t v, Tryz.f6.params[j]? = some t → args[j]? = some v → Value.okWide Tryz.prog W .any base t v)
    (hW : DataW.Whole enc Tryz.prog Tryz.f6.params.toList Rows.yardKeepsSpec.vars false W args.toList ds gs before) (hL : laidMetH Tryz.prog Rows.yardKeepsRow.laid W) (hsh : W.ShapedOpen Tryz.prog) :
    Calls Tryz.prog 6 args W fun e W' => ∃ v, e = .returned v ∧ Rows.yardKeepsSpec.post enc Tryz.prog Tryz.f6 false true false false W args v W' := by
  have hW' := hW
  obtain ⟨p, q, hA0, hV, rfl, hfz, hnd⟩ := hW
  have hA : DataW.TrodAll enc Tryz.prog W 0 (fun _ => true) true Tryz.f6.params.toList args.toList ds p := hA0
  rw [Tryz.params6] at hA hval
  obtain ⟨v0, vs0, d0, ds0, p0, q0, hargs, rfl, rfl, h0, r0⟩ := trodAll_cons hA
  obtain ⟨rfl, rfl, rfl⟩ := trodAll_nil r0
  obtain rfl : args = #[v0] := by cases args; simp_all
  obtain ⟨rfl, rfl⟩ := trodVars_none hV
  obtain ⟨a0, len0, cap0, rfl⟩ := okWide_slice Tryz.underlying22 (hval 0 22 v0 rfl rfl)
  have k0 := h0
  have lt0 : ∀ x ∈ p0, x.block < W.heap.size := by obtain ⟨m, hm⟩ := k0; exact DataW.trod_lt m _ _ _ hm
  obtain ⟨fuel, hf⟩ := h0
  obtain ⟨l, hl, _⟩ := fls_of_trod hf
  refine (keeps_any (env_of hL hsh) hl).mono fun e W' ⟨he, bel⟩ => ?_
  subst he
  simp only [List.append_nil] at hW'
  exact ⟨_, rfl, _, _, _, [], _, [], hW', trodAll_mk1 (shut_bool Tryz.underlying4 _), trodAll_mk1 (Below.trod laidOut (by kernel_rfl) (of_decide_eq_true (by kernel_rfl)) k0 bel lt0), rfl, bel.frame _, fun h => by cases h⟩
theorem laid_met (os : Os) (args : Array Value) : laidMetH Tryz.prog Rows.yardKeepsRow.laid ((World.laidAll Tryz.prog os Rows.yardKeepsRow.laid).forCall (fun _ _ => 0) ⟨#[], args, []⟩).memory := by
  rw [MakeChecks.laidMetH_plain _ _ _ (by kernel_rfl)]
  exact laidMet_laidAll _ (by kernel_rfl) (by kernel_rfl)
theorem reads (os : Os) {H : Type} (enc : TypeId × Value → H) : ∃ places, DataW.whole enc Tryz.prog ((World.laidAll Tryz.prog os Rows.yardKeepsRow.laid).forCall (fun _ _ => 0) ⟨#[], #[.slice none 0 0], []⟩).memory Tryz.f6.params.toList Rows.yardKeepsSpec.vars false #[Value.slice none 0 0].toList 8 = some ([.nil], [], places) :=
  ⟨[], by kernel_rfl⟩
set_option maxRecDepth 100000 in
theorem lifted (os : Os) (started : os.Started) (H : Type) (enc : TypeId × Value → H) (F : Stop.Interp) :
    ReturnsInHanded {} Tryz.checked os 6 .any ((OpenSpec.ofChange Rows.yardKeepsSpec).preRow enc Tryz.prog Tryz.f6 Rows.yardKeepsRow.domain false Rows.yardKeepsRow.laid) (((OpenSpec.ofChange Rows.yardKeepsSpec).at F).post enc Tryz.prog Tryz.f6 false true false false) := by
  obtain ⟨places, hx⟩ := reads os enc
  refine returnsInHanded_of_row (C := Tryz.checked) (s := OpenSpec.ofChange Rows.yardKeepsSpec) own started (by kernel_rfl) Tryz.func6
    (witness_row_at (enc := enc) (C := Tryz.checked) false (World.laidAll Tryz.prog os Rows.yardKeepsRow.laid) #[.slice none 0 0] (World.laidAll_os _ _ _) (by kernel_rfl) (by kernel_rfl) (by kernel_rfl)
      (OpenSpec.preRow_of_cond 8 hx (by kernel_rfl) (fun k hk => by cases hk) (by kernel_rfl) (laid_met os _))) ?_
  intro W base args ds gs before hval hW _ _ _ hL hsh _
  exact contract H enc W base args ds gs before hval hW hL hsh
theorem said : Rows.YardKeepsSaid :=
  OpenClaim.holds_of_cond 6 Tryz.f6 rfl rfl rfl rfl rfl rfl rfl ⟨rfl, rfl, rfl, rfl, rfl⟩ rfl rfl rfl rfl rfl (by kernel_rfl) Tryz.func6 (by kernel_rfl)
    (of_decide_eq_true (by kernel_rfl)) (by unfold Func.isWrapper; first | (rw [if_pos (by decide +kernel)]; kernel_rfl) | (rw [if_neg (by decide +kernel)]; exact ⟨rfl, rfl⟩))
    (fun os started H enc _ F => by rw [OpenClaim.pre_eq_preRow]; exact lifted os started H enc F)
theorem plain (f : FuncId) (fn : Func) (hf : Tryz.pinned.checked.prog.funcNamed "gangsaw/gangsawlaw59.YardKeeps" = some f) (hfn : Tryz.pinned.checked.prog.funcs[f]? = some fn) :
    true = Tryz.pinned.checked.prog.looks [] ∧ ∀ (j : Nat) t, fn.params[j]? = some t → Tryz.pinned.checked.prog.wantsStandIn t = false := by
  obtain rfl : f = 6 := Option.some.inj ((show Tryz.prog.funcNamed "gangsaw/gangsawlaw59.YardKeeps" = some 6 by kernel_rfl).symm.trans hf) |>.symm
  obtain rfl : fn = Tryz.f6 := (Option.some.inj (Tryz.func6.symm.trans hfn)).symm
  refine ⟨by kernel_rfl, fun j t ht => ?_⟩
  rw [Tryz.params6] at ht
  obtain rfl : t = 22 := by simpa using Array.mem_of_getElem? ht
  exact (show Tryz.prog.wantsStandIn 22 = false by kernel_rfl)
end Go.Proofs.YtejhcbbfdfnfdaaGreatDoor.KeepsRow
namespace Go.Proofs.YtejhcbbfdfnfdaaGreatDoor
open Go
theorem yardKeeps_holds : Rows.YardKeepsCardSaid :=
  Claim7.holds_tied_plain_at .later [] _ _ _ _ KeepsRow.said (fun _ h => by cases h) (by kernel_rfl) (fun _ h => by cases h) yardKeeps_row_tie rfl ⟨rfl, rfl⟩ (by kernel_rfl) rfl KeepsRow.plain (by kernel_rfl)
end Go.Proofs.YtejhcbbfdfnfdaaGreatDoor
