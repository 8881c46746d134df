/- YardDisjoint. -/
import Derived.Test.YtejhcbbfdfnfdaaGreatDoorK16
import Derived.Test.YtejhcbbfdfnfdaaGreatDoorK33
import Derived.Test.YtejhcbbfdfnfdaaGreatDoorK34
import Derived.Deep.QuietTactic
import Derived.BigQuiet
/- Steps of guarded operations whose guard says yes, in a region that draws its order. -/
namespace Go.Proofs.YtejhcbbfdfnfdaaGreatDoor.Reg
open Go.RowKit
section
variable {P : Program} {ops : Array Oper} {Q : Exit → Act → World → Prop} {oi : Oper} {a : Act} {w w1 : World} {N : Option Tmp} {K : Act → World → Prop}
theorem want_on {og : Oper} {g : Nat} {t : Tmp} {u : Bool} (hg : oi.guard = some (g, u)) (ho : ops[g]? = some og) (hd : og.dst = some t) (hv : a.tmps[t]? = some (.bool u)) : Region.wanted oi (yielded ops a.tmps) = true := by
  cases u <;> simp_all [Region.wanted, yielded]
theorem won_val {v : Value} (hw : Region.wanted oi (yielded ops a.tmps) = true) (hN : oi.dst = N) (hrun : (execOp a.eval oi).run P w = .ok (.value v) w1) (h : K (a.put N v) w1) :
    if Region.wanted oi (yielded ops a.tmps) = true then Oper.wp P oi a w K Q else K (a.put oi.dst undef) w := by
  rw [if_pos hw]
  subst hN
  unfold Oper.wp
  rw [hrun]
  exact h
theorem won_call {f : FuncId} {fn : Func} {ops_ : Array Operand} {ts : Array TypeId} (hw : Region.wanted oi (yielded ops a.tmps) = true) (hN : oi.dst = N) (hf : P.funcs[f]? = some fn) (hname : (fn.name == "runtime.NumGoroutine") = false) (hb : fn.body.isSome = true) (args : Array Value)
    (hop : oi.op = .call { callee := .value (.func f), args := ops_, argTypes := ts }) (hargs : ops_.map a.eval = args)
    (h : Calls P f args w fun e w' => ∃ v, e = .returned v ∧ K (a.put N v) w') : if Region.wanted oi (yielded ops a.tmps) = true then Oper.wp P oi a w K Q else K (a.put oi.dst undef) w := by
  rw [if_pos hw]
  have hrun : (execOp a.eval oi).run P w = .ok (.enter f args) w := by
    have he := enters hf hname hb args w
    unfold execOp
    simp [hop, resolve, Deferred.ofValue, invoke, Act.eval, hargs, he]
  subst hN
  unfold Oper.wp
  rw [hrun, Oper.upon_enter]
  refine h.mono fun e w'' hh => ?_
  obtain ⟨v, rfl, hk⟩ := hh
  exact hk
end
end Go.Proofs.YtejhcbbfdfnfdaaGreatDoor.Reg

/- YardDisjoint. -/
namespace Go.Proofs.YtejhcbbfdfnfdaaGreatDoor.Yard
open Go.RowKit Go.Proofs.YtejhcbbfdfnfdaaGreatDoor.Base Go.Proofs.YtejhcbbfdfnfdaaGreatDoor.Mp
open Yp (It Yd Fact Bx)
/-- An item's cells. -/
def ItAt (W : World) (g j : Nat) (x : It) : Prop := W.cell? ⟨g, j * 10, none⟩ = some (.string x.id) ∧ W.cell? ⟨g, j * 10 + 1, none⟩ = some (.string x.par) ∧ W.cell? ⟨g, j * 10 + 2, none⟩ = some (.int .i64 x.bx.x0) ∧ W.cell? ⟨g, j * 10 + 3, none⟩ = some (.int .i64 x.bx.y0) ∧ W.cell? ⟨g, j * 10 + 4, none⟩ = some (.int .i64 x.bx.z0) ∧ W.cell? ⟨g, j * 10 + 5, none⟩ = some (.int .i64 x.bx.x1) ∧ W.cell? ⟨g, j * 10 + 6, none⟩ = some (.int .i64 x.bx.y1) ∧ W.cell? ⟨g, j * 10 + 7, none⟩ = some (.int .i64 x.bx.z1) ∧ W.cell? ⟨g, j * 10 + 8, none⟩ = some (.int .i64 x.st) ∧ W.cell? ⟨g, j * 10 + 9, none⟩ = some (.string x.stone)
theorem irow_slice {w : World} {base : Nat} {v : Value} {l : List It} (h : IRow w base v l) :
    ∃ A c, v = .slice A l.length c ∧ (0 < l.length → ∃ g, A = some ⟨g, 0, none⟩ ∧ g < w.heap.size ∧ ∀ W, Below w.heap.size w W → ∀ (j : Nat) (x : It), l[j]? = some x → ItAt W g j x) := by
  rcases Go.Joins.ownsRow_forms h with ⟨rfl, h0⟩ | ⟨g, c, rfl⟩
  · exact ⟨none, 0, by rw [h0], fun h => by omega⟩
  · refine ⟨_, c, rfl, fun _ => ⟨g, rfl, (irow_lt h g rfl).2, fun W hW j x hj => ?_⟩⟩
    have hg := (irow_lt h g rfl).2
    have hc : ∀ i u, i < 10 → (itL x)[i]? = some u → W.cell? ⟨g, j * 10 + i, none⟩ = some u := fun i u hi hu => by
      have := World.ownsRow.cells h (g := g) rfl (j * 10 + i) u (by rw [flat10 l j i hi, hj]; exact hu)
      rw [add_lit, Nat.zero_add] at this
      exact (hW.cell (p := ⟨g, _, none⟩) hg).trans this
    exact ⟨hc 0 _ (by decide) rfl, hc 1 _ (by decide) rfl, hc 2 _ (by decide) rfl, hc 3 _ (by decide) rfl, hc 4 _ (by decide) rfl, hc 5 _ (by decide) rfl, hc 6 _ (by decide) rfl, hc 7 _ (by decide) rfl, hc 8 _ (by decide) rfl, hc 9 _ (by decide) rfl⟩
theorem aw_sorted {l : List It} (h : l.Pairwise fun a b => lessI b a = false) {i j : Nat} {a b : It} (ha : l[i]? = some a) (hb : l[j]? = some b) (hij : i < j) : lessI b a = false := by
  obtain ⟨hi, rfl⟩ := List.getElem?_eq_some_iff.1 ha
  obtain ⟨hj, rfl⟩ := List.getElem?_eq_some_iff.1 hb
  exact List.pairwise_iff_getElem.1 h i j hi hj hij
theorem over_symm {a b : Bx} (h : a.over b) : b.over a := ⟨h.2.1, h.1, h.2.2.2.1, h.2.2.1, h.2.2.2.2.2, h.2.2.2.2.1⟩
theorem aw_disj {l m : List It} (hp : l.Perm m) (h : m.Pairwise fun a b => a.st ≠ 2 → b.st ≠ 2 → ¬ a.bx.over b.bx) {i j : Nat} {a b : It} (ha : l[i]? = some a) (hb : l[j]? = some b) (hij : i < j) : b.st ≠ 2 → a.st ≠ 2 → ¬ b.bx.over a.bx := by
  have hl : l.Pairwise fun a b => a.st ≠ 2 → b.st ≠ 2 → ¬ a.bx.over b.bx := (hp.pairwise_iff (fun h h1 h2 h3 => h h2 h1 (over_symm h3))).2 h
  obtain ⟨hi, rfl⟩ := List.getElem?_eq_some_iff.1 ha
  obtain ⟨hj, rfl⟩ := List.getElem?_eq_some_iff.1 hb
  exact fun h1 h2 h3 => List.pairwise_iff_getElem.1 hl i j hi hj hij h2 h1 (over_symm h3)
theorem less_total {a b : It} (h : lessI b a = false) (hne : a.id ≠ b.id) : Op.bytesLess a.id.toList b.id.toList = true := by
  have h1 : lessI a b = true := by
    rw [lessI_eq] at h ⊢
    have h := of_decide_eq_false h
    refine decide_eq_true (Classical.byContradiction fun h2 => ?_)
    have e : a.id.toList = b.id.toList := List.le_antisymm (List.not_lt.1 h) (List.not_lt.1 h2)
    have := tl_beq a.id b.id
    rw [e] at this
    simp at this
    exact hne this
  exact h1
theorem aw_uniq {l m : List It} (hp : l.Perm m) (h : m.Pairwise fun a b => a.id ≠ b.id) {i j : Nat} {a b : It} (ha : l[i]? = some a) (hb : l[j]? = some b) (hij : i < j) : a.id ≠ b.id := by
  have hl : l.Pairwise fun a b => a.id ≠ b.id := (hp.pairwise_iff (fun h e => h e.symm)).2 h
  obtain ⟨hi, rfl⟩ := List.getElem?_eq_some_iff.1 ha
  obtain ⟨hj, rfl⟩ := List.getElem?_eq_some_iff.1 hb
  exact List.pairwise_iff_getElem.1 hl i j hi hj hij
set_option maxRecDepth 100000 in
set_option maxHeartbeats 16000000 in
theorem disjoint_any {w : World} (hE : Env w) {X : Nat → Prop} {v : Value} {l : List Fact} (hv : FLs w X v l) :
    Calls Tryz.prog 4 #[v] w fun e w' => e = .returned (.bool true) ∧ Below w.heap.size w w' := by
  have haw := awake_any hE
  have HV := Lib.hid hv
  have HE := Lib.hid hE
  clear hE hv
  go_enter Tryz.func4, Tryz.ntmps4
  go_wp2_with fail
  refine haw.mono ?_; rintro e w1 ⟨rfl, hb1⟩
  have HB1 := Lib.hid hb1
  have hsm := small_any (HV.out.below hb1) 40 (by decide)
  clear haw hb1
  cases hs : smallL l 40 with
  | false =>
    rw [hs] at hsm
    clear hs
    go_wp2_with fail
    refine hsm.mono ?_; rintro e w2 ⟨rfl, rfl⟩
    clear hsm
    go_wp2_with fail
    go_ret
    exact ⟨rfl, HB1.out⟩
  | true =>
    obtain ⟨hshort, hlen⟩ := small_short hs
    rw [hs] at hsm
    have HS := Lib.hid hshort
    clear hs hshort
    go_wp2_with fail
    refine hsm.mono ?_; rintro e w2 ⟨rfl, rfl⟩
    clear hsm
    have hnew := new_own w2
    go_wp2_with fail
    refine hnew.mono ?_; rintro e w3 ⟨Y, M, rfl, hy3, hb3⟩
    have HY3 := Lib.hid (hy3.mono HB1.out.size)
    have HB3 := Lib.hid (HB1.out.trans (hb3.mono HB1.out.size))
    clear hnew hy3 hb3 HB1
    obtain ⟨A, c, hve, hc, _⟩ := id HV.out
    subst hve
    go_wp2_with fail
    go_loopw [4] (fun i wr => ∃ k : Nat, k ≤ l.length ∧ i = .int .i64 k ∧ YOwn w.heap.size wr Y M (Yp.steps Yp.yNew (l.take k)) ∧ Below w.heap.size w wr) (fun i _ => l.length - (intOf i).toNat)
    case atStart => exact ⟨0, by omega, rfl, HY3.out, HB3.out⟩
    case round =>
      obtain ⟨k, hk, rfl, hyk, hbk⟩ := hrel
      by_cases hlt : k < l.length
      · obtain ⟨b, o, c', nv, vv, ev, e0, e1, e2, hdo⟩ := do_step HV.out (by omega) HS.out hlt hyk hbk
        injection ev with ev1 _ ev2
        subst ev1 ev2
        clear hyk hbk
        go_wp2_with fail
        refine hdo.mono ?_; rintro e w4 ⟨rfl, hy4, hb4⟩
        have HY4 := Lib.hid hy4
        have HB4 := Lib.hid hb4
        clear hdo hy4 hb4 e0 e1 e2
        go_wp2_with fail
        exact ⟨⟨k + 1, hlt, by go_num, HY4.out, HB4.out⟩, by simp [intOf]; omega⟩
      · obtain rfl : k = l.length := by omega
        rw [List.take_length] at hyk
        have HINV : Hid (Yp.Inv (Yp.steps Yp.yNew l)) := Lib.hid (Yp.inv_steps _ Yp.inv_new)
        have hbd := yd_bound l l.length (by omega)
        rw [List.take_length] at hbd
        generalize Yp.steps Yp.yNew l = y at *
        obtain ⟨⟨FS, hy, hF⟩, hY, hM⟩ := id hyk
        have hit := items_any sort_said hy (by omega)
        have HB4 := Lib.hid hbk
        have HY4 := Lib.hid hyk
        clear hyk hbk hy hF hY hM HY3 HB3 HV HS
        go_wp2_with fail
        refine hit.mono ?_; rintro e w5 ⟨vi, li, rfl, hperm, hsort, hrow, hb5⟩
        obtain ⟨Ai, ci, rfl, hcells⟩ := irow_slice hrow
        have HY5 := Lib.hid (HY4.out.below hb5)
        have HB5 := Lib.hid (HB4.out.trans (hb5.mono HB4.out.size))
        have HC := Lib.hid hcells
        have HP := Lib.hid hperm
        have HSRT := Lib.hid hsort
        have hln : li.length < 4000 := by rw [hperm.length_eq]; exact hbd.1
        clear hit hperm hsort hrow hb5 hcells HY4 HB4 hbd
        go_wp2_with fail
        go_loopw [6] (fun i wr => ∃ k : Nat, k ≤ li.length ∧ i = .int .i64 k ∧ Below w5.heap.size w5 wr) (fun i _ => li.length - (intOf i).toNat)
        case atStart => exact ⟨0, by omega, rfl, Below.refl _ _⟩
        case round =>
          obtain ⟨k, hk, rfl, hbk⟩ := hrel
          have HBK := Lib.hid hbk
          clear hbk
          by_cases hlt : k < li.length
          · obtain ⟨g, rfl, hgl, hx⟩ := HC.out (by omega)
            have HX := Lib.hid hx
            have hxk := hx wr HBK.out k li[k] (List.getElem?_eq_getElem hlt)
            have HLI : Hid (li[k]? = some li[k]) := Lib.hid (List.getElem?_eq_getElem hlt)
            have HXM : Hid (li[k] ∈ y.items) := Lib.hid (HP.out.mem_iff.1 (List.getElem_mem hlt))
            clear hx
            generalize li[k] = x at *
            obtain ⟨x0, x1, x2, x3, x4, x5, x6, x7, x8, x9⟩ := id hxk
            have HB7 := Lib.hid (HBK.out.trans ((al_below wr (.cells #[.string x.id, .string x.par, .int .i64 x.bx.x0, .int .i64 x.bx.y0, .int .i64 x.bx.z0, .int .i64 x.bx.x1, .int .i64 x.bx.y1, .int .i64 x.bx.z1, .int .i64 x.st, .string x.stone] 47)).mono HBK.out.size))
            have r7 := (row_cells (new_block wr (.cells #[.string x.id, .string x.par, .int .i64 x.bx.x0, .int .i64 x.bx.y0, .int .i64 x.bx.z0, .int .i64 x.bx.x1, .int .i64 x.bx.y1, .int .i64 x.bx.z1, .int .i64 x.st, .string x.stone] 47))).1 1
            by_cases hpar : x.par = Yp.es
            · have hp0 : x.par.toList.isEmpty = true := by rw [(tl_nil _).2 hpar]; rfl
              clear hpar
              go_wp2_with fail
              clear r7
              have HB9 := HB7
              generalize wr.alloc (.cells #[.string x.id, .string x.par, .int .i64 x.bx.x0, .int .i64 x.bx.y0, .int .i64 x.bx.z0, .int .i64 x.bx.x1, .int .i64 x.bx.y1, .int .i64 x.bx.z1, .int .i64 x.st, .string x.stone] 47) = W9 at *
              have HD : Hid (∀ (j : Nat) (z : It), li[j]? = some z → ItAt W9 g j z) := Lib.hid (fun j z hj => HX.out W9 HB9.out j z hj)
              have hq : decide (0 < k) = decide (0 < k) := rfl
              rcases Nat.eq_zero_or_pos k with hk0 | hk0
              · have hd0 : decide ((k : Int) > 0) = false := by simp; omega
                have hd1 : decide (0 < k) = false := by simp; omega
                go_quiet (fail)
                go_wp2_with fail
                go_loopw [10] (fun i wi => ∃ n : Nat, n ≤ k ∧ i = .int .i64 n ∧ Below w5.heap.size w5 wi) (fun i _ => k - (intOf i).toNat)
                case atStart => exact ⟨0, by omega, rfl, by first | exact HB9.out | exact HB9.out.drew | exact below_drewN HB9.out _⟩
                case round =>
                  obtain ⟨n, hn, rfl, hbi⟩ := hrel
                  have HBI := Lib.hid hbi
                  clear hbi
                  by_cases hlt2 : n < k
                  · exact absurd hlt2 (by omega)
                  · obtain rfl : n = k := by omega
                    go_wp2_with fail
                    refine ⟨⟨n + 1, hlt, by first | go_num | simp [hk0], by first | exact HBI.out | exact HBI.out.drew | exact below_drewN HBI.out _⟩, by simp [intOf]; omega⟩
              · obtain ⟨m, rfl⟩ : ∃ m, k = m + 1 := ⟨k - 1, by omega⟩
                have hd1 : decide (0 < m + 1) = true := by simp
                have hltm : m < li.length := by omega
                obtain ⟨f0, _⟩ := HD.out (m + 1) x HLI.out
                obtain ⟨g0, _⟩ := HD.out m li[m] (List.getElem?_eq_getElem hltm)
                have HSS : Hid (lessI x li[m] = false) := Lib.hid (aw_sorted HSRT.out (List.getElem?_eq_getElem hltm) HLI.out (Nat.lt_succ_self m))
                have HNE : Hid (li[m].id ≠ x.id) := Lib.hid (aw_uniq HP.out HINV.out.uniq (List.getElem?_eq_getElem hltm) HLI.out (Nat.lt_succ_self m))
                generalize li[m] = z at *
                have hgt := less_total HSS.out HNE.out
                go_quiet (fail)
                go_wp2_with fail
                go_loopw [10] (fun i wi => ∃ n : Nat, n ≤ m + 1 ∧ i = .int .i64 n ∧ Below w5.heap.size w5 wi) (fun i _ => m + 1 - (intOf i).toNat)
                case atStart => exact ⟨0, by omega, rfl, by first | exact HB9.out | exact HB9.out.drew | exact below_drewN HB9.out _⟩
                case round =>
                  obtain ⟨n, hn, rfl, hbi⟩ := hrel
                  have HBI := Lib.hid hbi
                  clear hbi
                  by_cases hlt2 : n < m + 1
                  · have hltn : n < li.length := by omega
                    have HOV : Hid (x.st ≠ 2 → li[n].st ≠ 2 → ¬ x.bx.over li[n].bx) := Lib.hid (aw_disj HP.out HINV.out.disj (List.getElem?_eq_getElem hltn) HLI.out hlt2)
                    obtain ⟨x0, x1, x2, x3, x4, x5, x6, x7, x8, x9⟩ := HX.out wr HBI.out (m + 1) x HLI.out
                    obtain ⟨z0, z1, z2, z3, z4, z5, z6, z7, z8, z9⟩ := HX.out wr HBI.out n li[n] (List.getElem?_eq_getElem hltn)
                    have HLZ : Hid (li[n]? = some li[n]) := Lib.hid (List.getElem?_eq_getElem hltn)
                    generalize li[n] = z at *
                    by_cases q1 : x.st = 2
                    · have r1 : (x.st != 2) = false := by simp [q1]
                      clear q1
                      go_wp2_with fail
                      go_quiet (fail)
                      go_wp2_with fail
                      exact ⟨⟨n + 1, by omega, by go_num, by first | exact HBI.out | exact HBI.out.drew | exact below_drewN HBI.out _⟩, by simp [intOf]; omega⟩
                    · have r1 : (x.st != 2) = true := by simp [q1]
                      by_cases q2 : z.st = 2
                      · have r2 : (z.st != 2) = false := by simp [q2]
                        clear q1 q2
                        go_wp2_with fail
                        go_quiet (fail)
                        go_wp2_with fail
                        exact ⟨⟨n + 1, by omega, by go_num, by first | exact HBI.out | exact HBI.out.drew | exact below_drewN HBI.out _⟩, by simp [intOf]; omega⟩
                      · have r2 : (z.st != 2) = true := by simp [q2]
                        have hov := overlapL_no (HOV.out q1 q2)
                        clear q1 q2
                        go_wp2_with fail
                        refine Reg.region_inv [[], [], [0, 1], [2], [3], [4], [5], [6], [6], [6, 7, 8], [6, 9], [6, 10], [6, 11], [6, 12], [6, 13], [14], [14], [14, 15, 16], [14, 17], [14, 18], [14], [14], [14, 20, 21], [14, 22], [14, 23], [14, 19, 24], [14, 25]] [[], [], [0, 1], [0, 1, 2], [0, 1, 2, 3], [0, 1, 2, 3, 4], [0, 1, 2, 3, 4, 5], [0, 1, 2, 3, 4, 5, 6], [0, 1, 2, 3, 4, 5, 6], [0, 1, 2, 3, 4, 5, 6, 7, 8], [0, 1, 2, 3, 4, 5, 6, 7, 8, 9], [0, 1, 2, 3, 4, 5, 6, 7, 8, 9, 10], [0, 1, 2, 3, 4, 5, 6, 7, 8, 9, 10, 11], [0, 1, 2, 3, 4, 5, 6, 7, 8, 9, 10, 11, 12], [0, 1, 2, 3, 4, 5, 6, 7, 8, 9, 10, 11, 12, 13], [0, 1, 2, 3, 4, 5, 6, 7, 8, 9, 10, 11, 12, 13, 14], [0, 1, 2, 3, 4, 5, 6, 7, 8, 9, 10, 11, 12, 13, 14], [0, 1, 2, 3, 4, 5, 6, 7, 8, 9, 10, 11, 12, 13, 14, 15, 16], [0, 1, 2, 3, 4, 5, 6, 7, 8, 9, 10, 11, 12, 13, 14, 15, 16, 17], [0, 1, 2, 3, 4, 5, 6, 7, 8, 9, 10, 11, 12, 13, 14, 15, 16, 17, 18], [0, 1, 2, 3, 4, 5, 6, 7, 8, 9, 10, 11, 12, 13, 14], [0, 1, 2, 3, 4, 5, 6, 7, 8, 9, 10, 11, 12, 13, 14], [0, 1, 2, 3, 4, 5, 6, 7, 8, 9, 10, 11, 12, 13, 14, 20, 21], [0, 1, 2, 3, 4, 5, 6, 7, 8, 9, 10, 11, 12, 13, 14, 20, 21, 22], [0, 1, 2, 3, 4, 5, 6, 7, 8, 9, 10, 11, 12, 13, 14, 20, 21, 22, 23], [0, 1, 2, 3, 4, 5, 6, 7, 8, 9, 10, 11, 12, 13, 14, 15, 16, 17, 18, 19, 20, 21, 22, 23, 24], [0, 1, 2, 3, 4, 5, 6, 7, 8, 9, 10, 11, 12, 13, 14, 15, 16, 17, 18, 19, 20, 21, 22, 23, 24, 25]] (fun a0_ bb aa ww => aa = Reg.fill bb [(0, 87, .slice (some ⟨g, 0, none⟩) li.length ci), (1, 88, .int .i64 ((m : Int) + 1)), (2, 89, .pointer (some ⟨g, (m + 1) * 10, none⟩)), (3, 90, .pointer (some ⟨g, (m + 1) * 10 + 8, none⟩)), (4, 91, .int .i64 x.st), (5, 92, .bool true), (6, 93, .bool true), (7, 94, .slice (some ⟨g, 0, none⟩) li.length ci), (8, 95, .int .i64 (n : Int)), (9, 96, .pointer (some ⟨g, n * 10, none⟩)), (10, 97, .pointer (some ⟨g, n * 10 + 8, none⟩)), (11, 98, .int .i64 z.st), (12, 99, .bool true), (13, 100, .bool true), (14, 101, .bool true), (15, 102, .slice (some ⟨g, 0, none⟩) li.length ci), (16, 103, .int .i64 ((m : Int) + 1)), (17, 104, .pointer (some ⟨g, (m + 1) * 10, none⟩)), (18, 105, .pointer (some ⟨g, (m + 1) * 10 + 2, none⟩)), (19, 106, .agg #[.int .i64 x.bx.x0, .int .i64 x.bx.y0, .int .i64 x.bx.z0, .int .i64 x.bx.x1, .int .i64 x.bx.y1, .int .i64 x.bx.z1]), (20, 107, .slice (some ⟨g, 0, none⟩) li.length ci), (21, 108, .int .i64 (n : Int)), (22, 109, .pointer (some ⟨g, n * 10, none⟩)), (23, 110, .pointer (some ⟨g, n * 10 + 2, none⟩)), (24, 111, .agg #[.int .i64 z.bx.x0, .int .i64 z.bx.y0, .int .i64 z.bx.z0, .int .i64 z.bx.x1, .int .i64 z.bx.y1, .int .i64 z.bx.z1]), (25, 112, .bool false), (26, 113, .bool false)] a0_ ∧ Below wr.heap.size wr ww) (by kernel_rfl) (by kernel_rfl) (by kernel_rfl) ?_ ?_ ?_
                        · exact ⟨Reg.fill_start.symm, (Below.refl _ _).drew⟩
                        · refine Reg.steps_cons (i := 0) ?_ ?_
                          · rintro bb aa ww ⟨ha, HW⟩ hb hd hn
                            have e5 : aa.tmps[5]? = some (.slice (some ⟨g, 0, none⟩) li.length ci) := by rw [ha]; exact (Reg.fill_off rfl).trans rfl
                            have HA := Lib.hid ha
                            clear ha
                            refine ⟨_, rfl, fun K hK => ?_⟩
                            refine Reg.do_val rfl rfl (v := .slice (some ⟨g, 0, none⟩) li.length ci) (w1 := ww) (by simp only [List.getElem_toArray, List.getElem_cons_zero, execOp, Reg.eval_tmp e5]; rfl) ?_
                            exact hK.out _ _ ⟨by rw [HA.out]; exact Reg.fill_up 0 hb rfl rfl rfl, HW⟩
                          refine Reg.steps_cons (i := 1) ?_ ?_
                          · rintro bb aa ww ⟨ha, HW⟩ hb hd hn
                            have e6 : aa.tmps[6]? = some (.int .i64 ((m : Int) + 1)) := by rw [ha]; exact (Reg.fill_off rfl).trans rfl
                            have HA := Lib.hid ha
                            clear ha
                            refine ⟨_, rfl, fun K hK => ?_⟩
                            refine Reg.do_val rfl rfl (v := .int .i64 ((m : Int) + 1)) (w1 := ww) (by simp only [List.getElem_toArray, List.getElem_cons_succ, List.getElem_cons_zero, execOp, Reg.eval_tmp e6]; rfl) ?_
                            exact hK.out _ _ ⟨by rw [HA.out]; exact Reg.fill_up 1 hb rfl rfl rfl, HW⟩
                          refine Reg.steps_cons (i := 2) ?_ ?_
                          · rintro bb aa ww ⟨ha, HW⟩ hb hd hn
                            have e87 : aa.tmps[87]? = some (.slice (some ⟨g, 0, none⟩) li.length ci) := by rw [ha]; exact Reg.fill_on 0 rfl rfl (hd 0 (by decide)) rfl
                            have e88 : aa.tmps[88]? = some (.int .i64 ((m : Int) + 1)) := by rw [ha]; exact Reg.fill_on 1 rfl rfl (hd 1 (by decide)) rfl
                            have HA := Lib.hid ha
                            clear ha
                            refine ⟨_, rfl, fun K hK => ?_⟩
                            refine Reg.do_val rfl rfl (v := .pointer (some ⟨g, (m + 1) * 10, none⟩)) (w1 := ww) ?_ ?_
                            · simp only [List.getElem_toArray, List.getElem_cons_succ, List.getElem_cons_zero, execOp, Reg.eval_tmp e87, Reg.eval_tmp e88]
                              go_simp
                              intro hh; exact absurd (hh (by omega)) (by omega)
                            exact hK.out _ _ ⟨by rw [HA.out]; exact Reg.fill_up 2 hb rfl rfl rfl, HW⟩
                          refine Reg.steps_cons (i := 3) ?_ ?_
                          · rintro bb aa ww ⟨ha, HW⟩ hb hd hn
                            have e89 : aa.tmps[89]? = some (.pointer (some ⟨g, (m + 1) * 10, none⟩)) := by rw [ha]; exact Reg.fill_on 2 rfl rfl (hd 2 (by decide)) rfl
                            have HA := Lib.hid ha
                            clear ha
                            refine ⟨_, rfl, fun K hK => ?_⟩
                            refine Reg.do_val rfl rfl (v := .pointer (some ⟨g, (m + 1) * 10 + 8, none⟩)) (w1 := ww) ?_ ?_
                            · simp only [List.getElem_toArray, List.getElem_cons_succ, List.getElem_cons_zero, execOp, Reg.eval_tmp e89]
                              go_simp
                            exact hK.out _ _ ⟨by rw [HA.out]; exact Reg.fill_up 3 hb rfl rfl rfl, HW⟩
                          refine Reg.steps_cons (i := 4) ?_ ?_
                          · rintro bb aa ww ⟨ha, HW⟩ hb hd hn
                            have e90 : aa.tmps[90]? = some (.pointer (some ⟨g, (m + 1) * 10 + 8, none⟩)) := by rw [ha]; exact Reg.fill_on 3 rfl rfl (hd 3 (by decide)) rfl
                            have HA := Lib.hid ha
                            clear ha
                            refine ⟨_, rfl, fun K hK => ?_⟩
                            obtain ⟨x0, x1, x2, x3, x4, x5, x6, x7, x8, x9⟩ := HX.out ww (HBI.out.trans (HW.mono HBI.out.size)) (m + 1) x HLI.out
                            refine Reg.do_val rfl rfl (v := .int .i64 x.st) (w1 := ww) ?_ ?_
                            · simp only [List.getElem_toArray, List.getElem_cons_succ, List.getElem_cons_zero, execOp, Reg.eval_tmp e90]
                              go_simp
                            exact hK.out _ _ ⟨by rw [HA.out]; exact Reg.fill_up 4 hb rfl rfl rfl, HW⟩
                          refine Reg.steps_cons (i := 5) ?_ ?_
                          · rintro bb aa ww ⟨ha, HW⟩ hb hd hn
                            have e91 : aa.tmps[91]? = some (.int .i64 x.st) := by rw [ha]; exact Reg.fill_on 4 rfl rfl (hd 4 (by decide)) rfl
                            have HA := Lib.hid ha
                            clear ha
                            refine ⟨_, rfl, fun K hK => ?_⟩
                            refine Reg.do_val rfl rfl (v := .bool true) (w1 := ww) ?_ ?_
                            · simp only [List.getElem_toArray, List.getElem_cons_succ, List.getElem_cons_zero, execOp, Reg.eval_tmp e91]
                              go_simp
                            exact hK.out _ _ ⟨by rw [HA.out]; exact Reg.fill_up 5 hb rfl rfl rfl, HW⟩
                          refine Reg.steps_cons (i := 6) ?_ ?_
                          · rintro bb aa ww ⟨ha, HW⟩ hb hd hn
                            have e92 : aa.tmps[92]? = some (.bool true) := by rw [ha]; exact Reg.fill_on 5 rfl rfl (hd 5 (by decide)) rfl
                            have HA := Lib.hid ha
                            clear ha
                            refine ⟨_, rfl, fun K hK => ?_⟩
                            refine Reg.do_val rfl rfl (v := .bool true) (w1 := ww) (by simp only [List.getElem_toArray, List.getElem_cons_succ, List.getElem_cons_zero, execOp, Reg.eval_tmp e92]; rfl) ?_
                            exact hK.out _ _ ⟨by rw [HA.out]; exact Reg.fill_up 6 hb rfl rfl rfl, HW⟩
                          refine Reg.steps_cons (i := 7) ?_ ?_
                          · rintro bb aa ww ⟨ha, HW⟩ hb hd hn
                            have e5 : aa.tmps[5]? = some (.slice (some ⟨g, 0, none⟩) li.length ci) := by rw [ha]; exact (Reg.fill_off rfl).trans rfl
                            have e93 : aa.tmps[93]? = some (.bool true) := by rw [ha]; exact Reg.fill_on 6 rfl rfl (hd 6 (by decide)) rfl
                            have HA := Lib.hid ha
                            clear ha
                            refine ⟨_, rfl, fun K hK => ?_⟩
                            refine Reg.won_val (Reg.want_on rfl rfl rfl e93) rfl (v := .slice (some ⟨g, 0, none⟩) li.length ci) (w1 := ww) (by simp only [List.getElem_toArray, List.getElem_cons_succ, List.getElem_cons_zero, execOp, Reg.eval_tmp e5]; rfl) ?_
                            exact hK.out _ _ ⟨by rw [HA.out]; exact Reg.fill_up 7 hb rfl rfl rfl, HW⟩
                          refine Reg.steps_cons (i := 8) ?_ ?_
                          · rintro bb aa ww ⟨ha, HW⟩ hb hd hn
                            have e10 : aa.tmps[10]? = some (.int .i64 (n : Int)) := by rw [ha]; exact (Reg.fill_off rfl).trans rfl
                            have e93 : aa.tmps[93]? = some (.bool true) := by rw [ha]; exact Reg.fill_on 6 rfl rfl (hd 6 (by decide)) rfl
                            have HA := Lib.hid ha
                            clear ha
                            refine ⟨_, rfl, fun K hK => ?_⟩
                            refine Reg.won_val (Reg.want_on rfl rfl rfl e93) rfl (v := .int .i64 (n : Int)) (w1 := ww) (by simp only [List.getElem_toArray, List.getElem_cons_succ, List.getElem_cons_zero, execOp, Reg.eval_tmp e10]; rfl) ?_
                            exact hK.out _ _ ⟨by rw [HA.out]; exact Reg.fill_up 8 hb rfl rfl rfl, HW⟩
                          refine Reg.steps_cons (i := 9) ?_ ?_
                          · rintro bb aa ww ⟨ha, HW⟩ hb hd hn
                            have e94 : aa.tmps[94]? = some (.slice (some ⟨g, 0, none⟩) li.length ci) := by rw [ha]; exact Reg.fill_on 7 rfl rfl (hd 7 (by decide)) rfl
                            have e95 : aa.tmps[95]? = some (.int .i64 (n : Int)) := by rw [ha]; exact Reg.fill_on 8 rfl rfl (hd 8 (by decide)) rfl
                            have e93 : aa.tmps[93]? = some (.bool true) := by rw [ha]; exact Reg.fill_on 6 rfl rfl (hd 6 (by decide)) rfl
                            have HA := Lib.hid ha
                            clear ha
                            refine ⟨_, rfl, fun K hK => ?_⟩
                            refine Reg.won_val (Reg.want_on rfl rfl rfl e93) rfl (v := .pointer (some ⟨g, n * 10, none⟩)) (w1 := ww) ?_ ?_
                            · simp only [List.getElem_toArray, List.getElem_cons_succ, List.getElem_cons_zero, execOp, Reg.eval_tmp e94, Reg.eval_tmp e95]
                              go_simp
                            exact hK.out _ _ ⟨by rw [HA.out]; exact Reg.fill_up 9 hb rfl rfl rfl, HW⟩
                          refine Reg.steps_cons (i := 10) ?_ ?_
                          · rintro bb aa ww ⟨ha, HW⟩ hb hd hn
                            have e96 : aa.tmps[96]? = some (.pointer (some ⟨g, n * 10, none⟩)) := by rw [ha]; exact Reg.fill_on 9 rfl rfl (hd 9 (by decide)) rfl
                            have e93 : aa.tmps[93]? = some (.bool true) := by rw [ha]; exact Reg.fill_on 6 rfl rfl (hd 6 (by decide)) rfl
                            have HA := Lib.hid ha
                            clear ha
                            refine ⟨_, rfl, fun K hK => ?_⟩
                            refine Reg.won_val (Reg.want_on rfl rfl rfl e93) rfl (v := .pointer (some ⟨g, n * 10 + 8, none⟩)) (w1 := ww) ?_ ?_
                            · simp only [List.getElem_toArray, List.getElem_cons_succ, List.getElem_cons_zero, execOp, Reg.eval_tmp e96]
                              go_simp
                            exact hK.out _ _ ⟨by rw [HA.out]; exact Reg.fill_up 10 hb rfl rfl rfl, HW⟩
                          refine Reg.steps_cons (i := 11) ?_ ?_
                          · rintro bb aa ww ⟨ha, HW⟩ hb hd hn
                            have e97 : aa.tmps[97]? = some (.pointer (some ⟨g, n * 10 + 8, none⟩)) := by rw [ha]; exact Reg.fill_on 10 rfl rfl (hd 10 (by decide)) rfl
                            have e93 : aa.tmps[93]? = some (.bool true) := by rw [ha]; exact Reg.fill_on 6 rfl rfl (hd 6 (by decide)) rfl
                            have HA := Lib.hid ha
                            clear ha
                            refine ⟨_, rfl, fun K hK => ?_⟩
                            obtain ⟨z0, z1, z2, z3, z4, z5, z6, z7, z8, z9⟩ := HX.out ww (HBI.out.trans (HW.mono HBI.out.size)) n z HLZ.out
                            refine Reg.won_val (Reg.want_on rfl rfl rfl e93) rfl (v := .int .i64 z.st) (w1 := ww) ?_ ?_
                            · simp only [List.getElem_toArray, List.getElem_cons_succ, List.getElem_cons_zero, execOp, Reg.eval_tmp e97]
                              go_simp
                            exact hK.out _ _ ⟨by rw [HA.out]; exact Reg.fill_up 11 hb rfl rfl rfl, HW⟩
                          refine Reg.steps_cons (i := 12) ?_ ?_
                          · rintro bb aa ww ⟨ha, HW⟩ hb hd hn
                            have e98 : aa.tmps[98]? = some (.int .i64 z.st) := by rw [ha]; exact Reg.fill_on 11 rfl rfl (hd 11 (by decide)) rfl
                            have e93 : aa.tmps[93]? = some (.bool true) := by rw [ha]; exact Reg.fill_on 6 rfl rfl (hd 6 (by decide)) rfl
                            have HA := Lib.hid ha
                            clear ha
                            refine ⟨_, rfl, fun K hK => ?_⟩
                            refine Reg.won_val (Reg.want_on rfl rfl rfl e93) rfl (v := .bool true) (w1 := ww) ?_ ?_
                            · simp only [List.getElem_toArray, List.getElem_cons_succ, List.getElem_cons_zero, execOp, Reg.eval_tmp e98]
                              go_simp
                            exact hK.out _ _ ⟨by rw [HA.out]; exact Reg.fill_up 12 hb rfl rfl rfl, HW⟩
                          refine Reg.steps_cons (i := 13) ?_ ?_
                          · rintro bb aa ww ⟨ha, HW⟩ hb hd hn
                            have e93 : aa.tmps[93]? = some (.bool true) := by rw [ha]; exact Reg.fill_on 6 rfl rfl (hd 6 (by decide)) rfl
                            have e99 : aa.tmps[99]? = some (.bool true) := by rw [ha]; exact Reg.fill_on 12 rfl rfl (hd 12 (by decide)) rfl
                            have HA := Lib.hid ha
                            clear ha
                            refine ⟨_, rfl, fun K hK => ?_⟩
                            refine Reg.do_val rfl rfl (v := .bool true) (w1 := ww) ?_ ?_
                            · simp only [List.getElem_toArray, List.getElem_cons_succ, List.getElem_cons_zero, execOp, Reg.eval_tmp e93, Reg.eval_tmp e99]
                              go_simp
                            exact hK.out _ _ ⟨by rw [HA.out]; exact Reg.fill_up 13 hb rfl rfl rfl, HW⟩
                          refine Reg.steps_cons (i := 14) ?_ ?_
                          · rintro bb aa ww ⟨ha, HW⟩ hb hd hn
                            have e100 : aa.tmps[100]? = some (.bool true) := by rw [ha]; exact Reg.fill_on 13 rfl rfl (hd 13 (by decide)) rfl
                            have HA := Lib.hid ha
                            clear ha
                            refine ⟨_, rfl, fun K hK => ?_⟩
                            refine Reg.do_val rfl rfl (v := .bool true) (w1 := ww) (by simp only [List.getElem_toArray, List.getElem_cons_succ, List.getElem_cons_zero, execOp, Reg.eval_tmp e100]; rfl) ?_
                            exact hK.out _ _ ⟨by rw [HA.out]; exact Reg.fill_up 14 hb rfl rfl rfl, HW⟩
                          refine Reg.steps_cons (i := 15) ?_ ?_
                          · rintro bb aa ww ⟨ha, HW⟩ hb hd hn
                            have e5 : aa.tmps[5]? = some (.slice (some ⟨g, 0, none⟩) li.length ci) := by rw [ha]; exact (Reg.fill_off rfl).trans rfl
                            have e101 : aa.tmps[101]? = some (.bool true) := by rw [ha]; exact Reg.fill_on 14 rfl rfl (hd 14 (by decide)) rfl
                            have HA := Lib.hid ha
                            clear ha
                            refine ⟨_, rfl, fun K hK => ?_⟩
                            refine Reg.won_val (Reg.want_on rfl rfl rfl e101) rfl (v := .slice (some ⟨g, 0, none⟩) li.length ci) (w1 := ww) (by simp only [List.getElem_toArray, List.getElem_cons_succ, List.getElem_cons_zero, execOp, Reg.eval_tmp e5]; rfl) ?_
                            exact hK.out _ _ ⟨by rw [HA.out]; exact Reg.fill_up 15 hb rfl rfl rfl, HW⟩
                          refine Reg.steps_cons (i := 16) ?_ ?_
                          · rintro bb aa ww ⟨ha, HW⟩ hb hd hn
                            have e6 : aa.tmps[6]? = some (.int .i64 ((m : Int) + 1)) := by rw [ha]; exact (Reg.fill_off rfl).trans rfl
                            have e101 : aa.tmps[101]? = some (.bool true) := by rw [ha]; exact Reg.fill_on 14 rfl rfl (hd 14 (by decide)) rfl
                            have HA := Lib.hid ha
                            clear ha
                            refine ⟨_, rfl, fun K hK => ?_⟩
                            refine Reg.won_val (Reg.want_on rfl rfl rfl e101) rfl (v := .int .i64 ((m : Int) + 1)) (w1 := ww) (by simp only [List.getElem_toArray, List.getElem_cons_succ, List.getElem_cons_zero, execOp, Reg.eval_tmp e6]; rfl) ?_
                            exact hK.out _ _ ⟨by rw [HA.out]; exact Reg.fill_up 16 hb rfl rfl rfl, HW⟩
                          refine Reg.steps_cons (i := 17) ?_ ?_
                          · rintro bb aa ww ⟨ha, HW⟩ hb hd hn
                            have e102 : aa.tmps[102]? = some (.slice (some ⟨g, 0, none⟩) li.length ci) := by rw [ha]; exact Reg.fill_on 15 rfl rfl (hd 15 (by decide)) rfl
                            have e103 : aa.tmps[103]? = some (.int .i64 ((m : Int) + 1)) := by rw [ha]; exact Reg.fill_on 16 rfl rfl (hd 16 (by decide)) rfl
                            have e101 : aa.tmps[101]? = some (.bool true) := by rw [ha]; exact Reg.fill_on 14 rfl rfl (hd 14 (by decide)) rfl
                            have HA := Lib.hid ha
                            clear ha
                            refine ⟨_, rfl, fun K hK => ?_⟩
                            refine Reg.won_val (Reg.want_on rfl rfl rfl e101) rfl (v := .pointer (some ⟨g, (m + 1) * 10, none⟩)) (w1 := ww) ?_ ?_
                            · simp only [List.getElem_toArray, List.getElem_cons_succ, List.getElem_cons_zero, execOp, Reg.eval_tmp e102, Reg.eval_tmp e103]
                              go_simp
                              intro hh; exact absurd (hh (by omega)) (by omega)
                            exact hK.out _ _ ⟨by rw [HA.out]; exact Reg.fill_up 17 hb rfl rfl rfl, HW⟩
                          refine Reg.steps_cons (i := 18) ?_ ?_
                          · rintro bb aa ww ⟨ha, HW⟩ hb hd hn
                            have e104 : aa.tmps[104]? = some (.pointer (some ⟨g, (m + 1) * 10, none⟩)) := by rw [ha]; exact Reg.fill_on 17 rfl rfl (hd 17 (by decide)) rfl
                            have e101 : aa.tmps[101]? = some (.bool true) := by rw [ha]; exact Reg.fill_on 14 rfl rfl (hd 14 (by decide)) rfl
                            have HA := Lib.hid ha
                            clear ha
                            refine ⟨_, rfl, fun K hK => ?_⟩
                            refine Reg.won_val (Reg.want_on rfl rfl rfl e101) rfl (v := .pointer (some ⟨g, (m + 1) * 10 + 2, none⟩)) (w1 := ww) ?_ ?_
                            · simp only [List.getElem_toArray, List.getElem_cons_succ, List.getElem_cons_zero, execOp, Reg.eval_tmp e104]
                              go_simp
                            exact hK.out _ _ ⟨by rw [HA.out]; exact Reg.fill_up 18 hb rfl rfl rfl, HW⟩
                          refine Reg.steps_cons (i := 19) ?_ ?_
                          · rintro bb aa ww ⟨ha, HW⟩ hb hd hn
                            have e105 : aa.tmps[105]? = some (.pointer (some ⟨g, (m + 1) * 10 + 2, none⟩)) := by rw [ha]; exact Reg.fill_on 18 rfl rfl (hd 18 (by decide)) rfl
                            have e101 : aa.tmps[101]? = some (.bool true) := by rw [ha]; exact Reg.fill_on 14 rfl rfl (hd 14 (by decide)) rfl
                            have HA := Lib.hid ha
                            clear ha
                            refine ⟨_, rfl, fun K hK => ?_⟩
                            obtain ⟨x0, x1, x2, x3, x4, x5, x6, x7, x8, x9⟩ := HX.out ww (HBI.out.trans (HW.mono HBI.out.size)) (m + 1) x HLI.out
                            refine Reg.won_val (Reg.want_on rfl rfl rfl e101) rfl (v := .agg #[.int .i64 x.bx.x0, .int .i64 x.bx.y0, .int .i64 x.bx.z0, .int .i64 x.bx.x1, .int .i64 x.bx.y1, .int .i64 x.bx.z1]) (w1 := ww) ?_ ?_
                            · simp only [List.getElem_toArray, List.getElem_cons_succ, List.getElem_cons_zero, execOp, Reg.eval_tmp e105]
                              go_simp
                            exact hK.out _ _ ⟨by rw [HA.out]; exact Reg.fill_up 19 hb rfl rfl rfl, HW⟩
                          refine Reg.steps_cons (i := 20) ?_ ?_
                          · rintro bb aa ww ⟨ha, HW⟩ hb hd hn
                            have e5 : aa.tmps[5]? = some (.slice (some ⟨g, 0, none⟩) li.length ci) := by rw [ha]; exact (Reg.fill_off rfl).trans rfl
                            have e101 : aa.tmps[101]? = some (.bool true) := by rw [ha]; exact Reg.fill_on 14 rfl rfl (hd 14 (by decide)) rfl
                            have HA := Lib.hid ha
                            clear ha
                            refine ⟨_, rfl, fun K hK => ?_⟩
                            refine Reg.won_val (Reg.want_on rfl rfl rfl e101) rfl (v := .slice (some ⟨g, 0, none⟩) li.length ci) (w1 := ww) (by simp only [List.getElem_toArray, List.getElem_cons_succ, List.getElem_cons_zero, execOp, Reg.eval_tmp e5]; rfl) ?_
                            exact hK.out _ _ ⟨by rw [HA.out]; exact Reg.fill_up 20 hb rfl rfl rfl, HW⟩
                          refine Reg.steps_cons (i := 21) ?_ ?_
                          · rintro bb aa ww ⟨ha, HW⟩ hb hd hn
                            have e10 : aa.tmps[10]? = some (.int .i64 (n : Int)) := by rw [ha]; exact (Reg.fill_off rfl).trans rfl
                            have e101 : aa.tmps[101]? = some (.bool true) := by rw [ha]; exact Reg.fill_on 14 rfl rfl (hd 14 (by decide)) rfl
                            have HA := Lib.hid ha
                            clear ha
                            refine ⟨_, rfl, fun K hK => ?_⟩
                            refine Reg.won_val (Reg.want_on rfl rfl rfl e101) rfl (v := .int .i64 (n : Int)) (w1 := ww) (by simp only [List.getElem_toArray, List.getElem_cons_succ, List.getElem_cons_zero, execOp, Reg.eval_tmp e10]; rfl) ?_
                            exact hK.out _ _ ⟨by rw [HA.out]; exact Reg.fill_up 21 hb rfl rfl rfl, HW⟩
                          refine Reg.steps_cons (i := 22) ?_ ?_
                          · rintro bb aa ww ⟨ha, HW⟩ hb hd hn
                            have e107 : aa.tmps[107]? = some (.slice (some ⟨g, 0, none⟩) li.length ci) := by rw [ha]; exact Reg.fill_on 20 rfl rfl (hd 20 (by decide)) rfl
                            have e108 : aa.tmps[108]? = some (.int .i64 (n : Int)) := by rw [ha]; exact Reg.fill_on 21 rfl rfl (hd 21 (by decide)) rfl
                            have e101 : aa.tmps[101]? = some (.bool true) := by rw [ha]; exact Reg.fill_on 14 rfl rfl (hd 14 (by decide)) rfl
                            have HA := Lib.hid ha
                            clear ha
                            refine ⟨_, rfl, fun K hK => ?_⟩
                            refine Reg.won_val (Reg.want_on rfl rfl rfl e101) rfl (v := .pointer (some ⟨g, n * 10, none⟩)) (w1 := ww) ?_ ?_
                            · simp only [List.getElem_toArray, List.getElem_cons_succ, List.getElem_cons_zero, execOp, Reg.eval_tmp e107, Reg.eval_tmp e108]
                              go_simp
                            exact hK.out _ _ ⟨by rw [HA.out]; exact Reg.fill_up 22 hb rfl rfl rfl, HW⟩
                          refine Reg.steps_cons (i := 23) ?_ ?_
                          · rintro bb aa ww ⟨ha, HW⟩ hb hd hn
                            have e109 : aa.tmps[109]? = some (.pointer (some ⟨g, n * 10, none⟩)) := by rw [ha]; exact Reg.fill_on 22 rfl rfl (hd 22 (by decide)) rfl
                            have e101 : aa.tmps[101]? = some (.bool true) := by rw [ha]; exact Reg.fill_on 14 rfl rfl (hd 14 (by decide)) rfl
                            have HA := Lib.hid ha
                            clear ha
                            refine ⟨_, rfl, fun K hK => ?_⟩
                            refine Reg.won_val (Reg.want_on rfl rfl rfl e101) rfl (v := .pointer (some ⟨g, n * 10 + 2, none⟩)) (w1 := ww) ?_ ?_
                            · simp only [List.getElem_toArray, List.getElem_cons_succ, List.getElem_cons_zero, execOp, Reg.eval_tmp e109]
                              go_simp
                            exact hK.out _ _ ⟨by rw [HA.out]; exact Reg.fill_up 23 hb rfl rfl rfl, HW⟩
                          refine Reg.steps_cons (i := 24) ?_ ?_
                          · rintro bb aa ww ⟨ha, HW⟩ hb hd hn
                            have e110 : aa.tmps[110]? = some (.pointer (some ⟨g, n * 10 + 2, none⟩)) := by rw [ha]; exact Reg.fill_on 23 rfl rfl (hd 23 (by decide)) rfl
                            have e101 : aa.tmps[101]? = some (.bool true) := by rw [ha]; exact Reg.fill_on 14 rfl rfl (hd 14 (by decide)) rfl
                            have HA := Lib.hid ha
                            clear ha
                            refine ⟨_, rfl, fun K hK => ?_⟩
                            obtain ⟨z0, z1, z2, z3, z4, z5, z6, z7, z8, z9⟩ := HX.out ww (HBI.out.trans (HW.mono HBI.out.size)) n z HLZ.out
                            refine Reg.won_val (Reg.want_on rfl rfl rfl e101) rfl (v := .agg #[.int .i64 z.bx.x0, .int .i64 z.bx.y0, .int .i64 z.bx.z0, .int .i64 z.bx.x1, .int .i64 z.bx.y1, .int .i64 z.bx.z1]) (w1 := ww) ?_ ?_
                            · simp only [List.getElem_toArray, List.getElem_cons_succ, List.getElem_cons_zero, execOp, Reg.eval_tmp e110]
                              go_simp
                            exact hK.out _ _ ⟨by rw [HA.out]; exact Reg.fill_up 24 hb rfl rfl rfl, HW⟩
                          refine Reg.steps_cons (i := 25) ?_ ?_
                          · rintro bb aa ww ⟨ha, HW⟩ hb hd hn
                            have e106 : aa.tmps[106]? = some (.agg #[.int .i64 x.bx.x0, .int .i64 x.bx.y0, .int .i64 x.bx.z0, .int .i64 x.bx.x1, .int .i64 x.bx.y1, .int .i64 x.bx.z1]) := by rw [ha]; exact Reg.fill_on 19 rfl rfl (hd 19 (by decide)) rfl
                            have e111 : aa.tmps[111]? = some (.agg #[.int .i64 z.bx.x0, .int .i64 z.bx.y0, .int .i64 z.bx.z0, .int .i64 z.bx.x1, .int .i64 z.bx.y1, .int .i64 z.bx.z1]) := by rw [ha]; exact Reg.fill_on 24 rfl rfl (hd 24 (by decide)) rfl
                            have e101 : aa.tmps[101]? = some (.bool true) := by rw [ha]; exact Reg.fill_on 14 rfl rfl (hd 14 (by decide)) rfl
                            have HA := Lib.hid ha
                            clear ha
                            refine ⟨_, rfl, fun K hK => ?_⟩
                            refine Reg.won_call (Reg.want_on rfl rfl rfl e101) rfl Tryz.func18 (by kernel_rfl) rfl #[.agg #[.int .i64 x.bx.x0, .int .i64 x.bx.y0, .int .i64 x.bx.z0, .int .i64 x.bx.x1, .int .i64 x.bx.y1, .int .i64 x.bx.z1], .agg #[.int .i64 z.bx.x0, .int .i64 z.bx.y0, .int .i64 z.bx.z0, .int .i64 z.bx.x1, .int .i64 z.bx.y1, .int .i64 z.bx.z1]] rfl (by simp [Reg.eval_tmp e106, Reg.eval_tmp e111]) ?_
                            refine (hov ww).mono ?_; rintro e w3 ⟨rfl, hb3⟩; refine ⟨_, rfl, ?_⟩
                            exact hK.out _ _ ⟨by rw [HA.out]; exact Reg.fill_up 25 hb rfl rfl rfl, HW.trans (hb3.mono HW.size)⟩
                          refine Reg.steps_cons (i := 26) ?_ ?_
                          · rintro bb aa ww ⟨ha, HW⟩ hb hd hn
                            have e101 : aa.tmps[101]? = some (.bool true) := by rw [ha]; exact Reg.fill_on 14 rfl rfl (hd 14 (by decide)) rfl
                            have e112 : aa.tmps[112]? = some (.bool false) := by rw [ha]; exact Reg.fill_on 25 rfl rfl (hd 25 (by decide)) rfl
                            have HA := Lib.hid ha
                            clear ha
                            refine ⟨_, rfl, fun K hK => ?_⟩
                            refine Reg.do_val rfl rfl (v := .bool false) (w1 := ww) ?_ ?_
                            · simp only [List.getElem_toArray, List.getElem_cons_succ, List.getElem_cons_zero, execOp, Reg.eval_tmp e101, Reg.eval_tmp e112]
                              go_simp
                            exact hK.out _ _ ⟨by rw [HA.out]; exact Reg.fill_up 26 hb rfl rfl rfl, HW⟩
                          exact trivial
                        rintro bb aa W24 hall ⟨ha, HW⟩
                        have hb0 := hall 0 (by decide)
                        have hb1 := hall 1 (by decide)
                        have hb2 := hall 2 (by decide)
                        have hb3 := hall 3 (by decide)
                        have hb4 := hall 4 (by decide)
                        have hb5 := hall 5 (by decide)
                        have hb6 := hall 6 (by decide)
                        have hb7 := hall 7 (by decide)
                        have hb8 := hall 8 (by decide)
                        have hb9 := hall 9 (by decide)
                        have hb10 := hall 10 (by decide)
                        have hb11 := hall 11 (by decide)
                        have hb12 := hall 12 (by decide)
                        have hb13 := hall 13 (by decide)
                        have hb14 := hall 14 (by decide)
                        have hb15 := hall 15 (by decide)
                        have hb16 := hall 16 (by decide)
                        have hb17 := hall 17 (by decide)
                        have hb18 := hall 18 (by decide)
                        have hb19 := hall 19 (by decide)
                        have hb20 := hall 20 (by decide)
                        have hb21 := hall 21 (by decide)
                        have hb22 := hall 22 (by decide)
                        have hb23 := hall 23 (by decide)
                        have hb24 := hall 24 (by decide)
                        have hb25 := hall 25 (by decide)
                        have hb26 := hall 26 (by decide)
                        simp only [Reg.fill, hb0, hb1, hb2, hb3, hb4, hb5, hb6, hb7, hb8, hb9, hb10, hb11, hb12, hb13, hb14, hb15, hb16, hb17, hb18, hb19, hb20, hb21, hb22, hb23, hb24, hb25, hb26, if_true, Act.put, List.setIfInBounds_toArray, List.set_cons_zero, List.set_cons_succ] at ha
                        clear hb0 hb1 hb2 hb3 hb4 hb5 hb6 hb7 hb8 hb9 hb10 hb11 hb12 hb13 hb14 hb15 hb16 hb17 hb18 hb19 hb20 hb21 hb22 hb23 hb24 hb25 hb26 hall
                        subst ha
                        have HBW := Lib.hid (HBI.out.trans (HW.mono HBI.out.size))
                        clear HW
                        go_wp2_with fail
                        exact ⟨⟨n + 1, by omega, by go_num, HBW.out⟩, by simp [intOf]; omega⟩
                  · obtain rfl : n = m + 1 := by omega
                    go_wp2_with fail
                    refine ⟨⟨m + 1 + 1, hlt, by first | go_num, by first | exact HBI.out | exact HBI.out.drew | exact below_drewN HBI.out _⟩, by simp [intOf]; omega⟩
            · have hp0 : x.par.toList.isEmpty = false := by
                have := fun e => hpar ((tl_nil _).1 e)
                simpa using this
              obtain ⟨p, hpm, hpid, hpst, hin1, hin2, hin3, hin4, hin5, hin6⟩ := HINV.out.tree x HXM.out hpar
              obtain ⟨⟨FS, hy7, _⟩, _, _⟩ := HY5.out.below HB7.out
              have hfi := find_found hy7 (id := x.par) (x := p) (by rw [← hpid]; exact Yp.look_mem HINV.out.uniq hpm)
              rw [show itC p = #[.string p.id, .string p.par, .int .i64 p.bx.x0, .int .i64 p.bx.y0, .int .i64 p.bx.z0, .int .i64 p.bx.x1, .int .i64 p.bx.y1, .int .i64 p.bx.z1, .int .i64 p.st, .string p.stone] from rfl] at hfi
              have hps : (p.st != 2) = false := by rw [hpst]; rfl
              have HR7 := Lib.hid (new_block wr (.cells #[.string x.id, .string x.par, .int .i64 x.bx.x0, .int .i64 x.bx.y0, .int .i64 x.bx.z0, .int .i64 x.bx.x1, .int .i64 x.bx.y1, .int .i64 x.bx.z1, .int .i64 x.st, .string x.stone] 47))
              clear hpar hpm hpid hpst hy7
              go_wp2_with fail
              clear r7
              generalize wr.alloc (.cells #[.string x.id, .string x.par, .int .i64 x.bx.x0, .int .i64 x.bx.y0, .int .i64 x.bx.z0, .int .i64 x.bx.x1, .int .i64 x.bx.y1, .int .i64 x.bx.z1, .int .i64 x.st, .string x.stone] 47) = W7 at *
              refine hfi.mono ?_; rintro e w8 ⟨rfl, hb8⟩
              have HR7 := Lib.hid (row_after (al_below w8 (.cells #[.string p.id, .string p.par, .int .i64 p.bx.x0, .int .i64 p.bx.y0, .int .i64 p.bx.z0, .int .i64 p.bx.x1, .int .i64 p.bx.y1, .int .i64 p.bx.z1, .int .i64 p.st, .string p.stone] 47)) (row_after hb8 HR7.out))
              have HR8 := Lib.hid (new_block w8 (.cells #[.string p.id, .string p.par, .int .i64 p.bx.x0, .int .i64 p.bx.y0, .int .i64 p.bx.z0, .int .i64 p.bx.x1, .int .i64 p.bx.y1, .int .i64 p.bx.z1, .int .i64 p.st, .string p.stone] 47))
              have HB8 := Lib.hid (HB7.out.trans ((hb8.trans ((al_below w8 (.cells #[.string p.id, .string p.par, .int .i64 p.bx.x0, .int .i64 p.bx.y0, .int .i64 p.bx.z0, .int .i64 p.bx.x1, .int .i64 p.bx.y1, .int .i64 p.bx.z1, .int .i64 p.st, .string p.stone] 47)).mono hb8.size)).mono HB7.out.size))
              have hins := inside_any hin1 hin2 hin3 hin4 hin5 hin6
              clear hfi hb8 HB7 hin1 hin2 hin3 hin4 hin5 hin6
              have u2 := (row_cells HR7.out).1 2
              have u3 := (row_cells HR7.out).1 3
              have u4 := (row_cells HR7.out).1 4
              have u5 := (row_cells HR7.out).1 5
              have u6 := (row_cells HR7.out).1 6
              have u7 := (row_cells HR7.out).1 7
              have y2 := (row_cells HR8.out).1 2
              have y3 := (row_cells HR8.out).1 3
              have y4 := (row_cells HR8.out).1 4
              have y5 := (row_cells HR8.out).1 5
              have y6 := (row_cells HR8.out).1 6
              have y7 := (row_cells HR8.out).1 7
              have y8 := (row_cells HR8.out).1 8
              go_wp2_with fail
              generalize w8.alloc (.cells #[.string p.id, .string p.par, .int .i64 p.bx.x0, .int .i64 p.bx.y0, .int .i64 p.bx.z0, .int .i64 p.bx.x1, .int .i64 p.bx.y1, .int .i64 p.bx.z1, .int .i64 p.st, .string p.stone] 47) = W8 at *
              refine (hins W8).mono ?_; rintro e W9 ⟨rfl, hb9⟩
              have HB9 := Lib.hid (HB8.out.trans (hb9.mono HB8.out.size))
              clear hins hb9 HB8 HR7 HR8 u2 u3 u4 u5 u6 u7 y2 y3 y4 y5 y6 y7 y8
              go_wp2_with fail
              have HD : Hid (∀ (j : Nat) (z : It), li[j]? = some z → ItAt W9 g j z) := Lib.hid (fun j z hj => HX.out W9 HB9.out j z hj)
              have hq : decide (0 < k) = decide (0 < k) := rfl
              rcases Nat.eq_zero_or_pos k with hk0 | hk0
              · have hd0 : decide ((k : Int) > 0) = false := by simp; omega
                have hd1 : decide (0 < k) = false := by simp; omega
                go_quiet (fail)
                go_wp2_with fail
                go_loopw [10] (fun i wi => ∃ n : Nat, n ≤ k ∧ i = .int .i64 n ∧ Below w5.heap.size w5 wi) (fun i _ => k - (intOf i).toNat)
                case atStart => exact ⟨0, by omega, rfl, by first | exact HB9.out | exact HB9.out.drew | exact below_drewN HB9.out _⟩
                case round =>
                  obtain ⟨n, hn, rfl, hbi⟩ := hrel
                  have HBI := Lib.hid hbi
                  clear hbi
                  by_cases hlt2 : n < k
                  · exact absurd hlt2 (by omega)
                  · obtain rfl : n = k := by omega
                    go_wp2_with fail
                    refine ⟨⟨n + 1, hlt, by first | go_num | simp [hk0], by first | exact HBI.out | exact HBI.out.drew | exact below_drewN HBI.out _⟩, by simp [intOf]; omega⟩
              · obtain ⟨m, rfl⟩ : ∃ m, k = m + 1 := ⟨k - 1, by omega⟩
                have hd1 : decide (0 < m + 1) = true := by simp
                have hltm : m < li.length := by omega
                obtain ⟨f0, _⟩ := HD.out (m + 1) x HLI.out
                obtain ⟨g0, _⟩ := HD.out m li[m] (List.getElem?_eq_getElem hltm)
                have HSS : Hid (lessI x li[m] = false) := Lib.hid (aw_sorted HSRT.out (List.getElem?_eq_getElem hltm) HLI.out (Nat.lt_succ_self m))
                have HNE : Hid (li[m].id ≠ x.id) := Lib.hid (aw_uniq HP.out HINV.out.uniq (List.getElem?_eq_getElem hltm) HLI.out (Nat.lt_succ_self m))
                generalize li[m] = z at *
                have hgt := less_total HSS.out HNE.out
                go_quiet (fail)
                go_wp2_with fail
                go_loopw [10] (fun i wi => ∃ n : Nat, n ≤ m + 1 ∧ i = .int .i64 n ∧ Below w5.heap.size w5 wi) (fun i _ => m + 1 - (intOf i).toNat)
                case atStart => exact ⟨0, by omega, rfl, by first | exact HB9.out | exact HB9.out.drew | exact below_drewN HB9.out _⟩
                case round =>
                  obtain ⟨n, hn, rfl, hbi⟩ := hrel
                  have HBI := Lib.hid hbi
                  clear hbi
                  by_cases hlt2 : n < m + 1
                  · have hltn : n < li.length := by omega
                    have HOV : Hid (x.st ≠ 2 → li[n].st ≠ 2 → ¬ x.bx.over li[n].bx) := Lib.hid (aw_disj HP.out HINV.out.disj (List.getElem?_eq_getElem hltn) HLI.out hlt2)
                    obtain ⟨x0, x1, x2, x3, x4, x5, x6, x7, x8, x9⟩ := HX.out wr HBI.out (m + 1) x HLI.out
                    obtain ⟨z0, z1, z2, z3, z4, z5, z6, z7, z8, z9⟩ := HX.out wr HBI.out n li[n] (List.getElem?_eq_getElem hltn)
                    have HLZ : Hid (li[n]? = some li[n]) := Lib.hid (List.getElem?_eq_getElem hltn)
                    generalize li[n] = z at *
                    by_cases q1 : x.st = 2
                    · have r1 : (x.st != 2) = false := by simp [q1]
                      clear q1
                      go_wp2_with fail
                      go_quiet (fail)
                      go_wp2_with fail
                      exact ⟨⟨n + 1, by omega, by go_num, by first | exact HBI.out | exact HBI.out.drew | exact below_drewN HBI.out _⟩, by simp [intOf]; omega⟩
                    · have r1 : (x.st != 2) = true := by simp [q1]
                      by_cases q2 : z.st = 2
                      · have r2 : (z.st != 2) = false := by simp [q2]
                        clear q1 q2
                        go_wp2_with fail
                        go_quiet (fail)
                        go_wp2_with fail
                        exact ⟨⟨n + 1, by omega, by go_num, by first | exact HBI.out | exact HBI.out.drew | exact below_drewN HBI.out _⟩, by simp [intOf]; omega⟩
                      · have r2 : (z.st != 2) = true := by simp [q2]
                        have hov := overlapL_no (HOV.out q1 q2)
                        clear q1 q2
                        go_wp2_with fail
                        refine Reg.region_inv [[], [], [0, 1], [2], [3], [4], [5], [6], [6], [6, 7, 8], [6, 9], [6, 10], [6, 11], [6, 12], [6, 13], [14], [14], [14, 15, 16], [14, 17], [14, 18], [14], [14], [14, 20, 21], [14, 22], [14, 23], [14, 19, 24], [14, 25]] [[], [], [0, 1], [0, 1, 2], [0, 1, 2, 3], [0, 1, 2, 3, 4], [0, 1, 2, 3, 4, 5], [0, 1, 2, 3, 4, 5, 6], [0, 1, 2, 3, 4, 5, 6], [0, 1, 2, 3, 4, 5, 6, 7, 8], [0, 1, 2, 3, 4, 5, 6, 7, 8, 9], [0, 1, 2, 3, 4, 5, 6, 7, 8, 9, 10], [0, 1, 2, 3, 4, 5, 6, 7, 8, 9, 10, 11], [0, 1, 2, 3, 4, 5, 6, 7, 8, 9, 10, 11, 12], [0, 1, 2, 3, 4, 5, 6, 7, 8, 9, 10, 11, 12, 13], [0, 1, 2, 3, 4, 5, 6, 7, 8, 9, 10, 11, 12, 13, 14], [0, 1, 2, 3, 4, 5, 6, 7, 8, 9, 10, 11, 12, 13, 14], [0, 1, 2, 3, 4, 5, 6, 7, 8, 9, 10, 11, 12, 13, 14, 15, 16], [0, 1, 2, 3, 4, 5, 6, 7, 8, 9, 10, 11, 12, 13, 14, 15, 16, 17], [0, 1, 2, 3, 4, 5, 6, 7, 8, 9, 10, 11, 12, 13, 14, 15, 16, 17, 18], [0, 1, 2, 3, 4, 5, 6, 7, 8, 9, 10, 11, 12, 13, 14], [0, 1, 2, 3, 4, 5, 6, 7, 8, 9, 10, 11, 12, 13, 14], [0, 1, 2, 3, 4, 5, 6, 7, 8, 9, 10, 11, 12, 13, 14, 20, 21], [0, 1, 2, 3, 4, 5, 6, 7, 8, 9, 10, 11, 12, 13, 14, 20, 21, 22], [0, 1, 2, 3, 4, 5, 6, 7, 8, 9, 10, 11, 12, 13, 14, 20, 21, 22, 23], [0, 1, 2, 3, 4, 5, 6, 7, 8, 9, 10, 11, 12, 13, 14, 15, 16, 17, 18, 19, 20, 21, 22, 23, 24], [0, 1, 2, 3, 4, 5, 6, 7, 8, 9, 10, 11, 12, 13, 14, 15, 16, 17, 18, 19, 20, 21, 22, 23, 24, 25]] (fun a0_ bb aa ww => aa = Reg.fill bb [(0, 87, .slice (some ⟨g, 0, none⟩) li.length ci), (1, 88, .int .i64 ((m : Int) + 1)), (2, 89, .pointer (some ⟨g, (m + 1) * 10, none⟩)), (3, 90, .pointer (some ⟨g, (m + 1) * 10 + 8, none⟩)), (4, 91, .int .i64 x.st), (5, 92, .bool true), (6, 93, .bool true), (7, 94, .slice (some ⟨g, 0, none⟩) li.length ci), (8, 95, .int .i64 (n : Int)), (9, 96, .pointer (some ⟨g, n * 10, none⟩)), (10, 97, .pointer (some ⟨g, n * 10 + 8, none⟩)), (11, 98, .int .i64 z.st), (12, 99, .bool true), (13, 100, .bool true), (14, 101, .bool true), (15, 102, .slice (some ⟨g, 0, none⟩) li.length ci), (16, 103, .int .i64 ((m : Int) + 1)), (17, 104, .pointer (some ⟨g, (m + 1) * 10, none⟩)), (18, 105, .pointer (some ⟨g, (m + 1) * 10 + 2, none⟩)), (19, 106, .agg #[.int .i64 x.bx.x0, .int .i64 x.bx.y0, .int .i64 x.bx.z0, .int .i64 x.bx.x1, .int .i64 x.bx.y1, .int .i64 x.bx.z1]), (20, 107, .slice (some ⟨g, 0, none⟩) li.length ci), (21, 108, .int .i64 (n : Int)), (22, 109, .pointer (some ⟨g, n * 10, none⟩)), (23, 110, .pointer (some ⟨g, n * 10 + 2, none⟩)), (24, 111, .agg #[.int .i64 z.bx.x0, .int .i64 z.bx.y0, .int .i64 z.bx.z0, .int .i64 z.bx.x1, .int .i64 z.bx.y1, .int .i64 z.bx.z1]), (25, 112, .bool false), (26, 113, .bool false)] a0_ ∧ Below wr.heap.size wr ww) (by kernel_rfl) (by kernel_rfl) (by kernel_rfl) ?_ ?_ ?_
                        · exact ⟨Reg.fill_start.symm, (Below.refl _ _).drew⟩
                        · refine Reg.steps_cons (i := 0) ?_ ?_
                          · rintro bb aa ww ⟨ha, HW⟩ hb hd hn
                            have e5 : aa.tmps[5]? = some (.slice (some ⟨g, 0, none⟩) li.length ci) := by rw [ha]; exact (Reg.fill_off rfl).trans rfl
                            have HA := Lib.hid ha
                            clear ha
                            refine ⟨_, rfl, fun K hK => ?_⟩
                            refine Reg.do_val rfl rfl (v := .slice (some ⟨g, 0, none⟩) li.length ci) (w1 := ww) (by simp only [List.getElem_toArray, List.getElem_cons_zero, execOp, Reg.eval_tmp e5]; rfl) ?_
                            exact hK.out _ _ ⟨by rw [HA.out]; exact Reg.fill_up 0 hb rfl rfl rfl, HW⟩
                          refine Reg.steps_cons (i := 1) ?_ ?_
                          · rintro bb aa ww ⟨ha, HW⟩ hb hd hn
                            have e6 : aa.tmps[6]? = some (.int .i64 ((m : Int) + 1)) := by rw [ha]; exact (Reg.fill_off rfl).trans rfl
                            have HA := Lib.hid ha
                            clear ha
                            refine ⟨_, rfl, fun K hK => ?_⟩
                            refine Reg.do_val rfl rfl (v := .int .i64 ((m : Int) + 1)) (w1 := ww) (by simp only [List.getElem_toArray, List.getElem_cons_succ, List.getElem_cons_zero, execOp, Reg.eval_tmp e6]; rfl) ?_
                            exact hK.out _ _ ⟨by rw [HA.out]; exact Reg.fill_up 1 hb rfl rfl rfl, HW⟩
                          refine Reg.steps_cons (i := 2) ?_ ?_
                          · rintro bb aa ww ⟨ha, HW⟩ hb hd hn
                            have e87 : aa.tmps[87]? = some (.slice (some ⟨g, 0, none⟩) li.length ci) := by rw [ha]; exact Reg.fill_on 0 rfl rfl (hd 0 (by decide)) rfl
                            have e88 : aa.tmps[88]? = some (.int .i64 ((m : Int) + 1)) := by rw [ha]; exact Reg.fill_on 1 rfl rfl (hd 1 (by decide)) rfl
                            have HA := Lib.hid ha
                            clear ha
                            refine ⟨_, rfl, fun K hK => ?_⟩
                            refine Reg.do_val rfl rfl (v := .pointer (some ⟨g, (m + 1) * 10, none⟩)) (w1 := ww) ?_ ?_
                            · simp only [List.getElem_toArray, List.getElem_cons_succ, List.getElem_cons_zero, execOp, Reg.eval_tmp e87, Reg.eval_tmp e88]
                              go_simp
                              intro hh; exact absurd (hh (by omega)) (by omega)
                            exact hK.out _ _ ⟨by rw [HA.out]; exact Reg.fill_up 2 hb rfl rfl rfl, HW⟩
                          refine Reg.steps_cons (i := 3) ?_ ?_
                          · rintro bb aa ww ⟨ha, HW⟩ hb hd hn
                            have e89 : aa.tmps[89]? = some (.pointer (some ⟨g, (m + 1) * 10, none⟩)) := by rw [ha]; exact Reg.fill_on 2 rfl rfl (hd 2 (by decide)) rfl
                            have HA := Lib.hid ha
                            clear ha
                            refine ⟨_, rfl, fun K hK => ?_⟩
                            refine Reg.do_val rfl rfl (v := .pointer (some ⟨g, (m + 1) * 10 + 8, none⟩)) (w1 := ww) ?_ ?_
                            · simp only [List.getElem_toArray, List.getElem_cons_succ, List.getElem_cons_zero, execOp, Reg.eval_tmp e89]
                              go_simp
                            exact hK.out _ _ ⟨by rw [HA.out]; exact Reg.fill_up 3 hb rfl rfl rfl, HW⟩
                          refine Reg.steps_cons (i := 4) ?_ ?_
                          · rintro bb aa ww ⟨ha, HW⟩ hb hd hn
                            have e90 : aa.tmps[90]? = some (.pointer (some ⟨g, (m + 1) * 10 + 8, none⟩)) := by rw [ha]; exact Reg.fill_on 3 rfl rfl (hd 3 (by decide)) rfl
                            have HA := Lib.hid ha
                            clear ha
                            refine ⟨_, rfl, fun K hK => ?_⟩
                            obtain ⟨x0, x1, x2, x3, x4, x5, x6, x7, x8, x9⟩ := HX.out ww (HBI.out.trans (HW.mono HBI.out.size)) (m + 1) x HLI.out
                            refine Reg.do_val rfl rfl (v := .int .i64 x.st) (w1 := ww) ?_ ?_
                            · simp only [List.getElem_toArray, List.getElem_cons_succ, List.getElem_cons_zero, execOp, Reg.eval_tmp e90]
                              go_simp
                            exact hK.out _ _ ⟨by rw [HA.out]; exact Reg.fill_up 4 hb rfl rfl rfl, HW⟩
                          refine Reg.steps_cons (i := 5) ?_ ?_
                          · rintro bb aa ww ⟨ha, HW⟩ hb hd hn
                            have e91 : aa.tmps[91]? = some (.int .i64 x.st) := by rw [ha]; exact Reg.fill_on 4 rfl rfl (hd 4 (by decide)) rfl
                            have HA := Lib.hid ha
                            clear ha
                            refine ⟨_, rfl, fun K hK => ?_⟩
                            refine Reg.do_val rfl rfl (v := .bool true) (w1 := ww) ?_ ?_
                            · simp only [List.getElem_toArray, List.getElem_cons_succ, List.getElem_cons_zero, execOp, Reg.eval_tmp e91]
                              go_simp
                            exact hK.out _ _ ⟨by rw [HA.out]; exact Reg.fill_up 5 hb rfl rfl rfl, HW⟩
                          refine Reg.steps_cons (i := 6) ?_ ?_
                          · rintro bb aa ww ⟨ha, HW⟩ hb hd hn
                            have e92 : aa.tmps[92]? = some (.bool true) := by rw [ha]; exact Reg.fill_on 5 rfl rfl (hd 5 (by decide)) rfl
                            have HA := Lib.hid ha
                            clear ha
                            refine ⟨_, rfl, fun K hK => ?_⟩
                            refine Reg.do_val rfl rfl (v := .bool true) (w1 := ww) (by simp only [List.getElem_toArray, List.getElem_cons_succ, List.getElem_cons_zero, execOp, Reg.eval_tmp e92]; rfl) ?_
                            exact hK.out _ _ ⟨by rw [HA.out]; exact Reg.fill_up 6 hb rfl rfl rfl, HW⟩
                          refine Reg.steps_cons (i := 7) ?_ ?_
                          · rintro bb aa ww ⟨ha, HW⟩ hb hd hn
                            have e5 : aa.tmps[5]? = some (.slice (some ⟨g, 0, none⟩) li.length ci) := by rw [ha]; exact (Reg.fill_off rfl).trans rfl
                            have e93 : aa.tmps[93]? = some (.bool true) := by rw [ha]; exact Reg.fill_on 6 rfl rfl (hd 6 (by decide)) rfl
                            have HA := Lib.hid ha
                            clear ha
                            refine ⟨_, rfl, fun K hK => ?_⟩
                            refine Reg.won_val (Reg.want_on rfl rfl rfl e93) rfl (v := .slice (some ⟨g, 0, none⟩) li.length ci) (w1 := ww) (by simp only [List.getElem_toArray, List.getElem_cons_succ, List.getElem_cons_zero, execOp, Reg.eval_tmp e5]; rfl) ?_
                            exact hK.out _ _ ⟨by rw [HA.out]; exact Reg.fill_up 7 hb rfl rfl rfl, HW⟩
                          refine Reg.steps_cons (i := 8) ?_ ?_
                          · rintro bb aa ww ⟨ha, HW⟩ hb hd hn
                            have e10 : aa.tmps[10]? = some (.int .i64 (n : Int)) := by rw [ha]; exact (Reg.fill_off rfl).trans rfl
                            have e93 : aa.tmps[93]? = some (.bool true) := by rw [ha]; exact Reg.fill_on 6 rfl rfl (hd 6 (by decide)) rfl
                            have HA := Lib.hid ha
                            clear ha
                            refine ⟨_, rfl, fun K hK => ?_⟩
                            refine Reg.won_val (Reg.want_on rfl rfl rfl e93) rfl (v := .int .i64 (n : Int)) (w1 := ww) (by simp only [List.getElem_toArray, List.getElem_cons_succ, List.getElem_cons_zero, execOp, Reg.eval_tmp e10]; rfl) ?_
                            exact hK.out _ _ ⟨by rw [HA.out]; exact Reg.fill_up 8 hb rfl rfl rfl, HW⟩
                          refine Reg.steps_cons (i := 9) ?_ ?_
                          · rintro bb aa ww ⟨ha, HW⟩ hb hd hn
                            have e94 : aa.tmps[94]? = some (.slice (some ⟨g, 0, none⟩) li.length ci) := by rw [ha]; exact Reg.fill_on 7 rfl rfl (hd 7 (by decide)) rfl
                            have e95 : aa.tmps[95]? = some (.int .i64 (n : Int)) := by rw [ha]; exact Reg.fill_on 8 rfl rfl (hd 8 (by decide)) rfl
                            have e93 : aa.tmps[93]? = some (.bool true) := by rw [ha]; exact Reg.fill_on 6 rfl rfl (hd 6 (by decide)) rfl
                            have HA := Lib.hid ha
                            clear ha
                            refine ⟨_, rfl, fun K hK => ?_⟩
                            refine Reg.won_val (Reg.want_on rfl rfl rfl e93) rfl (v := .pointer (some ⟨g, n * 10, none⟩)) (w1 := ww) ?_ ?_
                            · simp only [List.getElem_toArray, List.getElem_cons_succ, List.getElem_cons_zero, execOp, Reg.eval_tmp e94, Reg.eval_tmp e95]
                              go_simp
                            exact hK.out _ _ ⟨by rw [HA.out]; exact Reg.fill_up 9 hb rfl rfl rfl, HW⟩
                          refine Reg.steps_cons (i := 10) ?_ ?_
                          · rintro bb aa ww ⟨ha, HW⟩ hb hd hn
                            have e96 : aa.tmps[96]? = some (.pointer (some ⟨g, n * 10, none⟩)) := by rw [ha]; exact Reg.fill_on 9 rfl rfl (hd 9 (by decide)) rfl
                            have e93 : aa.tmps[93]? = some (.bool true) := by rw [ha]; exact Reg.fill_on 6 rfl rfl (hd 6 (by decide)) rfl
                            have HA := Lib.hid ha
                            clear ha
                            refine ⟨_, rfl, fun K hK => ?_⟩
                            refine Reg.won_val (Reg.want_on rfl rfl rfl e93) rfl (v := .pointer (some ⟨g, n * 10 + 8, none⟩)) (w1 := ww) ?_ ?_
                            · simp only [List.getElem_toArray, List.getElem_cons_succ, List.getElem_cons_zero, execOp, Reg.eval_tmp e96]
                              go_simp
                            exact hK.out _ _ ⟨by rw [HA.out]; exact Reg.fill_up 10 hb rfl rfl rfl, HW⟩
                          refine Reg.steps_cons (i := 11) ?_ ?_
                          · rintro bb aa ww ⟨ha, HW⟩ hb hd hn
                            have e97 : aa.tmps[97]? = some (.pointer (some ⟨g, n * 10 + 8, none⟩)) := by rw [ha]; exact Reg.fill_on 10 rfl rfl (hd 10 (by decide)) rfl
                            have e93 : aa.tmps[93]? = some (.bool true) := by rw [ha]; exact Reg.fill_on 6 rfl rfl (hd 6 (by decide)) rfl
                            have HA := Lib.hid ha
                            clear ha
                            refine ⟨_, rfl, fun K hK => ?_⟩
                            obtain ⟨z0, z1, z2, z3, z4, z5, z6, z7, z8, z9⟩ := HX.out ww (HBI.out.trans (HW.mono HBI.out.size)) n z HLZ.out
                            refine Reg.won_val (Reg.want_on rfl rfl rfl e93) rfl (v := .int .i64 z.st) (w1 := ww) ?_ ?_
                            · simp only [List.getElem_toArray, List.getElem_cons_succ, List.getElem_cons_zero, execOp, Reg.eval_tmp e97]
                              go_simp
                            exact hK.out _ _ ⟨by rw [HA.out]; exact Reg.fill_up 11 hb rfl rfl rfl, HW⟩
                          refine Reg.steps_cons (i := 12) ?_ ?_
                          · rintro bb aa ww ⟨ha, HW⟩ hb hd hn
                            have e98 : aa.tmps[98]? = some (.int .i64 z.st) := by rw [ha]; exact Reg.fill_on 11 rfl rfl (hd 11 (by decide)) rfl
                            have e93 : aa.tmps[93]? = some (.bool true) := by rw [ha]; exact Reg.fill_on 6 rfl rfl (hd 6 (by decide)) rfl
                            have HA := Lib.hid ha
                            clear ha
                            refine ⟨_, rfl, fun K hK => ?_⟩
                            refine Reg.won_val (Reg.want_on rfl rfl rfl e93) rfl (v := .bool true) (w1 := ww) ?_ ?_
                            · simp only [List.getElem_toArray, List.getElem_cons_succ, List.getElem_cons_zero, execOp, Reg.eval_tmp e98]
                              go_simp
                            exact hK.out _ _ ⟨by rw [HA.out]; exact Reg.fill_up 12 hb rfl rfl rfl, HW⟩
                          refine Reg.steps_cons (i := 13) ?_ ?_
                          · rintro bb aa ww ⟨ha, HW⟩ hb hd hn
                            have e93 : aa.tmps[93]? = some (.bool true) := by rw [ha]; exact Reg.fill_on 6 rfl rfl (hd 6 (by decide)) rfl
                            have e99 : aa.tmps[99]? = some (.bool true) := by rw [ha]; exact Reg.fill_on 12 rfl rfl (hd 12 (by decide)) rfl
                            have HA := Lib.hid ha
                            clear ha
                            refine ⟨_, rfl, fun K hK => ?_⟩
                            refine Reg.do_val rfl rfl (v := .bool true) (w1 := ww) ?_ ?_
                            · simp only [List.getElem_toArray, List.getElem_cons_succ, List.getElem_cons_zero, execOp, Reg.eval_tmp e93, Reg.eval_tmp e99]
                              go_simp
                            exact hK.out _ _ ⟨by rw [HA.out]; exact Reg.fill_up 13 hb rfl rfl rfl, HW⟩
                          refine Reg.steps_cons (i := 14) ?_ ?_
                          · rintro bb aa ww ⟨ha, HW⟩ hb hd hn
                            have e100 : aa.tmps[100]? = some (.bool true) := by rw [ha]; exact Reg.fill_on 13 rfl rfl (hd 13 (by decide)) rfl
                            have HA := Lib.hid ha
                            clear ha
                            refine ⟨_, rfl, fun K hK => ?_⟩
                            refine Reg.do_val rfl rfl (v := .bool true) (w1 := ww) (by simp only [List.getElem_toArray, List.getElem_cons_succ, List.getElem_cons_zero, execOp, Reg.eval_tmp e100]; rfl) ?_
                            exact hK.out _ _ ⟨by rw [HA.out]; exact Reg.fill_up 14 hb rfl rfl rfl, HW⟩
                          refine Reg.steps_cons (i := 15) ?_ ?_
                          · rintro bb aa ww ⟨ha, HW⟩ hb hd hn
                            have e5 : aa.tmps[5]? = some (.slice (some ⟨g, 0, none⟩) li.length ci) := by rw [ha]; exact (Reg.fill_off rfl).trans rfl
                            have e101 : aa.tmps[101]? = some (.bool true) := by rw [ha]; exact Reg.fill_on 14 rfl rfl (hd 14 (by decide)) rfl
                            have HA := Lib.hid ha
                            clear ha
                            refine ⟨_, rfl, fun K hK => ?_⟩
                            refine Reg.won_val (Reg.want_on rfl rfl rfl e101) rfl (v := .slice (some ⟨g, 0, none⟩) li.length ci) (w1 := ww) (by simp only [List.getElem_toArray, List.getElem_cons_succ, List.getElem_cons_zero, execOp, Reg.eval_tmp e5]; rfl) ?_
                            exact hK.out _ _ ⟨by rw [HA.out]; exact Reg.fill_up 15 hb rfl rfl rfl, HW⟩
                          refine Reg.steps_cons (i := 16) ?_ ?_
                          · rintro bb aa ww ⟨ha, HW⟩ hb hd hn
                            have e6 : aa.tmps[6]? = some (.int .i64 ((m : Int) + 1)) := by rw [ha]; exact (Reg.fill_off rfl).trans rfl
                            have e101 : aa.tmps[101]? = some (.bool true) := by rw [ha]; exact Reg.fill_on 14 rfl rfl (hd 14 (by decide)) rfl
                            have HA := Lib.hid ha
                            clear ha
                            refine ⟨_, rfl, fun K hK => ?_⟩
                            refine Reg.won_val (Reg.want_on rfl rfl rfl e101) rfl (v := .int .i64 ((m : Int) + 1)) (w1 := ww) (by simp only [List.getElem_toArray, List.getElem_cons_succ, List.getElem_cons_zero, execOp, Reg.eval_tmp e6]; rfl) ?_
                            exact hK.out _ _ ⟨by rw [HA.out]; exact Reg.fill_up 16 hb rfl rfl rfl, HW⟩
                          refine Reg.steps_cons (i := 17) ?_ ?_
                          · rintro bb aa ww ⟨ha, HW⟩ hb hd hn
                            have e102 : aa.tmps[102]? = some (.slice (some ⟨g, 0, none⟩) li.length ci) := by rw [ha]; exact Reg.fill_on 15 rfl rfl (hd 15 (by decide)) rfl
                            have e103 : aa.tmps[103]? = some (.int .i64 ((m : Int) + 1)) := by rw [ha]; exact Reg.fill_on 16 rfl rfl (hd 16 (by decide)) rfl
                            have e101 : aa.tmps[101]? = some (.bool true) := by rw [ha]; exact Reg.fill_on 14 rfl rfl (hd 14 (by decide)) rfl
                            have HA := Lib.hid ha
                            clear ha
                            refine ⟨_, rfl, fun K hK => ?_⟩
                            refine Reg.won_val (Reg.want_on rfl rfl rfl e101) rfl (v := .pointer (some ⟨g, (m + 1) * 10, none⟩)) (w1 := ww) ?_ ?_
                            · simp only [List.getElem_toArray, List.getElem_cons_succ, List.getElem_cons_zero, execOp, Reg.eval_tmp e102, Reg.eval_tmp e103]
                              go_simp
                              intro hh; exact absurd (hh (by omega)) (by omega)
                            exact hK.out _ _ ⟨by rw [HA.out]; exact Reg.fill_up 17 hb rfl rfl rfl, HW⟩
                          refine Reg.steps_cons (i := 18) ?_ ?_
                          · rintro bb aa ww ⟨ha, HW⟩ hb hd hn
                            have e104 : aa.tmps[104]? = some (.pointer (some ⟨g, (m + 1) * 10, none⟩)) := by rw [ha]; exact Reg.fill_on 17 rfl rfl (hd 17 (by decide)) rfl
                            have e101 : aa.tmps[101]? = some (.bool true) := by rw [ha]; exact Reg.fill_on 14 rfl rfl (hd 14 (by decide)) rfl
                            have HA := Lib.hid ha
                            clear ha
                            refine ⟨_, rfl, fun K hK => ?_⟩
                            refine Reg.won_val (Reg.want_on rfl rfl rfl e101) rfl (v := .pointer (some ⟨g, (m + 1) * 10 + 2, none⟩)) (w1 := ww) ?_ ?_
                            · simp only [List.getElem_toArray, List.getElem_cons_succ, List.getElem_cons_zero, execOp, Reg.eval_tmp e104]
                              go_simp
                            exact hK.out _ _ ⟨by rw [HA.out]; exact Reg.fill_up 18 hb rfl rfl rfl, HW⟩
                          refine Reg.steps_cons (i := 19) ?_ ?_
                          · rintro bb aa ww ⟨ha, HW⟩ hb hd hn
                            have e105 : aa.tmps[105]? = some (.pointer (some ⟨g, (m + 1) * 10 + 2, none⟩)) := by rw [ha]; exact Reg.fill_on 18 rfl rfl (hd 18 (by decide)) rfl
                            have e101 : aa.tmps[101]? = some (.bool true) := by rw [ha]; exact Reg.fill_on 14 rfl rfl (hd 14 (by decide)) rfl
                            have HA := Lib.hid ha
                            clear ha
                            refine ⟨_, rfl, fun K hK => ?_⟩
                            obtain ⟨x0, x1, x2, x3, x4, x5, x6, x7, x8, x9⟩ := HX.out ww (HBI.out.trans (HW.mono HBI.out.size)) (m + 1) x HLI.out
                            refine Reg.won_val (Reg.want_on rfl rfl rfl e101) rfl (v := .agg #[.int .i64 x.bx.x0, .int .i64 x.bx.y0, .int .i64 x.bx.z0, .int .i64 x.bx.x1, .int .i64 x.bx.y1, .int .i64 x.bx.z1]) (w1 := ww) ?_ ?_
                            · simp only [List.getElem_toArray, List.getElem_cons_succ, List.getElem_cons_zero, execOp, Reg.eval_tmp e105]
                              go_simp
                            exact hK.out _ _ ⟨by rw [HA.out]; exact Reg.fill_up 19 hb rfl rfl rfl, HW⟩
                          refine Reg.steps_cons (i := 20) ?_ ?_
                          · rintro bb aa ww ⟨ha, HW⟩ hb hd hn
                            have e5 : aa.tmps[5]? = some (.slice (some ⟨g, 0, none⟩) li.length ci) := by rw [ha]; exact (Reg.fill_off rfl).trans rfl
                            have e101 : aa.tmps[101]? = some (.bool true) := by rw [ha]; exact Reg.fill_on 14 rfl rfl (hd 14 (by decide)) rfl
                            have HA := Lib.hid ha
                            clear ha
                            refine ⟨_, rfl, fun K hK => ?_⟩
                            refine Reg.won_val (Reg.want_on rfl rfl rfl e101) rfl (v := .slice (some ⟨g, 0, none⟩) li.length ci) (w1 := ww) (by simp only [List.getElem_toArray, List.getElem_cons_succ, List.getElem_cons_zero, execOp, Reg.eval_tmp e5]; rfl) ?_
                            exact hK.out _ _ ⟨by rw [HA.out]; exact Reg.fill_up 20 hb rfl rfl rfl, HW⟩
                          refine Reg.steps_cons (i := 21) ?_ ?_
                          · rintro bb aa ww ⟨ha, HW⟩ hb hd hn
                            have e10 : aa.tmps[10]? = some (.int .i64 (n : Int)) := by rw [ha]; exact (Reg.fill_off rfl).trans rfl
                            have e101 : aa.tmps[101]? = some (.bool true) := by rw [ha]; exact Reg.fill_on 14 rfl rfl (hd 14 (by decide)) rfl
                            have HA := Lib.hid ha
                            clear ha
                            refine ⟨_, rfl, fun K hK => ?_⟩
                            refine Reg.won_val (Reg.want_on rfl rfl rfl e101) rfl (v := .int .i64 (n : Int)) (w1 := ww) (by simp only [List.getElem_toArray, List.getElem_cons_succ, List.getElem_cons_zero, execOp, Reg.eval_tmp e10]; rfl) ?_
                            exact hK.out _ _ ⟨by rw [HA.out]; exact Reg.fill_up 21 hb rfl rfl rfl, HW⟩
                          refine Reg.steps_cons (i := 22) ?_ ?_
                          · rintro bb aa ww ⟨ha, HW⟩ hb hd hn
                            have e107 : aa.tmps[107]? = some (.slice (some ⟨g, 0, none⟩) li.length ci) := by rw [ha]; exact Reg.fill_on 20 rfl rfl (hd 20 (by decide)) rfl
                            have e108 : aa.tmps[108]? = some (.int .i64 (n : Int)) := by rw [ha]; exact Reg.fill_on 21 rfl rfl (hd 21 (by decide)) rfl
                            have e101 : aa.tmps[101]? = some (.bool true) := by rw [ha]; exact Reg.fill_on 14 rfl rfl (hd 14 (by decide)) rfl
                            have HA := Lib.hid ha
                            clear ha
                            refine ⟨_, rfl, fun K hK => ?_⟩
                            refine Reg.won_val (Reg.want_on rfl rfl rfl e101) rfl (v := .pointer (some ⟨g, n * 10, none⟩)) (w1 := ww) ?_ ?_
                            · simp only [List.getElem_toArray, List.getElem_cons_succ, List.getElem_cons_zero, execOp, Reg.eval_tmp e107, Reg.eval_tmp e108]
                              go_simp
                            exact hK.out _ _ ⟨by rw [HA.out]; exact Reg.fill_up 22 hb rfl rfl rfl, HW⟩
                          refine Reg.steps_cons (i := 23) ?_ ?_
                          · rintro bb aa ww ⟨ha, HW⟩ hb hd hn
                            have e109 : aa.tmps[109]? = some (.pointer (some ⟨g, n * 10, none⟩)) := by rw [ha]; exact Reg.fill_on 22 rfl rfl (hd 22 (by decide)) rfl
                            have e101 : aa.tmps[101]? = some (.bool true) := by rw [ha]; exact Reg.fill_on 14 rfl rfl (hd 14 (by decide)) rfl
                            have HA := Lib.hid ha
                            clear ha
                            refine ⟨_, rfl, fun K hK => ?_⟩
                            refine Reg.won_val (Reg.want_on rfl rfl rfl e101) rfl (v := .pointer (some ⟨g, n * 10 + 2, none⟩)) (w1 := ww) ?_ ?_
                            · simp only [List.getElem_toArray, List.getElem_cons_succ, List.getElem_cons_zero, execOp, Reg.eval_tmp e109]
                              go_simp
                            exact hK.out _ _ ⟨by rw [HA.out]; exact Reg.fill_up 23 hb rfl rfl rfl, HW⟩
                          refine Reg.steps_cons (i := 24) ?_ ?_
                          · rintro bb aa ww ⟨ha, HW⟩ hb hd hn
                            have e110 : aa.tmps[110]? = some (.pointer (some ⟨g, n * 10 + 2, none⟩)) := by rw [ha]; exact Reg.fill_on 23 rfl rfl (hd 23 (by decide)) rfl
                            have e101 : aa.tmps[101]? = some (.bool true) := by rw [ha]; exact Reg.fill_on 14 rfl rfl (hd 14 (by decide)) rfl
                            have HA := Lib.hid ha
                            clear ha
                            refine ⟨_, rfl, fun K hK => ?_⟩
                            obtain ⟨z0, z1, z2, z3, z4, z5, z6, z7, z8, z9⟩ := HX.out ww (HBI.out.trans (HW.mono HBI.out.size)) n z HLZ.out
                            refine Reg.won_val (Reg.want_on rfl rfl rfl e101) rfl (v := .agg #[.int .i64 z.bx.x0, .int .i64 z.bx.y0, .int .i64 z.bx.z0, .int .i64 z.bx.x1, .int .i64 z.bx.y1, .int .i64 z.bx.z1]) (w1 := ww) ?_ ?_
                            · simp only [List.getElem_toArray, List.getElem_cons_succ, List.getElem_cons_zero, execOp, Reg.eval_tmp e110]
                              go_simp
                            exact hK.out _ _ ⟨by rw [HA.out]; exact Reg.fill_up 24 hb rfl rfl rfl, HW⟩
                          refine Reg.steps_cons (i := 25) ?_ ?_
                          · rintro bb aa ww ⟨ha, HW⟩ hb hd hn
                            have e106 : aa.tmps[106]? = some (.agg #[.int .i64 x.bx.x0, .int .i64 x.bx.y0, .int .i64 x.bx.z0, .int .i64 x.bx.x1, .int .i64 x.bx.y1, .int .i64 x.bx.z1]) := by rw [ha]; exact Reg.fill_on 19 rfl rfl (hd 19 (by decide)) rfl
                            have e111 : aa.tmps[111]? = some (.agg #[.int .i64 z.bx.x0, .int .i64 z.bx.y0, .int .i64 z.bx.z0, .int .i64 z.bx.x1, .int .i64 z.bx.y1, .int .i64 z.bx.z1]) := by rw [ha]; exact Reg.fill_on 24 rfl rfl (hd 24 (by decide)) rfl
                            have e101 : aa.tmps[101]? = some (.bool true) := by rw [ha]; exact Reg.fill_on 14 rfl rfl (hd 14 (by decide)) rfl
                            have HA := Lib.hid ha
                            clear ha
                            refine ⟨_, rfl, fun K hK => ?_⟩
                            refine Reg.won_call (Reg.want_on rfl rfl rfl e101) rfl Tryz.func18 (by kernel_rfl) rfl #[.agg #[.int .i64 x.bx.x0, .int .i64 x.bx.y0, .int .i64 x.bx.z0, .int .i64 x.bx.x1, .int .i64 x.bx.y1, .int .i64 x.bx.z1], .agg #[.int .i64 z.bx.x0, .int .i64 z.bx.y0, .int .i64 z.bx.z0, .int .i64 z.bx.x1, .int .i64 z.bx.y1, .int .i64 z.bx.z1]] rfl (by simp [Reg.eval_tmp e106, Reg.eval_tmp e111]) ?_
                            refine (hov ww).mono ?_; rintro e w3 ⟨rfl, hb3⟩; refine ⟨_, rfl, ?_⟩
                            exact hK.out _ _ ⟨by rw [HA.out]; exact Reg.fill_up 25 hb rfl rfl rfl, HW.trans (hb3.mono HW.size)⟩
                          refine Reg.steps_cons (i := 26) ?_ ?_
                          · rintro bb aa ww ⟨ha, HW⟩ hb hd hn
                            have e101 : aa.tmps[101]? = some (.bool true) := by rw [ha]; exact Reg.fill_on 14 rfl rfl (hd 14 (by decide)) rfl
                            have e112 : aa.tmps[112]? = some (.bool false) := by rw [ha]; exact Reg.fill_on 25 rfl rfl (hd 25 (by decide)) rfl
                            have HA := Lib.hid ha
                            clear ha
                            refine ⟨_, rfl, fun K hK => ?_⟩
                            refine Reg.do_val rfl rfl (v := .bool false) (w1 := ww) ?_ ?_
                            · simp only [List.getElem_toArray, List.getElem_cons_succ, List.getElem_cons_zero, execOp, Reg.eval_tmp e101, Reg.eval_tmp e112]
                              go_simp
                            exact hK.out _ _ ⟨by rw [HA.out]; exact Reg.fill_up 26 hb rfl rfl rfl, HW⟩
                          exact trivial
                        rintro bb aa W24 hall ⟨ha, HW⟩
                        have hb0 := hall 0 (by decide)
                        have hb1 := hall 1 (by decide)
                        have hb2 := hall 2 (by decide)
                        have hb3 := hall 3 (by decide)
                        have hb4 := hall 4 (by decide)
                        have hb5 := hall 5 (by decide)
                        have hb6 := hall 6 (by decide)
                        have hb7 := hall 7 (by decide)
                        have hb8 := hall 8 (by decide)
                        have hb9 := hall 9 (by decide)
                        have hb10 := hall 10 (by decide)
                        have hb11 := hall 11 (by decide)
                        have hb12 := hall 12 (by decide)
                        have hb13 := hall 13 (by decide)
                        have hb14 := hall 14 (by decide)
                        have hb15 := hall 15 (by decide)
                        have hb16 := hall 16 (by decide)
                        have hb17 := hall 17 (by decide)
                        have hb18 := hall 18 (by decide)
                        have hb19 := hall 19 (by decide)
                        have hb20 := hall 20 (by decide)
                        have hb21 := hall 21 (by decide)
                        have hb22 := hall 22 (by decide)
                        have hb23 := hall 23 (by decide)
                        have hb24 := hall 24 (by decide)
                        have hb25 := hall 25 (by decide)
                        have hb26 := hall 26 (by decide)
                        simp only [Reg.fill, hb0, hb1, hb2, hb3, hb4, hb5, hb6, hb7, hb8, hb9, hb10, hb11, hb12, hb13, hb14, hb15, hb16, hb17, hb18, hb19, hb20, hb21, hb22, hb23, hb24, hb25, hb26, if_true, Act.put, List.setIfInBounds_toArray, List.set_cons_zero, List.set_cons_succ] at ha
                        clear hb0 hb1 hb2 hb3 hb4 hb5 hb6 hb7 hb8 hb9 hb10 hb11 hb12 hb13 hb14 hb15 hb16 hb17 hb18 hb19 hb20 hb21 hb22 hb23 hb24 hb25 hb26 hall
                        subst ha
                        have HBW := Lib.hid (HBI.out.trans (HW.mono HBI.out.size))
                        clear HW
                        go_wp2_with fail
                        exact ⟨⟨n + 1, by omega, by go_num, HBW.out⟩, by simp [intOf]; omega⟩
                  · obtain rfl : n = m + 1 := by omega
                    go_wp2_with fail
                    refine ⟨⟨m + 1 + 1, hlt, by first | go_num, by first | exact HBI.out | exact HBI.out.drew | exact below_drewN HBI.out _⟩, by simp [intOf]; omega⟩
          · obtain rfl : k = li.length := by omega
            have HBW := Lib.hid (HB5.out.trans (HBK.out.mono HB5.out.size))
            go_wp2_with fail
            go_ret
            exact ⟨rfl, HBW.out⟩
end Go.Proofs.YtejhcbbfdfnfdaaGreatDoor.Yard
