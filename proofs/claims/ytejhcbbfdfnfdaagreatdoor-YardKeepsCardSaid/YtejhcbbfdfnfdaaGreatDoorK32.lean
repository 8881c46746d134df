/- The examples of the chapter (awake), first part: the first two facts. -/
import Derived.Test.YtejhcbbfdfnfdaaGreatDoorK31
import Derived.Test.YtejhcbbfdfnfdaaGreatDoorK23
import Derived.Shelf.SlSortCmp.NoneTotal
import Derived.Test.YtejhcbbfdfnfdaaGreatDoorK27
import Derived.Test.YtejhcbbfdfnfdaaGreatDoorK28
import Derived.Test.YtejhcbbfdfnfdaaGreatDoorK29
import Derived.Test.YtejhcbbfdfnfdaaGreatDoorK30
import Derived.Test.YtejhcbbfdfnfdaaGreatDoorK21
import Derived.Test.YtejhcbbfdfnfdaaGreatDoorK20
import Derived.Test.YtejhcbbfdfnfdaaGreatDoorK16
/- The sort of the items, by the shelf's contract. -/
namespace Go.Proofs.YtejhcbbfdfnfdaaGreatDoor.Yard
open Go.RowKit Go.Proofs.YtejhcbbfdfnfdaaGreatDoor.Base Go.Proofs.YtejhcbbfdfnfdaaGreatDoor.Mp
open Yp (It Yd Fact Bx)
open Go.Sort (SWO grow putRow Holds)
instance : Inhabited It := ⟨⟨⟨#[]⟩, ⟨#[]⟩, ⟨0, 0, 0, 0, 0, 0⟩, 0, ⟨#[]⟩⟩⟩
set_option maxRecDepth 100000 in
set_option maxHeartbeats 2000000 in
theorem items1_grow (x z : It) (w : World) : Calls Tryz.prog 33 #[.agg (itC x), .agg (itC z)] w fun e w' => e = .returned (.int .i64 (cmpE x.id z.id)) ∧ ∃ q os', w' = grow (w.drewN q) os' := by
  have hc := compare_any x.id z.id
  generalize cmpE x.id z.id = n at *
  simp only [itC]
  go_enter Tryz.func33, Tryz.ntmps33
  go_wp2_with fail
  refine (hc _).mono ?_; rintro e w1 ⟨rfl, rfl⟩
  clear hc
  go_wp2_with fail
  go_ret
  exact ⟨rfl, 0, _, by rw [Go.Sort.alloc_eq_grow, Go.Sort.alloc_eq_grow, Go.Sort.grow_grow]; rfl⟩
set_option maxRecDepth 100000 in
theorem isAggI (w : World) : (isAgg 47).run Tryz.prog w = .ok true w := by rfl
set_option maxRecDepth 100000 in
theorem sizeI (w : World) : (Go.sizeOf 47).run Tryz.prog w = .ok 10 w := by rfl
theorem one_itL (x : It) : ∀ v ∈ itL x, v.oneCell' = true := by
  intro u hu
  simp only [itL, itC, List.mem_cons, List.not_mem_nil, or_false] at hu
  rcases hu with rfl | rfl | rfl | rfl | rfl | rfl | rfl | rfl | rfl | rfl <;> rfl
theorem lessI_eq (a b : It) : lessI a b = decide (a.id.toList < b.id.toList) := Go.Proofs.bytesLess_eq _ _
theorem ltOf_eq (a b : It) : Go.Proofs.ltOf (fun x z : It => cmpE x.id z.id) a b = lessI a b := by
  show decide ((if Op.bytesLess a.id.toList b.id.toList = true then (-1 : Int) else if a.id.toList = b.id.toList then 0 else 1) < 0) = Op.bytesLess a.id.toList b.id.toList
  generalize Op.bytesLess a.id.toList b.id.toList = p
  cases p with
  | true => simp
  | false => by_cases h2 : a.id.toList = b.id.toList <;> simp [h2]
theorem ltOf_fun : Go.Proofs.ltOf (fun x z : It => cmpE x.id z.id) = lessI := by funext a b; exact ltOf_eq a b
theorem swo_less : SWO lessI where
  irrefl x := by rw [lessI_eq]; simp [List.lt_irrefl]
  trans x y z h1 h2 := by
    rw [lessI_eq] at *
    simp only [decide_eq_true_eq] at *
    exact List.lt_trans h1 h2
  ntrans x y z h1 h2 := by
    rw [lessI_eq] at *
    simp only [decide_eq_false_iff_not, List.not_lt] at *
    exact List.le_trans h2 h1
theorem flat10 : ∀ (l : List It) (k j : Nat), j < 10 → (l.flatMap itL)[k * 10 + j]? = (l[k]?).bind fun x => (itL x)[j]?
  | [], k, j, _ => by simp
  | c :: cs, 0, j, hj => by
    rw [List.flatMap_cons, List.getElem?_append_left (by simp [itL, itC]; omega)]
    simp
  | c :: cs, k + 1, j, hj => by
    rw [List.flatMap_cons, List.getElem?_append_right (by simp [itL, itC]; omega)]
    have : (k + 1) * 10 + j - (itL c).length = k * 10 + j := by simp [itL, itC]; omega
    rw [this, flat10 cs k j hj]
    rfl
theorem itL_len (x : It) : (itL x).length = 10 := rfl
theorem flat_len (l : List It) : (l.flatMap itL).length = l.length * 10 := by
  induction l with
  | nil => rfl
  | cons a l ih => rw [List.flatMap_cons, List.length_append, ih, itL_len, List.length_cons]; omega
theorem flatK_at (l : List It) (t : Nat) (h : t < l.length * 10) : (l.flatMap itL)[t]? = some ((Go.Sort.flatK itL 10 l.toArray)[t]!) := by
  rw [Go.Sort.get_flatK _ _ _ _ (by simpa using h)]
  have ht : t = t / 10 * 10 + t % 10 := by omega
  have h10 : t / 10 < l.length := by omega
  conv => lhs; rw [ht]
  rw [flat10 l (t / 10) (t % 10) (by omega)]
  rw [List.getElem?_eq_getElem h10]
  have e : l.toArray[t / 10]! = l[t / 10] := by rw [getElem!_pos l.toArray (t / 10) (by simpa using h10)]; simp
  rw [e]
  show (itL l[t / 10])[t % 10]? = some ((itL l[t / 10])[t % 10]!)
  rw [getElem!_pos (itL l[t / 10]) (t % 10) (by rw [itL_len]; omega), List.getElem?_eq_getElem]
theorem irow_some {w : World} {base : Nat} {l : List It} {g n cap : Nat} (h : IRow w base (.slice (some ⟨g, 0, none⟩) n cap) l) : n = l.length ∧ base ≤ g ∧ g < w.heap.size ∧ Go.Sort.HoldsK itL 10 w g 0 l.toArray := by
  rcases h.2 with ⟨e, _⟩ | ⟨g', cap', cur, e, hb, hg, hc, hm, hs, ht⟩
  · cases e
  · injection e with e1 e2 e3
    injection e1 with e1
    injection e1 with e1 _ _
    subst e1 e2
    refine ⟨rfl, hb, block_lt hg, fun j hj => ?_⟩
    have hj' : j < l.length * 10 := by simpa using hj
    have hcell := World.ownsRow.cells h (g := g) rfl j _ (flatK_at l j hj')
    rw [add_lit] at hcell
    exact ⟨hcell, (row_cells hg).2 _⟩
theorem mapBlock_at {w : World} {g : Nat} {cur : Array Value} {e : TypeId} (h : w.heap[g]? = some (.cells cur e (0, 0))) (f : Array Value → Array Value) : (Go.Sort.mapBlock w g f).heap[g]? = some (.cells (f cur) e (0, 0)) := by
  unfold Go.Sort.mapBlock
  rw [Array.getElem?_modify, if_pos rfl, h]
  rfl
theorem mapBlock_off {w : World} {g i : Nat} (h : i ≠ g) (f : Array Value → Array Value) : (Go.Sort.mapBlock w g f).heap[i]? = w.heap[i]? := by
  unfold Go.Sort.mapBlock
  rw [Array.getElem?_modify, if_neg (Ne.symm h)]
theorem grow_at {w : World} {i : Nat} (h : i < w.heap.size) (os : Array Obj) : (grow w os).heap[i]? = w.heap[i]? := by
  show (w.heap ++ os)[i]? = _
  rw [Array.getElem?_append, if_pos h]
theorem mapBlock_size (w : World) (g : Nat) (f : Array Value → Array Value) : (Go.Sort.mapBlock w g f).heap.size = w.heap.size := by simp [Go.Sort.mapBlock]
theorem sort_row {w : World} {base : Nat} {l l' : List It} {g cap : Nat} (h : IRow w base (.slice (some ⟨g, 0, none⟩) l.length cap) l) (hl : l'.length = l.length) (m : Nat) (os : Array Obj) :
    IRow (Go.Proofs.sortWorldK itL 10 w g 0 m l'.toArray os) base (.slice (some ⟨g, 0, none⟩) l.length cap) l' ∧ Stay (fun i => i = g) w (Go.Proofs.sortWorldK itL 10 w g 0 m l'.toArray os) := by
  have hF : (Go.Sort.flatK itL 10 l'.toArray).size = l.length * 10 := by simp [hl]
  rcases h.2 with ⟨e, _⟩ | ⟨g', cap', cur, e, hb, hg, hc, hm, hs, ht⟩
  · cases e
  · injection e with e1 e2 e3
    injection e1 with e1
    injection e1 with e1 _ _
    subst e1 e3
    have hlt := block_lt hg
    constructor
    · refine ⟨by rw [flat_len], .inr ⟨g, cap, Go.Sort.putCells id 0 (Go.Sort.flatK itL 10 l'.toArray) cur, by rw [hl], hb, ?_, by omega, hm, ?_, ?_⟩⟩
      · unfold Go.Proofs.sortWorldK Go.Sort.putRowK Go.Sort.putRow
        rw [grow_at (by rw [mapBlock_size]; exact hlt)]
        exact mapBlock_at hg _
      · unfold Go.Sort.putCells; simpa using hs
      · apply List.ext_getElem?
        intro t
        rw [List.getElem?_take]
        by_cases h10 : t < l'.length * 10
        · rw [if_pos h10, flatK_at l' t h10]
          have hcs : t < cur.size := by rw [hs]; omega
          have hfs : t < 0 + (Go.Sort.flatK itL 10 l'.toArray).size := by rw [hF]; omega
          unfold Go.Sort.putCells
          rw [Array.getElem?_toList, Array.getElem?_mapIdx, Array.getElem?_eq_getElem hcs]
          simp only [Option.map_some]
          rw [if_pos ⟨Nat.zero_le _, hfs⟩]
          rfl
        · rw [if_neg h10, List.getElem?_eq_none (by rw [flat_len]; omega)]
    · refine ⟨rfl, rfl, rfl, ?_, fun i hi hne => ?_⟩
      · unfold Go.Proofs.sortWorldK Go.Sort.putRowK Go.Sort.putRow
        show _ ≤ (_ ++ os).size
        rw [Array.size_append, mapBlock_size]
        exact Nat.le_add_right _ _
      · unfold Go.Proofs.sortWorldK Go.Sort.putRowK Go.Sort.putRow
        rw [grow_at (by rw [mapBlock_size]; exact hi), mapBlock_off hne]
        rfl
theorem sort_said : SortSaid := by
  intro w base v l h hlen
  rcases h.2 with ⟨rfl, h0⟩ | ⟨g, cap, cur, rfl, _⟩
  · have hl : l = [] := List.eq_nil_of_length_eq_zero h0
    subst hl
    have hS := Go.Proofs.AnyF.slices_SortFunc_none (P := Tryz.prog) (ρ := Go.Proofs.Tryz.sortI_ren) { Go.Proofs.Tryz.sortI with } none 0 (.func (.func 33) #[] #[]) w
    change Calls _ 32 _ _ _ at hS
    exact hS.mono fun e w' ⟨he, hw⟩ => ⟨he, [], .refl _, .nil, hw ▸ h, hw ▸ Stay.refl _ _⟩
  · obtain ⟨_, hb, hg, hH⟩ := irow_some h
    have eg : ∀ args w, (callFunc 33 args).run Tryz.prog w = .ok (.enter 33 args) w := Go.Proofs.enters_of Tryz.func33 (by kernel_rfl) rfl
    have hcmp : Go.Proofs.CmpLays Tryz.prog 33 #[] itL 10 (fun x z : It => cmpE x.id z.id) g 0 l.toArray.size w := fun m os dk _ x z => items1_grow x z _
    have hS := Go.Proofs.AnyQ.slices_SortFunc Go.Proofs.Tryz.sortI 10 isAggI sizeI itL itL_len one_itL (fun x z : It => cmpE x.id z.id) (by rw [ltOf_fun]; exact swo_less) 33 #[] g 0 cap l.toArray w eg hcmp hH hg (by simp; omega)
    change Calls _ 32 _ _ _ at hS
    rw [List.size_toArray] at hS
    refine hS.mono fun e w' ⟨he, d', n, os, hp, hso, hw⟩ => ⟨he, d'.toList, ?_, ?_, ?_⟩
    · have := hp.2.2
      have hsz := hp.1
      have h1 : d'.extract 0 l.length = d' := by
        have : l.length = d'.size := by simpa using hsz.symm
        rw [this]; simp
      rw [h1] at this
      simpa using this
    · have hsz : d'.size = l.length := by simpa using hp.1
      rw [ltOf_fun] at hso
      rw [List.pairwise_iff_getElem]
      intro i j hi hj hij
      have hi' : i < d'.size := by simpa using hi
      have hj' : j < d'.size := by simpa using hj
      have := hso i j (Nat.zero_le _) hij (by omega)
      rw [getElem!_pos d' i hi', getElem!_pos d' j hj'] at this
      simpa using this
    · have hsz : d'.toList.length = l.length := by have := hp.1; simpa using this
      have := sort_row h hsz n os
      rw [Array.toArray_toList] at this
      rw [hw]
      exact ⟨this.1, this.2.mono fun i hi => by subst hi; rfl⟩
end Go.Proofs.YtejhcbbfdfnfdaaGreatDoor.Yard

/- The examples of the chapter (awake), first part: the first two facts. -/
namespace Go.Proofs.YtejhcbbfdfnfdaaGreatDoor.Yard
open Go.RowKit Go.Proofs.YtejhcbbfdfnfdaaGreatDoor.Base Go.Proofs.YtejhcbbfdfnfdaaGreatDoor.Mp
open Yp (It Yd Fact Bx)
theorem aw_short : shortNames [Yp.freeF, Yp.cutF] := by
  intro f hf s hs
  simp only [List.mem_cons, List.not_mem_nil, or_false] at hf
  rcases hf with rfl | rfl
  · simp only [Yp.freeF, List.mem_cons, List.not_mem_nil, or_false] at hs
    subst hs; decide
  · simp only [Yp.cutF, List.mem_cons, List.not_mem_nil, or_false] at hs
    rcases hs with rfl | rfl | rfl <;> decide
section
open Go.Proofs.YtejhcbbfdfnfdaaGreatDoor.Reg
variable {q0 q1 : Nat} {w0 W W' : World} {b : Nat → Bool} {g1 g2 g3 Y M Y' M' : Nat}
structure A2 (q0 q1 : Nat) (w0 : World) (b : Nat → Bool) (W : World) (g1 g2 g3 Y M : Nat) : Prop where
  be : Below w0.heap.size w0 W
  r1 : Al W w0.heap.size (b 0) g1 #[.string { data := #[98] }] 9
  r2 : Al W w0.heap.size (b 1) g2 #[.int .i64 0, .int .i64 0, .int .i64 0, .int .i64 100, .int .i64 10, .int .i64 10] 2
  r3 : Al W w0.heap.size (b 4) g3 #[.string { data := #[102, 114, 101, 101] }, .slice (some ⟨g1, 0, none⟩) 1 1, .slice (some ⟨g2, 0, none⟩) 6 6, .string { data := #[99, 117, 116] }, .slice (some ⟨q0, 0, none⟩) 3 3, .slice (some ⟨(q1), 0, none⟩) 3 3] 39
  y : b 5 = true → YOwn w0.heap.size W Y M Yp.aw1
theorem A2.start : A2 q0 q1 W (fun _ => false) W.drew g1 g2 g3 Y M := ⟨(Below.refl _ _).drew, Al.off, Al.off, Al.off, fun h => (by cases h)⟩
theorem A2.keep {i : Nat} (h : A2 q0 q1 w0 b W g1 g2 g3 Y M) (hi : i ∉ [0, 1, 4, 5]) : A2 q0 q1 w0 (up b i) W g1 g2 g3 Y M := by
  simp only [List.mem_cons, List.not_mem_nil, or_false, not_or] at hi
  refine ⟨h.be, ?_, ?_, ?_, ?_⟩
  · rw [up_ne (Ne.symm hi.1)]; exact h.r1
  · rw [up_ne (Ne.symm hi.2.1)]; exact h.r2
  · rw [up_ne (Ne.symm hi.2.2.1)]; exact h.r3
  · rw [up_ne (Ne.symm hi.2.2.2)]; exact h.y
theorem A2.grow (h : A2 q0 q1 w0 b W g1 g2 g3 Y M) (hb : Below W.heap.size W W') (h5 : b 5 = false) : A2 q0 q1 w0 b W' g1 g2 g3 Y M :=
  ⟨h.be.trans (hb.mono h.be.size), h.r1.below hb, h.r2.below hb, h.r3.below hb, fun e => by rw [h5] at e; cases e⟩
theorem A2.old (h : A2 q0 q1 w0 b W g1 g2 g3 Y M) {p : Nat} {o : Obj} (hp : w0.heap[p]? = some o) : W.heap[p]? = some o := (h.be.block p (Array.getElem?_eq_some_iff.1 hp).1).trans hp
theorem A2.a0 (h : A2 q0 q1 w0 b W g1 g2 g3 Y M) (_ : b 0 = false) (_ : b 2 = false) (h4 : b 4 = false) (h5 : b 5 = false) : A2 q0 q1 w0 (up b 0) (W.alloc (.cells #[.string { data := #[98] }] 9)) W.heap.size g2 g3 Y M := by
  have hB := al_below W (.cells #[.string { data := #[98] }] 9)
  have hz := h.be.size
  refine ⟨h.be.trans (hB.mono hz), ?_, ?_, ?_, ?_⟩
  · rw [up_self]; exact Al.new hz
  · rw [up_ne (show (1 : Nat) ≠ 0 by decide)]; exact h.r2.below hB
  · rw [up_ne (show (4 : Nat) ≠ 0 by decide), h4]; exact Al.off
  · rw [up_ne (show (5 : Nat) ≠ 0 by decide), h5]; exact fun e => (by cases e)
theorem A2.a1 (h : A2 q0 q1 w0 b W g1 g2 g3 Y M) (_ : b 1 = false) (_ : b 2 = false) (h4 : b 4 = false) (h5 : b 5 = false) : A2 q0 q1 w0 (up b 1) (W.alloc (.cells #[.int .i64 0, .int .i64 0, .int .i64 0, .int .i64 100, .int .i64 10, .int .i64 10] 2)) g1 W.heap.size g3 Y M := by
  have hB := al_below W (.cells #[.int .i64 0, .int .i64 0, .int .i64 0, .int .i64 100, .int .i64 10, .int .i64 10] 2)
  have hz := h.be.size
  refine ⟨h.be.trans (hB.mono hz), ?_, ?_, ?_, ?_⟩
  · rw [up_ne (show (0 : Nat) ≠ 1 by decide)]; exact h.r1.below hB
  · rw [up_self]; exact Al.new hz
  · rw [up_ne (show (4 : Nat) ≠ 1 by decide), h4]; exact Al.off
  · rw [up_ne (show (5 : Nat) ≠ 1 by decide), h5]; exact fun e => (by cases e)
theorem A2.a4 (h : A2 q0 q1 w0 b W g1 g2 g3 Y M) (h5 : b 5 = false) : A2 q0 q1 w0 (up b 4) (W.alloc (.cells #[.string { data := #[102, 114, 101, 101] }, .slice (some ⟨g1, 0, none⟩) 1 1, .slice (some ⟨g2, 0, none⟩) 6 6, .string { data := #[99, 117, 116] }, .slice (some ⟨q0, 0, none⟩) 3 3, .slice (some ⟨(q1), 0, none⟩) 3 3] 39)) g1 g2 W.heap.size Y M := by
  have hB := al_below W (.cells #[.string { data := #[102, 114, 101, 101] }, .slice (some ⟨g1, 0, none⟩) 1 1, .slice (some ⟨g2, 0, none⟩) 6 6, .string { data := #[99, 117, 116] }, .slice (some ⟨q0, 0, none⟩) 3 3, .slice (some ⟨(q1), 0, none⟩) 3 3] 39)
  have hz := h.be.size
  refine ⟨h.be.trans (hB.mono hz), ?_, ?_, ?_, ?_⟩
  · rw [up_ne (show (0 : Nat) ≠ 4 by decide)]; exact h.r1.below hB
  · rw [up_ne (show (1 : Nat) ≠ 4 by decide)]; exact h.r2.below hB
  · rw [up_self]; exact Al.new hz
  · rw [up_ne (show (5 : Nat) ≠ 4 by decide), h5]; exact fun e => (by cases e)
theorem A2.call (h : A2 q0 q1 w0 b W g1 g2 g3 Y M) (hy : YOwn W.heap.size W' Y' M' Yp.aw1) (hb : Below W.heap.size W W') : A2 q0 q1 w0 (up b 5) W' g1 g2 g3 Y' M' := by
  have hz := h.be.size
  refine ⟨h.be.trans (hb.mono hz), ?_, ?_, ?_, fun _ => hy.mono hz⟩
  · rw [up_ne (show (0 : Nat) ≠ 5 by decide)]; exact h.r1.below hb
  · rw [up_ne (show (1 : Nat) ≠ 5 by decide)]; exact h.r2.below hb
  · rw [up_ne (show (4 : Nat) ≠ 5 by decide)]; exact h.r3.below hb
theorem rd_block {W : World} {b : Nat} {l : List Value} {t : TypeId} {fr : Nat × Nat} (h : W.heap[b]? = some (.cells l.toArray t fr)) : Rd W (fun _ => True) (.slice (some ⟨b, 0, none⟩) l.length l.length) l :=
  ⟨some ⟨b, 0, none⟩, l.length, rfl, Nat.le_refl _, fun _ => ⟨b, 0, rfl, block_lt h, trivial, fun j u hj => by
    rw [Nat.zero_add, World.cell?]
    simp [h, hj]⟩⟩
theorem A2.list (h : A2 q0 q1 w0 b W g1 g2 g3 Y M) (h0 : b 0 = true) (h1 : b 1 = true) (h4 : b 4 = true) (hn : Rd w0 (fun _ => True) (.slice (some ⟨q0, 0, none⟩) 3 3) (strV Yp.cutF.names)) (hv : Rd w0 (fun _ => True) (.slice (some ⟨q1, 0, none⟩) 3 3) (intV Yp.cutF.vals)) :
    FLs W (fun _ => True) (.slice (some ⟨g3, 0, none⟩) 2 2) [Yp.freeF, Yp.cutF] := by
  have hr := (h.r3 h4).2
  have hc := (row_cells hr).1
  have hn' := hn.below (h.be.mono (Nat.le_refl _))
  have hv' := hv.below (h.be.mono (Nat.le_refl _))
  have hn1 : Rd W (fun _ => True) (.slice (some ⟨g1, 0, none⟩) 1 1) (strV Yp.freeF.names) := rd_block (l := strV Yp.freeF.names) (h.r1 h0).2
  have hv1 : Rd W (fun _ => True) (.slice (some ⟨g2, 0, none⟩) 6 6) (intV Yp.freeF.vals) := rd_block (l := intV Yp.freeF.vals) (h.r2 h1).2
  refine ⟨_, _, rfl, Nat.le_refl _, fun _ => ⟨g3, 0, rfl, block_lt hr, trivial, fun j f hj => ?_⟩⟩
  match j, hj with
  | 0, hj => cases hj; exact ⟨_, _, hc 0, hc 1, hc 2, hn1, hv1⟩
  | 1, hj => cases hj; exact ⟨_, _, hc 3, hc 4, hc 5, hn', hv'⟩
  | j + 2, hj => simp at hj
end

/-- A block that the call remembers: none of the yard's. -/
structure Rem (W : World) (Y M : Nat) (FS : Value) (b : Nat) (o : Obj) : Prop where
  row : W.heap[b]? = some o
  nY : b ≠ Y
  nM : b ≠ M
  nF : FS.ownBlock ≠ some b
theorem Rem.below {W W' : World} {Y M b : Nat} {FS : Value} {o : Obj} (h : Rem W Y M FS b o) (hb : Below W.heap.size W W') : Rem W' Y M FS b o :=
  ⟨(hb.block b (block_lt h.row)).trans h.row, h.nY, h.nM, h.nF⟩
theorem Rem.new {W : World} {Y M : Nat} {FS : Value} {y : Yd} (hy : YAt W Y M FS y) (C : Array Value) (t : TypeId) : Rem (W.alloc (.cells C t)) Y M FS W.heap.size (.cells C t (0, 0)) :=
  ⟨new_block _ _, Nat.ne_of_gt hy.ltY, Nat.ne_of_gt hy.ltM, fun e => by have := own_lt hy e; omega⟩
theorem A2.rem {q0 q1 : Nat} {w0 W : World} {b : Nat → Bool} {g1 g2 g3 Y M p : Nat} {FS : Value} {o : Obj} (h : A2 q0 q1 w0 b W g1 g2 g3 Y M) (hp : w0.heap[p]? = some o) (hY : w0.heap.size ≤ Y) (hM : w0.heap.size ≤ M) (hF : ∀ g, FS.ownBlock = some g → w0.heap.size ≤ g) : Rem W Y M FS p o :=
  have hl := block_lt hp
  ⟨h.old hp, by omega, by omega, fun e => by have := hF p e; omega⟩
/-- The yard, all of whose blocks the call has made. -/
structure AS (w : World) (Y M : Nat) (FS : Value) (y : Yd) (W : World) : Prop where
  yat : YAt W Y M FS y
  hY : w.heap.size ≤ Y
  hM : w.heap.size ≤ M
  hF : ∀ g, FS.ownBlock = some g → w.heap.size ≤ g
  be : Below w.heap.size w W
theorem AS.below {w W W' : World} {Y M : Nat} {FS : Value} {y : Yd} (h : AS w Y M FS y W) (hb : Below W.heap.size W W') : AS w Y M FS y W' :=
  ⟨h.yat.below hb, h.hY, h.hM, h.hF, h.be.trans (hb.mono h.be.size)⟩
theorem do_aw {w W : World} {Y M : Nat} {FS : Value} {y : Yd} (h : AS w Y M FS y W) (hi : Yp.Inv y) (hlen : y.items.length < 4000) (hfl : y.facts.length < 4096) (f : Fact) (nv vv : Value) (hn : Rd W (fun b => b ≠ M ∧ b ≠ Y) nv (strV f.names)) (hv : Rd W (fun b => b ≠ M ∧ b ≠ Y) vv (intV f.vals)) (hsz : ∀ s ∈ f.names, s.size ≤ 140737488351232) (hc : Yp.check y f = 0) :
    Calls Tryz.prog 14 #[.pointer (some ⟨Y, 0, none⟩), .agg #[.string f.kind, nv, vv]] W fun e w' => e = .returned (.int .i64 0) ∧ ∃ FS', AS w Y M FS' (Yp.step y f) w' ∧ ∀ b o, Rem W Y M FS b o → Rem w' Y M FS' b o := by
  refine (do_done h.yat hi hlen hfl _ (fun _ hb => hb) f nv vv hn hv hsz hc).mono ?_
  rintro e w' ⟨rfl, gq, cq, hy, hs, hg⟩
  have hbe := h.be.size
  refine ⟨rfl, _, ⟨hy, h.hY, h.hM, ?_, h.be.trans (hs.below hbe ?_)⟩, ?_⟩
  · intro g e
    have e : gq = g := Option.some.inj e
    subst e
    rcases hg with e | e
    · exact h.hF _ e
    · omega
  · rintro i (rfl | rfl | e)
    · exact h.hM
    · exact h.hY
    · exact h.hF _ e
  · rintro b o ⟨h1, h2, h3, h4⟩
    refine ⟨(hs.block b (block_lt h1) (by rintro (e | e | e); exact h3 e; exact h2 e; exact h4 e)).trans h1, h2, h3, fun e => ?_⟩
    have e : gq = b := Option.some.inj e
    subst e
    rcases hg with e | e
    · exact h4 e
    · have := block_lt h1; omega
theorem rd_rem {W : World} {Y M b : Nat} {FS : Value} {l : List Value} {t : TypeId} {fr : Nat × Nat} (h : Rem W Y M FS b (.cells l.toArray t fr)) : Rd W (fun b => b ≠ M ∧ b ≠ Y) (.slice (some ⟨b, 0, none⟩) l.length l.length) l :=
  ⟨some ⟨b, 0, none⟩, l.length, rfl, Nat.le_refl _, fun _ => ⟨b, 0, rfl, block_lt h.row, ⟨h.nM, h.nY⟩, fun j u hj => by
    rw [Nat.zero_add, World.cell?]
    simp [h.row, hj]⟩⟩
theorem own_rem {w W4 W5 : World} {Y M g c n : Nat} {FS : Value} {y : Yd} {e : TypeId} {xs : List Value} (h : W5.ownsRow W4.heap.size e 1 (.slice (some ⟨g, 0, none⟩) n c) n xs) (hy : AS w Y M FS y W4) :
    ∃ cur : Array Value, Rem W5 Y M FS g (.cells cur e (0, 0)) ∧ ∀ (j : Nat) (u : Value), xs[j]? = some u → cur[j]? = some u := by
  have hl := h.lt g rfl
  have hY := hy.yat.ltY
  have hM := hy.yat.ltM
  rcases h.2 with ⟨h0, _⟩ | ⟨g', cap, cur, hv, _, hg, _⟩
  · cases h0
  · injection hv with e1 _ _
    injection e1 with e1
    injection e1 with e1
    subst e1
    refine ⟨cur, ⟨hg, by omega, by omega, fun e => by have := own_lt hy.yat e; omega⟩, fun j u hj => ?_⟩
    have := h.cells (g := g) rfl j u hj
    rw [add_lit, Nat.zero_add, World.cell?] at this
    simpa [hg] using this
theorem aw_stone : ∀ x ∈ Yp.aw3.items, x.stone = Yp.sS → x = Yp.itL 4 Yp.sS := by
  intro x hx hs
  simp only [Yp.aw3, List.mem_cons, List.not_mem_nil, or_false] at hx
  rcases hx with rfl | rfl | rfl
  · exact absurd hs (by decide)
  · rfl
  · exact absurd hs (by decide)
theorem aw_tot : totV Yp.aw1.items Yp.aw1.kerfs = #[.int .i64 10000, .int .i64 0, .int .i64 9200, .int .i64 0, .int .i64 0, .int .i64 0, .int .i64 0, .int .i64 800] := by kernel_rfl
theorem rd_nl (W : World) (X : Nat → Prop) : Rd W X (.slice none 0 0) [] := ⟨none, 0, rfl, Nat.le_refl _, fun h => absurd h (by simp)⟩
end Go.Proofs.YtejhcbbfdfnfdaaGreatDoor.Yard
