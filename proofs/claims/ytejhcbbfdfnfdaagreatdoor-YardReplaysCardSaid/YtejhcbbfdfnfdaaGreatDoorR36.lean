/- The sort of the items, by the shelf's contract. -/
import Derived.Test.YtejhcbbfdfnfdaaGreatDoorR5
import Derived.Test.YtejhcbbfdfnfdaaGreatDoorR35
import Derived.Test.YtejhcbbfdfnfdaaGreatDoorR23
import Derived.Shelf.SlSortCmp.NoneTotal
/- cmp.Compare at strings. -/
namespace Go.Proofs.YtejhcbbfdfnfdaaGreatDoor.Yard
open Go.RowKit Go.Proofs.YtejhcbbfdfnfdaaGreatDoor.Base
set_option maxHeartbeats 1000000 in
theorem isNaN_any (a : ByteArray) (w : World) : Calls Tryz.prog 66 #[.string a] w fun e w' => e = .returned (.bool false) ∧ w' = w := by
  go_enter Tryz.func66, Tryz.ntmps66
  go_wp2_with fail
  go_ret
  exact ⟨rfl, rfl⟩
def cmpE (a b : ByteArray) : Int := if Op.bytesLess a.toList b.toList = true then -1 else if a.toList = b.toList then 0 else 1
set_option maxHeartbeats 1000000 in
theorem compare_any (a b : ByteArray) (w : World) : Calls Tryz.prog 34 #[.string a, .string b] w fun e w' => e = .returned (.int .i64 (cmpE a b)) ∧ w' = w := by
  have h1 := isNaN_any a
  have h2 := isNaN_any b
  have HE : Hid (cmpE a b = if Op.bytesLess a.toList b.toList = true then -1 else if a.toList = b.toList then 0 else 1) := Lib.hid rfl
  generalize cmpE a b = n at *
  cases hl : Op.bytesLess a.toList b.toList with
  | true =>
    rw [hl] at HE
    go_enter Tryz.func34, Tryz.ntmps34
    go_wp2_with fail
    refine (h1 _).mono ?_; rintro e w1 ⟨rfl, rfl⟩
    go_wp2_with fail
    refine (h2 _).mono ?_; rintro e w2 ⟨rfl, rfl⟩
    go_wp2_with fail
    go_ret
    exact ⟨Base.ret_int HE.out.symm, rfl⟩
  | false =>
    rw [hl] at HE
    by_cases he : a.toList = b.toList
    · have hb : (a.toList == b.toList) = true := by simpa using he
      have HE : Hid (n = 0) := Lib.hid (by rw [HE.out]; simp [he])
      clear he
      go_enter Tryz.func34, Tryz.ntmps34
      go_wp2_with fail
      refine (h1 _).mono ?_; rintro e w1 ⟨rfl, rfl⟩
      go_wp2_with fail
      refine (h2 _).mono ?_; rintro e w2 ⟨rfl, rfl⟩
      go_wp2_with fail
      go_ret
      exact ⟨Base.ret_int HE.out.symm, rfl⟩
    · have hb : (a.toList == b.toList) = false := by simpa using he
      have HE : Hid (n = 1) := Lib.hid (by rw [HE.out]; simp [he])
      clear he
      go_enter Tryz.func34, Tryz.ntmps34
      go_wp2_with fail
      refine (h1 _).mono ?_; rintro e w1 ⟨rfl, rfl⟩
      go_wp2_with fail
      refine (h2 _).mono ?_; rintro e w2 ⟨rfl, rfl⟩
      go_wp2_with fail
      go_ret
      exact ⟨Base.ret_int HE.out.symm, rfl⟩
end Go.Proofs.YtejhcbbfdfnfdaaGreatDoor.Yard

/- The sort of the items, by the shelf's contract. -/
namespace Go.Proofs.YtejhcbbfdfnfdaaGreatDoor.Yard
open Go.RowKit Go.Proofs.YtejhcbbfdfnfdaaGreatDoor.Base Go.Proofs.YtejhcbbfdfnfdaaGreatDoor.Mp
open Yp (It Yd Fact Bx)
open Go.Sort (SWO grow putRow Holds)
instance : Inhabited It := ⟨⟨⟨#[]⟩, ⟨#[]⟩, ⟨0, 0, 0, 0, 0, 0⟩, 0, ⟨#[]⟩⟩⟩
set_option maxRecDepth 100000 in
set_option maxHeartbeats 2000000 in
theorem items1_grow (x z : It) (w : World) : Calls Tryz.prog 33 #[.agg (itC x), .agg (itC z)] w fun e w' => e = .returned (.int .i64 (cmpE x.id z.id)) ∧ ∃ q os', w' = grow (w.drewN q) os' := by
  have hc := compare_any x.id z.id
  generalize cmpE x.id z.id = n at *
  simp only [itC]
  go_enter Tryz.func33, Tryz.ntmps33
  go_wp2_with fail
  refine (hc _).mono ?_; rintro e w1 ⟨rfl, rfl⟩
  clear hc
  go_wp2_with fail
  go_ret
  exact ⟨rfl, 0, _, by rw [Go.Sort.alloc_eq_grow, Go.Sort.alloc_eq_grow, Go.Sort.grow_grow]; rfl⟩
set_option maxRecDepth 100000 in
theorem isAggI (w : World) : (isAgg 47).run Tryz.prog w = .ok true w := by rfl
set_option maxRecDepth 100000 in
theorem sizeI (w : World) : (Go.sizeOf 47).run Tryz.prog w = .ok 10 w := by rfl
theorem one_itL (x : It) : ∀ v ∈ itL x, v.oneCell' = true := by
  intro u hu
  simp only [itL, itC, List.mem_cons, List.not_mem_nil, or_false] at hu
  rcases hu with rfl | rfl | rfl | rfl | rfl | rfl | rfl | rfl | rfl | rfl <;> rfl
theorem lessI_eq (a b : It) : lessI a b = decide (a.id.toList < b.id.toList) := Go.Proofs.bytesLess_eq _ _
theorem ltOf_eq (a b : It) : Go.Proofs.ltOf (fun x z : It => cmpE x.id z.id) a b = lessI a b := by
  show decide ((if Op.bytesLess a.id.toList b.id.toList = true then (-1 : Int) else if a.id.toList = b.id.toList then 0 else 1) < 0) = Op.bytesLess a.id.toList b.id.toList
  generalize Op.bytesLess a.id.toList b.id.toList = p
  cases p with
  | true => simp
  | false => by_cases h2 : a.id.toList = b.id.toList <;> simp [h2]
theorem ltOf_fun : Go.Proofs.ltOf (fun x z : It => cmpE x.id z.id) = lessI := by funext a b; exact ltOf_eq a b
theorem swo_less : SWO lessI where
  irrefl x := by rw [lessI_eq]; simp [List.lt_irrefl]
  trans x y z h1 h2 := by
    rw [lessI_eq] at *
    simp only [decide_eq_true_eq] at *
    exact List.lt_trans h1 h2
  ntrans x y z h1 h2 := by
    rw [lessI_eq] at *
    simp only [decide_eq_false_iff_not, List.not_lt] at *
    exact List.le_trans h2 h1
theorem flat10 : ∀ (l : List It) (k j : Nat), j < 10 → (l.flatMap itL)[k * 10 + j]? = (l[k]?).bind fun x => (itL x)[j]?
  | [], k, j, _ => by simp
  | c :: cs, 0, j, hj => by
    rw [List.flatMap_cons, List.getElem?_append_left (by simp [itL, itC]; omega)]
    simp
  | c :: cs, k + 1, j, hj => by
    rw [List.flatMap_cons, List.getElem?_append_right (by simp [itL, itC]; omega)]
    have : (k + 1) * 10 + j - (itL c).length = k * 10 + j := by simp [itL, itC]; omega
    rw [this, flat10 cs k j hj]
    rfl
theorem itL_len (x : It) : (itL x).length = 10 := rfl
theorem flat_len (l : List It) : (l.flatMap itL).length = l.length * 10 := by
  induction l with
  | nil => rfl
  | cons a l ih => rw [List.flatMap_cons, List.length_append, ih, itL_len, List.length_cons]; omega
theorem flatK_at (l : List It) (t : Nat) (h : t < l.length * 10) : (l.flatMap itL)[t]? = some ((Go.Sort.flatK itL 10 l.toArray)[t]!) := by
  rw [Go.Sort.get_flatK _ _ _ _ (by simpa using h)]
  have ht : t = t / 10 * 10 + t % 10 := by omega
  have h10 : t / 10 < l.length := by omega
  conv => lhs; rw [ht]
  rw [flat10 l (t / 10) (t % 10) (by omega)]
  rw [List.getElem?_eq_getElem h10]
  have e : l.toArray[t / 10]! = l[t / 10] := by rw [getElem!_pos l.toArray (t / 10) (by simpa using h10)]; simp
  rw [e]
  show (itL l[t / 10])[t % 10]? = some ((itL l[t / 10])[t % 10]!)
  rw [getElem!_pos (itL l[t / 10]) (t % 10) (by rw [itL_len]; omega), List.getElem?_eq_getElem]
theorem irow_some {w : World} {base : Nat} {l : List It} {g n cap : Nat} (h : IRow w base (.slice (some ⟨g, 0, none⟩) n cap) l) : n = l.length ∧ base ≤ g ∧ g < w.heap.size ∧ Go.Sort.HoldsK itL 10 w g 0 l.toArray := by
  rcases h.2 with ⟨e, _⟩ | ⟨g', cap', cur, e, hb, hg, hc, hm, hs, ht⟩
  · cases e
  · injection e with e1 e2 e3
    injection e1 with e1
    injection e1 with e1 _ _
    subst e1 e2
    refine ⟨rfl, hb, block_lt hg, fun j hj => ?_⟩
    have hj' : j < l.length * 10 := by simpa using hj
    have hcell := World.ownsRow.cells h (g := g) rfl j _ (flatK_at l j hj')
    rw [add_lit] at hcell
    exact ⟨hcell, (row_cells hg).2 _⟩
theorem mapBlock_at {w : World} {g : Nat} {cur : Array Value} {e : TypeId} (h : w.heap[g]? = some (.cells cur e (0, 0))) (f : Array Value → Array Value) : (Go.Sort.mapBlock w g f).heap[g]? = some (.cells (f cur) e (0, 0)) := by
  unfold Go.Sort.mapBlock
  rw [Array.getElem?_modify, if_pos rfl, h]
  rfl
theorem mapBlock_off {w : World} {g i : Nat} (h : i ≠ g) (f : Array Value → Array Value) : (Go.Sort.mapBlock w g f).heap[i]? = w.heap[i]? := by
  unfold Go.Sort.mapBlock
  rw [Array.getElem?_modify, if_neg (Ne.symm h)]
theorem grow_at {w : World} {i : Nat} (h : i < w.heap.size) (os : Array Obj) : (grow w os).heap[i]? = w.heap[i]? := by
  show (w.heap ++ os)[i]? = _
  rw [Array.getElem?_append, if_pos h]
theorem mapBlock_size (w : World) (g : Nat) (f : Array Value → Array Value) : (Go.Sort.mapBlock w g f).heap.size = w.heap.size := by simp [Go.Sort.mapBlock]
theorem sort_row {w : World} {base : Nat} {l l' : List It} {g cap : Nat} (h : IRow w base (.slice (some ⟨g, 0, none⟩) l.length cap) l) (hl : l'.length = l.length) (m : Nat) (os : Array Obj) :
    IRow (Go.Proofs.sortWorldK itL 10 w g 0 m l'.toArray os) base (.slice (some ⟨g, 0, none⟩) l.length cap) l' ∧ Stay (fun i => i = g) w (Go.Proofs.sortWorldK itL 10 w g 0 m l'.toArray os) := by
  have hF : (Go.Sort.flatK itL 10 l'.toArray).size = l.length * 10 := by simp [hl]
  rcases h.2 with ⟨e, _⟩ | ⟨g', cap', cur, e, hb, hg, hc, hm, hs, ht⟩
  · cases e
  · injection e with e1 e2 e3
    injection e1 with e1
    injection e1 with e1 _ _
    subst e1 e3
    have hlt := block_lt hg
    constructor
    · refine ⟨by rw [flat_len], .inr ⟨g, cap, Go.Sort.putCells id 0 (Go.Sort.flatK itL 10 l'.toArray) cur, by rw [hl], hb, ?_, by omega, hm, ?_, ?_⟩⟩
      · unfold Go.Proofs.sortWorldK Go.Sort.putRowK Go.Sort.putRow
        rw [grow_at (by rw [mapBlock_size]; exact hlt)]
        exact mapBlock_at hg _
      · unfold Go.Sort.putCells; simpa using hs
      · apply List.ext_getElem?
        intro t
        rw [List.getElem?_take]
        by_cases h10 : t < l'.length * 10
        · rw [if_pos h10, flatK_at l' t h10]
          have hcs : t < cur.size := by rw [hs]; omega
          have hfs : t < 0 + (Go.Sort.flatK itL 10 l'.toArray).size := by rw [hF]; omega
          unfold Go.Sort.putCells
          rw [Array.getElem?_toList, Array.getElem?_mapIdx, Array.getElem?_eq_getElem hcs]
          simp only [Option.map_some]
          rw [if_pos ⟨Nat.zero_le _, hfs⟩]
          rfl
        · rw [if_neg h10, List.getElem?_eq_none (by rw [flat_len]; omega)]
    · refine ⟨rfl, rfl, rfl, ?_, fun i hi hne => ?_⟩
      · unfold Go.Proofs.sortWorldK Go.Sort.putRowK Go.Sort.putRow
        show _ ≤ (_ ++ os).size
        rw [Array.size_append, mapBlock_size]
        exact Nat.le_add_right _ _
      · unfold Go.Proofs.sortWorldK Go.Sort.putRowK Go.Sort.putRow
        rw [grow_at (by rw [mapBlock_size]; exact hi), mapBlock_off hne]
        rfl
theorem sort_said : SortSaid := by
  intro w base v l h hlen
  rcases h.2 with ⟨rfl, h0⟩ | ⟨g, cap, cur, rfl, _⟩
  · have hl : l = [] := List.eq_nil_of_length_eq_zero h0
    subst hl
    have hS := Go.Proofs.AnyF.slices_SortFunc_none (P := Tryz.prog) (ρ := Go.Proofs.Tryz.sortI_ren) { Go.Proofs.Tryz.sortI with } none 0 (.func (.func 33) #[] #[]) w
    change Calls _ 32 _ _ _ at hS
    exact hS.mono fun e w' ⟨he, hw⟩ => ⟨he, [], .refl _, .nil, hw ▸ h, hw ▸ Stay.refl _ _⟩
  · obtain ⟨_, hb, hg, hH⟩ := irow_some h
    have eg : ∀ args w, (callFunc 33 args).run Tryz.prog w = .ok (.enter 33 args) w := Go.Proofs.enters_of Tryz.func33 (by kernel_rfl) rfl
    have hcmp : Go.Proofs.CmpLays Tryz.prog 33 #[] itL 10 (fun x z : It => cmpE x.id z.id) g 0 l.toArray.size w := fun m os dk _ x z => items1_grow x z _
    have hS := Go.Proofs.AnyQ.slices_SortFunc Go.Proofs.Tryz.sortI 10 isAggI sizeI itL itL_len one_itL (fun x z : It => cmpE x.id z.id) (by rw [ltOf_fun]; exact swo_less) 33 #[] g 0 cap l.toArray w eg hcmp hH hg (by simp; omega)
    change Calls _ 32 _ _ _ at hS
    rw [List.size_toArray] at hS
    refine hS.mono fun e w' ⟨he, d', n, os, hp, hso, hw⟩ => ⟨he, d'.toList, ?_, ?_, ?_⟩
    · have := hp.2.2
      have hsz := hp.1
      have h1 : d'.extract 0 l.length = d' := by
        have : l.length = d'.size := by simpa using hsz.symm
        rw [this]; simp
      rw [h1] at this
      simpa using this
    · have hsz : d'.size = l.length := by simpa using hp.1
      rw [ltOf_fun] at hso
      rw [List.pairwise_iff_getElem]
      intro i j hi hj hij
      have hi' : i < d'.size := by simpa using hi
      have hj' : j < d'.size := by simpa using hj
      have := hso i j (Nat.zero_le _) hij (by omega)
      rw [getElem!_pos d' i hi', getElem!_pos d' j hj'] at this
      simpa using this
    · have hsz : d'.toList.length = l.length := by have := hp.1; simpa using this
      have := sort_row h hsz n os
      rw [Array.toArray_toList] at this
      rw [hw]
      exact ⟨this.1, this.2.mono fun i hi => by subst hi; rfl⟩
end Go.Proofs.YtejhcbbfdfnfdaaGreatDoor.Yard
