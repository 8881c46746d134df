/- cut: an item is divided. -/
import Derived.RowKit
import Derived.OrdersHeld
import Derived.Lib.Hide
import Derived.WalkKit
import Derived.Laws.Rows
import Derived.Test.YtejhcbbfdfnfdaaGreatDoorR9
import Derived.Test.YtejhcbbfdfnfdaaGreatDoorR12
/- A region in whatever order, by one relation over what has come up. No program. -/
namespace Go.Proofs.YtejhcbbfdfnfdaaGreatDoor.Reg
open Go.RowKit
/-- Number i has come up too. -/
def up (b : Nat → Bool) (i : Nat) : Nat → Bool := fun j => if j = i then true else b j
theorem up_self {b : Nat → Bool} {i : Nat} : up b i i = true := by simp [up]
theorem up_ne {b : Nat → Bool} {i j : Nat} (h : j ≠ i) : up b i j = b j := by simp [up, h]
def rowOf (n : Nat) (b : Nat → Bool) : Array Bool := ((List.range n).map b).toArray
theorem rowOf_getD {n : Nat} {b : Nat → Bool} {j : Nat} (d : Bool) (h : j < n) : (rowOf n b).getD j d = b j := by
  simp [rowOf, Array.getD_eq_getD_getElem?, h]
theorem rowOf_off {n : Nat} {b : Nat → Bool} {j : Nat} (d : Bool) (h : n ≤ j) : (rowOf n b).getD j d = d := by
  have : (rowOf n b)[j]? = none := by simp [rowOf]; omega
  rw [Array.getD_eq_getD_getElem?, this]; rfl
theorem rowOf_up {n : Nat} {b : Nat → Bool} {i : Nat} : (rowOf n b).setIfInBounds i true = rowOf n (up b i) := by
  apply Array.ext
  · simp [rowOf]
  intro j h1 h2
  have hj : j < n := by simpa [rowOf] using h2
  by_cases hij : i = j
  · subst hij; simp [rowOf, up_self]
  · rw [Array.getElem_setIfInBounds_ne (by simpa [rowOf] using hj) hij]
    simp [rowOf, up_ne (Ne.symm hij)]
theorem rowOf_start {n : Nat} : Array.replicate n false = rowOf n (fun _ => false) := by
  apply Array.ext
  · simp [rowOf]
  intro j h1 h2
  simp [rowOf]
section
variable {P : Program} {md : Region.Mode} {ops : Array Oper} {Q : Exit → Act → World → Prop} {D : List (List Nat)} {b : Nat → Bool} {i j n : Nat}
/-- D's row i: what operation i waits for; each of these stands ahead of it. -/
def tabOk (md : Region.Mode) (ops : Array Oper) (D : List (List Nat)) : Bool :=
  ops.size == D.length && (List.range D.length).all fun i => match ops[i]?, D[i]? with
    | some o, some d => d.all (fun j => decide (j < i) && o.after.toList.any fun e => Region.binds md e && e.on == j) && o.after.toList.all fun e => !Region.binds md e || d.contains e.on
    | _, _ => false
theorem tabOk_row (h : tabOk md ops D = true) (hi : i < D.length) : ∃ o d, ops[i]? = some o ∧ D[i]? = some d ∧ (∀ j ∈ d, j < i ∧ ∃ e ∈ o.after, Region.binds md e = true ∧ e.on = j) ∧ ∀ e ∈ o.after, Region.binds md e = true → e.on ∈ d := by
  simp only [tabOk, Bool.and_eq_true] at h
  have h1 := List.all_eq_true.1 h.2 i (List.mem_range.2 hi)
  have hd : D[i]? = some D[i] := List.getElem?_eq_getElem hi
  have ho : ops[i]? = some (ops[i]'(by have := h.1; simp at this; omega)) := Array.getElem?_eq_getElem _
  rw [hd, ho] at h1
  simp only [Bool.and_eq_true, List.all_eq_true, List.any_eq_true] at h1
  refine ⟨_, _, ho, hd, fun j hj => ?_, fun e he hb => ?_⟩
  · have := h1.1 j hj
    simp only [decide_eq_true_eq, beq_iff_eq] at this
    obtain ⟨h2, e, h3, h4, h5⟩ := this
    exact ⟨h2, e, Array.mem_toList_iff.1 h3, h4, h5⟩
  · have := h1.2 e (Array.mem_toList_iff.2 he)
    simpa [hb] using this
/-- E's row i: all that stands ahead of operation i by D. -/
def clOk (D E : List (List Nat)) : Bool :=
  D.length == E.length && (List.range E.length).all fun i => (E.getD i []).all fun j => (D.getD i []).contains j || (D.getD i []).any fun m => (E.getD m []).contains j
def left (n : Nat) (b : Nat → Bool) : Nat := ((List.range n).filter fun j => !b j).length
theorem left_up {b : Nat → Bool} {i : Nat} (h : b i = false) : ∀ {n : Nat}, i < n → left n (up b i) + 1 = left n b
  | 0, hi => absurd hi (Nat.not_lt_zero _)
  | n + 1, hi => by
    unfold left
    rw [List.range_succ, List.filter_append, List.filter_append, List.length_append, List.length_append]
    by_cases hin : i = n
    · subst hin
      have : (List.range i).filter (fun j => !up b i j) = (List.range i).filter fun j => !b j := List.filter_congr fun j hj => by rw [up_ne (by have := List.mem_range.1 hj; omega)]
      rw [this]
      rw [List.filter_cons, List.filter_cons]
      rw [up_self, h]
      rfl
    · have := left_up h (n := n) (by omega)
      unfold left at this
      have e : ([n].filter fun j => !up b i j) = [n].filter fun j => !b j := List.filter_congr fun j hj => by rw [List.mem_singleton.1 hj, up_ne (Ne.symm hin)]
      rw [← this, e]
      omega
/-- What each operation does to the relation. -/
def Steps (P : Program) (ops : Array Oper) (Q : Exit → Act → World → Prop) (I : (Nat → Bool) → Act → World → Prop) (E : List (List Nat)) : Nat → List (List Nat) → Prop
  | _, [] => True
  | i, d :: D => (∀ b a w, I b a w → b i = false → (∀ j, d.contains j = true → b j = true) → (∀ k, (E.getD k []).contains i = true → b k = false) → ∃ oi, ops[i]? = some oi ∧ ∀ K : Act → World → Prop, Hid (∀ a' w', I (up b i) a' w' → K a' w') → if Region.wanted oi (yielded ops a.tmps) = true then Oper.wp P oi a w K Q else K (a.put oi.dst undef) w) ∧ Steps P ops Q I E (i + 1) D
theorem steps_cons {I : (Nat → Bool) → Act → World → Prop} {E D : List (List Nat)} {i : Nat} {d : List Nat} (h : ∀ b a w, I b a w → b i = false → (∀ j, d.contains j = true → b j = true) → (∀ k, (E.getD k []).contains i = true → b k = false) → ∃ oi, ops[i]? = some oi ∧ ∀ K : Act → World → Prop, Hid (∀ a' w', I (up b i) a' w' → K a' w') → if Region.wanted oi (yielded ops a.tmps) = true then Oper.wp P oi a w K Q else K (a.put oi.dst undef) w)
    (hs : Steps P ops Q I E (i + 1) D) : Steps P ops Q I E i (d :: D) := ⟨h, hs⟩
theorem steps_at {I : (Nat → Bool) → Act → World → Prop} {E : List (List Nat)} : ∀ {D : List (List Nat)} {k i : Nat} {d : List Nat}, Steps P ops Q I E k D → D[i]? = some d →
    ∀ b a w, I b a w → b (k + i) = false → (∀ j, d.contains j = true → b j = true) → (∀ m, (E.getD m []).contains (k + i) = true → b m = false) → ∃ oi, ops[k + i]? = some oi ∧ ∀ K : Act → World → Prop, Hid (∀ a' w', I (up b (k + i)) a' w' → K a' w') → if Region.wanted oi (yielded ops a.tmps) = true then Oper.wp P oi a w K Q else K (a.put oi.dst undef) w
  | [], _, _, _, _, hd => by cases hd
  | e :: D, k, 0, d, h, hd => by
    injection hd with hd
    subst hd
    exact h.1
  | e :: D, k, i + 1, d, h, hd => by
    have := steps_at (k := k + 1) (i := i) h.2 (by simpa using hd)
    rwa [show k + 1 + i = k + (i + 1) by omega] at this
theorem inv_any {E : List (List Nat)} (hD : tabOk md ops D = true) (hE : clOk D E = true) (I : (Nat → Bool) → Act → World → Prop) (hs : Steps P ops Q I E 0 E) (hend : ∀ b a w, (∀ j, j < D.length → b j = true) → I b a w → Q .normal a w) :
    ∀ (m : Nat) (b : Nat → Bool) (a : Act) (w : World), left D.length b = m → (∀ k, b k = true → ∀ j ∈ E.getD k [], b j = true) → I b a w → wpAny P md ops Q m (rowOf D.length b) a w := by
  have hsz : ops.size = D.length := by simp only [tabOk, Bool.and_eq_true, beq_iff_eq] at hD; exact hD.1
  have hrd : ∀ {b : Nat → Bool} {i : Nat}, i ∈ Region.ready md ops (rowOf D.length b) → i < D.length ∧ b i = false ∧ ∀ d, D[i]? = some d → ∀ j ∈ d, b j = true := by
    intro b i hi
    obtain ⟨h1, o, ho, h2⟩ := mem_ready.1 hi
    have hl : i < D.length := by have := (Array.getElem?_eq_some_iff.1 ho).1; omega
    rw [rowOf_getD _ hl] at h1
    refine ⟨hl, h1, fun d hd j hj => ?_⟩
    obtain ⟨o', d', ho', hd', h3, _⟩ := tabOk_row hD hl
    rw [ho] at ho'
    rw [hd] at hd'
    injection ho' with e1
    injection hd' with e2
    subst e1 e2
    obtain ⟨h4, e, h5, h6, h7⟩ := h3 j hj
    have := h2 e h5 h6
    rw [h7, rowOf_getD _ (by omega)] at this
    exact this
  have hall : ∀ {b : Nat → Bool}, Region.ready md ops (rowOf D.length b) = [] → ∀ j, j < D.length → b j = true := by
    intro b hr
    have : ∀ m j, j ≤ m → j < D.length → b j = true := by
      intro m
      induction m using Nat.strongRecOn with
      | _ m ih =>
        intro j hjm hj
        cases hb : b j with
        | true => rfl
        | false =>
          exfalso
          have hin : j ∈ Region.ready md ops (rowOf D.length b) := by
            obtain ⟨o, d, ho, hd, h3, h4⟩ := tabOk_row hD hj
            refine mem_ready.2 ⟨by rw [rowOf_getD _ hj]; exact hb, o, ho, fun e he hbd => ?_⟩
            have hlt := (h3 _ (h4 e he hbd)).1
            rw [rowOf_getD _ (by omega)]
            exact ih (m - 1 - (m - 1 - e.on)) (by omega) e.on (by omega) (by omega)
          rw [hr] at hin
          cases hin
    exact fun j hj => this j j (Nat.le_refl _) hj
  intro m
  induction m with
  | zero =>
    intro b a w hm _ hI
    have h0 : ∀ j, j < D.length → b j = true := by
      intro j hj
      cases hb : b j with
      | true => rfl
      | false =>
        have : j ∈ (List.range D.length).filter fun j => !b j := List.mem_filter.2 ⟨List.mem_range.2 hj, by simp [hb]⟩
        unfold left at hm
        rw [List.eq_nil_of_length_eq_zero hm] at this
        cases this
    refine ⟨?_, hend b a w h0 hI⟩
    refine List.eq_nil_iff_forall_not_mem.2 fun i hi => ?_
    obtain ⟨h1, h2, _⟩ := hrd hi
    rw [h0 i h1] at h2
    cases h2
  | succ m ih =>
    intro b a w hm hcl hI
    refine ⟨fun hr => hend b a w (hall hr) hI, fun i hi => ?_⟩
    obtain ⟨hl, hb, hd⟩ := hrd hi
    obtain ⟨o, d, ho, hdi, _⟩ := tabOk_row hD hl
    have hle : i < E.length := by simp only [clOk, Bool.and_eq_true, beq_iff_eq] at hE; omega
    have hei : E[i]? = some (E.getD i []) := by rw [List.getD_eq_getElem?_getD, List.getElem?_eq_getElem hle]; rfl
    have hEd : ∀ j ∈ E.getD i [], b j = true := by
      intro j hj
      simp only [clOk, Bool.and_eq_true] at hE
      have h1 := List.all_eq_true.1 (List.all_eq_true.1 hE.2 i (List.mem_range.2 hle)) j hj
      rw [List.getD_eq_getElem?_getD, hdi, Bool.or_eq_true, List.any_eq_true] at h1
      rcases h1 with h1 | ⟨m, h1, h2⟩
      · exact hd d hdi j (List.contains_iff_mem.1 h1)
      · exact hcl m (hd d hdi m h1) j (List.contains_iff_mem.1 h2)
    obtain ⟨oi, hoi, hK⟩ := steps_at hs hei b a w hI (by simpa using hb) (fun j hj => hEd j (List.contains_iff_mem.1 hj)) (fun k hk => by
      cases hbk : b k with
      | false => rfl
      | true =>
        rw [Nat.zero_add] at hk
        rw [hcl k hbk i (List.contains_iff_mem.1 hk)] at hb
        cases hb)
    rw [Nat.zero_add] at hoi hK
    unfold wpOp
    rw [hoi]
    have hk := hK (wpAny P md ops Q m ((rowOf D.length b).setIfInBounds i true)) (Lib.hid fun a' w' h => by
      rw [rowOf_up]
      refine ih _ a' w' (by have := left_up hb hl; omega) (fun k hk j hj => ?_) h
      by_cases hji : j = i
      · rw [hji]; exact up_self
      · rw [up_ne hji]
        by_cases hki : k = i
        · subst hki
          exact hEd j hj
        · rw [up_ne hki] at hk
          exact hcl k hk j hj)
    by_cases hw : Region.wanted oi (yielded ops a.tmps) = true
    · simp only [hw, if_true] at hk ⊢
      exact .inl hk
    · simp only [hw] at hk ⊢
      exact hk
/-- THE REGION: the relation holds with nothing up; each operation's step; what follows, with all up. -/
theorem region_inv {id : Nat} {a : Act} {w : World} (D E : List (List Nat)) (I : Act → (Nat → Bool) → Act → World → Prop) (hm : P.follows .mixedOrders = true) (hD : tabOk .any ops D = true) (hE : clOk D E = true)
    (h0 : I a (fun _ => false) a w.drew) (hs : Steps P ops Q (I a) E 0 E) (hend : ∀ b a' w', (∀ j, j < D.length → b j = true) → I a b a' w' → Q .normal a' w') : (Code.region id ops true).wp P Q a w := by
  refine wp_region_any hm ?_
  have hsz : ops.size = D.length := by simp only [tabOk, Bool.and_eq_true, beq_iff_eq] at hD; exact hD.1
  have := inv_any hD hE (I a) hs hend (left D.length fun _ => false) (fun _ => false) a w.drew rfl (fun _ h => by cases h) h0
  have hl : left D.length (fun _ => false) = ops.size := by unfold left; rw [show (List.range D.length).filter (fun j => !(fun _ => false) j) = List.range D.length from List.filter_eq_self.2 (fun _ _ => rfl)]; simp [hsz]
  rw [hl] at this
  rw [rowOf_start, hsz]
  rw [hsz] at this
  exact this
/-! ### the frame -/
/-- What has come up has its slot filled. -/
def fill (b : Nat → Bool) : List (Nat × Tmp × Value) → Act → Act
  | [], a => a
  | e :: r, a => fill b r (if b e.1 = true then a.put (some e.2.1) e.2.2 else a)
theorem put_comm {a : Act} {s t : Tmp} {u v : Value} (h : s ≠ t) : (a.put (some s) u).put (some t) v = (a.put (some t) v).put (some s) u := by
  simp only [Act.put]
  rw [Array.setIfInBounds_comm _ _ h]
theorem fill_start {L : List (Nat × Tmp × Value)} {a : Act} : fill (fun _ => false) L a = a := by
  induction L generalizing a with
  | nil => rfl
  | cons e r ih => simpa [fill] using ih
theorem fill_off {t : Tmp} : ∀ {L : List (Nat × Tmp × Value)} {a : Act}, (L.all fun e => !(e.2.1 == t)) = true → (fill b L a).tmps[t]? = a.tmps[t]?
  | [], _, _ => rfl
  | e :: r, a, h => by
    rw [List.all_cons, Bool.and_eq_true] at h
    have he : e.2.1 ≠ t := by simpa using h.1
    unfold fill
    rw [fill_off h.2]
    split
    · simp [Act.put, Array.getElem?_setIfInBounds_ne he]
    · rfl
theorem fill_size : ∀ {L : List (Nat × Tmp × Value)} {a : Act}, (fill b L a).tmps.size = a.tmps.size
  | [], _ => rfl
  | e :: r, a => by
    unfold fill
    rw [fill_size]
    split
    · simp [Act.put]
    · rfl
/-- The slot of the entry at place k, which has come up. -/
theorem fill_on {t : Tmp} {v : Value} : ∀ {L : List (Nat × Tmp × Value)} {a : Act} (k : Nat), L[k]? = some (i, t, v) → ((L.drop (k + 1)).all fun x => !(x.2.1 == t)) = true → b i = true → Nat.ble (t + 1) a.tmps.size = true → (fill b L a).tmps[t]? = some v
  | [], _, _, h, _, _, _ => by cases h
  | x :: r, a, 0, h, hd, hb, ht => by
    simp only [List.getElem?_cons_zero, Option.some.injEq] at h
    subst h
    unfold fill
    rw [if_pos hb, fill_off (by simpa using hd)]
    have ht2 : t < a.tmps.size := Nat.le_of_ble_eq_true ht
    simp [Act.put, ht2]
  | x :: r, a, k + 1, h, hd, hb, ht => by
    unfold fill
    refine fill_on k (by simpa using h) (by simpa using hd) hb ?_
    split
    · simpa [Act.put] using ht
    · exact ht
theorem fill_put {t : Tmp} {v : Value} : ∀ {L : List (Nat × Tmp × Value)} {a : Act}, (L.all fun e => !(e.2.1 == t)) = true → (fill b L a).put (some t) v = fill b L (a.put (some t) v)
  | [], _, _ => rfl
  | e :: r, a, h => by
    rw [List.all_cons, Bool.and_eq_true] at h
    have he : e.2.1 ≠ t := by simpa using h.1
    unfold fill
    rw [fill_put h.2]
    split
    · rw [put_comm he]
    · rfl
theorem fill_same : ∀ {L : List (Nat × Tmp × Value)} {a : Act}, (L.all fun e => !(e.1 == i)) = true → fill (up b i) L a = fill b L a
  | [], _, _ => rfl
  | e :: r, a, h => by
    rw [List.all_cons, Bool.and_eq_true] at h
    have he : e.1 ≠ i := by simpa using h.1
    unfold fill
    rw [up_ne he]
    exact fill_same h.2
theorem fill_upAt {t : Tmp} {v0 v : Value} : ∀ {L1 L2 : List (Nat × Tmp × Value)} {a : Act}, b i = false → ((L1 ++ L2).all fun e => !(e.1 == i) && !(e.2.1 == t)) = true →
    (fill b (L1 ++ (i, t, v0) :: L2) a).put (some t) v = fill (up b i) (L1 ++ (i, t, v) :: L2) a
  | [], L2, a, hb, h => by
    simp only [List.nil_append] at h ⊢
    have h1 : (L2.all fun e => !(e.1 == i)) = true := List.all_eq_true.2 fun e he => by have := List.all_eq_true.1 h e he; simp only [Bool.and_eq_true] at this; exact this.1
    have h2 : (L2.all fun e => !(e.2.1 == t)) = true := List.all_eq_true.2 fun e he => by have := List.all_eq_true.1 h e he; simp only [Bool.and_eq_true] at this; exact this.2
    unfold fill
    rw [if_neg (by rw [hb]; decide), if_pos up_self, fill_put h2, fill_same h1]
  | e :: r, L2, a, hb, h => by
    simp only [List.cons_append, List.all_cons, Bool.and_eq_true] at h
    have he : e.1 ≠ i := by simpa using h.1.1
    simp only [List.cons_append]
    unfold fill
    rw [up_ne he]
    exact fill_upAt hb h.2
/-- Operation i, whose entry stands at place k, has come up with v. -/
theorem fill_up {t : Tmp} {v0 v : Value} {a : Act} {L L' : List (Nat × Tmp × Value)} (k : Nat) (hb : b i = false) (hL : L[k]? = some (i, t, v0)) (hL' : L.set k (i, t, v) = L') (hd : ((L.take k ++ L.drop (k + 1)).all fun e => !(e.1 == i) && !(e.2.1 == t)) = true) :
    (fill b L a).put (some t) v = fill (up b i) L' a := by
  have hk := (List.getElem?_eq_some_iff.1 hL).1
  have h1 : L = L.take k ++ (i, t, v0) :: L.drop (k + 1) := by
    have h2 : L[k] = (i, t, v0) := (List.getElem?_eq_some_iff.1 hL).2
    rw [← h2, List.getElem_cons_drop, List.take_append_drop]
  have h3 : L' = L.take k ++ (i, t, v) :: L.drop (k + 1) := by rw [← hL', List.set_eq_take_append_cons_drop, if_pos hk]
  rw [h3]
  conv => lhs; rw [h1]
  exact fill_upAt hb hd
theorem fill_none {L : List (Nat × Tmp × Value)} {a : Act} {v : Value} (h : (L.all fun e => !(e.1 == i)) = true) : (fill b L a).put none v = fill (up b i) L a := (fill_same h).symm
/-- The same operations and slots; the same values where they have come up. -/
def sameOn (b : Nat → Bool) : List (Nat × Tmp × Value) → List (Nat × Tmp × Value) → Prop
  | [], [] => True
  | e :: r, e' :: r' => e.1 = e'.1 ∧ e.2.1 = e'.2.1 ∧ (b e.1 = true → e.2.2 = e'.2.2) ∧ sameOn b r r'
  | _, _ => False
theorem fill_swap : ∀ {L L' : List (Nat × Tmp × Value)} {a : Act}, sameOn b L L' → fill b L a = fill b L' a
  | [], [], _, _ => rfl
  | [], _ :: _, _, h => h.elim
  | _ :: _, [], _, h => h.elim
  | (i, t, v) :: r, (i', t', v') :: r', a, h => by
    obtain ⟨h1, h2, h3, h4⟩ := h
    simp only at h1 h2 h3
    subst h1 h2
    unfold fill
    cases hb : b i with
    | true => rw [h3 hb]; exact fill_swap h4
    | false => exact fill_swap h4
theorem not_up {R : Prop} (hne : j ≠ i) (hj : b j = false) : up b i j = true → R := fun h => by rw [up_ne hne, hj] at h; cases h
/-! ### the steps of one operation -/
variable {oi : Oper} {a : Act} {w w1 : World} {N : Option Tmp} {K : Act → World → Prop}
theorem eval_tmp {t : Tmp} {v : Value} (h : a.tmps[t]? = some v) : a.eval (.tmp t) = v := by simp [Act.eval, h]
theorem do_val {v : Value} (hg : oi.guard = none) (hN : oi.dst = N) (hrun : (execOp a.eval oi).run P w = .ok (.value v) w1) (h : K (a.put N v) w1) :
    if Region.wanted oi (yielded ops a.tmps) = true then Oper.wp P oi a w K Q else K (a.put oi.dst undef) w := by
  have hw : Region.wanted oi (yielded ops a.tmps) = true := by simp [Region.wanted, hg]
  rw [if_pos hw]
  subst hN
  unfold Oper.wp
  rw [hrun]
  exact h
/-- A load of a whole row. -/
theorem do_load (hg : oi.guard = none) (hN : oi.dst = N) (ty : TypeId) (x : Operand) (ho : oi.op = .load ty x) (g : Nat) (hx : a.eval x = .pointer (some ⟨g, 0, none⟩)) {t : TypeId} {cs : Array Value} {fr : Nat × Nat} {d : TypeDesc} (hb : w.heap[g]? = some (.cells cs t fr))
    (hu : P.underlying ty = some d) (hd : (match d with | .struct _ | .array _ _ => true | _ => false) = true) (hi : (P.info? ty).map (·.size) = some cs.size) (h : K (a.put N (.agg cs)) w) :
    if Region.wanted oi (yielded ops a.tmps) = true then Oper.wp P oi a w K Q else K (a.put oi.dst undef) w := by
  have hw : Region.wanted oi (yielded ops a.tmps) = true := by simp [Region.wanted, hg]
  rw [if_pos hw]
  subst hN
  exact wp_load_row ty x ho g hx t cs fr d hb hu hd hi h
/-- A store of a whole row. -/
theorem do_store (hg : oi.guard = none) (hN : oi.dst = none) (ty : TypeId) (x y : Operand) (ho : oi.op = .store ty x y) (g : Nat) (cells : Array Value) (hx : a.eval x = .pointer (some ⟨g, 0, none⟩)) (hy : a.eval y = .agg cells)
    {t : TypeId} {old : Array Value} (hb : w.heap[g]? = some (.cells old t (0, 0))) (hi : (P.info? ty).map (·.size) = some cells.size) (hold : old.size = cells.size) (h1 : cells.all (·.oneCell') = true) (h : K (a.put none undef) (w.setRow g cells)) :
    if Region.wanted oi (yielded ops a.tmps) = true then Oper.wp P oi a w K Q else K (a.put oi.dst undef) w := by
  have hw : Region.wanted oi (yielded ops a.tmps) = true := by simp [Region.wanted, hg]
  rw [if_pos hw]
  refine wp_store_row ty x y ho g cells hx hy t old hb hi hold h1 ?_
  rw [hN]
  exact h
theorem do_skip (hg : oi.guard = none) (hN : oi.dst = none) (hrun : (execOp a.eval oi).run P w = .ok .skip w1) (h : K (a.put none undef) w1) :
    if Region.wanted oi (yielded ops a.tmps) = true then Oper.wp P oi a w K Q else K (a.put oi.dst undef) w := by
  have hw : Region.wanted oi (yielded ops a.tmps) = true := by simp [Region.wanted, hg]
  rw [if_pos hw]
  unfold Oper.wp
  rw [hrun]
  show K (a.put oi.dst undef) w1
  rw [hN]
  exact h
theorem enters {f : FuncId} {fn : Func} (hf : P.funcs[f]? = some fn) (hname : (fn.name == "runtime.NumGoroutine") = false) (hb : fn.body.isSome = true) (args : Array Value) (w : World) : (callFunc f args).run P w = .ok (.enter f args) w := by
  have h1 : fn.name ≠ "runtime.NumGoroutine" := by simpa using hname
  obtain ⟨c, hc⟩ := Option.isSome_iff_exists.1 hb
  simp [callFunc, hf, h1, hc]
/-- A call of a Go function. -/
theorem do_call {f : FuncId} {fn : Func} {ops_ : Array Operand} {ts : Array TypeId} (hg : oi.guard = none) (hN : oi.dst = N) (hf : P.funcs[f]? = some fn) (hname : (fn.name == "runtime.NumGoroutine") = false) (hb : fn.body.isSome = true) (args : Array Value)
    (hop : oi.op = .call { callee := .value (.func f), args := ops_, argTypes := ts }) (hargs : ops_.map a.eval = args)
    (h : Calls P f args w fun e w' => ∃ v, e = .returned v ∧ K (a.put N v) w') : if Region.wanted oi (yielded ops a.tmps) = true then Oper.wp P oi a w K Q else K (a.put oi.dst undef) w := by
  have hw : Region.wanted oi (yielded ops a.tmps) = true := by simp [Region.wanted, hg]
  rw [if_pos hw]
  have hrun : (execOp a.eval oi).run P w = .ok (.enter f args) w := by
    have he := enters hf hname hb args w
    unfold execOp
    simp [hop, resolve, Deferred.ofValue, invoke, Act.eval, hargs, he]
  subst hN
  unfold Oper.wp
  rw [hrun, Oper.upon_enter]
  refine h.mono fun e w'' hh => ?_
  obtain ⟨v, rfl, hk⟩ := hh
  exact hk
/-- A call of a function value. -/
theorem do_callv {f : FuncId} {fn : Func} {x : Operand} {ops_ : Array Operand} {ts : Array TypeId} (hg : oi.guard = none) (hN : oi.dst = N) (hf : P.funcs[f]? = some fn) (hname : (fn.name == "runtime.NumGoroutine") = false) (hb : fn.body.isSome = true) (args : Array Value)
    (hop : oi.op = .call { callee := .value x, args := ops_, argTypes := ts }) (hx : a.eval x = .func (.func f) #[] #[]) (hargs : ops_.map a.eval = args)
    (h : Calls P f args w fun e w' => ∃ v, e = .returned v ∧ K (a.put N v) w') : if Region.wanted oi (yielded ops a.tmps) = true then Oper.wp P oi a w K Q else K (a.put oi.dst undef) w := by
  have hw : Region.wanted oi (yielded ops a.tmps) = true := by simp [Region.wanted, hg]
  rw [if_pos hw]
  have hrun : (execOp a.eval oi).run P w = .ok (.enter f args) w := by
    have he := enters hf hname hb args w
    unfold execOp
    simp [hop, resolve, Deferred.ofValue, invoke, hx, hargs, he]
  subst hN
  unfold Oper.wp
  rw [hrun, Oper.upon_enter]
  refine h.mono fun e w'' hh => ?_
  obtain ⟨v, rfl, hk⟩ := hh
  exact hk
/-- A built-in append. -/
theorem do_append {s x : Operand} {t : TypeId} {v u v' : Value} {w' : World} (hg : oi.guard = none) (hN : oi.dst = N) (ho : oi.op = .call { callee := .builtin .append, args := #[s, x], argTypes := #[t, t] }) (hs : a.eval s = v) (hx : a.eval x = u)
    (hr : (Builtin.append_ #[t, t] oi.type #[v, u]).run P w = .ok v' w') (h : K (a.put N v') w') : if Region.wanted oi (yielded ops a.tmps) = true then Oper.wp P oi a w K Q else K (a.put oi.dst undef) w := by
  have hw : Region.wanted oi (yielded ops a.tmps) = true := by simp [Region.wanted, hg]
  rw [if_pos hw]
  subst hN
  unfold Oper.wp execOp
  simp only [ho, resolve, invoke, builtin, Sem.run_bind, Sem.run_pure, Result.andThen_ok, List.map_toArray, List.map_cons, List.map_nil, hs, hx, hr]
  exact h
/-- A guarded operation whose guard says no. -/
theorem do_off {og : Oper} {g : Nat} {t : Tmp} {u : Bool} (hg : oi.guard = some (g, u)) (ho : ops[g]? = some og) (hd : og.dst = some t) (hv : a.tmps[t]? = some (.bool (!u))) (hN : oi.dst = N) (h : K (a.put N undef) w) :
    if Region.wanted oi (yielded ops a.tmps) = true then Oper.wp P oi a w K Q else K (a.put oi.dst undef) w := by
  have hw : Region.wanted oi (yielded ops a.tmps) = false := by cases u <;> simp_all [Region.wanted, yielded]
  rw [hw, if_neg (by decide), hN]
  exact h
end
/-! ### blocks that a region makes -/
theorem pair_up {b : Nat → Bool} {i j k : Nat} {R : Prop} (h : b j = true → b k = true → R) (hi : i ≠ j) (hk : i ≠ k) : up b i j = true → up b i k = true → R := by
  rw [up_ne (Ne.symm hi), up_ne (Ne.symm hk)]; exact h
/-- Where 'on', p is a block from N on that holds C. -/
def Al (W : World) (N : Nat) (on : Bool) (p : Nat) (C : Array Value) (t : TypeId) : Prop := on = true → N ≤ p ∧ W.heap[p]? = some (.cells C t (0, 0))
theorem Al.lt {W : World} {N p : Nat} {on : Bool} {C : Array Value} {t : TypeId} (h : Al W N on p C t) (ho : on = true) : p < W.heap.size := (Array.getElem?_eq_some_iff.1 (h ho).2).1
theorem Al.off {W : World} {N p : Nat} {C : Array Value} {t : TypeId} : Al W N false p C t := fun h => by cases h
theorem Al.below {W W' : World} {N p : Nat} {on : Bool} {C : Array Value} {t : TypeId} (h : Al W N on p C t) (hb : Below W.heap.size W W') : Al W' N on p C t := fun ho => ⟨(h ho).1, (hb.block p (h.lt ho)).trans (h ho).2⟩
theorem Al.row {W : World} {N p g : Nat} {on : Bool} {C cs : Array Value} {t : TypeId} (h : Al W N on p C t) (hg : on = true → p ≠ g) : Al (W.setRow g cs) N on p C t := fun ho => ⟨(h ho).1, (setRow_other W g p cs (hg ho)).trans (h ho).2⟩
theorem Al.put {W : World} {N p : Nat} {on : Bool} {C cs : Array Value} {t : TypeId} (h : Al W N on p C t) : Al (W.setRow p cs) N on p cs t := fun ho => ⟨(h ho).1, setRow_heap W p C cs t _ (h ho).2⟩
theorem Al.new {W : World} {N : Nat} {on : Bool} {C : Array Value} {t : TypeId} (h : N ≤ W.heap.size) : Al (W.alloc (.cells C t)) N on W.heap.size C t := fun _ => ⟨h, by
  show (W.heap.push _)[W.heap.size]? = _
  rw [Array.getElem?_push, if_pos rfl]⟩
theorem setRow_below {B : Nat} {w W : World} (h : Below B w W) {g : Nat} (hg : B ≤ g) (cs : Array Value) : Below B w (W.setRow g cs) :=
  ⟨h.os, h.tape, h.output, by rw [size_setRow]; exact h.size, fun i hi => (setRow_other W g i cs (by omega)).trans (h.block i hi)⟩
end Go.Proofs.YtejhcbbfdfnfdaaGreatDoor.Reg

/- cut: an item is divided. -/
namespace Go.Proofs.YtejhcbbfdfnfdaaGreatDoor.Yard
open Go.RowKit Go.Proofs.YtejhcbbfdfnfdaaGreatDoor.Base Go.Proofs.YtejhcbbfdfnfdaaGreatDoor.Mp Go.Proofs.YtejhcbbfdfnfdaaGreatDoor.Lex
open Go.Proofs.YtejhcbbfdfnfdaaGreatDoor.Kerf (kcE sLo gnE volE Rng split_ok loss_ok)
open Go.Proofs.YtejhcbbfdfnfdaaGreatDoor.Box (ax3)
open Yp (It Yd Fact Bx)
def bxC (b : Bx) : Array Value := #[.int .i64 b.x0, .int .i64 b.y0, .int .i64 b.z0, .int .i64 b.x1, .int .i64 b.y1, .int .i64 b.z1]
open Go.Proofs.YtejhcbbfdfnfdaaGreatDoor.Reg in
/-- What is known while 'cut' fills its three boxes. -/
def CutR (w0 : World) (Z F1 F2 F3 : Array Value) (t : TypeId) (b : Nat → Bool) (W : World) (p q r : Nat) : Prop :=
  Below w0.heap.size w0 W ∧ Al W w0.heap.size (b 9) p (if b 12 = true then F1 else Z) t ∧ Al W w0.heap.size (b 10) q (if b 13 = true then F2 else Z) t ∧ Al W w0.heap.size (b 11) r (if b 14 = true then F3 else Z) t ∧ (b 9 = true → b 10 = true → p ≠ q) ∧ (b 9 = true → b 11 = true → p ≠ r) ∧ (b 10 = true → b 11 = true → q ≠ r)
section
open Go.Proofs.YtejhcbbfdfnfdaaGreatDoor.Reg
variable {w0 W W' : World} {Z F1 F2 F3 : Array Value} {t : TypeId} {b : Nat → Bool} {p q r : Nat}
theorem stay_set (w : World) (p : Addr) (u : Value) : Stay (fun i => i = p.block) w (w.setCell p u) := ⟨rfl, rfl, rfl, by simp, fun i _ h => heap_setCell_other w p i u h⟩
theorem CutR.start : CutR W Z F1 F2 F3 t (fun _ => false) W.drew p q r := ⟨(Below.refl _ _).drew, Al.off, Al.off, Al.off, fun h => (by cases h), fun h => (by cases h), fun h => (by cases h)⟩
theorem CutR.keep {i : Nat} (h : CutR w0 Z F1 F2 F3 t b W p q r) (hi : i ∉ [9, 10, 11, 12, 13, 14]) (hb : Below W.heap.size W W') : CutR w0 Z F1 F2 F3 t (up b i) W' p q r := by
  obtain ⟨h0, h1, h2, h3, h4, h5, h6⟩ := h
  simp only [List.mem_cons, List.not_mem_nil, or_false, not_or] at hi
  obtain ⟨i9, i10, i11, i12, i13, i14⟩ := hi
  unfold CutR
  rw [up_ne (Ne.symm i9), up_ne (Ne.symm i10), up_ne (Ne.symm i11), up_ne (Ne.symm i12), up_ne (Ne.symm i13), up_ne (Ne.symm i14)]
  exact ⟨h0.trans (hb.mono h0.size), h1.below hb, h2.below hb, h3.below hb, h4, h5, h6⟩
theorem al_below (W : World) (o : Obj) : Below W.heap.size W (W.alloc o) := (Below.refl _ _).alloc (Nat.le_refl _) o
theorem CutR.al9 (h : CutR w0 Z F1 F2 F3 t b W p q r) (hb : b 12 = false) : CutR w0 Z F1 F2 F3 t (up b 9) (W.alloc (.cells Z t)) W.heap.size q r := by
  obtain ⟨h0, h1, h2, h3, h4, h5, h6⟩ := h
  have hB := al_below W (.cells Z t)
  unfold CutR
  rw [up_self, up_ne (show (10 : Nat) ≠ 9 by decide), up_ne (show (11 : Nat) ≠ 9 by decide), up_ne (show (12 : Nat) ≠ 9 by decide), up_ne (show (13 : Nat) ≠ 9 by decide), up_ne (show (14 : Nat) ≠ 9 by decide), hb]
  exact ⟨h0.trans (hB.mono h0.size), Al.new h0.size, h2.below hB, h3.below hB, fun _ g => Nat.ne_of_gt (h2.lt g), fun _ g => Nat.ne_of_gt (h3.lt g), h6⟩
theorem CutR.al10 (h : CutR w0 Z F1 F2 F3 t b W p q r) (hb : b 13 = false) : CutR w0 Z F1 F2 F3 t (up b 10) (W.alloc (.cells Z t)) p W.heap.size r := by
  obtain ⟨h0, h1, h2, h3, h4, h5, h6⟩ := h
  have hB := al_below W (.cells Z t)
  unfold CutR
  rw [up_self, up_ne (show (9 : Nat) ≠ 10 by decide), up_ne (show (11 : Nat) ≠ 10 by decide), up_ne (show (12 : Nat) ≠ 10 by decide), up_ne (show (13 : Nat) ≠ 10 by decide), up_ne (show (14 : Nat) ≠ 10 by decide), hb]
  exact ⟨h0.trans (hB.mono h0.size), h1.below hB, Al.new h0.size, h3.below hB, fun g _ => Nat.ne_of_lt (h1.lt g), h5, fun _ g => Nat.ne_of_gt (h3.lt g)⟩
theorem CutR.al11 (h : CutR w0 Z F1 F2 F3 t b W p q r) (hb : b 14 = false) : CutR w0 Z F1 F2 F3 t (up b 11) (W.alloc (.cells Z t)) p q W.heap.size := by
  obtain ⟨h0, h1, h2, h3, h4, h5, h6⟩ := h
  have hB := al_below W (.cells Z t)
  unfold CutR
  rw [up_self, up_ne (show (9 : Nat) ≠ 11 by decide), up_ne (show (10 : Nat) ≠ 11 by decide), up_ne (show (12 : Nat) ≠ 11 by decide), up_ne (show (13 : Nat) ≠ 11 by decide), up_ne (show (14 : Nat) ≠ 11 by decide), hb]
  exact ⟨h0.trans (hB.mono h0.size), h1.below hB, h2.below hB, Al.new h0.size, h4, fun g _ => Nat.ne_of_lt (h1.lt g), fun g _ => Nat.ne_of_lt (h2.lt g)⟩
theorem CutR.blk12 (h : CutR w0 Z F1 F2 F3 t b W p q r) (g : b 9 = true) (hb : b 12 = false) : W.heap[p]? = some (.cells Z t (0, 0)) := by
  have := (h.2.1 g).2
  rwa [hb] at this
theorem CutR.blk13 (h : CutR w0 Z F1 F2 F3 t b W p q r) (g : b 10 = true) (hb : b 13 = false) : W.heap[q]? = some (.cells Z t (0, 0)) := by
  have := (h.2.2.1 g).2
  rwa [hb] at this
theorem CutR.blk14 (h : CutR w0 Z F1 F2 F3 t b W p q r) (g : b 11 = true) (hb : b 14 = false) : W.heap[r]? = some (.cells Z t (0, 0)) := by
  have := (h.2.2.2.1 g).2
  rwa [hb] at this
theorem CutR.st12 (h : CutR w0 Z F1 F2 F3 t b W p q r) (g9 : b 9 = true) (g10 : b 10 = true) (g11 : b 11 = true) : CutR w0 Z F1 F2 F3 t (up b 12) (W.setRow p F1) p q r := by
  obtain ⟨h0, h1, h2, h3, h4, h5, h6⟩ := h
  unfold CutR
  rw [up_self, up_ne (show (9 : Nat) ≠ 12 by decide), up_ne (show (10 : Nat) ≠ 12 by decide), up_ne (show (11 : Nat) ≠ 12 by decide), up_ne (show (13 : Nat) ≠ 12 by decide), up_ne (show (14 : Nat) ≠ 12 by decide)]
  exact ⟨setRow_below h0 (h1 g9).1 F1, h1.put, h2.row fun _ => (h4 g9 g10).symm, h3.row fun _ => (h5 g9 g11).symm, h4, h5, h6⟩
theorem CutR.st13 (h : CutR w0 Z F1 F2 F3 t b W p q r) (g9 : b 9 = true) (g10 : b 10 = true) (g11 : b 11 = true) : CutR w0 Z F1 F2 F3 t (up b 13) (W.setRow q F2) p q r := by
  obtain ⟨h0, h1, h2, h3, h4, h5, h6⟩ := h
  unfold CutR
  rw [up_self, up_ne (show (9 : Nat) ≠ 13 by decide), up_ne (show (10 : Nat) ≠ 13 by decide), up_ne (show (11 : Nat) ≠ 13 by decide), up_ne (show (12 : Nat) ≠ 13 by decide), up_ne (show (14 : Nat) ≠ 13 by decide)]
  exact ⟨setRow_below h0 (h2 g10).1 F2, h1.row fun _ => h4 g9 g10, h2.put, h3.row fun _ => (h6 g10 g11).symm, h4, h5, h6⟩
theorem CutR.st14 (h : CutR w0 Z F1 F2 F3 t b W p q r) (g9 : b 9 = true) (g10 : b 10 = true) (g11 : b 11 = true) : CutR w0 Z F1 F2 F3 t (up b 14) (W.setRow r F3) p q r := by
  obtain ⟨h0, h1, h2, h3, h4, h5, h6⟩ := h
  unfold CutR
  rw [up_self, up_ne (show (9 : Nat) ≠ 14 by decide), up_ne (show (10 : Nat) ≠ 14 by decide), up_ne (show (11 : Nat) ≠ 14 by decide), up_ne (show (12 : Nat) ≠ 14 by decide), up_ne (show (13 : Nat) ≠ 14 by decide)]
  exact ⟨setRow_below h0 (h3 g11).1 F3, h1.row fun _ => h5 g9 g11, h2.row fun _ => h6 g10 g11, h3.put, h4, h5, h6⟩
theorem CutR.fin (h : CutR w0 Z F1 F2 F3 t b W p q r) (hall : ∀ j, j < 16 → b j = true) : Below w0.heap.size w0 W ∧ (w0.heap.size ≤ p ∧ W.heap[p]? = some (.cells F1 t (0, 0))) ∧ (w0.heap.size ≤ r ∧ W.heap[r]? = some (.cells F3 t (0, 0))) := by
  obtain ⟨h0, h1, h2, h3, _⟩ := h
  have e1 := h1 (hall 9 (by decide))
  have e3 := h3 (hall 11 (by decide))
  rw [hall 12 (by decide)] at e1
  rw [hall 14 (by decide)] at e3
  exact ⟨h0, e1, e3⟩
end
theorem look_change {l : List It} {id : ByteArray} {st : Int} {stone s : ByteArray} (h : Yp.look l s = none) : Yp.look (Yp.change l id st stone) s = none := by
  unfold Yp.look at *
  rw [List.find?_eq_none] at *
  intro z hz
  obtain ⟨u, hu, rfl⟩ := List.mem_map.1 hz
  have := h u hu
  by_cases e : u.id = id
  · rw [if_pos e]; exact this
  · rw [if_neg e]; exact this
theorem look_add {l : List It} {x : It} {s : ByteArray} (h : Yp.look l s = none) (hx : x.id ≠ s) : Yp.look (l ++ [x]) s = none := by
  unfold Yp.look at *
  rw [List.find?_append, h]
  simp [hx]
theorem YAt.kerf {w : World} {Y M : Nat} {FS : Value} {y : Yd} (h : YAt w Y M FS y) (k : Int) : YAt (w.setCell ⟨Y, 2, none⟩ (.int .i64 k)) Y M FS ⟨y.items, y.facts, k⟩ :=
  ⟨heap_setCell_same w Y 2 _ _ _ h.row, h.map.same (heap_setCell_other _ _ _ _ (Ne.symm h.ne)), h.fct.keep (by simp) (fun b _ hb _ => heap_setCell_other _ _ _ _ hb) h.fneY h.fneM⟩
set_option maxRecDepth 100000 in
set_option maxHeartbeats 4000000 in
theorem cut_any {w : World} {Y M : Nat} {FS : Value} {y : Yd} (hy : YAt w Y M FS y) (hu : Uniq y) (X : Nat → Prop) (hX : ∀ b, X b → b ≠ M ∧ b ≠ Y) (kd n0 n1 n2 : ByteArray) (n : Nat) (pp kk : Int) (nv vv : Value) (hn : Rd w X nv (strV [n0, n1, n2])) (hv : Rd w X vv (intV [(n : Int), pp, kk]))
    {x : It} (hx : Yp.look y.items n0 = some x) (h1 : Yp.look y.items n1 = none) (h2 : Yp.look y.items n2 = none) (h12 : n1 ≠ n2) {B F S : Bx} (hB : x.bx = B) (hk : kcE B.x0 B.y0 B.z0 B.x1 B.y1 B.z1 n pp kk = 0)
    (hF : sLo B.x0 B.y0 B.z0 B.x1 B.y1 B.z1 n (ax3 B.x0 B.y0 B.z0 n) pp = bxC F) (hS : sLo B.x0 B.y0 B.z0 B.x1 B.y1 B.z1 n (pp + kk) (ax3 B.x1 B.y1 B.z1 n) = bxC S)
    {g : Bx} (hg : gnE B.x0 B.y0 B.z0 B.x1 B.y1 B.z1 n pp kk = bxC g) (hr : Rng g.x0 g.y0 g.z0 g.x1 g.y1 g.z1) (hL : 0 ≤ y.kerfs + g.vol ∧ y.kerfs + g.vol ≤ 9000000000000000000) (hvol : volE g.x0 g.y0 g.z0 g.x1 g.y1 g.z1 = g.vol) :
    Calls Tryz.prog 55 #[.pointer (some ⟨Y, 0, none⟩), .agg #[.string kd, nv, vv]] w fun e w' => e = .returned (.tuple #[]) ∧
      YAt w' Y M FS ⟨Yp.change y.items n0 2 ⟨#[]⟩ ++ [⟨n1, n0, F, 1, ⟨#[]⟩⟩] ++ [⟨n2, n0, S, 1, ⟨#[]⟩⟩], y.facts, y.kerfs + g.vol⟩ ∧ Stay (fun i => i = M ∨ i = Y) w w' := by
  have hcut := fun W (hW : Below w.heap.size w W) => cutOf_any X (.string kd) nv vv n pp kk W (hv.below hW)
  have hspl := fun W => split_ok B.x0 B.y0 B.z0 B.x1 B.y1 B.z1 n pp kk W hk
  have hlos := fun W => loss_ok B.x0 B.y0 B.z0 B.x1 B.y1 B.z1 n pp kk W hk hg hr
  rw [hF, hS, hg] at hspl
  rw [hvol] at hlos
  obtain ⟨F0, F1, F2, F3, F4, F5⟩ := F
  obtain ⟨S0, S1, S2, S3, S4, S5⟩ := S
  have hgv : ∃ v, g.vol = v := ⟨_, rfl⟩
  obtain ⟨L, hgL⟩ := hgv
  rw [hgL] at hlos hL ⊢
  obtain ⟨g0, g1, g2, g3, g4, g5⟩ := g
  obtain ⟨B0, B1, B2, B3, B4, B5⟩ := B
  simp only [bxC] at hspl hlos
  clear hk hF hS hg hr hvol hgL
  have hl := fun W (hW : Below w.heap.size w W) => look_found (hy.below hW).map hx false
  have hfb := field_box
  obtain ⟨x1, x2, xb, x3, x4⟩ := x
  subst hB
  simp only [itC, Bool.false_eq_true, if_false] at hl
  have hchg := fun W y' (hW : YAt W Y M FS y') (hu : Uniq y') (hx : Yp.look y'.items n0 = some ⟨x1, x2, ⟨B0, B1, B2, B3, B4, B5⟩, x3, x4⟩) => change_any hW hu hx 2 ⟨#[]⟩
  have HX := Lib.hid hx
  have HU := Lib.hid hu
  have H12 := Lib.hid (And.intro h1 (And.intro h2 h12))
  clear hx hu h1 h2 h12
  obtain ⟨b, o, c, rfl, hc, hbl, hXb, hcell⟩ := rd_at hn (by simp [strV])
  obtain ⟨A', c', ev, _, _⟩ := id hv
  subst ev
  simp only [strV, List.length_map, List.length_cons, List.length_nil] at hc hcell hcut ⊢
  simp only [intV, List.length_map, List.length_cons, List.length_nil] at hcut ⊢
  have c0 := hcell 0 _ rfl
  have c1 := hcell 1 _ rfl
  have c2 := hcell 2 _ rfl
  simp only [Nat.add_zero] at c0
  have HNE := Lib.hid (hX b hXb)
  have HC : Hid (∀ W, Stay (fun i => i = M ∨ i = Y) w W → W.cell? ⟨b, o, none⟩ = some (.string n0) ∧ W.cell? ⟨b, o + 1, none⟩ = some (.string n1) ∧ W.cell? ⟨b, o + 2, none⟩ = some (.string n2)) := Lib.hid fun W hW =>
    have hb : W.heap[b]? = w.heap[b]? := hW.block b hbl (fun e => e.elim HNE.out.1 HNE.out.2)
    ⟨(World.cell?_of_block (a := ⟨b, o, none⟩) hb).trans c0, (World.cell?_of_block (a := ⟨b, o + 1, none⟩) hb).trans c1, (World.cell?_of_block (a := ⟨b, o + 2, none⟩) hb).trans c2⟩
  have HYW : Hid (∀ W, Below w.heap.size w W → YAt W Y M FS y) := Lib.hid fun W hW => hy.below hW
  have hYl := hy.ltY
  clear hcell hn hv c1 c2 hy hX hXb
  have B1 := (Below.refl w.heap.size w).alloc (Nat.le_refl _) (.cells #[.string kd, .slice (some ⟨b, o, none⟩) 3 c, .slice A' 3 c'] 39)
  have hl0 := hl _ B1
  have c0 := (HC.out _ (Stay.of_below B1)).1
  have y0 := (row_cells (HYW.out _ B1).row).1 0
  have HB := Lib.hid B1
  have HR := Lib.hid (new_block w (.cells #[.string kd, .slice (some ⟨b, o, none⟩) 3 c, .slice A' 3 c'] 39))
  clear B1
  go_enter Tryz.func55, Tryz.ntmps55
  go_wp2_with fail
  clear hl0 c0 y0 hfb hl
  have HB := Lib.hid (HB.out.alloc (by simp) (.cells #[.int .i64 B0, .int .i64 B1, .int .i64 B2, .int .i64 B3, .int .i64 B4, .int .i64 B5] 45))
  have RF := Lib.hid (old_block HR.out (.cells #[.int .i64 B0, .int .i64 B1, .int .i64 B2, .int .i64 B3, .int .i64 B4, .int .i64 B5] 45))
  have RB := Lib.hid (new_block2 w (.cells #[.string kd, .slice (some ⟨b, o, none⟩) 3 c, .slice A' 3 c'] 39) (.cells #[.int .i64 B0, .int .i64 B1, .int .i64 B2, .int .i64 B3, .int .i64 B4, .int .i64 B5] 45))
  clear HR
  generalize (w.alloc (.cells #[.string kd, .slice (some ⟨b, o, none⟩) 3 c, .slice A' 3 c'] 39)).alloc (.cells #[.int .i64 B0, .int .i64 B1, .int .i64 B2, .int .i64 B3, .int .i64 B4, .int .i64 B5] 45) = W at *
  refine Reg.region_inv [[], [], [1], [0, 2], [3], [4], [4], [4], [4], [], [], [], [0, 1, 2, 3, 4, 5, 9, 10, 11], [0, 1, 2, 3, 4, 5, 6, 9, 10, 11, 12], [0, 1, 2, 3, 4, 5, 6, 7, 9, 10, 11, 12, 13], [0, 1, 2, 3, 4, 5, 6, 7, 8, 9, 10, 11, 12, 13, 14]] [[], [], [1], [0, 1, 2], [0, 1, 2, 3], [0, 1, 2, 3, 4], [0, 1, 2, 3, 4], [0, 1, 2, 3, 4], [0, 1, 2, 3, 4], [], [], [], [0, 1, 2, 3, 4, 5, 9, 10, 11], [0, 1, 2, 3, 4, 5, 6, 9, 10, 11, 12], [0, 1, 2, 3, 4, 5, 6, 7, 9, 10, 11, 12, 13], [0, 1, 2, 3, 4, 5, 6, 7, 8, 9, 10, 11, 12, 13, 14]] (fun a0_ bb aa ww => ∃ (p6 : Nat) (p7 : Nat) (p8 : Nat), aa = Reg.fill bb [(0, 24, .agg #[.int .i64 B0, .int .i64 B1, .int .i64 B2, .int .i64 B3, .int .i64 B4, .int .i64 B5]), (1, 25, .agg #[.string kd, .slice (some ⟨b, o, none⟩) 3 c, .slice A' 3 c']), (2, 26, .agg #[.int .i64 ↑n, .int .i64 pp, .int .i64 kk]), (3, 27, .tuple #[.agg #[.int .i64 F0, .int .i64 F1, .int .i64 F2, .int .i64 F3, .int .i64 F4, .int .i64 F5], .agg #[.int .i64 g0, .int .i64 g1, .int .i64 g2, .int .i64 g3, .int .i64 g4, .int .i64 g5], .agg #[.int .i64 S0, .int .i64 S1, .int .i64 S2, .int .i64 S3, .int .i64 S4, .int .i64 S5], .int .i64 0]), (4, 23, .tuple #[.agg #[.int .i64 F0, .int .i64 F1, .int .i64 F2, .int .i64 F3, .int .i64 F4, .int .i64 F5], .agg #[.int .i64 g0, .int .i64 g1, .int .i64 g2, .int .i64 g3, .int .i64 g4, .int .i64 g5], .agg #[.int .i64 S0, .int .i64 S1, .int .i64 S2, .int .i64 S3, .int .i64 S4, .int .i64 S5], .int .i64 0]), (5, 28, .agg #[.int .i64 F0, .int .i64 F1, .int .i64 F2, .int .i64 F3, .int .i64 F4, .int .i64 F5]), (6, 29, .agg #[.int .i64 g0, .int .i64 g1, .int .i64 g2, .int .i64 g3, .int .i64 g4, .int .i64 g5]), (7, 30, .agg #[.int .i64 S0, .int .i64 S1, .int .i64 S2, .int .i64 S3, .int .i64 S4, .int .i64 S5]), (8, 31, .int .i64 0), (9, 6, .pointer (some ⟨p6, 0, none⟩)), (10, 7, .pointer (some ⟨p7, 0, none⟩)), (11, 8, .pointer (some ⟨p8, 0, none⟩)), (15, 9, .int .i64 0)] a0_ ∧ CutR W #[.int .i64 0, .int .i64 0, .int .i64 0, .int .i64 0, .int .i64 0, .int .i64 0] #[.int .i64 F0, .int .i64 F1, .int .i64 F2, .int .i64 F3, .int .i64 F4, .int .i64 F5] #[.int .i64 g0, .int .i64 g1, .int .i64 g2, .int .i64 g3, .int .i64 g4, .int .i64 g5] #[.int .i64 S0, .int .i64 S1, .int .i64 S2, .int .i64 S3, .int .i64 S4, .int .i64 S5] 45 bb ww p6 p7 p8) (by kernel_rfl) (by kernel_rfl) (by kernel_rfl) ?_ ?_ ?_
  · exact ⟨0, 0, 0, Reg.fill_start.symm, CutR.start⟩
  · refine Reg.steps_cons (i := 0) ?_ ?_
    · rintro bb aa ww ⟨p6, p7, p8, ha, HW⟩ hb hd hn
      have e5 : aa.tmps[5]? = some (.pointer (some ⟨w.heap.size + 1, 0, none⟩)) := by rw [ha]; exact (Reg.fill_off rfl).trans rfl
      have HA := Lib.hid ha
      clear ha
      refine ⟨_, rfl, fun K hK => ?_⟩
      refine Reg.do_load rfl rfl 45 _ rfl (w.heap.size + 1) (Reg.eval_tmp e5) (row_after HW.1 RB.out) Tryz.underlying45 rfl (by kernel_rfl) ?_
      exact hK.out _ _ ⟨p6, p7, p8, by rw [HA.out]; exact Reg.fill_up 0 hb rfl rfl rfl, HW.keep (i := 0) (by decide) (Below.refl _ _)⟩
    refine Reg.steps_cons (i := 1) ?_ ?_
    · rintro bb aa ww ⟨p6, p7, p8, ha, HW⟩ hb hd hn
      have e3 : aa.tmps[3]? = some (.pointer (some ⟨w.heap.size, 0, none⟩)) := by rw [ha]; exact (Reg.fill_off rfl).trans rfl
      have HA := Lib.hid ha
      clear ha
      refine ⟨_, rfl, fun K hK => ?_⟩
      refine Reg.do_load rfl rfl 39 _ rfl w.heap.size (Reg.eval_tmp e3) (row_after HW.1 RF.out) Tryz.underlying39 rfl (by kernel_rfl) ?_
      exact hK.out _ _ ⟨p6, p7, p8, by rw [HA.out]; exact Reg.fill_up 1 hb rfl rfl rfl, HW.keep (i := 1) (by decide) (Below.refl _ _)⟩
    refine Reg.steps_cons (i := 2) ?_ ?_
    · rintro bb aa ww ⟨p6, p7, p8, ha, HW⟩ hb hd hn
      have e25 : aa.tmps[25]? = some (.agg #[.string kd, .slice (some ⟨b, o, none⟩) 3 c, .slice A' 3 c']) := by rw [ha]; exact Reg.fill_on 1 rfl rfl (hd 1 (by decide)) rfl
      have HA := Lib.hid ha
      clear ha
      refine ⟨_, rfl, fun K hK => ?_⟩
      refine Reg.do_call rfl rfl Tryz.func91 (by kernel_rfl) rfl #[.agg #[.string kd, .slice (some ⟨b, o, none⟩) 3 c, .slice A' 3 c']] rfl (by simp [Reg.eval_tmp e25]) ?_
      refine (hcut ww (HB.out.trans (HW.1.mono HB.out.size))).mono ?_; rintro e w3 ⟨rfl, hb3⟩; refine ⟨_, rfl, ?_⟩
      exact hK.out _ _ ⟨p6, p7, p8, by rw [HA.out]; exact Reg.fill_up 2 hb rfl rfl rfl, HW.keep (i := 2) (by decide) hb3⟩
    refine Reg.steps_cons (i := 3) ?_ ?_
    · rintro bb aa ww ⟨p6, p7, p8, ha, HW⟩ hb hd hn
      have e24 : aa.tmps[24]? = some (.agg #[.int .i64 B0, .int .i64 B1, .int .i64 B2, .int .i64 B3, .int .i64 B4, .int .i64 B5]) := by rw [ha]; exact Reg.fill_on 0 rfl rfl (hd 0 (by decide)) rfl
      have e26 : aa.tmps[26]? = some (.agg #[.int .i64 ↑n, .int .i64 pp, .int .i64 kk]) := by rw [ha]; exact Reg.fill_on 2 rfl rfl (hd 2 (by decide)) rfl
      have HA := Lib.hid ha
      clear ha
      refine ⟨_, rfl, fun K hK => ?_⟩
      refine Reg.do_call rfl rfl Tryz.func92 (by kernel_rfl) rfl #[.agg #[.int .i64 B0, .int .i64 B1, .int .i64 B2, .int .i64 B3, .int .i64 B4, .int .i64 B5], .agg #[.int .i64 ↑n, .int .i64 pp, .int .i64 kk]] rfl (by simp [Reg.eval_tmp e24, Reg.eval_tmp e26]) ?_
      refine (hspl ww).mono ?_; rintro e w3 ⟨rfl, hb3⟩; refine ⟨_, rfl, ?_⟩
      exact hK.out _ _ ⟨p6, p7, p8, by rw [HA.out]; exact Reg.fill_up 3 hb rfl rfl rfl, HW.keep (i := 3) (by decide) hb3⟩
    refine Reg.steps_cons (i := 4) ?_ ?_
    · rintro bb aa ww ⟨p6, p7, p8, ha, HW⟩ hb hd hn
      have e27 : aa.tmps[27]? = some (.tuple #[.agg #[.int .i64 F0, .int .i64 F1, .int .i64 F2, .int .i64 F3, .int .i64 F4, .int .i64 F5], .agg #[.int .i64 g0, .int .i64 g1, .int .i64 g2, .int .i64 g3, .int .i64 g4, .int .i64 g5], .agg #[.int .i64 S0, .int .i64 S1, .int .i64 S2, .int .i64 S3, .int .i64 S4, .int .i64 S5], .int .i64 0]) := by rw [ha]; exact Reg.fill_on 3 rfl rfl (hd 3 (by decide)) rfl
      have HA := Lib.hid ha
      clear ha
      refine ⟨_, rfl, fun K hK => ?_⟩
      refine Reg.do_val rfl rfl (v := .tuple #[.agg #[.int .i64 F0, .int .i64 F1, .int .i64 F2, .int .i64 F3, .int .i64 F4, .int .i64 F5], .agg #[.int .i64 g0, .int .i64 g1, .int .i64 g2, .int .i64 g3, .int .i64 g4, .int .i64 g5], .agg #[.int .i64 S0, .int .i64 S1, .int .i64 S2, .int .i64 S3, .int .i64 S4, .int .i64 S5], .int .i64 0]) (w1 := ww) (by simp only [List.getElem_toArray, List.getElem_cons_succ, List.getElem_cons_zero, execOp, Reg.eval_tmp e27]; rfl) ?_
      exact hK.out _ _ ⟨p6, p7, p8, by rw [HA.out]; exact Reg.fill_up 4 hb rfl rfl rfl, HW.keep (i := 4) (by decide) (Below.refl _ _)⟩
    refine Reg.steps_cons (i := 5) ?_ ?_
    · rintro bb aa ww ⟨p6, p7, p8, ha, HW⟩ hb hd hn
      have e23 : aa.tmps[23]? = some (.tuple #[.agg #[.int .i64 F0, .int .i64 F1, .int .i64 F2, .int .i64 F3, .int .i64 F4, .int .i64 F5], .agg #[.int .i64 g0, .int .i64 g1, .int .i64 g2, .int .i64 g3, .int .i64 g4, .int .i64 g5], .agg #[.int .i64 S0, .int .i64 S1, .int .i64 S2, .int .i64 S3, .int .i64 S4, .int .i64 S5], .int .i64 0]) := by rw [ha]; exact Reg.fill_on 4 rfl rfl (hd 4 (by decide)) rfl
      have HA := Lib.hid ha
      clear ha
      refine ⟨_, rfl, fun K hK => ?_⟩
      refine Reg.do_val rfl rfl (v := .agg #[.int .i64 F0, .int .i64 F1, .int .i64 F2, .int .i64 F3, .int .i64 F4, .int .i64 F5]) (w1 := ww) ?_ ?_
      · simp only [List.getElem_toArray, List.getElem_cons_succ, List.getElem_cons_zero, execOp, Reg.eval_tmp e23]
        go_simp
      exact hK.out _ _ ⟨p6, p7, p8, by rw [HA.out]; exact Reg.fill_up 5 hb rfl rfl rfl, HW.keep (i := 5) (by decide) (Below.refl _ _)⟩
    refine Reg.steps_cons (i := 6) ?_ ?_
    · rintro bb aa ww ⟨p6, p7, p8, ha, HW⟩ hb hd hn
      have e23 : aa.tmps[23]? = some (.tuple #[.agg #[.int .i64 F0, .int .i64 F1, .int .i64 F2, .int .i64 F3, .int .i64 F4, .int .i64 F5], .agg #[.int .i64 g0, .int .i64 g1, .int .i64 g2, .int .i64 g3, .int .i64 g4, .int .i64 g5], .agg #[.int .i64 S0, .int .i64 S1, .int .i64 S2, .int .i64 S3, .int .i64 S4, .int .i64 S5], .int .i64 0]) := by rw [ha]; exact Reg.fill_on 4 rfl rfl (hd 4 (by decide)) rfl
      have HA := Lib.hid ha
      clear ha
      refine ⟨_, rfl, fun K hK => ?_⟩
      refine Reg.do_val rfl rfl (v := .agg #[.int .i64 g0, .int .i64 g1, .int .i64 g2, .int .i64 g3, .int .i64 g4, .int .i64 g5]) (w1 := ww) ?_ ?_
      · simp only [List.getElem_toArray, List.getElem_cons_succ, List.getElem_cons_zero, execOp, Reg.eval_tmp e23]
        go_simp
      exact hK.out _ _ ⟨p6, p7, p8, by rw [HA.out]; exact Reg.fill_up 6 hb rfl rfl rfl, HW.keep (i := 6) (by decide) (Below.refl _ _)⟩
    refine Reg.steps_cons (i := 7) ?_ ?_
    · rintro bb aa ww ⟨p6, p7, p8, ha, HW⟩ hb hd hn
      have e23 : aa.tmps[23]? = some (.tuple #[.agg #[.int .i64 F0, .int .i64 F1, .int .i64 F2, .int .i64 F3, .int .i64 F4, .int .i64 F5], .agg #[.int .i64 g0, .int .i64 g1, .int .i64 g2, .int .i64 g3, .int .i64 g4, .int .i64 g5], .agg #[.int .i64 S0, .int .i64 S1, .int .i64 S2, .int .i64 S3, .int .i64 S4, .int .i64 S5], .int .i64 0]) := by rw [ha]; exact Reg.fill_on 4 rfl rfl (hd 4 (by decide)) rfl
      have HA := Lib.hid ha
      clear ha
      refine ⟨_, rfl, fun K hK => ?_⟩
      refine Reg.do_val rfl rfl (v := .agg #[.int .i64 S0, .int .i64 S1, .int .i64 S2, .int .i64 S3, .int .i64 S4, .int .i64 S5]) (w1 := ww) ?_ ?_
      · simp only [List.getElem_toArray, List.getElem_cons_succ, List.getElem_cons_zero, execOp, Reg.eval_tmp e23]
        go_simp
      exact hK.out _ _ ⟨p6, p7, p8, by rw [HA.out]; exact Reg.fill_up 7 hb rfl rfl rfl, HW.keep (i := 7) (by decide) (Below.refl _ _)⟩
    refine Reg.steps_cons (i := 8) ?_ ?_
    · rintro bb aa ww ⟨p6, p7, p8, ha, HW⟩ hb hd hn
      have e23 : aa.tmps[23]? = some (.tuple #[.agg #[.int .i64 F0, .int .i64 F1, .int .i64 F2, .int .i64 F3, .int .i64 F4, .int .i64 F5], .agg #[.int .i64 g0, .int .i64 g1, .int .i64 g2, .int .i64 g3, .int .i64 g4, .int .i64 g5], .agg #[.int .i64 S0, .int .i64 S1, .int .i64 S2, .int .i64 S3, .int .i64 S4, .int .i64 S5], .int .i64 0]) := by rw [ha]; exact Reg.fill_on 4 rfl rfl (hd 4 (by decide)) rfl
      have HA := Lib.hid ha
      clear ha
      refine ⟨_, rfl, fun K hK => ?_⟩
      refine Reg.do_val rfl rfl (v := .int .i64 0) (w1 := ww) ?_ ?_
      · simp only [List.getElem_toArray, List.getElem_cons_succ, List.getElem_cons_zero, execOp, Reg.eval_tmp e23]
        go_simp
      exact hK.out _ _ ⟨p6, p7, p8, by rw [HA.out]; exact Reg.fill_up 8 hb rfl rfl rfl, HW.keep (i := 8) (by decide) (Below.refl _ _)⟩
    refine Reg.steps_cons (i := 9) ?_ ?_
    · rintro bb aa ww ⟨p6, p7, p8, ha, HW⟩ hb hd hn
      have HA := Lib.hid ha
      clear ha
      refine ⟨_, rfl, fun K hK => ?_⟩
      refine Reg.do_val rfl rfl (v := .pointer (some ⟨ww.heap.size, 0, none⟩)) (w1 := ww.alloc (.cells #[.int .i64 0, .int .i64 0, .int .i64 0, .int .i64 0, .int .i64 0, .int .i64 0] 45)) ?_ ?_
      · go_simp
      exact hK.out _ _ ⟨ww.heap.size, p7, p8, by rw [HA.out]; exact Reg.fill_up 9 hb rfl rfl rfl, HW.al9 (hn 12 (by decide))⟩
    refine Reg.steps_cons (i := 10) ?_ ?_
    · rintro bb aa ww ⟨p6, p7, p8, ha, HW⟩ hb hd hn
      have HA := Lib.hid ha
      clear ha
      refine ⟨_, rfl, fun K hK => ?_⟩
      refine Reg.do_val rfl rfl (v := .pointer (some ⟨ww.heap.size, 0, none⟩)) (w1 := ww.alloc (.cells #[.int .i64 0, .int .i64 0, .int .i64 0, .int .i64 0, .int .i64 0, .int .i64 0] 45)) ?_ ?_
      · go_simp
      exact hK.out _ _ ⟨p6, ww.heap.size, p8, by rw [HA.out]; exact Reg.fill_up 10 hb rfl rfl rfl, HW.al10 (hn 13 (by decide))⟩
    refine Reg.steps_cons (i := 11) ?_ ?_
    · rintro bb aa ww ⟨p6, p7, p8, ha, HW⟩ hb hd hn
      have HA := Lib.hid ha
      clear ha
      refine ⟨_, rfl, fun K hK => ?_⟩
      refine Reg.do_val rfl rfl (v := .pointer (some ⟨ww.heap.size, 0, none⟩)) (w1 := ww.alloc (.cells #[.int .i64 0, .int .i64 0, .int .i64 0, .int .i64 0, .int .i64 0, .int .i64 0] 45)) ?_ ?_
      · go_simp
      exact hK.out _ _ ⟨p6, p7, ww.heap.size, by rw [HA.out]; exact Reg.fill_up 11 hb rfl rfl rfl, HW.al11 (hn 14 (by decide))⟩
    refine Reg.steps_cons (i := 12) ?_ ?_
    · rintro bb aa ww ⟨p6, p7, p8, ha, HW⟩ hb hd hn
      have e6 : aa.tmps[6]? = some (.pointer (some ⟨p6, 0, none⟩)) := by rw [ha]; exact Reg.fill_on 9 rfl rfl (hd 9 (by decide)) rfl
      have e28 : aa.tmps[28]? = some (.agg #[.int .i64 F0, .int .i64 F1, .int .i64 F2, .int .i64 F3, .int .i64 F4, .int .i64 F5]) := by rw [ha]; exact Reg.fill_on 5 rfl rfl (hd 5 (by decide)) rfl
      have HA := Lib.hid ha
      clear ha
      refine ⟨_, rfl, fun K hK => ?_⟩
      refine Reg.do_store rfl rfl 45 _ _ rfl p6 #[.int .i64 F0, .int .i64 F1, .int .i64 F2, .int .i64 F3, .int .i64 F4, .int .i64 F5] (Reg.eval_tmp e6) (Reg.eval_tmp e28) (HW.blk12 (hd 9 (by decide)) hb) (by kernel_rfl) rfl (by simp [Value.oneCell']) ?_
      exact hK.out _ _ ⟨p6, p7, p8, by rw [HA.out]; exact Reg.fill_none rfl, HW.st12 (hd 9 (by decide)) (hd 10 (by decide)) (hd 11 (by decide))⟩
    refine Reg.steps_cons (i := 13) ?_ ?_
    · rintro bb aa ww ⟨p6, p7, p8, ha, HW⟩ hb hd hn
      have e7 : aa.tmps[7]? = some (.pointer (some ⟨p7, 0, none⟩)) := by rw [ha]; exact Reg.fill_on 10 rfl rfl (hd 10 (by decide)) rfl
      have e29 : aa.tmps[29]? = some (.agg #[.int .i64 g0, .int .i64 g1, .int .i64 g2, .int .i64 g3, .int .i64 g4, .int .i64 g5]) := by rw [ha]; exact Reg.fill_on 6 rfl rfl (hd 6 (by decide)) rfl
      have HA := Lib.hid ha
      clear ha
      refine ⟨_, rfl, fun K hK => ?_⟩
      refine Reg.do_store rfl rfl 45 _ _ rfl p7 #[.int .i64 g0, .int .i64 g1, .int .i64 g2, .int .i64 g3, .int .i64 g4, .int .i64 g5] (Reg.eval_tmp e7) (Reg.eval_tmp e29) (HW.blk13 (hd 10 (by decide)) hb) (by kernel_rfl) rfl (by simp [Value.oneCell']) ?_
      exact hK.out _ _ ⟨p6, p7, p8, by rw [HA.out]; exact Reg.fill_none rfl, HW.st13 (hd 9 (by decide)) (hd 10 (by decide)) (hd 11 (by decide))⟩
    refine Reg.steps_cons (i := 14) ?_ ?_
    · rintro bb aa ww ⟨p6, p7, p8, ha, HW⟩ hb hd hn
      have e8 : aa.tmps[8]? = some (.pointer (some ⟨p8, 0, none⟩)) := by rw [ha]; exact Reg.fill_on 11 rfl rfl (hd 11 (by decide)) rfl
      have e30 : aa.tmps[30]? = some (.agg #[.int .i64 S0, .int .i64 S1, .int .i64 S2, .int .i64 S3, .int .i64 S4, .int .i64 S5]) := by rw [ha]; exact Reg.fill_on 7 rfl rfl (hd 7 (by decide)) rfl
      have HA := Lib.hid ha
      clear ha
      refine ⟨_, rfl, fun K hK => ?_⟩
      refine Reg.do_store rfl rfl 45 _ _ rfl p8 #[.int .i64 S0, .int .i64 S1, .int .i64 S2, .int .i64 S3, .int .i64 S4, .int .i64 S5] (Reg.eval_tmp e8) (Reg.eval_tmp e30) (HW.blk14 (hd 11 (by decide)) hb) (by kernel_rfl) rfl (by simp [Value.oneCell']) ?_
      exact hK.out _ _ ⟨p6, p7, p8, by rw [HA.out]; exact Reg.fill_none rfl, HW.st14 (hd 9 (by decide)) (hd 10 (by decide)) (hd 11 (by decide))⟩
    refine Reg.steps_cons (i := 15) ?_ ?_
    · rintro bb aa ww ⟨p6, p7, p8, ha, HW⟩ hb hd hn
      have e31 : aa.tmps[31]? = some (.int .i64 0) := by rw [ha]; exact Reg.fill_on 8 rfl rfl (hd 8 (by decide)) rfl
      have HA := Lib.hid ha
      clear ha
      refine ⟨_, rfl, fun K hK => ?_⟩
      refine Reg.do_val rfl rfl (v := .int .i64 0) (w1 := ww) (by simp only [List.getElem_toArray, List.getElem_cons_succ, List.getElem_cons_zero, execOp, Reg.eval_tmp e31]; rfl) ?_
      exact hK.out _ _ ⟨p6, p7, p8, by rw [HA.out]; exact Reg.fill_up 12 hb rfl rfl rfl, HW.keep (i := 15) (by decide) (Below.refl _ _)⟩
    exact trivial
  rintro bb aa W4 hall ⟨p6, p7, p8, ha, HW⟩
  have HW := Lib.hid (HW.fin hall)
  have HB4 := Lib.hid (HB.out.trans (HW.out.1.mono HB.out.size))
  have RF4 := Lib.hid (row_after HW.out.1 RF.out)
  have RB4 := Lib.hid (row_after HW.out.1 RB.out)
  have R6 := Lib.hid HW.out.2.1.2
  have R8 := Lib.hid HW.out.2.2.2
  have N6 := Lib.hid (Nat.le_trans HB.out.size HW.out.2.1.1)
  have N8 := Lib.hid (Nat.le_trans HB.out.size HW.out.2.2.1)
  clear HW HB RF RB hspl
  have hb0 := hall 0 (by decide)
  have hb1 := hall 1 (by decide)
  have hb2 := hall 2 (by decide)
  have hb3 := hall 3 (by decide)
  have hb4 := hall 4 (by decide)
  have hb5 := hall 5 (by decide)
  have hb6 := hall 6 (by decide)
  have hb7 := hall 7 (by decide)
  have hb8 := hall 8 (by decide)
  have hb9 := hall 9 (by decide)
  have hb10 := hall 10 (by decide)
  have hb11 := hall 11 (by decide)
  have hb12 := hall 12 (by decide)
  have hb13 := hall 13 (by decide)
  have hb14 := hall 14 (by decide)
  have hb15 := hall 15 (by decide)
  simp only [Reg.fill, hb0, hb1, hb2, hb3, hb4, hb5, hb6, hb7, hb8, hb9, hb10, hb11, hb15, if_true, Act.put, List.setIfInBounds_toArray, List.set_cons_zero, List.set_cons_succ] at ha
  clear hb0 hb1 hb2 hb3 hb4 hb5 hb6 hb7 hb8 hb9 hb10 hb11 hb12 hb13 hb14 hb15 hall
  subst ha
  go_wp2_with fail
  refine Reg.region_inv [[], [], [1], [0, 2], [3], [4], [4], [0, 1, 2, 3, 4, 5], [0, 1, 2, 3, 4, 5, 6, 7]] [[], [], [1], [0, 1, 2], [0, 1, 2, 3], [0, 1, 2, 3, 4], [0, 1, 2, 3, 4], [0, 1, 2, 3, 4, 5], [0, 1, 2, 3, 4, 5, 6, 7]] (fun a0_ bb aa ww => aa = Reg.fill bb [(0, 33, .agg #[.int .i64 B0, .int .i64 B1, .int .i64 B2, .int .i64 B3, .int .i64 B4, .int .i64 B5]), (1, 34, .agg #[.string kd, .slice (some ⟨b, o, none⟩) 3 c, .slice A' 3 c']), (2, 35, .agg #[.int .i64 ↑n, .int .i64 pp, .int .i64 kk]), (3, 36, .tuple #[.int .i64 L, .int .i64 0]), (4, 32, .tuple #[.int .i64 L, .int .i64 0]), (5, 37, .int .i64 L), (6, 38, .int .i64 0), (7, 10, .int .i64 L), (8, 11, .int .i64 0)] a0_ ∧ Below W4.heap.size W4 ww) (by kernel_rfl) (by kernel_rfl) (by kernel_rfl) ?_ ?_ ?_
  · exact ⟨Reg.fill_start.symm, (Below.refl _ _).drew⟩
  · refine Reg.steps_cons (i := 0) ?_ ?_
    · rintro bb aa ww ⟨ha, HW⟩ hb hd hn
      have e5 : aa.tmps[5]? = some (.pointer (some ⟨w.heap.size + 1, 0, none⟩)) := by rw [ha]; exact (Reg.fill_off rfl).trans rfl
      have HA := Lib.hid ha
      clear ha
      refine ⟨_, rfl, fun K hK => ?_⟩
      refine Reg.do_load rfl rfl 45 _ rfl (w.heap.size + 1) (Reg.eval_tmp e5) (row_after HW RB4.out) Tryz.underlying45 rfl (by kernel_rfl) ?_
      exact hK.out _ _ ⟨by rw [HA.out]; exact Reg.fill_up 0 hb rfl rfl rfl, HW⟩
    refine Reg.steps_cons (i := 1) ?_ ?_
    · rintro bb aa ww ⟨ha, HW⟩ hb hd hn
      have e3 : aa.tmps[3]? = some (.pointer (some ⟨w.heap.size, 0, none⟩)) := by rw [ha]; exact (Reg.fill_off rfl).trans rfl
      have HA := Lib.hid ha
      clear ha
      refine ⟨_, rfl, fun K hK => ?_⟩
      refine Reg.do_load rfl rfl 39 _ rfl w.heap.size (Reg.eval_tmp e3) (row_after HW RF4.out) Tryz.underlying39 rfl (by kernel_rfl) ?_
      exact hK.out _ _ ⟨by rw [HA.out]; exact Reg.fill_up 1 hb rfl rfl rfl, HW⟩
    refine Reg.steps_cons (i := 2) ?_ ?_
    · rintro bb aa ww ⟨ha, HW⟩ hb hd hn
      have e34 : aa.tmps[34]? = some (.agg #[.string kd, .slice (some ⟨b, o, none⟩) 3 c, .slice A' 3 c']) := by rw [ha]; exact Reg.fill_on 1 rfl rfl (hd 1 (by decide)) rfl
      have HA := Lib.hid ha
      clear ha
      refine ⟨_, rfl, fun K hK => ?_⟩
      refine Reg.do_call rfl rfl Tryz.func91 (by kernel_rfl) rfl #[.agg #[.string kd, .slice (some ⟨b, o, none⟩) 3 c, .slice A' 3 c']] rfl (by simp [Reg.eval_tmp e34]) ?_
      refine (hcut ww (HB4.out.trans (HW.mono HB4.out.size))).mono ?_; rintro e w3 ⟨rfl, hb3⟩; refine ⟨_, rfl, ?_⟩
      exact hK.out _ _ ⟨by rw [HA.out]; exact Reg.fill_up 2 hb rfl rfl rfl, HW.trans (hb3.mono HW.size)⟩
    refine Reg.steps_cons (i := 3) ?_ ?_
    · rintro bb aa ww ⟨ha, HW⟩ hb hd hn
      have e33 : aa.tmps[33]? = some (.agg #[.int .i64 B0, .int .i64 B1, .int .i64 B2, .int .i64 B3, .int .i64 B4, .int .i64 B5]) := by rw [ha]; exact Reg.fill_on 0 rfl rfl (hd 0 (by decide)) rfl
      have e35 : aa.tmps[35]? = some (.agg #[.int .i64 ↑n, .int .i64 pp, .int .i64 kk]) := by rw [ha]; exact Reg.fill_on 2 rfl rfl (hd 2 (by decide)) rfl
      have HA := Lib.hid ha
      clear ha
      refine ⟨_, rfl, fun K hK => ?_⟩
      refine Reg.do_call rfl rfl Tryz.func93 (by kernel_rfl) rfl #[.agg #[.int .i64 B0, .int .i64 B1, .int .i64 B2, .int .i64 B3, .int .i64 B4, .int .i64 B5], .agg #[.int .i64 ↑n, .int .i64 pp, .int .i64 kk]] rfl (by simp [Reg.eval_tmp e33, Reg.eval_tmp e35]) ?_
      refine (hlos ww).mono ?_; rintro e w3 ⟨rfl, hb3⟩; refine ⟨_, rfl, ?_⟩
      exact hK.out _ _ ⟨by rw [HA.out]; exact Reg.fill_up 3 hb rfl rfl rfl, HW.trans (hb3.mono HW.size)⟩
    refine Reg.steps_cons (i := 4) ?_ ?_
    · rintro bb aa ww ⟨ha, HW⟩ hb hd hn
      have e36 : aa.tmps[36]? = some (.tuple #[.int .i64 L, .int .i64 0]) := by rw [ha]; exact Reg.fill_on 3 rfl rfl (hd 3 (by decide)) rfl
      have HA := Lib.hid ha
      clear ha
      refine ⟨_, rfl, fun K hK => ?_⟩
      refine Reg.do_val rfl rfl (v := .tuple #[.int .i64 L, .int .i64 0]) (w1 := ww) (by simp only [List.getElem_toArray, List.getElem_cons_succ, List.getElem_cons_zero, execOp, Reg.eval_tmp e36]; rfl) ?_
      exact hK.out _ _ ⟨by rw [HA.out]; exact Reg.fill_up 4 hb rfl rfl rfl, HW⟩
    refine Reg.steps_cons (i := 5) ?_ ?_
    · rintro bb aa ww ⟨ha, HW⟩ hb hd hn
      have e32 : aa.tmps[32]? = some (.tuple #[.int .i64 L, .int .i64 0]) := by rw [ha]; exact Reg.fill_on 4 rfl rfl (hd 4 (by decide)) rfl
      have HA := Lib.hid ha
      clear ha
      refine ⟨_, rfl, fun K hK => ?_⟩
      refine Reg.do_val rfl rfl (v := .int .i64 L) (w1 := ww) ?_ ?_
      · simp only [List.getElem_toArray, List.getElem_cons_succ, List.getElem_cons_zero, execOp, Reg.eval_tmp e32]
        go_simp
      exact hK.out _ _ ⟨by rw [HA.out]; exact Reg.fill_up 5 hb rfl rfl rfl, HW⟩
    refine Reg.steps_cons (i := 6) ?_ ?_
    · rintro bb aa ww ⟨ha, HW⟩ hb hd hn
      have e32 : aa.tmps[32]? = some (.tuple #[.int .i64 L, .int .i64 0]) := by rw [ha]; exact Reg.fill_on 4 rfl rfl (hd 4 (by decide)) rfl
      have HA := Lib.hid ha
      clear ha
      refine ⟨_, rfl, fun K hK => ?_⟩
      refine Reg.do_val rfl rfl (v := .int .i64 0) (w1 := ww) ?_ ?_
      · simp only [List.getElem_toArray, List.getElem_cons_succ, List.getElem_cons_zero, execOp, Reg.eval_tmp e32]
        go_simp
      exact hK.out _ _ ⟨by rw [HA.out]; exact Reg.fill_up 6 hb rfl rfl rfl, HW⟩
    refine Reg.steps_cons (i := 7) ?_ ?_
    · rintro bb aa ww ⟨ha, HW⟩ hb hd hn
      have e37 : aa.tmps[37]? = some (.int .i64 L) := by rw [ha]; exact Reg.fill_on 5 rfl rfl (hd 5 (by decide)) rfl
      have HA := Lib.hid ha
      clear ha
      refine ⟨_, rfl, fun K hK => ?_⟩
      refine Reg.do_val rfl rfl (v := .int .i64 L) (w1 := ww) (by simp only [List.getElem_toArray, List.getElem_cons_succ, List.getElem_cons_zero, execOp, Reg.eval_tmp e37]; rfl) ?_
      exact hK.out _ _ ⟨by rw [HA.out]; exact Reg.fill_up 7 hb rfl rfl rfl, HW⟩
    refine Reg.steps_cons (i := 8) ?_ ?_
    · rintro bb aa ww ⟨ha, HW⟩ hb hd hn
      have e38 : aa.tmps[38]? = some (.int .i64 0) := by rw [ha]; exact Reg.fill_on 6 rfl rfl (hd 6 (by decide)) rfl
      have HA := Lib.hid ha
      clear ha
      refine ⟨_, rfl, fun K hK => ?_⟩
      refine Reg.do_val rfl rfl (v := .int .i64 0) (w1 := ww) (by simp only [List.getElem_toArray, List.getElem_cons_succ, List.getElem_cons_zero, execOp, Reg.eval_tmp e38]; rfl) ?_
      exact hK.out _ _ ⟨by rw [HA.out]; exact Reg.fill_up 8 hb rfl rfl rfl, HW⟩
    exact trivial
  rintro bb aa W5 hall ⟨ha, HW⟩
  have HB5 := Lib.hid (HB4.out.trans (HW.mono HB4.out.size))
  have RF5 := Lib.hid (row_after HW RF4.out)
  have R6 := Lib.hid (row_after HW R6.out)
  have R8 := Lib.hid (row_after HW R8.out)
  clear HW HB4 RF4 RB4 hcut hlos
  have hb0 := hall 0 (by decide)
  have hb1 := hall 1 (by decide)
  have hb2 := hall 2 (by decide)
  have hb3 := hall 3 (by decide)
  have hb4 := hall 4 (by decide)
  have hb5 := hall 5 (by decide)
  have hb6 := hall 6 (by decide)
  have hb7 := hall 7 (by decide)
  have hb8 := hall 8 (by decide)
  simp only [Reg.fill, hb0, hb1, hb2, hb3, hb4, hb5, hb6, hb7, hb8, if_true, Act.put, List.setIfInBounds_toArray, List.set_cons_zero, List.set_cons_succ] at ha
  clear hb0 hb1 hb2 hb3 hb4 hb5 hb6 hb7 hb8 hall
  subst ha
  have y0 := (row_cells (HYW.out _ HB5.out).row).1 0
  have y2 := (row_cells (HYW.out _ HB5.out).row).1 2
  have f2 := (row_cells (HYW.out _ HB5.out).row).2 2
  obtain ⟨hL1, hL2⟩ := hL
  have HY6 := Lib.hid ((HYW.out _ HB5.out).kerf (y.kerfs + L))
  have HS6 : Hid (Stay (fun i => i = M ∨ i = Y) w (W5.setCell ⟨Y, 2, none⟩ (.int .i64 (y.kerfs + L)))) := Lib.hid ((Stay.of_below HB5.out).trans ((stay_set W5 ⟨Y, 2, none⟩ _).mono fun i h => .inr h))
  have NM : Hid (M < w.heap.size) := Lib.hid ((HYW.out _ (Below.refl _ _)).ltM)
  have RF := Lib.hid ((heap_setCell_other W5 ⟨Y, 2, none⟩ w.heap.size (.int .i64 (y.kerfs + L)) (Nat.ne_of_gt hYl)).trans RF5.out)
  have R6 := Lib.hid ((heap_setCell_other W5 ⟨Y, 2, none⟩ p6 (.int .i64 (y.kerfs + L)) (Nat.ne_of_gt (Nat.lt_of_lt_of_le hYl N6.out))).trans R6.out)
  have R8 := Lib.hid ((heap_setCell_other W5 ⟨Y, 2, none⟩ p8 (.int .i64 (y.kerfs + L)) (Nat.ne_of_gt (Nat.lt_of_lt_of_le hYl N8.out))).trans R8.out)
  clear HB5 RF5
  go_wp2_with fail
  clear y0 y2 f2
  refine (hchg _ _ HY6.out HU.out HX.out).mono ?_; rintro e W7 ⟨rfl, hy7, hs7⟩
  have HY7 := Lib.hid hy7
  have HS7 := Lib.hid (HS6.out.trans (hs7.mono fun i h => .inl h))
  have RF := Lib.hid ((hs7.block w.heap.size (block_lt RF.out) (Nat.ne_of_gt NM.out)).trans RF.out)
  have R6 := Lib.hid ((hs7.block p6 (block_lt R6.out) (Nat.ne_of_gt (Nat.lt_of_lt_of_le NM.out N6.out))).trans R6.out)
  have R8 := Lib.hid ((hs7.block p8 (block_lt R8.out) (Nat.ne_of_gt (Nat.lt_of_lt_of_le NM.out N8.out))).trans R8.out)
  clear hy7 hs7 HY6 HS6 hchg HX HU HYW
  have L7 := Lib.hid (look_change (id := n0) (st := 2) (stone := (⟨#[]⟩ : ByteArray)) H12.out.1)
  have L8 := Lib.hid (look_change (id := n0) (st := 2) (stone := (⟨#[]⟩ : ByteArray)) H12.out.2.1)
  generalize hl : Yp.change y.items n0 2 ⟨#[]⟩ = l at *
  have HL := Lib.hid hl
  clear hl
  obtain ⟨W8, hrun, hy8, hb8⟩ := add_item HY7.out.drew ⟨n1, n0, ⟨F0, F1, F2, F3, F4, F5⟩, 1, ⟨#[]⟩⟩ L7.out
  simp only [itC] at hrun
  have HY8 := Lib.hid hy8
  have HS8 := Lib.hid (HS7.out.trans (Stay.of_but ⟨hb8.os, hb8.tape, hb8.output, hb8.size, hb8.block⟩ (.inl rfl) : Stay (fun i => i = M ∨ i = Y) W7 W8))
  have RF8 := Lib.hid ((hb8.block w.heap.size (Nat.ne_of_gt NM.out)).trans (drew_block RF.out))
  have R88 := Lib.hid ((hb8.block p8 (Nat.ne_of_gt (Nat.lt_of_lt_of_le NM.out N8.out))).trans (drew_block R8.out))
  clear hy8 hb8
  have y0 := (row_cells HY7.out.row).1 0
  have k1 := (row_cells RF.out).1 1
  have c1 := (HC.out _ HS7.out).2.1
  have q0 := (row_cells R6.out).1 0
  have q1 := (row_cells R6.out).1 1
  have q2 := (row_cells R6.out).1 2
  have q3 := (row_cells R6.out).1 3
  have q4 := (row_cells R6.out).1 4
  have q5 := (row_cells R6.out).1 5
  go_wp2_with fail
  go_still_tail 15, (by kernel_rfl)
  go_wp2_with fail
  clear hrun y0 k1 c1 q0 q1 q2 q3 q4 q5
  obtain ⟨W9, hrun, hy9, hb9⟩ := add_item HY8.out.drew ⟨n2, n0, ⟨S0, S1, S2, S3, S4, S5⟩, 1, ⟨#[]⟩⟩ (look_add L8.out H12.out.2.2)
  simp only [itC] at hrun
  have HY9 := Lib.hid hy9
  have HS9 := Lib.hid (HS8.out.trans (Stay.of_but ⟨hb9.os, hb9.tape, hb9.output, hb9.size, hb9.block⟩ (.inl rfl) : Stay (fun i => i = M ∨ i = Y) W8 W9))
  clear hy9 hb9
  have y0 := (row_cells HY8.out.row).1 0
  have k1 := (row_cells RF8.out).1 1
  have c1 := (HC.out _ HS8.out).2.2
  have q0 := (row_cells R88.out).1 0
  have q1 := (row_cells R88.out).1 1
  have q2 := (row_cells R88.out).1 2
  have q3 := (row_cells R88.out).1 3
  have q4 := (row_cells R88.out).1 4
  have q5 := (row_cells R88.out).1 5
  go_still_tail 15, (by kernel_rfl)
  go_wp2_with fail
  go_end0
  refine ⟨rfl, ?_, HS9.out⟩
  have := HY9.out
  rw [List.append_assoc] at this
  rw [HL.out]
  exact this
end Go.Proofs.YtejhcbbfdfnfdaaGreatDoor.Yard
