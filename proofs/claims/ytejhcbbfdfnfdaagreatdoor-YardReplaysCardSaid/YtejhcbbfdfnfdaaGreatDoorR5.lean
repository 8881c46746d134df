/- Slices that read as strings or numbers; the checks of names; boxOf, cutOf. -/
import Derived.Test.YtejhcbbfdfnfdaaGreatDoorR4
import Derived.Test.YtejhcbbfdfnfdaaGreatDoorR2
import Derived.Test.YtejhcbbfdfnfdaaGreatDoorR3
import Derived.Deep.QuietTactic
import Derived.BigQuiet
import Derived.StillTailTactics
import Derived.Deep.RegionHeld3
/- What the statements ask of the yard. No program. -/
namespace Go.Proofs.YtejhcbbfdfnfdaaGreatDoor.Yp
/-! ### what the statements ask -/
theorem sumL_nonneg : ∀ {l : List Int}, (∀ x ∈ l, 0 ≤ x) → 0 ≤ sumL l
  | [], _ => by simp [sumL]
  | a :: l, h => by
    rw [sumL_cons]
    have := h a List.mem_cons_self
    have := sumL_nonneg fun x hx => h x (List.mem_cons_of_mem _ hx)
    omega

theorem sumL_perm {a b : List Int} (h : a.Perm b) : sumL a = sumL b := by
  induction h with
  | nil => rfl
  | cons x _ ih => rw [sumL_cons, sumL_cons, ih]
  | swap x y l => rw [sumL_cons, sumL_cons, sumL_cons, sumL_cons]; omega
  | trans _ _ h1 h2 => exact h1.trans h2

theorem sumL_filter (p : It → Prop) [DecidablePred p] (g : It → Int) (l : List It) : sumL (l.map fun x => if p x then g x else 0) = sumL ((l.filter fun x => decide (p x)).map g) := by
  induction l with
  | nil => rfl
  | cons a l ih =>
    rw [List.map_cons, sumL_cons, ih]
    by_cases h : p a
    · rw [if_pos h, List.filter_cons_of_pos (by simpa using h), List.map_cons, sumL_cons]
    · rw [if_neg h, List.filter_cons_of_neg (by simpa using h)]; omega

/-- The volume of the items in one state. -/
def stVol (s : Int) (l : List It) : Int := sumL (l.map fun x => if x.st = s then x.bx.vol else 0)

theorem stVol_cons (s : Int) (a : It) (l : List It) : stVol s (a :: l) = (if a.st = s then a.bx.vol else 0) + stVol s l := rfl

theorem liveVol_states : ∀ {l : List It}, (∀ x ∈ l, 1 ≤ x.st ∧ x.st ≤ 5) → liveVol l = stVol 1 l + stVol 3 l + stVol 4 l + stVol 5 l
  | [], _ => rfl
  | a :: l, h => by
    have e : liveVol (a :: l) = (if a.st = 2 then 0 else a.bx.vol) + liveVol l := rfl
    rw [e, stVol_cons, stVol_cons, stVol_cons, stVol_cons, liveVol_states fun x hx => h x (List.mem_cons_of_mem _ hx)]
    have ha := h a List.mem_cons_self
    have : a.st = 1 ∨ a.st = 2 ∨ a.st = 3 ∨ a.st = 4 ∨ a.st = 5 := by omega
    rcases this with g | g | g | g | g <;> rw [g] <;> simp <;> omega

theorem stVol_nonneg {y : Yd} (h : Inv y) (s : Int) : 0 ≤ stVol s y.items := by
  refine sumL_nonneg fun v hv => ?_
  obtain ⟨x, hx, rfl⟩ := List.mem_map.1 hv
  split
  · exact vol_nonneg _ (h.ok x hx)
  · exact Int.le_refl 0

theorem liveVol_le {y : Yd} (h : Inv y) : liveVol y.items ≤ 8000000000000000000 := by
  have e : liveVol y.items = sumL (y.items.map fun x => if ¬ x.st = 2 then x.bx.vol else 0) := by
    unfold liveVol
    refine congrArg sumL (List.map_congr_left fun x _ => ?_)
    by_cases g : x.st = 2 <;> simp [g]
  rw [e, sumL_filter, show (fun x : It => x.bx.vol) = Bx.vol ∘ It.bx from rfl, ← List.map_map]
  refine vols_le _ ?_ fun b hb => ?_
  · rw [List.pairwise_map]
    have := h.disj.filter fun x => decide (¬ x.st = 2)
    refine List.Pairwise.imp_of_mem ?_ this
    intro a b ha hb hab
    exact hab (by simpa using (List.mem_filter.1 ha).2) (by simpa using (List.mem_filter.1 hb).2)
  · obtain ⟨x, hx, rfl⟩ := List.mem_map.1 hb
    exact h.ok x (List.mem_filter.1 hx).1

theorem rootVol_le {y : Yd} (h : Inv y) : rootVol y.items ≤ 8000000000000000000 := by
  unfold rootVol
  rw [sumL_filter, show (fun x : It => x.bx.vol) = Bx.vol ∘ It.bx from rfl, ← List.map_map]
  refine vols_le _ ?_ fun b hb => ?_
  · rw [List.pairwise_map]
    have := h.rdis.filter fun x => decide (x.par = es)
    refine List.Pairwise.imp_of_mem ?_ this
    intro a b ha hb hab
    exact hab (by simpa using (List.mem_filter.1 ha).2) (by simpa using (List.mem_filter.1 hb).2)
  · obtain ⟨x, hx, rfl⟩ := List.mem_map.1 hb
    exact h.ok x (List.mem_filter.1 hx).1

theorem liveVol_nonneg {y : Yd} (h : Inv y) : 0 ≤ liveVol y.items := by
  rw [liveVol_states h.sts]
  have := stVol_nonneg h 1
  have := stVol_nonneg h 3
  have := stVol_nonneg h 4
  have := stVol_nonneg h 5
  omega

theorem kerfs_le {y : Yd} (h : Inv y) : y.kerfs ≤ 8000000000000000000 := by
  have := rootVol_le h; have := liveVol_nonneg h; have := h.sum; omega

/-- A stone's item. -/
def stoneOf (l : List It) (s : ByteArray) : Option It := l.find? fun x => decide (x.stone = s)

theorem stone_uniq {l : List It} (h : l.Pairwise fun a b => a.stone = es ∨ a.stone ≠ b.stone) : ∀ {x z : It}, x ∈ l → z ∈ l → x.stone = z.stone → x.stone ≠ es → x = z := by
  induction l with
  | nil => intro x z hx; exact absurd hx List.not_mem_nil
  | cons a l ih =>
    obtain ⟨h1, h2⟩ := List.pairwise_cons.1 h
    intro x z hx hz e hs
    rcases List.mem_cons.1 hx with hxa | hxl <;> rcases List.mem_cons.1 hz with hza | hzl
    · rw [hxa, hza]
    · subst hxa; rcases h1 _ hzl with c | c
      · exact absurd c hs
      · exact absurd e c
    · subst hza; rcases h1 _ hxl with c | c
      · exact absurd (e.trans c) hs
      · exact absurd e.symm c
    · exact ih h2 hxl hzl e hs

theorem disj_two {l : List It} (hl : l.Pairwise fun a b => a.st ≠ 2 → b.st ≠ 2 → ¬ a.bx.over b.bx) : ∀ u ∈ l, ∀ v ∈ l, u.id ≠ v.id → u.st ≠ 2 → v.st ≠ 2 → ¬ u.bx.over v.bx := by
  induction l with
  | nil => intro u hu; exact absurd hu List.not_mem_nil
  | cons e l ih =>
    obtain ⟨e1, e2⟩ := List.pairwise_cons.1 hl
    intro u hu v hv huv us vs
    rcases List.mem_cons.1 hu with hu' | hu' <;> rcases List.mem_cons.1 hv with hv' | hv'
    · exact absurd (by rw [hu', hv']) huv
    · rw [hu'] at us ⊢; exact e1 v hv' us vs
    · rw [hv'] at vs ⊢; exact fun o => e1 u hu' vs us (over_symm o)
    · exact ih e2 u hu' v hv' huv us vs

/-! ### facts that are done are the state -/
def steps (y : Yd) (l : List Fact) : Yd := l.foldl step y
theorem inv_steps (l : List Fact) : ∀ {y : Yd}, Inv y → Inv (steps y l) := by
  induction l with
  | nil => intro y h; exact h
  | cons f l ih => intro y h; exact ih (inv_step h f)
theorem steps_snoc (y : Yd) (l : List Fact) (f : Fact) : steps y (l ++ [f]) = step (steps y l) f := by unfold steps; rw [List.foldl_append]; rfl
/-- Every fact is possible, one after the other. -/
def AllOk : Yd → List Fact → Prop
  | _, [] => True
  | y, f :: l => check y f = 0 ∧ AllOk (step y f) l
theorem allOk_snoc : ∀ {l : List Fact} {y : Yd} {f : Fact}, AllOk y l → check (steps y l) f = 0 → AllOk y (l ++ [f])
  | [], _, _, _, h => ⟨h, trivial⟩
  | g :: l, y, _, h, hf => ⟨h.1, allOk_snoc (l := l) (y := step y g) h.2 hf⟩

theorem step_facts {y : Yd} {f : Fact} (h : check y f = 0) : (step y f).facts = y.facts ++ [f] := by
  unfold step
  rw [if_pos h]
  unfold apply
  cases hk : kindNo f.kind with
  | none => unfold check at h; rw [hk] at h; exact absurd h (by simp)
  | some k => rfl

/-- The state is the replay of its facts. -/
def Own (y : Yd) : Prop := AllOk yNew y.facts ∧ steps yNew y.facts = y
theorem own_new : Own yNew := ⟨trivial, rfl⟩
theorem own_step {y : Yd} (h : Own y) (f : Fact) : Own (step y f) := by
  by_cases hc : check y f = 0
  · unfold Own
    rw [step_facts hc, steps_snoc, h.2]
    exact ⟨allOk_snoc h.1 (by rw [h.2]; exact hc), rfl⟩
  · unfold step; rw [if_neg hc]; exact h
theorem own_steps (l : List Fact) : ∀ {y : Yd}, Own y → Own (steps y l) := by
  induction l with
  | nil => intro y h; exact h
  | cons f l ih => intro y h; exact ih (own_step h f)
theorem facts_le (l : List Fact) : ∀ y : Yd, (steps y l).facts.length ≤ y.facts.length + l.length := by
  induction l with
  | nil => intro y; exact Nat.le_refl _
  | cons f l ih =>
    intro y
    refine Nat.le_trans (ih (step y f)) ?_
    by_cases hc : check y f = 0
    · rw [step_facts hc]; simp; omega
    · unfold step; rw [if_neg hc]; simp
theorem items_step (y : Yd) (f : Fact) : (step y f).items.length ≤ y.items.length + 2 := by
  unfold step
  split
  · unfold apply
    split
    · omega
    · rename_i k _
      show (applyItems y.items f k).length ≤ _
      unfold applyItems
      split <;> simp [change]
  · omega
theorem items_le (l : List Fact) : ∀ y : Yd, (steps y l).items.length ≤ y.items.length + 2 * l.length := by
  induction l with
  | nil => intro y; exact Nat.le_refl _
  | cons f l ih =>
    intro y
    refine Nat.le_trans (ih (step y f)) ?_
    have := items_step y f
    simp; omega

/-- Refused: nothing changes; an item stays, and one that is set stays as it is. -/
theorem kept_step {y : Yd} (h : Inv y) (f : Fact) {x : It} (hx : x ∈ y.items) : ∃ z ∈ (step y f).items, z.id = x.id ∧ (x.st = 4 → z = x) := by
  unfold step
  split
  · rename_i hc
    unfold check at hc
    unfold apply
    cases hk : kindNo f.kind with
    | none => exact ⟨x, hx, rfl, fun _ => rfl⟩
    | some k =>
      rw [hk] at hc
      simp only at hc ⊢
      split at hc
      · exact absurd hc (by decide)
      · split at hc
        · exact absurd hc (by decide)
        · split at hc
          · rename_i h0
            subst h0
            exact ⟨x, List.mem_append_left _ hx, rfl, fun _ => rfl⟩
          · rename_i hk0
            cases hl : look y.items (nm f 0) with
            | none => rw [hl] at hc; exact absurd hc (by simp)
            | some q =>
              rw [hl] at hc
              simp only at hc
              obtain ⟨hm, hid⟩ := look_some hl
              split at hc
              · exact absurd hc (by decide)
              · rename_i hal
                have hq4 : q.st ≠ 4 := by
                  intro e
                  unfold allowed at hal
                  (repeat' split at hal) <;> simp [e] at hal
                have ch : ∀ s t, upd (nm f 0) s t x ∈ change y.items (nm f 0) s t ∧ (upd (nm f 0) s t x).id = x.id ∧ (x.st = 4 → upd (nm f 0) s t x = x) := by
                  intro s t
                  refine ⟨by rw [change_eq]; exact List.mem_map_of_mem hx, upd_id _ _ _ _, fun h4 => upd_no fun e => hq4 ?_⟩
                  rw [← uniq_eq h.uniq hx hm (e.trans hid.symm)]; exact h4
                show ∃ z ∈ applyItems y.items f k, _
                unfold applyItems
                split
                · exact absurd rfl hk0
                · obtain ⟨a, b, c⟩ := ch 2 es
                  exact ⟨_, List.mem_append_left _ (List.mem_append_left _ a), b, c⟩
                · obtain ⟨a, b, c⟩ := ch 3 (nm f 1); exact ⟨_, a, b, c⟩
                · obtain ⟨a, b, c⟩ := ch 1 es; exact ⟨_, a, b, c⟩
                · obtain ⟨a, b, c⟩ := ch 4 ((look y.items (nm f 0)).getD zIt).stone; exact ⟨_, a, b, c⟩
                · obtain ⟨a, b, c⟩ := ch 5 es; exact ⟨_, a, b, c⟩
  · exact ⟨x, hx, rfl, fun _ => rfl⟩
end Go.Proofs.YtejhcbbfdfnfdaaGreatDoor.Yp

/- Slices that read as strings or numbers; the checks of names; boxOf, cutOf. -/
namespace Go.Proofs.YtejhcbbfdfnfdaaGreatDoor.Yard
open Go.RowKit Go.Proofs.YtejhcbbfdfnfdaaGreatDoor.Base Go.Proofs.YtejhcbbfdfnfdaaGreatDoor.Mp Go.Proofs.YtejhcbbfdfnfdaaGreatDoor.Lex
/-- v is a slice whose cells are xs, in a block of X. -/
def Rd (w : World) (X : Nat → Prop) (v : Value) (xs : List Value) : Prop :=
  ∃ A c, v = .slice A xs.length c ∧ xs.length ≤ c ∧ (0 < xs.length → ∃ b o, A = some ⟨b, o, none⟩ ∧ b < w.heap.size ∧ X b ∧ ∀ j u, xs[j]? = some u → w.cell? ⟨b, o + j, none⟩ = some u)
theorem Rd.after {w w' : World} {X : Nat → Prop} {v : Value} {xs : List Value} (h : Rd w X v xs) (hs : w.heap.size ≤ w'.heap.size) (hb : ∀ b, b < w.heap.size → X b → w'.heap[b]? = w.heap[b]?) : Rd w' X v xs := by
  obtain ⟨A, c, rfl, hc, h⟩ := h
  refine ⟨A, c, rfl, hc, fun h0 => ?_⟩
  obtain ⟨b, o, rfl, hl, hX, hcell⟩ := h h0
  exact ⟨b, o, rfl, by omega, hX, fun j u hu => (World.cell?_of_block (a := ⟨b, o + j, none⟩) (hb b hl hX)).trans (hcell j u hu)⟩
theorem Rd.below {w w' : World} {X : Nat → Prop} {v : Value} {xs : List Value} (h : Rd w X v xs) (hb : Below w.heap.size w w') : Rd w' X v xs := h.after hb.size fun b hl _ => hb.block b hl
theorem Rd.mono {w : World} {X X' : Nat → Prop} {v : Value} {xs : List Value} (h : Rd w X v xs) (hX : ∀ b, b < w.heap.size → X b → X' b) : Rd w X' v xs := by
  obtain ⟨A, c, rfl, hc, h⟩ := h
  refine ⟨A, c, rfl, hc, fun h0 => ?_⟩
  obtain ⟨b, o, rfl, hl, hx, hcell⟩ := h h0
  exact ⟨b, o, rfl, hl, hX b hl hx, hcell⟩
def strV (l : List ByteArray) : List Value := l.map Value.string
def intV (l : List Int) : List Value := l.map (Value.int .i64)
theorem check1_any (s : ByteArray) (hs : s.size ≤ 140737488351232) (w : World) : Calls Tryz.prog 44 #[.string s] w fun e w' => e = .returned (.bool (!nameB s)) ∧ Below w.heap.size w w' := by
  have hn := fun w => name_any s w hs
  go_enter Tryz.func44, Tryz.ntmps44
  go_wp2_with fail
  refine (hn _).mono ?_; rintro e w1 ⟨rfl, hb⟩
  go_wp2_with fail
  go_ret
  exact ⟨rfl, hb⟩
/-- The first bad name, or -1. -/
def badAt : List ByteArray → Nat → Int
  | [], _ => -1
  | s :: l, i => if nameB s then badAt l (i + 1) else i
theorem badAt_pos (l : List ByteArray) : ∀ i, decide (0 ≤ badAt l i) = l.any (fun s => !nameB s) := by
  induction l with
  | nil => intro i; simp [badAt]
  | cons s l ih =>
    intro i
    unfold badAt
    by_cases h : nameB s = true
    · rw [if_pos h, ih]; simp [h]
    · rw [if_neg h]; simp [h]
theorem badAt_step (l : List ByteArray) : ∀ (k i : Nat), (∀ j s, l[j]? = some s → j < k → nameB s = true) → badAt l i = badAt (l.drop k) (i + k) := by
  induction l with
  | nil => intro k i _; simp [badAt]
  | cons s l ih =>
    intro k i h
    cases k with
    | zero => rfl
    | succ k =>
      have h0 := h 0 s (by simp) (by omega)
      rw [badAt, if_pos h0, ih k (i + 1) (fun j s hj hk => h (j + 1) s (by simpa using hj) (by omega))]
      rw [List.drop_succ_cons, show i + 1 + k = i + (k + 1) by omega]
set_option maxHeartbeats 1000000 in
theorem index_any (X : Nat → Prop) (v : Value) (l : List ByteArray) (w : World) (hv : Rd w X v (strV l)) (hs : ∀ s ∈ l, s.size ≤ 140737488351232) (hl : l.length ≤ 1000000) :
    Calls Tryz.prog 69 #[v, .func (.func 44) #[] #[]] w fun e w' => e = .returned (.int .i64 (badAt l 0)) ∧ Below w.heap.size w w' := by
  obtain ⟨A, c, rfl, hc, hcell⟩ := hv
  have hlen : (strV l).length = l.length := by simp [strV]
  rw [hlen] at hc hcell ⊢
  have HC := Lib.hid hcell
  have HS := Lib.hid hs
  clear hcell hs hlen
  go_enter Tryz.func69, Tryz.ntmps69
  go_wp2_with fail
  go_loopw [8] (fun n wr => ∃ k : Nat, k ≤ l.length ∧ n = .int .i64 k ∧ (∀ j s, l[j]? = some s → j < k → nameB s = true) ∧ Below w.heap.size w wr) (fun n _ => l.length - (intOf n).toNat)
  case atStart => exact ⟨0, by omega, rfl, fun j s _ hk => by omega, Below.refl _ _⟩
  case round =>
    obtain ⟨k, hk, rfl, hall, hb⟩ := hrel
    have HA := Lib.hid hall
    have HB := Lib.hid hb
    clear hall hb
    by_cases hlt : k < l.length
    · obtain ⟨b, o, rfl, hbl, _, hx⟩ := HC.out (by omega)
      have hcell : ∀ W : World, Below w.heap.size w W → W.cell? ⟨b, o + k, none⟩ = some (.string l[k]) := fun W hW => (hW.cell (p := ⟨b, o + k, none⟩) hbl).trans (hx k _ (by simp [strV, List.getElem?_eq_getElem hlt]))
      have hc0 := hcell _ HB.out
      have hn := check1_any l[k] (HS.out _ (List.getElem_mem hlt))
      clear hcell hx
      cases hq : nameB l[k] with
      | true =>
        rw [hq] at hn
        have HQ := Lib.hid hq
        clear hq
        go_wp2_with fail
        refine (hn _).mono ?_; rintro e w1 ⟨rfl, hb1⟩
        have HB1 := Lib.hid (HB.out.trans (hb1.mono HB.out.size))
        clear hb1 hn
        go_wp2_with fail
        go_roundw
        case rel =>
          refine ⟨k + 1, by omega, by go_num, fun j s hj hk' => ?_, HB1.out⟩
          rcases Nat.lt_or_ge j k with g | g
          · exact HA.out j s hj g
          · obtain rfl : j = k := by omega
            rw [List.getElem?_eq_getElem hlt] at hj
            injection hj with hj
            rw [← hj]; exact HQ.out
        case measure => simp [intOf]; omega
      | false =>
        rw [hq] at hn
        have HQ := Lib.hid hq
        clear hq
        go_wp2_with fail
        refine (hn _).mono ?_; rintro e w1 ⟨rfl, hb1⟩
        have HB1 := Lib.hid (HB.out.trans (hb1.mono HB.out.size))
        clear hb1 hn
        go_wp2_with fail
        go_ret
        refine ⟨Base.ret_int ?_, HB1.out⟩
        rw [badAt_step l k 0 HA.out, List.drop_eq_getElem_cons hlt, badAt, if_neg (by rw [HQ.out]; decide)]
        omega
    · go_wp2_with fail
      go_ret
      refine ⟨Base.ret_int ?_, HB.out⟩
      rw [badAt_step l k 0 HA.out, List.drop_eq_nil_of_le (by omega)]
      rfl
theorem contains_any (X : Nat → Prop) (v : Value) (l : List ByteArray) (w : World) (hv : Rd w X v (strV l)) (hs : ∀ s ∈ l, s.size ≤ 140737488351232) (hl : l.length ≤ 1000000) :
    Calls Tryz.prog 36 #[v, .func (.func 44) #[] #[]] w fun e w' => e = .returned (.bool (l.any fun s => !nameB s)) ∧ Below w.heap.size w w' := by
  have hi := index_any X v l w hv hs hl
  rw [← badAt_pos l 0]
  generalize badAt l 0 = n at hi
  clear hv hs hl
  go_enter Tryz.func36, Tryz.ntmps36
  go_wp2_with fail
  refine hi.mono ?_; rintro e w1 ⟨rfl, hb⟩
  have HB := Lib.hid hb
  clear hb hi
  go_wp2_with fail
  go_ret
  exact ⟨rfl, HB.out⟩
end Go.Proofs.YtejhcbbfdfnfdaaGreatDoor.Yard
