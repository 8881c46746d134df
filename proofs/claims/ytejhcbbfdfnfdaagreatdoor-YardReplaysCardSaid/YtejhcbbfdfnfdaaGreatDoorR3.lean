/- Volumes of disjoint boxes. No program. -/
import Derived.Test.YtejhcbbfdfnfdaaGreatDoorR2
import Derived.Maps.RangeRun
import Derived.Maps.RangeWalk
import Derived.Maps.OwnSet
import Derived.Lib.Hide
import Derived.RowKit
/- Maps keyed by strings, as lists of pairs: looks, stores, range. No program. -/
namespace Go.Proofs.YtejhcbbfdfnfdaaGreatDoor.Mp
open Go.RowKit Go.Proofs.YtejhcbbfdfnfdaaGreatDoor.Base
open Go.ChangeMaps (setBlock)
abbrev Pairs := List (ByteArray × Value)
def skv (p : ByteArray × Value) : Value × Value := (.string p.1, p.2)
def ekv (e : MapEntry) : Value × Value := (e.key, e.val)
/-- Block b is a map that reads as L. -/
def IsMap (w : World) (b : Nat) (L : Pairs) : Prop :=
  ∃ es clock, w.heap[b]? = some (.map es clock) ∧ es.toList.map ekv = L.map skv ∧ (∀ x ∈ es.toList, x.born < clock) ∧ (es.toList.map (·.born)).Nodup
theorem bbeq (a b : ByteArray) : (a == b) = decide (a = b) := by
  obtain ⟨a⟩ := a
  obtain ⟨b⟩ := b
  show (a == b) = _
  by_cases h : a = b
  · subst h; simp
  · simp [h]
def fnd (s : ByteArray) : Pairs → Nat → Option (Nat × Value)
  | [], _ => none
  | (k, v) :: L, i => if s = k then some (i, v) else fnd s L (i + 1)
theorem findNow_eq (s : ByteArray) : ∀ (es : List MapEntry) (L : Pairs) (i : Nat), es.map ekv = L.map skv → Instr.findNow .string (.string s) es i = some (fnd s L i)
  | [], L, i, h => by
    cases L with
    | nil => rfl
    | cons p L => cases h
  | e :: es, L, i, h => by
    cases L with
    | nil => cases h
    | cons p L =>
      simp only [List.map_cons, List.cons.injEq] at h
      obtain ⟨h1, h2⟩ := h
      obtain ⟨k, v⟩ := p
      have hk : e.key = .string k := congrArg Prod.fst h1
      have hv : e.val = v := congrArg Prod.snd h1
      simp only [Instr.findNow, hk, Instr.sameNow, fnd, bbeq]
      by_cases hs : s = k
      · subst hs; simp [hv]
      · simp [hs, findNow_eq s es L (i + 1) h2]
theorem fnd_none {s : ByteArray} : ∀ {L : Pairs} {i : Nat}, fnd s L i = none → ∀ p ∈ L, p.1 ≠ s
  | [], _, _ => by simp
  | (k, v) :: L, i, h => by
    unfold fnd at h
    by_cases hs : s = k
    · subst hs; simp at h
    · rw [if_neg hs] at h
      intro p hp
      rcases List.mem_cons.1 hp with rfl | hp
      · exact fun e => hs e.symm
      · exact fnd_none h p hp
theorem fnd_some {s : ByteArray} : ∀ {L : Pairs} {i j : Nat} {v : Value}, fnd s L i = some (j, v) → ∃ A B, L = A ++ (s, v) :: B ∧ j = i + A.length ∧ ∀ p ∈ A, p.1 ≠ s
  | [], _, _, _, h => by cases h
  | (k, u) :: L, i, j, v, h => by
    unfold fnd at h
    by_cases hs : s = k
    · subst hs
      simp at h
      exact ⟨[], L, by simp [h.2], by simp [h.1], by simp⟩
    · rw [if_neg hs] at h
      obtain ⟨A, B, e1, e2, e3⟩ := fnd_some h
      refine ⟨(k, u) :: A, B, by rw [e1]; rfl, by simp; omega, ?_⟩
      intro p hp
      rcases List.mem_cons.1 hp with rfl | hp
      · exact fun e => hs e.symm
      · exact e3 p hp
theorem fnd_of_mem {s : ByteArray} {L : Pairs} {i : Nat} {v : Value} (h : (s, v) ∈ L) (hn : (L.map (·.1)).Nodup) : ∃ j, fnd s L i = some (j, v) := by
  cases hf : fnd s L i with
  | none => exact absurd rfl (fnd_none hf _ h)
  | some r =>
    obtain ⟨j, u⟩ := r
    obtain ⟨A, B, rfl, _, hA⟩ := fnd_some hf
    refine ⟨j, ?_⟩
    rcases List.mem_append.1 h with h | h
    · exact absurd rfl (hA _ h)
    · rcases List.mem_cons.1 h with h | h
      · rw [show u = v from (congrArg Prod.snd h).symm]
      · simp only [List.map_append, List.map_cons] at hn
        have := (List.nodup_append.1 hn).2.1
        exact absurd (List.mem_map_of_mem (f := (·.1)) h) (List.nodup_cons.1 this).1
theorem fnd_not {s : ByteArray} {L : Pairs} {i : Nat} (h : ∀ p ∈ L, p.1 ≠ s) : fnd s L i = none := by
  cases hf : fnd s L i with
  | none => rfl
  | some r =>
    obtain ⟨A, B, rfl, _, _⟩ := fnd_some (j := r.1) (v := r.2) hf
    exact absurd rfl (h (s, r.2) (by simp))
variable {P : Program} {t k e : TypeId}
theorem check_key (hk : P.underlying k = some .string) (em : Bool) (n : Nat) (s : ByteArray) (w : World) : (Instr.checkKey em (n + 1) k (.string s)).run P w = .ok () w := by
  simp [Instr.checkKey, run_underlying hk, Result.andThen]
theorem key_stays (s : ByteArray) (w : World) : (Instr.keyThatStays (.string s) (.string s)).run P w = .ok (.string s) w := by
  simp [Instr.keyThatStays, Instr.sameBits, bbeq]
theorem find_key (hk : P.underlying k = some .string) {es : List MapEntry} {L : Pairs} (h : es.map ekv = L.map skv) (s : ByteArray) (w : World) : (Instr.findKey k (.string s) es).run P w = .ok (fnd s L 0) w := by
  simp [Instr.findKey, run_underlying hk, Result.andThen, findNow_eq s es L 0 h]
/-- 'm[s]', 'v, ok := m[s]'. -/
theorem IsMap.look {w : World} {b : Nat} {L : Pairs} (h : IsMap w b L) (ht : P.underlying t = some (.map k e)) (hk : P.underlying k = some .string) {z : Value} (hz : (zeroValue e).run P w = .ok z w) (s : ByteArray) (c : Bool) :
    (Instr.lookup t (.map (some b)) (.string s) c).run P w = .ok (if c then .tuple #[((fnd s L 0).map (·.2)).getD z, .bool (fnd s L 0).isSome] else ((fnd s L 0).map (·.2)).getD z) w := by
  obtain ⟨es, clock, hb, he, _, _⟩ := h
  cases hf : fnd s L 0 with
  | none => simp [Instr.lookup, run_underlying ht, MapKept.run_getObj_map hb, check_key hk, find_key hk he, hf, hz, Result.andThen]
  | some r => simp [Instr.lookup, run_underlying ht, MapKept.run_getObj_map hb, check_key hk, find_key hk he, hf, Result.andThen]
theorem IsMap.lt {w : World} {b : Nat} {L : Pairs} (h : IsMap w b L) : b < w.heap.size := by
  obtain ⟨es, clock, hb, _⟩ := h
  exact block_lt hb
theorem IsMap.same {w w' : World} {b : Nat} {L : Pairs} (h : IsMap w b L) (hs : w'.heap[b]? = w.heap[b]?) : IsMap w' b L := by
  obtain ⟨es, clock, hb, h1⟩ := h
  exact ⟨es, clock, hs.trans hb, h1⟩
theorem IsMap.after {w w' : World} {b : Nat} {L : Pairs} (h : IsMap w b L) (hb : Below w.heap.size w w') : IsMap w' b L := h.same (hb.block b h.lt)
theorem IsMap.size {w : World} {b : Nat} {L : Pairs} (h : IsMap w b L) (ht : P.underlying t = some (.map k e)) (ty : TypeId) : (Builtin.len_ #[t] ty #[.map (some b)]).run P w = .ok (.int .i64 L.length) w := by
  obtain ⟨es, clock, hb, he, _⟩ := h
  have hl : es.size = L.length := by simpa using congrArg List.length he
  simp [Builtin.len_, run_underlying ht, MapKept.run_getObj_map hb, Result.andThen, goInt, hl]
/-- What w' has of w, but for block b. -/
structure But (b : Nat) (w w' : World) : Prop where
  os : w'.os = w.os
  tape : w'.tape = w.tape
  output : w'.output = w.output
  size : w'.heap.size = w.heap.size
  block : ∀ i, i ≠ b → w'.heap[i]? = w.heap[i]?
theorem But.below {b k : Nat} {w w' : World} (h : But b w w') (hk : k ≤ b) : Below k w w' := ⟨h.os, h.tape, h.output, by rw [h.size]; exact Nat.le_refl _, fun i hi => h.block i (by omega)⟩
theorem but_set {w : World} {b : Nat} (o : Obj) : But b w (setBlock w b o) := ⟨rfl, rfl, rfl, by simp [setBlock], fun i hi => by simp [setBlock, Ne.symm hi]⟩
theorem put_list {A B : Pairs} {s : ByteArray} {v u : Value} {es : List MapEntry} (h : es.map ekv = (A ++ (s, v) :: B).map skv) : (es.modify A.length (fun e => { e with key := .string s, val := u })).map ekv = (A ++ (s, u) :: B).map skv ∧ (es.modify A.length (fun e => { e with key := .string s, val := u })).map (·.born) = es.map (·.born) := by
  induction A generalizing es with
  | nil =>
    cases es with
    | nil => cases h
    | cons e es => simp only [List.nil_append, List.map_cons, List.cons.injEq] at h; exact ⟨by simp [ekv, skv, h.2], by simp⟩
  | cons p A ih =>
    cases es with
    | nil => cases h
    | cons e es =>
      simp only [List.cons_append, List.map_cons, List.cons.injEq] at h
      obtain ⟨i1, i2⟩ := ih h.2
      exact ⟨by simp only [List.length_cons, List.modify_succ_cons, List.map_cons, List.cons_append, i1, h.1], by simp only [List.length_cons, List.modify_succ_cons, List.map_cons, i2]⟩
theorem mem_modify_born {es : List MapEntry} {n : Nat} {f : MapEntry → MapEntry} {c : Nat} (hf : (es.modify n f).map (·.born) = es.map (·.born)) (h : ∀ x ∈ es, x.born < c) : ∀ x ∈ es.modify n f, x.born < c := fun x hx => by
  have : x.born ∈ es.map (·.born) := hf ▸ List.mem_map_of_mem hx
  obtain ⟨y, hy, e⟩ := List.mem_map.1 this
  exact e ▸ h y hy
/-- 'm[s] = u', s new. -/
theorem IsMap.add {w : World} {b : Nat} {L : Pairs} (h : IsMap w b L) (ht : P.underlying t = some (.map k e)) (hk : P.underlying k = some .string) (s : ByteArray) (u : Value) (hf : fnd s L 0 = none) :
    ∃ w', (Instr.mapUpdate t (.map (some b)) (.string s) u).run P w = .ok () w' ∧ IsMap w' b (L ++ [(s, u)]) ∧ But b w w' := by
  obtain ⟨es, clock, hb, he, hc, hn⟩ := h
  refine ⟨setBlock w b (.map (es.push ⟨.string s, u, clock⟩) (clock + 1)), ?_, ⟨_, _, ChangeMaps.heap_setBlock_same hb _, ?_, ?_, ?_⟩, but_set _⟩
  · simp [Instr.mapUpdate, run_underlying ht, MapKept.run_getObj_map hb, check_key hk, find_key hk he, hf, MapKept.run_setObj_map _ hb, Result.andThen, setBlock]
  · simp [he, ekv, skv]
  · intro x hx
    simp only [Array.toList_push, List.mem_append, List.mem_singleton] at hx
    rcases hx with hx | rfl
    · exact Nat.lt_succ_of_lt (hc x hx)
    · exact Nat.lt_succ_self _
  · simp only [Array.toList_push, List.map_append, List.map_cons, List.map_nil]
    refine List.nodup_append.2 ⟨hn, by simp, ?_⟩
    intro a ha c hc' e'
    obtain ⟨y, hy, rfl⟩ := List.mem_map.1 ha
    have := hc y hy
    simp at hc'
    omega
/-- 'm[s] = u', s known. -/
theorem IsMap.put {w : World} {b : Nat} {L A B : Pairs} {v : Value} (h : IsMap w b L) (ht : P.underlying t = some (.map k e)) (hk : P.underlying k = some .string) (s : ByteArray) (u : Value) (hL : L = A ++ (s, v) :: B) (hA : fnd s L 0 = some (A.length, v)) :
    ∃ w', (Instr.mapUpdate t (.map (some b)) (.string s) u).run P w = .ok () w' ∧ IsMap w' b (A ++ (s, u) :: B) ∧ But b w w' := by
  obtain ⟨es, clock, hb, he, hc, hn⟩ := h
  have hq := put_list (u := u) (hL ▸ he)
  have hx : (es[A.length]?.map (·.key)).getD (.string s) = .string s := by
    have h0 : (es.toList.map ekv)[A.length]? = ((L.map skv))[A.length]? := by rw [he]
    rw [hL] at h0
    simp only [List.getElem?_map, Array.getElem?_toList] at h0
    cases hx : es[A.length]? with
    | none => rfl
    | some x =>
      rw [hx] at h0
      simp [skv, ekv] at h0
      simp [h0.1]
  refine ⟨setBlock w b (.map (es.modify A.length (fun e => { e with key := .string s, val := u })) clock), ?_, ⟨_, _, ChangeMaps.heap_setBlock_same hb _, ?_, ?_, ?_⟩, but_set _⟩
  · have hx' := hx
    simp only [Instr.mapUpdate, run_underlying ht, MapKept.run_getObj_map hb, check_key hk, find_key hk he, hA, MapKept.run_setObj_map _ hb, Result.andThen, setBlock, Sem.run_bind, hx, key_stays]
  · rw [Array.toList_modify]; exact hq.1
  · rw [Array.toList_modify]; exact mem_modify_born hq.2 hc
  · rw [Array.toList_modify, hq.2]; exact hn
/-- An iterator in block r over the map in block b, of which 'left' is to come. -/
def IsIter (w : World) (r b : Nat) (L left : Pairs) : Prop :=
  ∃ es clock since seen c0, w.heap[r]? = some (.mapIter (some b) since seen c0) ∧ w.heap[b]? = some (.map es clock) ∧ es.toList.map ekv = L.map skv ∧ (es.toList.map (·.born)).Nodup ∧ (∀ x ∈ es.toList, x.born < since) ∧ since ≤ c0 ∧ since ≤ clock ∧ (leftOf es seen).toList.map ekv = left.map skv ∧ (∀ x ∈ es.toList, x.born < clock)
theorem IsIter.map {w : World} {r b : Nat} {L left : Pairs} (h : IsIter w r b L left) : IsMap w b L := by
  obtain ⟨es, clock, since, seen, c0, hr, hb, he, hn, _, _, _, _, hc⟩ := h
  exact ⟨es, clock, hb, he, hc, hn⟩
theorem IsIter.same {w w' : World} {r b : Nat} {L left : Pairs} (h : IsIter w r b L left) (h1 : w'.heap[r]? = w.heap[r]?) (h2 : w'.heap[b]? = w.heap[b]?) : IsIter w' r b L left := by
  obtain ⟨es, clock, since, seen, c0, hr, hb, h⟩ := h
  exact ⟨es, clock, since, seen, c0, h1.trans hr, h2.trans hb, h⟩
theorem IsIter.ltr {w : World} {r b : Nat} {L left : Pairs} (h : IsIter w r b L left) : r < w.heap.size := by
  obtain ⟨es, clock, since, seen, c0, hr, hb, h⟩ := h
  exact block_lt hr
theorem IsIter.ltb {w : World} {r b : Nat} {L left : Pairs} (h : IsIter w r b L left) : b < w.heap.size := h.map.lt
theorem IsIter.after {w w' : World} {r b : Nat} {L left : Pairs} (h : IsIter w r b L left) (hb : Below w.heap.size w w') : IsIter w' r b L left := h.same (hb.block r h.ltr) (hb.block b h.ltb)
theorem IsIter.ne {w : World} {r b : Nat} {L left : Pairs} (h : IsIter w r b L left) : r ≠ b := by
  obtain ⟨es, clock, since, seen, c0, hr, hb, h⟩ := h
  rintro rfl
  rw [hr] at hb
  cases hb
/-- 'range m'. -/
theorem IsMap.range {w : World} {b : Nat} {L : Pairs} (h : IsMap w b L) (ht : P.underlying t = some (.map k e)) :
    ∃ w', (Instr.range t (.map (some b))).run P w = .ok (.pointer (some ⟨w.heap.size, 0, none⟩)) w' ∧ IsIter w' w.heap.size b L L ∧ Below w.heap.size w w' := by
  obtain ⟨es, clock, hb, he, hc, hn⟩ := h
  refine ⟨_, run_range_map w t k e b es clock ht hb, ⟨es, clock, clock, #[], clock, new_block _ _, old_block hb _, he, hn, hc, Nat.le_refl _, Nat.le_refl _, ?_, hc⟩, (Below.refl _ _).alloc (Nat.le_refl _) _⟩
  rw [show leftOf es #[] = es from by simp [leftOf]]
  exact he
theorem left_split {es : Array MapEntry} {seen : Array Nat} {x : MapEntry} (hx : x ∈ (leftOf es seen).toList) (hn : (es.toList.map (·.born)).Nodup) {left : Pairs} (hl : (leftOf es seen).toList.map ekv = left.map skv) :
    ∃ A B s v, left = A ++ (s, v) :: B ∧ x.key = .string s ∧ x.val = v ∧ (leftOf es (seen.push x.born)).toList.map ekv = (A ++ B).map skv := by
  obtain ⟨X, Y, hxy⟩ := List.append_of_mem hx
  have hsub : ((leftOf es seen).toList.map (·.born)).Nodup := by
    unfold leftOf
    rw [Array.toList_filter]
    exact (List.Sublist.map _ List.filter_sublist).nodup hn
  have e1 : (leftOf es (seen.push x.born)).toList = (leftOf es seen).toList.filter (fun y => y.born != x.born) := by
    unfold leftOf
    rw [Array.toList_filter, Array.toList_filter, List.filter_filter]
    congr 1
    funext y
    simp only [Array.contains_push, Bool.not_or]
    rw [Bool.and_comm]
    rfl
  rw [hxy] at hsub hl e1
  simp only [List.map_append, List.map_cons] at hsub
  obtain ⟨n1, n2, n3⟩ := List.nodup_append.1 hsub
  have e2 : (X ++ x :: Y).filter (fun y => y.born != x.born) = X ++ Y := by
    rw [List.filter_append, List.filter_cons_of_neg (by simp)]
    rw [List.filter_eq_self.2, List.filter_eq_self.2]
    · intro y hy
      have : y.born ∈ Y.map (·.born) := List.mem_map_of_mem hy
      have := (List.nodup_cons.1 n2).1
      simp
      intro e'
      exact this (e' ▸ ‹y.born ∈ _›)
    · intro y hy
      simp
      exact n3 y.born (List.mem_map_of_mem hy) x.born (by simp)
  rw [List.map_append, List.map_cons] at hl
  obtain ⟨A, C, rfl, hA, hC⟩ := List.map_eq_append_iff.1 hl.symm
  obtain ⟨⟨s, v⟩, B, rfl, hp, hB⟩ := List.map_eq_cons_iff.1 hC
  refine ⟨A, B, s, v, rfl, (congrArg Prod.fst hp).symm, (congrArg Prod.snd hp).symm, ?_⟩
  rw [e1, e2, List.map_append, List.map_append, hA, hB]
/-- The step. -/
theorem IsIter.next {w : World} {r b : Nat} {L left : Pairs} (h : IsIter w r b L left) (ty : TypeId) :
    (left = [] ∧ (Instr.next (.pointer (some ⟨r, 0, none⟩)) false ty).run P w = .ok (.tuple #[.bool false]) w) ∨
    ∃ A B s v w', left = A ++ (s, v) :: B ∧ (Instr.next (.pointer (some ⟨r, 0, none⟩)) false ty).run P w = .ok (.tuple #[.bool true, .string s, v]) w' ∧ IsIter w' r b L (A ++ B) ∧ But r w w' ∧
      (Instr.entry (.pointer (some ⟨r, 0, none⟩))).run P w' = .ok (.tuple #[.string s, v]) w' := by
  have hne := h.ne
  obtain ⟨es, clock, since, seen, c0, hr, hb, he, hn, hs, hsc, hcc, hl, hc⟩ := h
  rcases run_next_at (P := P) w ty r b since c0 seen es clock hr hb hs hsc with ⟨h0, hrun⟩ | ⟨x, hx, w1, hw1, hrun⟩
  · left
    refine ⟨?_, hrun⟩
    have : (leftOf es seen).toList.map ekv = [] := by simp [Array.eq_empty_of_size_eq_zero h0]
    rw [hl] at this
    simpa using this
  · right
    obtain ⟨A, B, s, v, rfl, hk, hv, hl'⟩ := left_split hx hn hl
    have hr1 : w1.heap[r]? = some (.mapIter (some b) since seen c0) := by rcases hw1 with rfl | rfl <;> exact hr
    have hb1 : w1.heap[b]? = some (.map es clock) := by rcases hw1 with rfl | rfl <;> exact hb
    have hbut : But r w (setBlock w1 r (.mapIter (some b) since (seen.push x.born) clock)) := by
      rcases hw1 with rfl | rfl
      · exact but_set _
      · exact ⟨rfl, rfl, rfl, by simp [setBlock, heap_dr], fun i hi => by simp [setBlock, heap_dr, Ne.symm hi]⟩
    have hr2 : (setBlock w1 r (.mapIter (some b) since (seen.push x.born) clock)).heap[r]? = some (.mapIter (some b) since (seen.push x.born) clock) := by
      have := block_lt hr1
      simp [setBlock, this]
    have hb2 : (setBlock w1 r (.mapIter (some b) since (seen.push x.born) clock)).heap[b]? = some (.map es clock) := by
      simp [setBlock, hne, hb1]
    rw [hk, hv] at hrun
    have hen := run_entry_at (P := P) _ r b since seen es clock x hr2 hb2 (mem_left hx).1 hn
    rw [hk, hv] at hen
    exact ⟨A, B, s, v, _, rfl, hrun, ⟨es, clock, since, _, _, hr2, hb2, he, hn, hs, hcc, hcc, hl', hc⟩, hbut, hen⟩
/-- 'make(map)' as a literal begins. -/
theorem isMap_new (w : World) : IsMap (w.alloc (.map #[] 0)) w.heap.size [] := ⟨#[], 0, new_block _ _, rfl, by simp, by simp⟩
end Go.Proofs.YtejhcbbfdfnfdaaGreatDoor.Mp

/- Volumes of disjoint boxes. No program. -/
namespace Go.Proofs.YtejhcbbfdfnfdaaGreatDoor.Yp
/-- Sums over 0 .. n-1. -/
def sumTo : Nat → (Nat → Int) → Int
  | 0, _ => 0
  | n + 1, f => sumTo n f + f n

theorem sumTo_congr {f g : Nat → Int} : ∀ n, (∀ i, i < n → f i = g i) → sumTo n f = sumTo n g
  | 0, _ => rfl
  | n + 1, h => by
    rw [sumTo, sumTo, sumTo_congr n (fun i hi => h i (by omega)), h n (by omega)]

theorem sumTo_add (f g : Nat → Int) : ∀ n, sumTo n (fun i => f i + g i) = sumTo n f + sumTo n g
  | 0 => rfl
  | n + 1 => by simp only [sumTo]; rw [sumTo_add f g n]; omega

theorem sumTo_zero : ∀ n, sumTo n (fun _ => 0) = 0
  | 0 => rfl
  | n + 1 => by simp only [sumTo]; rw [sumTo_zero n]; rfl

theorem sumTo_mul (c : Int) (f : Nat → Int) : ∀ n, sumTo n (fun i => f i * c) = sumTo n f * c
  | 0 => by simp [sumTo]
  | n + 1 => by simp only [sumTo]; rw [sumTo_mul c f n, Int.add_mul]

theorem sumTo_le {f g : Nat → Int} : ∀ n, (∀ i, i < n → f i ≤ g i) → sumTo n f ≤ sumTo n g
  | 0, _ => by simp [sumTo]
  | n + 1, h => by
    have h1 := sumTo_le n (fun i hi => h i (by omega))
    have h2 := h n (by omega)
    simp only [sumTo]; omega

theorem sumTo_const (c : Int) : ∀ n : Nat, sumTo n (fun _ => c) = n * c
  | 0 => by simp [sumTo]
  | n + 1 => by
    simp only [sumTo]; rw [sumTo_const c n]
    rw [Int.natCast_add, Int.add_mul]; simp

/-- 1 inside the range, 0 outside. -/
def ind (lo hi : Int) (i : Nat) : Int := if lo ≤ i ∧ (i : Int) < hi then 1 else 0

theorem ind_01 (lo hi : Int) (i : Nat) : ind lo hi i = 0 ∨ ind lo hi i = 1 := by unfold ind; split <;> simp

theorem sumTo_ind (lo hi : Int) (h0 : 0 ≤ lo) (h1 : lo ≤ hi) : ∀ n : Nat, sumTo n (ind lo hi) = if (n : Int) ≤ lo then 0 else if (n : Int) ≤ hi then n - lo else hi - lo
  | 0 => by simp [sumTo, h0]
  | n + 1 => by
    simp only [sumTo]
    rw [sumTo_ind lo hi h0 h1 n]
    unfold ind
    by_cases a : (n : Int) < lo
    · rw [if_pos (by omega), if_neg (by omega), if_pos (by omega)]; rfl
    · by_cases b : (n : Int) < hi
      · by_cases c : (n : Int) ≤ lo
        · rw [if_pos c, if_pos (by omega), if_neg (by omega), if_pos (by omega)]; omega
        · rw [if_neg c, if_pos (by omega), if_pos (by omega), if_neg (by omega), if_pos (by omega)]; omega
      · by_cases c : (n : Int) ≤ lo
        · rw [if_pos c, if_neg (by omega), if_neg (by omega)]
          by_cases d : ((n + 1 : Nat) : Int) ≤ hi
          · rw [if_pos d]; omega
          · rw [if_neg d]; omega
        · rw [if_neg c, if_neg (by omega : ¬ (lo ≤ (n : Int) ∧ (n : Int) < hi)), if_neg (by omega : ¬ ((n + 1 : Nat) : Int) ≤ lo), if_neg (by omega : ¬ ((n + 1 : Nat) : Int) ≤ hi)]
          by_cases d : (n : Int) ≤ hi
          · rw [if_pos d]; omega
          · rw [if_neg d]; omega

structure Bx where
  x0 : Int
  y0 : Int
  z0 : Int
  x1 : Int
  y1 : Int
  z1 : Int

def Bx.vol (b : Bx) : Int := (b.x1 - b.x0) * (b.y1 - b.y0) * (b.z1 - b.z0)
def Bx.over (a b : Bx) : Prop := a.x0 < b.x1 ∧ b.x0 < a.x1 ∧ a.y0 < b.y1 ∧ b.y0 < a.y1 ∧ a.z0 < b.z1 ∧ b.z0 < a.z1
def Bx.ok (b : Bx) : Prop := -1000000 ≤ b.x0 ∧ b.x0 < b.x1 ∧ b.x1 ≤ 1000000 ∧ -1000000 ≤ b.y0 ∧ b.y0 < b.y1 ∧ b.y1 ≤ 1000000 ∧ -1000000 ≤ b.z0 ∧ b.z0 < b.z1 ∧ b.z1 ≤ 1000000

/-- Is the (shifted) point in the box? -/
def Bx.at (b : Bx) (i j k : Nat) : Int := ind (b.z0 + 1000000) (b.z1 + 1000000) k * (ind (b.y0 + 1000000) (b.y1 + 1000000) j * ind (b.x0 + 1000000) (b.x1 + 1000000) i)

theorem Bx.sum (b : Bx) (h : b.ok) : sumTo 2000000 (fun i => sumTo 2000000 fun j => sumTo 2000000 fun k => b.at i j k) = b.vol := by
  obtain ⟨a0, a1, a2, b0, b1, b2, c0, c1, c2⟩ := h
  have hz := sumTo_ind (b.z0 + 1000000) (b.z1 + 1000000) (by omega) (by omega) 2000000
  have hy := sumTo_ind (b.y0 + 1000000) (b.y1 + 1000000) (by omega) (by omega) 2000000
  have hx := sumTo_ind (b.x0 + 1000000) (b.x1 + 1000000) (by omega) (by omega) 2000000
  have e : ∀ lo hi : Int, -1000000 ≤ lo → lo < hi → hi ≤ 1000000 → (if ((2000000 : Nat) : Int) ≤ lo + 1000000 then (0 : Int) else if ((2000000 : Nat) : Int) ≤ hi + 1000000 then ((2000000 : Nat) : Int) - (lo + 1000000) else hi + 1000000 - (lo + 1000000)) = hi - lo := by
    intro lo hi h0 h1 h2
    rw [if_neg (by omega)]
    split <;> omega
  rw [e _ _ c0 c1 c2] at hz
  rw [e _ _ b0 b1 b2] at hy
  rw [e _ _ a0 a1 a2] at hx
  generalize 2000000 = N at *
  simp only [Bx.at]
  simp only [sumTo_mul, hz]
  have : ∀ i, sumTo N (fun j => (b.z1 - b.z0) * (ind (b.y0 + 1000000) (b.y1 + 1000000) j * ind (b.x0 + 1000000) (b.x1 + 1000000) i)) = ind (b.x0 + 1000000) (b.x1 + 1000000) i * ((b.y1 - b.y0) * (b.z1 - b.z0)) := by
    intro i
    rw [sumTo_congr N (g := fun j => ind (b.y0 + 1000000) (b.y1 + 1000000) j * ((b.z1 - b.z0) * ind (b.x0 + 1000000) (b.x1 + 1000000) i)) (fun j _ => by
      rw [← Int.mul_assoc, Int.mul_comm (b.z1 - b.z0), Int.mul_assoc])]
    rw [sumTo_mul, hy, Int.mul_comm (b.z1 - b.z0), ← Int.mul_assoc, Int.mul_comm (b.y1 - b.y0), Int.mul_assoc]
  simp only [this]
  rw [sumTo_mul, hx, Bx.vol, Int.mul_assoc]

theorem ind_one {lo hi : Int} {i : Nat} (h : ind lo hi i = 1) : lo ≤ i ∧ (i : Int) < hi := by
  unfold ind at h
  split at h
  · assumption
  · exact absurd h (by decide)

theorem Bx.at_01 (b : Bx) (i j k : Nat) : b.at i j k = 0 ∨ (b.at i j k = 1 ∧ b.x0 + 1000000 ≤ i ∧ (i : Int) < b.x1 + 1000000 ∧ b.y0 + 1000000 ≤ j ∧ (j : Int) < b.y1 + 1000000 ∧ b.z0 + 1000000 ≤ k ∧ (k : Int) < b.z1 + 1000000) := by
  unfold Bx.at
  rcases ind_01 (b.z0 + 1000000) (b.z1 + 1000000) k with hz | hz
  · rw [hz]; simp
  · rcases ind_01 (b.y0 + 1000000) (b.y1 + 1000000) j with hy | hy
    · rw [hy]; simp
    · rcases ind_01 (b.x0 + 1000000) (b.x1 + 1000000) i with hx | hx
      · rw [hx]; simp
      · have h1 := ind_one hz
        have h2 := ind_one hy
        have h3 := ind_one hx
        refine .inr ⟨by rw [hz, hy, hx]; rfl, ?_⟩
        omega

def sumL (l : List Int) : Int := l.foldr (· + ·) 0
theorem sumL_cons (x : Int) (l : List Int) : sumL (x :: l) = x + sumL l := rfl

theorem at_le (i j k : Nat) : ∀ l : List Bx, l.Pairwise (fun a b => ¬ a.over b) → sumL (l.map fun b => b.at i j k) ≤ 1 ∧ (sumL (l.map fun b => b.at i j k) ≠ 0 → ∃ b ∈ l, b.at i j k = 1)
  | [], _ => ⟨by simp [sumL], fun h => absurd rfl h⟩
  | b :: l, h => by
    obtain ⟨h1, h2⟩ := List.pairwise_cons.1 h
    obtain ⟨i1, i2⟩ := at_le i j k l h2
    rw [List.map_cons, sumL_cons]
    rcases b.at_01 i j k with hb | ⟨hb, hp⟩
    · rw [hb, Int.zero_add]
      exact ⟨i1, fun hne => let ⟨c, hc, e⟩ := i2 hne; ⟨c, List.mem_cons_of_mem _ hc, e⟩⟩
    · have : sumL (l.map fun b => b.at i j k) = 0 := by
        apply Decidable.byContradiction
        intro hne
        obtain ⟨c, hc, e⟩ := i2 hne
        rcases c.at_01 i j k with h0 | ⟨_, hq⟩
        · rw [h0] at e; exact absurd e (by decide)
        · exact h1 c hc ⟨by omega, by omega, by omega, by omega, by omega, by omega⟩
      rw [this, hb]
      exact ⟨by decide, fun _ => ⟨b, List.mem_cons_self, hb⟩⟩

theorem sum_swap (N : Nat) (f : Bx → Nat → Int) : ∀ l : List Bx, sumL (l.map fun b => sumTo N (f b)) = sumTo N fun i => sumL (l.map fun b => f b i)
  | [] => (sumTo_zero N).symm
  | b :: l => by
    rw [List.map_cons, sumL_cons, sum_swap N f l, ← sumTo_add]
    exact sumTo_congr N fun i _ => by rw [List.map_cons, sumL_cons]

theorem vol_nonneg (b : Bx) (h : b.ok) : 0 ≤ b.vol := by
  obtain ⟨a0, a1, a2, b0, b1, b2, c0, c1, c2⟩ := h
  exact Int.mul_nonneg (Int.mul_nonneg (by omega) (by omega)) (by omega)

/-- Disjoint boxes in range have together at most the volume of the range. -/
theorem vols_le (l : List Bx) (hd : l.Pairwise fun a b => ¬ a.over b) (ho : ∀ b ∈ l, b.ok) : sumL (l.map Bx.vol) ≤ 8000000000000000000 := by
  have e : l.map Bx.vol = l.map fun b => sumTo 2000000 (fun i => sumTo 2000000 fun j => sumTo 2000000 fun k => b.at i j k) :=
    List.map_congr_left fun b hb => (b.sum (ho b hb)).symm
  rw [e]
  have hN : ((2000000 : Nat) : Int) * (((2000000 : Nat) : Int) * (((2000000 : Nat) : Int) * 1)) = 8000000000000000000 := by decide
  rw [← hN]
  generalize 2000000 = N
  rw [sum_swap]
  simp only [sum_swap]
  refine Int.le_trans (sumTo_le N fun i _ => ?_) (Int.le_of_eq (sumTo_const _ N))
  refine Int.le_trans (sumTo_le N fun j _ => ?_) (Int.le_of_eq (sumTo_const _ N))
  refine Int.le_trans (sumTo_le N fun k _ => ?_) (Int.le_of_eq (sumTo_const _ N))
  exact (at_le i j k l hd).1
#print axioms vols_le
end Go.Proofs.YtejhcbbfdfnfdaaGreatDoor.Yp
