/- Small lemmas that the walks share. -/
import Derived.Test.YtejhcbbfdfnfdaaGreatDoorR1
import Derived.WalkKit
import Derived.Outline
import Derived.WalkLawsBesides
import Derived.WalkSpells
import Derived.KernelRfl
import Derived.Lib.Hide
import Derived.Test.YtejhcbbfdfnfdaaGreatDoorProg
import Derived.Laws.CopyOwn
/- lexer's run at a name's bytes, and Name: what they return. -/
namespace Go.Proofs.YtejhcbbfdfnfdaaGreatDoor.Lex
open Go.RowKit
theorem ret_int {k : IntKind} {a b : Int} (h : a = b) : Ending.returned (.int k a) = .returned (.int k b) := by rw [h]
theorem ret_bool {a b : Bool} (h : a = b) : Ending.returned (.bool a) = .returned (.bool b) := by rw [h]
/-- How many bytes at the head are bytes of a name. -/
def lead : List UInt8 → Nat
  | [] => 0
  | c :: l => if inName c.toNat = true then lead l + 1 else 0
theorem lead_le : ∀ l, lead l ≤ l.length
  | [] => Nat.le_refl _
  | c :: l => by unfold lead; split <;> simp [lead_le l]
theorem lead_eq : ∀ (l : List UInt8) (k : Nat), k ≤ l.length → (∀ i (h : i < l.length), i < k → inName (l[i]).toNat = true) → (∀ h : k < l.length, inName (l[k]).toNat = false) → lead l = k
  | [], k, h, _, _ => by simp at h; subst h; rfl
  | c :: l, 0, _, _, h2 => by
    have := h2 (by simp)
    simp at this
    unfold lead
    rw [if_neg (by rw [this]; decide)]
  | c :: l, k + 1, h, h1, h2 => by
    have h0 := h1 0 (by simp) (by omega)
    simp at h0
    unfold lead
    rw [if_pos h0, lead_eq l k (by simpa using h) (fun i hi hk => h1 (i + 1) (by simpa using hi) (by omega)) (fun hk => h2 (by simpa using hk))]
set_option maxHeartbeats 400000 in
theorem run_any (s : ByteArray) (w : World) (hs : s.size ≤ 140737488351232) : Calls Tryz.prog 70 #[.string s, .func (.func 71) #[] #[]] w fun e w' => e = .returned (.int .i64 (lead s.data.toList)) ∧ Below w.heap.size w w' := by
  go_enter Tryz.func70, Tryz.ntmps70
  go_wp2_with fail
  go_loopw [5] (fun n wr => ∃ k : Nat, k ≤ s.size ∧ n = .int .i64 k ∧ (∀ i (h : i < s.size), i < k → inName (s[i]).toNat = true) ∧ Below w.heap.size w wr) (fun n _ => s.size - (intOf n).toNat)
  case atStart => exact ⟨0, by omega, rfl, fun i h hk => by omega, Below.refl _ _⟩
  case round =>
    obtain ⟨k, hk, rfl, hall, hb⟩ := hrel
    have HA := Lib.hid hall
    have HB := Lib.hid hb
    clear hall hb
    by_cases hlt : k < s.size
    · have hn := name1_any (s[k]).toNat (s[k]).toNat_lt
      cases hq : inName (s[k]).toNat with
      | true =>
        rw [hq] at hn
        have HQ := Lib.hid hq
        clear hq
        go_wp2_with fail
        refine (hn _).mono ?_; rintro e w1 ⟨rfl, hb1⟩
        have HB1 := Lib.hid hb1
        clear hb1
        go_wp2_with fail
        go_roundw
        case rel =>
          refine ⟨k + 1, by omega, by go_num, fun i h hi => ?_, HB.out.trans (HB1.out.mono HB.out.size)⟩
          rcases Nat.lt_or_ge i k with g | g
          · exact HA.out i h g
          · obtain rfl : i = k := by omega
            exact HQ.out
        case measure => simp [intOf]; omega
      | false =>
        rw [hq] at hn
        have HQ := Lib.hid hq
        clear hq
        go_wp2_with fail
        refine (hn _).mono ?_; rintro e w1 ⟨rfl, hb1⟩
        have HB1 := Lib.hid hb1
        clear hb1
        go_wp2_with fail
        go_ret
        refine ⟨ret_int ?_, HB.out.trans (HB1.out.mono HB.out.size)⟩
        rw [lead_eq s.data.toList k (by simpa using hk) (fun i hi hik => HA.out i (by simpa using hi) hik) (fun _ => HQ.out)]
    · go_wp2_with fail
      go_ret
      refine ⟨ret_int ?_, HB.out⟩
      rw [lead_eq s.data.toList k (by simpa using hk) (fun i hi hik => HA.out i (by simpa using hi) hik) (fun h => absurd (by simpa using h) hlt)]
/-- A name. -/
def nameB (s : ByteArray) : Bool := decide (0 < s.size) && decide (s.size ≤ 24) && (match s.data.toList with | [] => false | c :: _ => decide (97 ≤ c.toNat) && decide (c.toNat ≤ 122)) && decide (lead s.data.toList = s.size)
theorem head_of {s : ByteArray} (h : 0 < s.size) : ∃ l, s.data.toList = s[0] :: l := by
  cases e : s.data.toList with
  | nil => have : s.data.toList.length = 0 := by rw [e]; rfl
           rw [Array.length_toList] at this; exact absurd h (by show ¬ 0 < s.data.size; omega)
  | cons c l =>
    refine ⟨l, ?_⟩
    have : s.data.toList[0]? = some c := by rw [e]; rfl
    have g : s.data.toList[0]? = some s[0] := by rw [List.getElem?_eq_getElem (by simpa using h)]; rfl
    rw [this] at g
    injection g with g
    rw [g]
set_option maxHeartbeats 400000 in
theorem name_any (s : ByteArray) (w : World) (hs : s.size ≤ 140737488351232) : Calls Tryz.prog 38 #[.string s] w fun e w' => e = .returned (.bool (nameB s)) ∧ Below w.heap.size w w' := by
  have hrun := fun w => run_any s w hs
  by_cases h0 : 0 < s.size
  · obtain ⟨l, hl⟩ := head_of h0
    have hne : s.toList.isEmpty = false := by
      rw [show s.toList = s.data.toList from ByteArray.toList_eq s, hl]; rfl
    have he : ¬ s.toList = [] := by intro e; rw [e] at hne; exact absurd hne (by decide)
    have e0 : nameB s = (decide (s.size ≤ 24) && (decide (97 ≤ (s[0]).toNat) && decide ((s[0]).toNat ≤ 122)) && decide (lead s.data.toList = s.size)) := by
      unfold nameB
      rw [hl, decide_eq_true h0]; rfl
    rw [e0]
    have HL := Lib.hid hl
    clear hl e0
    by_cases h1 : s.size ≤ 24
    · have d1 : ¬ (24 : Int) < s.size := by omega
      by_cases h2 : 97 ≤ (s[0]).toNat
      · have d2 : ¬ ((s[0]).toNat : Int) < 97 := by omega
        by_cases h3 : (s[0]).toNat ≤ 122
        · have d3 : ¬ (122 : Int) < ((s[0]).toNat : Int) := by omega
          have b1 : decide (s.size ≤ 24) = true := by simpa using h1
          have b2 : decide (97 ≤ (s[0]).toNat) = true := by simpa using h2
          have b3 : decide ((s[0]).toNat ≤ 122) = true := by simpa using h3
          rw [b1, b2, b3]
          clear b1 b2 b3 h1 h2 h3
          go_enter Tryz.func38, Tryz.ntmps38
          go_wp2_with fail
          refine (hrun _).mono ?_; rintro e w1 ⟨rfl, hb⟩
          go_wp2_with fail
          go_ret
          refine ⟨ret_bool ?_, hb⟩
          simp only [Bool.and_self, Bool.true_and]
          rw [Bool.eq_iff_iff]; simp; omega
        · have d3 : (122 : Int) < ((s[0]).toNat : Int) := by omega
          have b3 : decide ((s[0]).toNat ≤ 122) = false := by simpa using h3
          rw [b3]; simp only [Bool.and_false, Bool.false_and]
          clear b3 h1 h2 h3 hne
          go_enter Tryz.func38, Tryz.ntmps38
          go_wp2_with fail
          go_ret
          exact ⟨rfl, Below.refl _ _⟩
      · have d2 : ((s[0]).toNat : Int) < 97 := by omega
        have b3 : decide (97 ≤ (s[0]).toNat) = false := by simpa using h2
        rw [b3]; simp only [Bool.and_false, Bool.false_and]
        clear b3 h1 h2 hne
        go_enter Tryz.func38, Tryz.ntmps38
        go_wp2_with fail
        go_ret
        exact ⟨rfl, Below.refl _ _⟩
    · have d1 : (24 : Int) < s.size := by omega
      have b3 : decide (s.size ≤ 24) = false := by simpa using h1
      rw [b3]; simp only [Bool.false_and]
      clear b3 h1 hne
      go_enter Tryz.func38, Tryz.ntmps38
      go_wp2_with fail
      go_ret
      exact ⟨rfl, Below.refl _ _⟩
  · have hz : s.size = 0 := by omega
    have e0 : nameB s = false := by unfold nameB; rw [decide_eq_false h0]; rfl
    rw [e0]
    have he : s.toList = [] := by
      rw [show s.toList = s.data.toList from ByteArray.toList_eq s]
      exact List.eq_nil_of_length_eq_zero (by simpa using hz)
    clear h0 hz e0
    go_enter Tryz.func38, Tryz.ntmps38
    go_wp2_with fail
    go_ret
    exact ⟨rfl, Below.refl _ _⟩
end Go.Proofs.YtejhcbbfdfnfdaaGreatDoor.Lex

/- Small lemmas that the walks share. -/
namespace Go.Proofs.YtejhcbbfdfnfdaaGreatDoor.Base
open Go.RowKit
theorem old_block {w : World} {i : Nat} {x : Obj} (h : w.heap[i]? = some x) (o : Obj) : (w.alloc o).heap[i]? = some x := by
  have hi := (Array.getElem?_eq_some_iff.1 h).1
  show (w.heap.push o)[i]? = some x
  rw [Array.getElem?_push, if_neg (Nat.ne_of_lt hi)]
  exact h
theorem new_block (w : World) (o : Obj) : (w.alloc o).heap[w.heap.size]? = some o := by
  show (w.heap.push o)[w.heap.size]? = some o
  rw [Array.getElem?_push, if_pos rfl]
theorem block_lt {w : World} {i : Nat} {x : Obj} (h : w.heap[i]? = some x) : i < w.heap.size := (Array.getElem?_eq_some_iff.1 h).1
theorem drew_block {w : World} {i : Nat} {x : Obj} (h : w.heap[i]? = some x) : w.drew.heap[i]? = some x := h
theorem below_block {w w' : World} {i : Nat} {x : Obj} (h : w.heap[i]? = some x) (hb : Below w.heap.size w w') : w'.heap[i]? = some x := (hb.block i (block_lt h)).trans h
theorem bcell {W w1 : World} (hb : Below W.heap.size W w1) : (∀ b o, b < W.heap.size → w1.cell? ⟨b, o, none⟩ = W.cell? ⟨b, o, none⟩) ∧ (∀ b o, b < W.heap.size → w1.frozen? ⟨b, o, none⟩ = W.frozen? ⟨b, o, none⟩) :=
  ⟨fun b o h => hb.cell (p := ⟨b, o, none⟩) h, fun b o h => hb.frozen (p := ⟨b, o, none⟩) h⟩
theorem heap_al (w : World) (o : Obj) : (w.alloc o).heap = w.heap.push o := rfl
theorem heap_dr (w : World) : w.drew.heap = w.heap := rfl
/-- A row behind a call. -/
theorem row_after {w w' : World} (hb : Below w.heap.size w w') {i : Nat} {x : Obj} (h : w.heap[i]? = some x) : w'.heap[i]? = some x := below_block h hb
theorem row_cells {w : World} {g : Nat} {C : Array Value} {t : TypeId} (h : w.heap[g]? = some (.cells C t (0, 0))) : (∀ o : Nat, w.cell? ⟨g, o, none⟩ = C[o]?) ∧ ∀ o : Nat, w.frozen? ⟨g, o, none⟩ = false :=
  ⟨fun o => cell_of_row w g o C t _ h, fun o => frozen_of_row w g o C t h⟩
theorem ret_int {k : IntKind} {a b : Int} (h : a = b) : Ending.returned (.int k a) = .returned (.int k b) := by rw [h]
theorem ret_bool {a b : Bool} (h : a = b) : Ending.returned (.bool a) = .returned (.bool b) := by rw [h]
end Go.Proofs.YtejhcbbfdfnfdaaGreatDoor.Base
