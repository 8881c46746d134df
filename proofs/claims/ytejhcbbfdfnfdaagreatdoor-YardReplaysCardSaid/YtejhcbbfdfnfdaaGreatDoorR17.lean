/- slices.Contains at ints. -/
import Derived.Test.YtejhcbbfdfnfdaaGreatDoorR15
import Derived.Test.YtejhcbbfdfnfdaaGreatDoorR16
import Derived.Test.YtejhcbbfdfnfdaaGreatDoorR5
/- What a look-up in the kinds gives. -/
namespace Go.Proofs.YtejhcbbfdfnfdaaGreatDoor.Yard
open Go.RowKit Go.Proofs.YtejhcbbfdfnfdaaGreatDoor.Base Go.Proofs.YtejhcbbfdfnfdaaGreatDoor.Mp
open Yp (It Yd Fact Bx)
def stL : Nat → List Int
  | 0 => []
  | 1 | 2 => [1]
  | 3 | 4 => [3]
  | _ => [1, 3]
noncomputable def wrV : Nat → Value
  | 0 => .func (.func 52) #[] #[]
  | 1 => .func (.func 54) #[] #[]
  | 2 => .func (.func 56) #[] #[]
  | _ => Value.nilFunc
noncomputable def doV : Nat → Value
  | 0 => .func (.func 53) #[] #[]
  | 1 => .func (.func 55) #[] #[]
  | 2 => .func (.func 57) #[] #[]
  | 3 => .func (.func 59) #[] #[]
  | 4 => .func (.func 60) #[] #[]
  | _ => .func (.func 61) #[] #[]
set_option maxRecDepth 100000 in
theorem zero_kind (w : World) : (zeroValue 77).run Tryz.prog w = .ok (.agg #[.int .i64 0, .int .i64 0, .slice none 0 0, Value.nilFunc, Value.nilFunc]) w := by rfl
/-- What is known of the kind of a fact behind 'kinds()[kd]'. -/
structure KAt (kd : ByteArray) (k : Nat) (N : Nat) (W : World) (m : Nat) (sl : Value) : Prop where
  lt : m < W.heap.size
  look : ∀ W' c, W'.heap[m]? = W.heap[m]? → (Instr.lookup 78 (.map (some m)) (.string kd) c).run Tryz.prog W' = .ok (if c then .tuple #[.agg #[.int .i64 (Yp.nNames k), .int .i64 (Yp.nVals k), sl, wrV k, doV k], .bool true] else .agg #[.int .i64 (Yp.nNames k), .int .i64 (Yp.nVals k), sl, wrV k, doV k]) W'
  rd : Rd W (fun b => N ≤ b) sl (intV (stL k))
  nil0 : k = 0 → sl = .slice none 0 0
  pos : k ≠ 0 → ∃ g, sl = .slice (some ⟨g, 0, none⟩) (stL k).length (stL k).length
theorem kindNo_cases {kd : ByteArray} {k : Nat} (h : Yp.kindNo kd = some k) : (kd = Yp.kFree ∧ k = 0) ∨ (kd = Yp.kCut ∧ k = 1) ∨ (kd = Yp.kAssign ∧ k = 2) ∨ (kd = Yp.kRelease ∧ k = 3) ∨ (kd = Yp.kSet ∧ k = 4) ∨ (kd = Yp.kBreak ∧ k = 5) := by
  unfold Yp.kindNo at h
  (repeat' split at h) <;> simp_all
theorem kindNo_none {kd : ByteArray} (h : Yp.kindNo kd = none) : kd ≠ Yp.kFree ∧ kd ≠ Yp.kCut ∧ kd ≠ Yp.kAssign ∧ kd ≠ Yp.kRelease ∧ kd ≠ Yp.kSet ∧ kd ≠ Yp.kBreak := by
  unfold Yp.kindNo at h
  (repeat' split at h) <;> simp_all
theorem rd_ints {W : World} {g N : Nat} (hN : N ≤ g) (l : List Int) {C : Array Value} (h : W.heap[g]? = some (.cells C 3 (0, 0))) (hC : C = (intV l).toArray) : Rd W (fun b => N ≤ b) (.slice (some ⟨g, 0, none⟩) l.length l.length) (intV l) :=
  ⟨some ⟨g, 0, none⟩, l.length, by simp [intV], by simp [intV], fun _ => ⟨g, 0, rfl, block_lt h, hN, fun j u hu => by
    rw [(row_cells h).1 (0 + j), hC]; simpa using hu⟩⟩
theorem kinds_at {kd : ByteArray} {k N : Nat} {W : World} {m g1 g2 g3 g4 g5 : Nat} (h : KindsAt W m g1 g2 g3 g4 g5) (hN : N ≤ g1 ∧ N ≤ g2 ∧ N ≤ g3 ∧ N ≤ g4 ∧ N ≤ g5) (hk : Yp.kindNo kd = some k) : ∃ sl, KAt kd k N W m sl := by
  obtain ⟨hm, r1, r2, r3, r4, r5⟩ := h
  have hl := fun W' c (hW : W'.heap[m]? = W.heap[m]?) => (hm.same hW).look (P := Tryz.prog) Tryz.underlying78 Tryz.underlying9 (zero_kind W') kd c
  have hlt := hm.lt
  rcases kindNo_cases hk with ⟨rfl, rfl⟩ | ⟨rfl, rfl⟩ | ⟨rfl, rfl⟩ | ⟨rfl, rfl⟩ | ⟨rfl, rfl⟩ | ⟨rfl, rfl⟩
  · exact ⟨.slice none 0 0, ⟨hlt, hl, ⟨none, 0, rfl, Nat.le_refl _, fun h => by simp [stL, intV] at h⟩, fun _ => rfl, fun h => absurd rfl h⟩⟩
  · exact ⟨_, ⟨hlt, hl, rd_ints hN.1 (stL 1) r1 rfl, fun h => (by cases h), fun _ => ⟨g1, rfl⟩⟩⟩
  · exact ⟨_, ⟨hlt, hl, rd_ints hN.2.1 (stL 2) r2 rfl, fun h => (by cases h), fun _ => ⟨g2, rfl⟩⟩⟩
  · exact ⟨_, ⟨hlt, hl, rd_ints hN.2.2.1 (stL 3) r3 rfl, fun h => (by cases h), fun _ => ⟨g3, rfl⟩⟩⟩
  · exact ⟨_, ⟨hlt, hl, rd_ints hN.2.2.2.1 (stL 4) r4 rfl, fun h => (by cases h), fun _ => ⟨g4, rfl⟩⟩⟩
  · exact ⟨_, ⟨hlt, hl, rd_ints hN.2.2.2.2 (stL 5) r5 rfl, fun h => (by cases h), fun _ => ⟨g5, rfl⟩⟩⟩
theorem kinds_out {kd : ByteArray} {W : World} {m g1 g2 g3 g4 g5 : Nat} (h : KindsAt W m g1 g2 g3 g4 g5) (hk : Yp.kindNo kd = none) (c : Bool) :
    (Instr.lookup 78 (.map (some m)) (.string kd) c).run Tryz.prog W = .ok (if c then .tuple #[.agg #[.int .i64 0, .int .i64 0, .slice none 0 0, Value.nilFunc, Value.nilFunc], .bool false] else .agg #[.int .i64 0, .int .i64 0, .slice none 0 0, Value.nilFunc, Value.nilFunc]) W := by
  have hl := h.1.look (P := Tryz.prog) Tryz.underlying78 Tryz.underlying9 (zero_kind W) kd c
  obtain ⟨h1, h2, h3, h4, h5, h6⟩ := kindNo_none hk
  rw [hl, fnd_not]
  · rfl
  · intro p hp
    simp only [List.mem_cons, List.not_mem_nil, or_false] at hp
    rcases hp with rfl | rfl | rfl | rfl | rfl | rfl <;> exact fun e => by first | exact h1 e.symm | exact h2 e.symm | exact h3 e.symm | exact h4 e.symm | exact h5 e.symm | exact h6 e.symm
theorem KAt.below {kd : ByteArray} {k N : Nat} {W W' : World} {m : Nat} {sl : Value} (h : KAt kd k N W m sl) (hb : Below W.heap.size W W') : KAt kd k N W' m sl :=
  ⟨Nat.lt_of_lt_of_le h.lt hb.size, fun W2 c h2 => h.look W2 c (h2.trans (hb.block m h.lt)), h.rd.below hb, h.nil0, h.pos⟩
end Go.Proofs.YtejhcbbfdfnfdaaGreatDoor.Yard

/- slices.Contains at ints. -/
namespace Go.Proofs.YtejhcbbfdfnfdaaGreatDoor.Yard
open Go.RowKit Go.Proofs.YtejhcbbfdfnfdaaGreatDoor.Base Go.Proofs.YtejhcbbfdfnfdaaGreatDoor.Mp Go.Proofs.YtejhcbbfdfnfdaaGreatDoor.Lex
/-- The first place of n, or -1. -/
def intAt (n : Int) : List Int → Nat → Int
  | [], _ => -1
  | s :: l, i => if n = s then i else intAt n l (i + 1)
theorem intAt_pos (n : Int) (l : List Int) : ∀ i, decide (0 ≤ intAt n l i) = decide (n ∈ l) := by
  induction l with
  | nil => intro i; simp [intAt]
  | cons s l ih =>
    intro i
    unfold intAt
    by_cases h : n = s
    · rw [if_pos h]; simp [h]
    · rw [if_neg h, ih]; simp [h]
theorem intAt_step (n : Int) (l : List Int) : ∀ (k i : Nat), (∀ j s, l[j]? = some s → j < k → n ≠ s) → intAt n l i = intAt n (l.drop k) (i + k) := by
  induction l with
  | nil => intro k i _; simp [intAt]
  | cons s l ih =>
    intro k i h
    cases k with
    | zero => rfl
    | succ k =>
      have h0 := h 0 s (by simp) (by omega)
      rw [intAt, if_neg h0, ih k (i + 1) (fun j s hj hk => h (j + 1) s (by simpa using hj) (by omega))]
      rw [List.drop_succ_cons, show i + 1 + k = i + (k + 1) by omega]
set_option maxHeartbeats 1000000 in
theorem indexI_any (X : Nat → Prop) (v : Value) (l : List Int) (n : Int) (w : World) (hv : Rd w X v (intV l)) (hl : l.length ≤ 1000000) :
    Calls Tryz.prog 80 #[v, .int .i64 n] w fun e w' => e = .returned (.int .i64 (intAt n l 0)) ∧ Below w.heap.size w w' := by
  obtain ⟨A, c, rfl, hc, hcell⟩ := hv
  have hlen : (intV l).length = l.length := by simp [intV]
  rw [hlen] at hc hcell ⊢
  have HC := Lib.hid hcell
  clear hcell hlen
  go_enter Tryz.func80, Tryz.ntmps80
  go_wp2_with fail
  go_loopw [8] (fun q wr => ∃ k : Nat, k ≤ l.length ∧ q = .int .i64 k ∧ (∀ j s, l[j]? = some s → j < k → n ≠ s) ∧ Below w.heap.size w wr) (fun q _ => l.length - (intOf q).toNat)
  case atStart => exact ⟨0, by omega, rfl, fun j s _ hk => by omega, Below.refl _ _⟩
  case round =>
    obtain ⟨k, hk, rfl, hall, hb⟩ := hrel
    have HA := Lib.hid hall
    have HB := Lib.hid hb
    clear hall hb
    by_cases hlt : k < l.length
    · obtain ⟨b, o, rfl, hbl, _, hx⟩ := HC.out (by omega)
      have hc0 : wr.cell? ⟨b, o + k, none⟩ = some (.int .i64 l[k]) := (HB.out.cell (p := ⟨b, o + k, none⟩) hbl).trans (hx k _ (by simp [intV, List.getElem?_eq_getElem hlt]))
      have HL : Hid (l[k]? = some l[k]) := Lib.hid (List.getElem?_eq_getElem hlt)
      have HD : Hid (l.drop k = l[k] :: l.drop (k + 1)) := Lib.hid (List.drop_eq_getElem_cons hlt)
      clear hx
      generalize l[k] = q at *
      by_cases hq : n = q
      · subst hq
        go_wp2_with fail
        go_ret
        refine ⟨Base.ret_int ?_, HB.out⟩
        rw [intAt_step n l k 0 HA.out, HD.out, intAt, if_pos rfl]
        omega
      · have HQ := Lib.hid hq
        go_wp2_with fail
        go_roundw
        case rel =>
          refine ⟨k + 1, by omega, by go_num, fun j s hj hk' => ?_, HB.out⟩
          rcases Nat.lt_or_ge j k with g | g
          · exact HA.out j s hj g
          · obtain rfl : j = k := by omega
            rw [HL.out] at hj
            injection hj with hj
            rw [← hj]; exact HQ.out
        case measure => simp [intOf]; omega
    · go_wp2_with fail
      go_ret
      refine ⟨Base.ret_int ?_, HB.out⟩
      rw [intAt_step n l k 0 HA.out, List.drop_eq_nil_of_le (by omega)]
      rfl
theorem containsI_any (X : Nat → Prop) (v : Value) (l : List Int) (n : Int) (w : World) (hv : Rd w X v (intV l)) (hl : l.length ≤ 1000000) :
    Calls Tryz.prog 45 #[v, .int .i64 n] w fun e w' => e = .returned (.bool (decide (n ∈ l))) ∧ Below w.heap.size w w' := by
  have hi := indexI_any X v l n w hv hl
  rw [← intAt_pos n l 0]
  generalize intAt n l 0 = q at hi
  clear hv hl
  go_enter Tryz.func45, Tryz.ntmps45
  go_wp2_with fail
  refine hi.mono ?_; rintro e w1 ⟨rfl, hb⟩
  have HB := Lib.hid hb
  clear hb hi
  go_wp2_with fail
  go_ret
  exact ⟨rfl, HB.out⟩
end Go.Proofs.YtejhcbbfdfnfdaaGreatDoor.Yard
