/- What Encode computes. No program. -/
import Derived.Test.YtejhcbbfdfnfdaaGreatDoorR21
import Derived.Test.YtejhcbbfdfnfdaaGreatDoorR14
import Derived.Laws.AppendOwnNone
import Derived.Laws.OwnMore
import Derived.Test.YtejhcbbfdfnfdaaGreatDoorR5
import Derived.Lib.Join
import Derived.Lib.ItoaLen
import Derived.Lib.ItoaNum
/- The check of names in Encode; an append of a slice that reads. -/
namespace Go.Proofs.YtejhcbbfdfnfdaaGreatDoor.Yard
open Go.RowKit Go.Proofs.YtejhcbbfdfnfdaaGreatDoor.Base Go.Proofs.YtejhcbbfdfnfdaaGreatDoor.Mp Go.Proofs.YtejhcbbfdfnfdaaGreatDoor.Lex
theorem enc1_any (s : ByteArray) (hs : s.size ≤ 140737488351232) (w : World) : Calls Tryz.prog 37 #[.string s] w fun e w' => e = .returned (.bool (!nameB s)) ∧ Below w.heap.size w w' := by
  have hn := fun w => name_any s w hs
  go_enter Tryz.func37, Tryz.ntmps37
  go_wp2_with fail
  refine (hn _).mono ?_; rintro e w1 ⟨rfl, hb⟩
  go_wp2_with fail
  go_ret
  exact ⟨rfl, hb⟩
set_option maxHeartbeats 1000000 in
theorem indexE_any (X : Nat → Prop) (v : Value) (l : List ByteArray) (w : World) (hv : Rd w X v (strV l)) (hs : ∀ s ∈ l, s.size ≤ 140737488351232) (hl : l.length ≤ 1000000) :
    Calls Tryz.prog 69 #[v, .func (.func 37) #[] #[]] w fun e w' => e = .returned (.int .i64 (badAt l 0)) ∧ Below w.heap.size w w' := by
  obtain ⟨A, c, rfl, hc, hcell⟩ := hv
  have hlen : (strV l).length = l.length := by simp [strV]
  rw [hlen] at hc hcell ⊢
  have HC := Lib.hid hcell
  have HS := Lib.hid hs
  clear hcell hs hlen
  go_enter Tryz.func69, Tryz.ntmps69
  go_wp2_with fail
  go_loopw [8] (fun n wr => ∃ k : Nat, k ≤ l.length ∧ n = .int .i64 k ∧ (∀ j s, l[j]? = some s → j < k → nameB s = true) ∧ Below w.heap.size w wr) (fun n _ => l.length - (intOf n).toNat)
  case atStart => exact ⟨0, by omega, rfl, fun j s _ hk => by omega, Below.refl _ _⟩
  case round =>
    obtain ⟨k, hk, rfl, hall, hb⟩ := hrel
    have HA := Lib.hid hall
    have HB := Lib.hid hb
    clear hall hb
    by_cases hlt : k < l.length
    · obtain ⟨b, o, rfl, hbl, _, hx⟩ := HC.out (by omega)
      have hcell : ∀ W : World, Below w.heap.size w W → W.cell? ⟨b, o + k, none⟩ = some (.string l[k]) := fun W hW => (hW.cell (p := ⟨b, o + k, none⟩) hbl).trans (hx k _ (by simp [strV, List.getElem?_eq_getElem hlt]))
      have hc0 := hcell _ HB.out
      have hn := enc1_any l[k] (HS.out _ (List.getElem_mem hlt))
      clear hcell hx
      cases hq : nameB l[k] with
      | true =>
        rw [hq] at hn
        have HQ := Lib.hid hq
        clear hq
        go_wp2_with fail
        refine (hn _).mono ?_; rintro e w1 ⟨rfl, hb1⟩
        have HB1 := Lib.hid (HB.out.trans (hb1.mono HB.out.size))
        clear hb1 hn
        go_wp2_with fail
        go_roundw
        case rel =>
          refine ⟨k + 1, by omega, by go_num, fun j s hj hk' => ?_, HB1.out⟩
          rcases Nat.lt_or_ge j k with g | g
          · exact HA.out j s hj g
          · obtain rfl : j = k := by omega
            rw [List.getElem?_eq_getElem hlt] at hj
            injection hj with hj
            rw [← hj]; exact HQ.out
        case measure => simp [intOf]; omega
      | false =>
        rw [hq] at hn
        have HQ := Lib.hid hq
        clear hq
        go_wp2_with fail
        refine (hn _).mono ?_; rintro e w1 ⟨rfl, hb1⟩
        have HB1 := Lib.hid (HB.out.trans (hb1.mono HB.out.size))
        clear hb1 hn
        go_wp2_with fail
        go_ret
        refine ⟨Base.ret_int ?_, HB1.out⟩
        rw [badAt_step l k 0 HA.out, List.drop_eq_getElem_cons hlt, badAt, if_neg (by rw [HQ.out]; decide)]
        omega
    · go_wp2_with fail
      go_ret
      refine ⟨Base.ret_int ?_, HB.out⟩
      rw [badAt_step l k 0 HA.out, List.drop_eq_nil_of_le (by omega)]
      rfl
theorem containsE_any (X : Nat → Prop) (v : Value) (l : List ByteArray) (w : World) (hv : Rd w X v (strV l)) (hs : ∀ s ∈ l, s.size ≤ 140737488351232) (hl : l.length ≤ 1000000) :
    Calls Tryz.prog 36 #[v, .func (.func 37) #[] #[]] w fun e w' => e = .returned (.bool (l.any fun s => !nameB s)) ∧ Below w.heap.size w w' := by
  have hi := indexE_any X v l w hv hs hl
  rw [← badAt_pos l 0]
  generalize badAt l 0 = n at hi
  clear hv hs hl
  go_enter Tryz.func36, Tryz.ntmps36
  go_wp2_with fail
  refine hi.mono ?_; rintro e w1 ⟨rfl, hb⟩
  have HB := Lib.hid hb
  clear hb hi
  go_wp2_with fail
  go_ret
  exact ⟨rfl, HB.out⟩
/-- 'append(v, src...)', v a row of the call's own, src a slice that reads. -/
theorem append_rd {P : Program} {w : World} (base : Nat) (t ty e : TypeId) (i : TypeInfo) (z : Value) (bytes : Nat) (ht : P.underlying t = some (.slice e)) (hi : P.info? e = some i) (hz : i.zero = some z) (hsize : i.size = 1) (hby : i.bytes = bytes) (hzs : z.cells.size = 1)
    {v : Value} {n : Nat} {xs : List Value} (hown : w.ownsRow base e 1 v n xs) {X : Nat → Prop} {src : Value} {ys : List Value} (hr : Rd w X src ys) (h1 : ∀ u ∈ ys, u.oneCell' = true) (h63 : n + ys.length ≤ maxLen) (hbytes : (n + ys.length) * bytes ≤ 140737488355328) (hbase : base ≤ w.heap.size) :
    ∃ v' w', (Builtin.append_ #[t, t] ty #[v, src]).run P w = .ok v' w' ∧ w'.ownsRow base e 1 v' (n + ys.length) (xs ++ ys) ∧ w.grownBy w' v.ownBlock ∧ (v'.ownBlock = v.ownBlock ∨ v'.ownBlock = some w.heap.size) := by
  obtain ⟨A, c, rfl, hc, hcell⟩ := id hr
  rcases A with _ | ad
  · have hy : ys = [] := by
      cases ys with
      | nil => rfl
      | cons y l =>
        obtain ⟨b, o, e, _⟩ := hcell (by simp)
        cases e
    subst hy
    refine ⟨v, w, ?_, by simpa using hown, World.grownBy.refl w _, .inl rfl⟩
    rcases hown.2 with ⟨rfl, rfl⟩ | ⟨g, cap, cur, rfl, _, _, hnc, _⟩
    · simp [Builtin.append_, run_underlying ht, sizeOf, typeInfo, hi, Builtin.lenOf, Builtin.firstCells]
    · simp [Builtin.append_, run_underlying ht, sizeOf, typeInfo, hi, Builtin.lenOf, Builtin.firstCells, hnc, storeCells]
  · obtain ⟨_, hcs⟩ := rd_cells hr ad rfl
    obtain ⟨v', w', hrun, h2, h3, _, h5⟩ := run_append_own_at (P := P) (w := w) base t ty e i z 1 bytes ht hi hz hsize hby hzs (by decide) v n xs hown ad ys.length c ys (by simp) (fun j u hj => (hcs j u hj).2) h1 h63 hbytes hbase
    exact ⟨v', w', hrun, h2, h3, h5⟩
end Go.Proofs.YtejhcbbfdfnfdaaGreatDoor.Yard

/- What Encode computes. No program. -/
namespace Go.Proofs.YtejhcbbfdfnfdaaGreatDoor.Yp
open Go
def itoaB (n : Int) : ByteArray := ⟨(Lib.itoa n).toArray⟩
def partsOf (f : Fact) : List ByteArray := (f.kind :: f.names) ++ f.vals.map itoaB
def encS (f : Fact) : ByteArray := ⟨(Lib.join ((partsOf f).map (·.data.toList)) [32]).toArray⟩
def encE (f : Fact) : ByteArray × Int :=
  if 8 < f.names.length ∨ 8 < f.vals.length then (es, 7) else if ((f.kind :: f.names).any fun s => !isName s) = true then (es, 4) else (encS f, 0)
def I64 (n : Int) : Prop := -9223372036854775808 ≤ n ∧ n ≤ 9223372036854775807
theorem name_len {s : ByteArray} (h : isName s = true) : s.data.toList.length ≤ 24 := by
  unfold isName at h
  split at h
  · cases h
  · rename_i c l hl
    rw [hl]
    simp only [Bool.and_eq_true, decide_eq_true_eq] at h
    simp; omega
theorem lens_le {xs : List (List UInt8)} {B : Nat} (h : ∀ x ∈ xs, x.length ≤ B) : Lib.lens xs ≤ B * xs.length := by
  induction xs with
  | nil => simp [Lib.lens]
  | cons x xs ih =>
    have h1 := h x List.mem_cons_self
    have h2 := ih fun y hy => h y (List.mem_cons_of_mem _ hy)
    simp only [Lib.lens, List.map_cons, List.sum_cons, List.length_cons] at h2 ⊢
    rw [Nat.mul_succ]
    omega
theorem join_len {xs : List (List UInt8)} {B : Nat} (h : ∀ x ∈ xs, x.length ≤ B) (sep : List UInt8) : (Lib.join xs sep).length ≤ (B + sep.length) * xs.length := by
  cases xs with
  | nil => simp [Lib.join_nil]
  | cons x r =>
    rw [Lib.join_cons, List.length_append, Lib.joinTail_length]
    have h1 := h x List.mem_cons_self
    have h2 := lens_le fun y hy => h y (List.mem_cons_of_mem _ hy)
    rw [List.length_cons, Nat.mul_succ, Nat.add_mul]
    omega
theorem parts_len {f : Fact} (hn : f.names.length ≤ 8) (hv : f.vals.length ≤ 8) (hb : ((f.kind :: f.names).any fun s => !isName s) = false) (hi : ∀ n ∈ f.vals, I64 n) : (Lib.join ((partsOf f).map (·.data.toList)) [32]).length ≤ 425 ∧ (partsOf f).length ≤ 17 := by
  have hp : (partsOf f).length ≤ 17 := by simp [partsOf]; omega
  refine ⟨?_, hp⟩
  have h := join_len (xs := (partsOf f).map (·.data.toList)) (B := 24) (fun x hx => ?_) [32]
  · rw [List.length_map] at h
    have : (24 + [(32 : UInt8)].length) = 25 := rfl
    rw [this] at h
    omega
  · obtain ⟨s, hs, rfl⟩ := List.mem_map.1 hx
    unfold partsOf at hs
    rcases List.mem_append.1 hs with hs | hs
    · have : isName s = true := by
        have := List.any_eq_false.1 hb s hs
        simpa using this
      exact name_len this
    · obtain ⟨n, hn, rfl⟩ := List.mem_map.1 hs
      have := Lib.itoa_length_le n (hi n hn).1 (hi n hn).2
      show (Lib.itoa n).toArray.toList.length ≤ 24
      simp
      omega
end Go.Proofs.YtejhcbbfdfnfdaaGreatDoor.Yp
