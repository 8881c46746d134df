/- The reference's yard in memory; its Find and Stone. -/
import Derived.Test.YtejhcbbfdfnfdaaGreatDoorR37
import Derived.Test.YtejhcbbfdfnfdaaGreatDoorR27
import Derived.Test.YtejhcbbfdfnfdaaGreatDoorR28
import Derived.Test.YtejhcbbfdfnfdaaGreatDoorR30
import Derived.Deep.QuietTactic
import Derived.BigQuiet
import Derived.Test.YtejhcbbfdfnfdaaGreatDoorR31
import Derived.Test.YtejhcbbfdfnfdaaGreatDoorR21
/- Items in a row, for the laws. -/
namespace Go.Proofs.YtejhcbbfdfnfdaaGreatDoor.Yard
open Go.RowKit Go.Proofs.YtejhcbbfdfnfdaaGreatDoor.Base Go.Proofs.YtejhcbbfdfnfdaaGreatDoor.Mp
open Yp (It Yd Fact Bx)
/-- An item's cells. -/
def ItAt (W : World) (g j : Nat) (x : It) : Prop := W.cell? ⟨g, j * 10, none⟩ = some (.string x.id) ∧ W.cell? ⟨g, j * 10 + 1, none⟩ = some (.string x.par) ∧ W.cell? ⟨g, j * 10 + 2, none⟩ = some (.int .i64 x.bx.x0) ∧ W.cell? ⟨g, j * 10 + 3, none⟩ = some (.int .i64 x.bx.y0) ∧ W.cell? ⟨g, j * 10 + 4, none⟩ = some (.int .i64 x.bx.z0) ∧ W.cell? ⟨g, j * 10 + 5, none⟩ = some (.int .i64 x.bx.x1) ∧ W.cell? ⟨g, j * 10 + 6, none⟩ = some (.int .i64 x.bx.y1) ∧ W.cell? ⟨g, j * 10 + 7, none⟩ = some (.int .i64 x.bx.z1) ∧ W.cell? ⟨g, j * 10 + 8, none⟩ = some (.int .i64 x.st) ∧ W.cell? ⟨g, j * 10 + 9, none⟩ = some (.string x.stone)
theorem irow_slice {w : World} {base : Nat} {v : Value} {l : List It} (h : IRow w base v l) :
    ∃ A c, v = .slice A l.length c ∧ (0 < l.length → ∃ g, A = some ⟨g, 0, none⟩ ∧ g < w.heap.size ∧ ∀ W, Below w.heap.size w W → ∀ (j : Nat) (x : It), l[j]? = some x → ItAt W g j x) := by
  rcases Go.Joins.ownsRow_forms h with ⟨rfl, h0⟩ | ⟨g, c, rfl⟩
  · exact ⟨none, 0, by rw [h0], fun h => by omega⟩
  · refine ⟨_, c, rfl, fun _ => ⟨g, rfl, (irow_lt h g rfl).2, fun W hW j x hj => ?_⟩⟩
    have hg := (irow_lt h g rfl).2
    have hc : ∀ i u, i < 10 → (itL x)[i]? = some u → W.cell? ⟨g, j * 10 + i, none⟩ = some u := fun i u hi hu => by
      have := World.ownsRow.cells h (g := g) rfl (j * 10 + i) u (by rw [flat10 l j i hi, hj]; exact hu)
      rw [add_lit, Nat.zero_add] at this
      exact (hW.cell (p := ⟨g, _, none⟩) hg).trans this
    exact ⟨hc 0 _ (by decide) rfl, hc 1 _ (by decide) rfl, hc 2 _ (by decide) rfl, hc 3 _ (by decide) rfl, hc 4 _ (by decide) rfl, hc 5 _ (by decide) rfl, hc 6 _ (by decide) rfl, hc 7 _ (by decide) rfl, hc 8 _ (by decide) rfl, hc 9 _ (by decide) rfl⟩
theorem aw_sorted {l : List It} (h : l.Pairwise fun a b => lessI b a = false) {i j : Nat} {a b : It} (ha : l[i]? = some a) (hb : l[j]? = some b) (hij : i < j) : lessI b a = false := by
  obtain ⟨hi, rfl⟩ := List.getElem?_eq_some_iff.1 ha
  obtain ⟨hj, rfl⟩ := List.getElem?_eq_some_iff.1 hb
  exact List.pairwise_iff_getElem.1 h i j hi hj hij
theorem over_symm {a b : Bx} (h : a.over b) : b.over a := ⟨h.2.1, h.1, h.2.2.2.1, h.2.2.1, h.2.2.2.2.2, h.2.2.2.2.1⟩
theorem aw_disj {l m : List It} (hp : l.Perm m) (h : m.Pairwise fun a b => a.st ≠ 2 → b.st ≠ 2 → ¬ a.bx.over b.bx) {i j : Nat} {a b : It} (ha : l[i]? = some a) (hb : l[j]? = some b) (hij : i < j) : b.st ≠ 2 → a.st ≠ 2 → ¬ b.bx.over a.bx := by
  have hl : l.Pairwise fun a b => a.st ≠ 2 → b.st ≠ 2 → ¬ a.bx.over b.bx := (hp.pairwise_iff (fun h h1 h2 h3 => h h2 h1 (over_symm h3))).2 h
  obtain ⟨hi, rfl⟩ := List.getElem?_eq_some_iff.1 ha
  obtain ⟨hj, rfl⟩ := List.getElem?_eq_some_iff.1 hb
  exact fun h1 h2 h3 => List.pairwise_iff_getElem.1 hl i j hi hj hij h2 h1 (over_symm h3)
theorem less_total {a b : It} (h : lessI b a = false) (hne : a.id ≠ b.id) : Op.bytesLess a.id.toList b.id.toList = true := by
  have h1 : lessI a b = true := by
    rw [lessI_eq] at h ⊢
    have h := of_decide_eq_false h
    refine decide_eq_true (Classical.byContradiction fun h2 => ?_)
    have e : a.id.toList = b.id.toList := List.le_antisymm (List.not_lt.1 h) (List.not_lt.1 h2)
    have := tl_beq a.id b.id
    rw [e] at this
    simp at this
    exact hne this
  exact h1
theorem aw_uniq {l m : List It} (hp : l.Perm m) (h : m.Pairwise fun a b => a.id ≠ b.id) {i j : Nat} {a b : It} (ha : l[i]? = some a) (hb : l[j]? = some b) (hij : i < j) : a.id ≠ b.id := by
  have hl : l.Pairwise fun a b => a.id ≠ b.id := (hp.pairwise_iff (fun h e => h e.symm)).2 h
  obtain ⟨hi, rfl⟩ := List.getElem?_eq_some_iff.1 ha
  obtain ⟨hj, rfl⟩ := List.getElem?_eq_some_iff.1 hb
  exact List.pairwise_iff_getElem.1 hl i j hi hj hij
end Go.Proofs.YtejhcbbfdfnfdaaGreatDoor.Yard

/- The reference's yard in memory; its Find and Stone. -/
namespace Go.Proofs.YtejhcbbfdfnfdaaGreatDoor.Yard
open Go.RowKit Go.Proofs.YtejhcbbfdfnfdaaGreatDoor.Base Go.Proofs.YtejhcbbfdfnfdaaGreatDoor.Mp
open Yp (It Yd Fact Bx)
/-- v reads as the items s, in a block that is not R. -/
def IRd (W : World) (R : Nat) (v : Value) (s : List It) : Prop :=
  ∃ A c, v = .slice A s.length c ∧ s.length ≤ c ∧ c ≤ maxLen ∧ (s.length = 0 → A = none ∧ c = 0) ∧ (0 < s.length → ∃ g, A = some ⟨g, 0, none⟩ ∧ g < W.heap.size ∧ g ≠ R ∧ ∀ i u, (s.flatMap itL)[i]? = some u → W.cell? ⟨g, i, none⟩ = some u)
theorem IRd.after {W W' : World} {R : Nat} {v : Value} {s : List It} (h : IRd W R v s) (hs : W.heap.size ≤ W'.heap.size) (hb : ∀ b, b < W.heap.size → b ≠ R → W'.heap[b]? = W.heap[b]?) : IRd W' R v s := by
  obtain ⟨A, c, e, h1, h2, h3, h4⟩ := h
  refine ⟨A, c, e, h1, h2, h3, fun h0 => ?_⟩
  obtain ⟨g, rfl, hg, hR, hc⟩ := h4 h0
  exact ⟨g, rfl, by omega, hR, fun i u hi => (World.cell?_of_block (a := ⟨g, _, none⟩) (hb g hg hR)).trans (hc i u hi)⟩
theorem flat_at {W : World} {g : Nat} {s : List It} (hc : ∀ i u, (s.flatMap itL)[i]? = some u → W.cell? ⟨g, i, none⟩ = some u) {j : Nat} {x : It} (hj : s[j]? = some x) : ItAt W g j x := by
  have h : ∀ i u, i < 10 → (itL x)[i]? = some u → W.cell? ⟨g, j * 10 + i, none⟩ = some u := fun i u hi hu => hc _ _ (by rw [flat10 s j i hi, hj]; exact hu)
  exact ⟨h 0 _ (by decide) rfl, h 1 _ (by decide) rfl, h 2 _ (by decide) rfl, h 3 _ (by decide) rfl, h 4 _ (by decide) rfl, h 5 _ (by decide) rfl, h 6 _ (by decide) rfl, h 7 _ (by decide) rfl, h 8 _ (by decide) rfl, h 9 _ (by decide) rfl⟩
/-- The reference's yard at R. -/
def RAt (W : World) (R : Nat) (s : List It) (fs : List Fact) : Prop :=
  ∃ IV FV, W.heap[R]? = some (.cells #[IV, FV] 67 (0, 0)) ∧ IRd W R IV s ∧ FLs W (fun b => b ≠ R) FV fs ∧ (fs.length = 0 → FV = .slice none 0 0)
theorem RAt.lt {W : World} {R : Nat} {s : List It} {fs : List Fact} (h : RAt W R s fs) : R < W.heap.size := by
  obtain ⟨_, _, h, _⟩ := h
  exact block_lt h
theorem RAt.below {W W' : World} {R : Nat} {s : List It} {fs : List Fact} (h : RAt W R s fs) (hb : Below W.heap.size W W') : RAt W' R s fs := by
  obtain ⟨IV, FV, h1, h2, h3⟩ := h
  exact ⟨IV, FV, row_after hb h1, h2.after hb.size fun b hl _ => hb.block b hl, h3.1.below hb, h3.2⟩
/-- What a reader of the items needs. -/
theorem RAt.open {W : World} {R : Nat} {s : List It} {fs : List Fact} (h : RAt W R s fs) : ∃ A c, s.length ≤ c ∧ (∀ W', Below W.heap.size W W' → W'.cell? ⟨R, 0, none⟩ = some (.slice A s.length c)) ∧ (0 < s.length → ∃ g, A = some ⟨g, 0, none⟩ ∧ ∀ W', Below W.heap.size W W' → ∀ j x, s[j]? = some x → ItAt W' g j x) := by
  obtain ⟨IV, FV, h1, ⟨A, c, rfl, h2, _, _, h4⟩, h3⟩ := h
  refine ⟨A, c, h2, fun W' hb => (row_cells (row_after hb h1)).1 0, fun h0 => ?_⟩
  obtain ⟨g, rfl, hg, _, hc⟩ := h4 h0
  exact ⟨g, rfl, fun W' hb j x hj => flat_at (fun i u hi => (hb.cell (p := ⟨g, _, none⟩) hg).trans (hc i u hi)) hj⟩
/-- r is the first place of id in s, or -1. -/
def FI (p : It → ByteArray) (s : List It) (id : ByteArray) (r : Int) : Prop :=
  (∃ i : Nat, r = i ∧ i < s.length ∧ (∀ x : It, s[i]? = some x → p x = id) ∧ ∀ (j : Nat) (x : It), j < i → s[j]? = some x → p x ≠ id) ∨ (r = -1 ∧ ∀ (j : Nat) (x : It), s[j]? = some x → p x ≠ id)
theorem FI.here {p : It → ByteArray} {s : List It} {id : ByteArray} {r : Int} (h : FI p s id r) {k : Nat} {x : It} (hk : s[k]? = some x) (hx : p x = id) (hall : ∀ (j : Nat) (z : It), j < k → s[j]? = some z → p z ≠ id) : r = k := by
  rcases h with ⟨i, rfl, hi, h1, h2⟩ | ⟨_, h1⟩
  · rcases Nat.lt_trichotomy i k with g | g | g
    · exact absurd (h1 _ (List.getElem?_eq_getElem hi)) (hall i _ g (List.getElem?_eq_getElem hi))
    · rw [g]
    · exact absurd hx (h2 k x g hk)
  · exact absurd hx (h1 k x hk)
theorem FI.gone {p : It → ByteArray} {s : List It} {id : ByteArray} {r : Int} (h : FI p s id r) (hall : ∀ (j : Nat) (z : It), j < s.length → s[j]? = some z → p z ≠ id) : r = -1 := by
  rcases h with ⟨i, rfl, hi, h1, h2⟩ | ⟨e, h1⟩
  · exact absurd (h1 _ (List.getElem?_eq_getElem hi)) (hall i _ hi (List.getElem?_eq_getElem hi))
  · exact e
set_option maxRecDepth 100000 in
set_option maxHeartbeats 4000000 in
theorem rfind_any {W : World} {R : Nat} {s : List It} {fs : List Fact} (h : RAt W R s fs) (hl : s.length ≤ 100000) (id : ByteArray) {r : Int} (hr : FI (·.id) s id r) :
    Calls Tryz.prog 49 #[.pointer (some ⟨R, 0, none⟩), .string id] W fun e w' => e = .returned (.int .i64 r) ∧ Below W.heap.size W w' := by
  obtain ⟨A, c, _, hy, hx⟩ := h.open
  have HY := Lib.hid hy
  have HX := Lib.hid hx
  have HR := Lib.hid hr
  have y0 := hy W (Below.refl _ _)
  clear h hy hx hr
  go_enter Tryz.func49, Tryz.ntmps49
  go_wp2_with fail
  clear y0
  go_loopw [5] (fun n wr => ∃ k : Nat, k ≤ s.length ∧ n = .int .i64 k ∧ (∀ j z, j < k → s[j]? = some z → z.id ≠ id) ∧ Below W.heap.size W wr) (fun n _ => s.length - (intOf n).toNat)
  case atStart => exact ⟨0, by omega, rfl, fun j z h => by omega, Below.refl _ _⟩
  case round =>
    obtain ⟨k, hk, rfl, hall, hb⟩ := hrel
    have HA := Lib.hid hall
    have HB := Lib.hid hb
    have y0 := HY.out wr hb
    clear hall hb
    by_cases hlt : k < s.length
    · obtain ⟨g, rfl, hx⟩ := HX.out (by omega)
      have HL : Hid (s[k]? = some s[k]) := Lib.hid (List.getElem?_eq_getElem hlt)
      obtain ⟨x0, _⟩ := hx wr HB.out k _ HL.out
      clear hx
      generalize s[k] = x at *
      by_cases hq : x.id = id
      · have HE := Lib.hid (HR.out.here HL.out hq HA.out)
        have hqq : (x.id.toList == id.toList) = true := by rw [hq]; simp
        clear hq
        go_wp2_with fail
        go_ret
        rw [HE.out]
        exact ⟨rfl, HB.out⟩
      · have hqq : (x.id.toList == id.toList) = false := by rw [tl_beq]; exact decide_eq_false hq
        have HN : Hid (∀ j z, j < k + 1 → s[j]? = some z → z.id ≠ id) := Lib.hid (fun j z hj hz => by
          rcases Nat.lt_or_ge j k with g | g
          · exact HA.out j z g hz
          · obtain rfl : j = k := by omega
            obtain rfl : z = x := Option.some.inj (hz.symm.trans HL.out)
            exact hq)
        clear hq
        go_wp2_with fail
        exact ⟨⟨k + 1, hlt, by go_num, HN.out, HB.out⟩, by simp [intOf]; omega⟩
    · obtain rfl : k = s.length := by omega
      have HE := Lib.hid (HR.out.gone HA.out)
      go_wp2_with fail
      go_ret
      rw [HE.out]
      exact ⟨rfl, HB.out⟩
set_option maxRecDepth 100000 in
set_option maxHeartbeats 4000000 in
theorem rstone_any {W : World} {R : Nat} {s : List It} {fs : List Fact} (h : RAt W R s fs) (hl : s.length ≤ 100000) (id : ByteArray) (hne : id ≠ Yp.es) {r : Int} (hr : FI (·.stone) s id r) :
    Calls Tryz.prog 85 #[.pointer (some ⟨R, 0, none⟩), .string id] W fun e w' => e = .returned (.int .i64 r) ∧ Below W.heap.size W w' := by
  obtain ⟨A, c, _, hy, hx⟩ := h.open
  have HY := Lib.hid hy
  have HX := Lib.hid hx
  have HR := Lib.hid hr
  have y0 := hy W (Below.refl _ _)
  have hemp : id.toList.isEmpty = false := by
    have := fun e => hne ((tl_nil _).1 e)
    simpa using this
  clear h hy hx hr hne
  go_enter Tryz.func85, Tryz.ntmps85
  go_wp2_with fail
  clear y0
  go_loopw [5] (fun n wr => ∃ k : Nat, k ≤ s.length ∧ n = .int .i64 k ∧ (∀ j z, j < k → s[j]? = some z → z.stone ≠ id) ∧ Below W.heap.size W wr) (fun n _ => s.length - (intOf n).toNat)
  case atStart => exact ⟨0, by omega, rfl, fun j z h => by omega, Below.refl _ _⟩
  case round =>
    obtain ⟨k, hk, rfl, hall, hb⟩ := hrel
    have HA := Lib.hid hall
    have HB := Lib.hid hb
    have y0 := HY.out wr hb
    clear hall hb
    by_cases hlt : k < s.length
    · obtain ⟨g, rfl, hx⟩ := HX.out (by omega)
      have HL : Hid (s[k]? = some s[k]) := Lib.hid (List.getElem?_eq_getElem hlt)
      obtain ⟨x0, x1, x2, x3, x4, x5, x6, x7, x8, x9⟩ := hx wr HB.out k _ HL.out
      clear hx
      generalize s[k] = x at *
      by_cases hq : x.stone = id
      · have HE := Lib.hid (HR.out.here HL.out hq HA.out)
        have hqq : (x.stone.toList == id.toList) = true := by rw [hq]; simp
        clear hq
        go_wp2_with fail
        go_ret
        rw [HE.out]
        exact ⟨rfl, HB.out⟩
      · have hqq : (x.stone.toList == id.toList) = false := by rw [tl_beq]; exact decide_eq_false hq
        have HN : Hid (∀ j z, j < k + 1 → s[j]? = some z → z.stone ≠ id) := Lib.hid (fun j z hj hz => by
          rcases Nat.lt_or_ge j k with g | g
          · exact HA.out j z g hz
          · obtain rfl : j = k := by omega
            obtain rfl : z = x := Option.some.inj (hz.symm.trans HL.out)
            exact hq)
        clear hq
        go_wp2_with fail
        exact ⟨⟨k + 1, hlt, by go_num, HN.out, HB.out⟩, by simp [intOf]; omega⟩
    · obtain rfl : k = s.length := by omega
      have HE := Lib.hid (HR.out.gone HA.out)
      go_wp2_with fail
      go_ret
      rw [HE.out]
      exact ⟨rfl, HB.out⟩
end Go.Proofs.YtejhcbbfdfnfdaaGreatDoor.Yard
