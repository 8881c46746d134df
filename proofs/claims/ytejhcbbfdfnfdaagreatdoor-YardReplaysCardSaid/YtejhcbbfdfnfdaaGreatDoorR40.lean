/- The reference's rows: facts laid behind the others, an item changed. -/
import Derived.Test.YtejhcbbfdfnfdaaGreatDoorR38
import Derived.Test.YtejhcbbfdfnfdaaGreatDoorR19
import Derived.Deep.QuietTactic
import Derived.BigQuiet
/- Chains of appends into a new row; the reference's put. -/
namespace Go.Proofs.YtejhcbbfdfnfdaaGreatDoor.Yard
open Go.RowKit Go.Proofs.YtejhcbbfdfnfdaaGreatDoor.Base Go.Proofs.YtejhcbbfdfnfdaaGreatDoor.Mp
open Yp (It Yd Fact Bx)
/-- t is a slice type of elements e of z cells. -/
def EL (t e : TypeId) (z : Nat) : Prop := ∃ (i : TypeInfo) (zv : Value), Tryz.prog.underlying t = some (.slice e) ∧ Tryz.prog.info? e = some i ∧ i.zero = some zv ∧ i.size = z ∧ i.bytes ≤ 1000 ∧ zv.cells.size = z ∧ 0 < z
set_option maxRecDepth 100000 in
theorem elI : EL 65 68 10 := ⟨_, .agg #[.string ⟨#[]⟩, .string ⟨#[]⟩, .int .i64 0, .int .i64 0, .int .i64 0, .int .i64 0, .int .i64 0, .int .i64 0, .int .i64 0, .string ⟨#[]⟩], Tryz.underlying65, rfl, rfl, rfl, (by decide : 104 ≤ 1000), rfl, by decide⟩
set_option maxRecDepth 100000 in
theorem elF : EL 22 39 3 := ⟨_, .agg #[.string ⟨#[]⟩, .slice none 0 0, .slice none 0 0], Tryz.underlying22, rfl, rfl, rfl, (by decide : 64 ≤ 1000), rfl, by decide⟩
/-- u is a slice of m elements whose cells are news. -/
def Src (W : World) (u : Value) (m : Nat) (news : List Value) : Prop :=
  (u = .slice none 0 0 ∧ m = 0 ∧ news = []) ∨ ∃ a c, u = .slice (some a) m c ∧ ∀ j x, news[j]? = some x → W.cell? (a.add j) = some x
theorem own_append {t e ty : TypeId} {z base n m : Nat} {W : World} {v u : Value} {xs news : List Value} (he : EL t e z) (ho : W.ownsRow base e z v n xs) (hs : Src W u m news) (hl : news.length = m * z) (h1 : ∀ y ∈ news, y.oneCell' = true) (hm : n + m ≤ 100000) (hB : base ≤ W.heap.size) :
    ∃ v' w', (Builtin.append_ #[t, t] ty #[v, u]).run Tryz.prog W = .ok v' w' ∧ w'.ownsRow base e z v' (n + m) (xs ++ news) ∧ W.grownBy w' v.ownBlock ∧ (v'.ownBlock = v.ownBlock ∨ v'.ownBlock = some W.heap.size) := by
  obtain ⟨i, zv, h2, h3, h4, h5, h6, h7, h8⟩ := he
  rcases hs with ⟨rfl, rfl, rfl⟩ | ⟨a, c, rfl, hc⟩
  · exact ⟨v, W, run_append_owned_none W base t ty e i z h2 h3 v n xs ho, by simpa using ho, World.grownBy.refl W _, .inl rfl⟩
  · obtain ⟨v', w', hr, ho', hg, _, hat⟩ := run_append_own_at (P := Tryz.prog) (w := W) base t ty e i zv z i.bytes h2 h3 h4 h5 rfl h7 h8 v n xs ho a m c news hl hc h1 (by have : maxLen = 9223372036854775807 := rfl; omega) (by have := Nat.mul_le_mul hm h6; omega) hB
    exact ⟨v', w', hr, ho', hg, hat⟩
theorem own_below {e : TypeId} {z base n : Nat} {W W' : World} {v : Value} {xs : List Value} (ho : W.ownsRow base e z v n xs) (h : ∀ g, v.ownBlock = some g → W'.heap[g]? = W.heap[g]?) : W'.ownsRow base e z v n xs := by
  refine ⟨ho.1, ?_⟩
  rcases ho.2 with h0 | ⟨g, cap, cur, rfl, h1, h2, h3⟩
  · exact .inl h0
  · exact .inr ⟨g, cap, cur, rfl, h1, (h g rfl).trans h2, h3⟩
theorem own_blk {e : TypeId} {z base n : Nat} {W : World} {v : Value} {xs : List Value} (ho : W.ownsRow base e z v n xs) {g : Nat} (hg : v.ownBlock = some g) : base ≤ g ∧ g < W.heap.size := by
  rcases ho.2 with ⟨rfl, _⟩ | ⟨g', cap, cur, rfl, h1, h2, h3⟩
  · cases hg
  · obtain rfl : g' = g := Option.some.inj hg
    exact ⟨h1, block_lt h2⟩
theorem own_sliceR {e : TypeId} {z base n : Nat} {W : World} {v : Value} {xs : List Value} (ho : W.ownsRow base e z v n xs) : ∃ A c, v = .slice A n c := by
  rcases ho.2 with ⟨rfl, rfl⟩ | ⟨g', cap, cur, rfl, _⟩
  · exact ⟨none, 0, rfl⟩
  · exact ⟨_, _, rfl⟩
theorem nxw {b : Bool} {P Q : World} (h : b = false) : (if b = true then P else Q) = Q := by rw [h]; rfl
/-- What is known while a new row is made by appends. -/
structure CH (e : TypeId) (z : Nat) (w0 : World) (x1 x2 x3 : List Value) (l1 l2 l3 : Nat) (X : Array Value) (bE b1 bX b2 b3 : Bool) (gE : Nat) (v1 : Value) (gX : Nat) (v2 v3 : Value) (W : World) : Prop where
  be : Below w0.heap.size w0 W
  rE : bE = true → b1 = false → W.ownsRow w0.heap.size e z (.slice (some ⟨gE, 0, none⟩) 0 0) 0 []
  rX : bX = true → b2 = false → W.heap[gX]? = some (.cells X e (0, 0))
  sE : bE = true → b1 = false → bX = true → b2 = false → gX ≠ gE
  r1 : b1 = true → b2 = false → W.ownsRow w0.heap.size e z v1 l1 x1
  s1 : b1 = true → b2 = false → bX = true → v1.ownBlock ≠ some gX
  r2 : b2 = true → b3 = false → W.ownsRow w0.heap.size e z v2 l2 x2
  r3 : b3 = true → W.ownsRow w0.heap.size e z v3 l3 x3
section
variable {e t ty : TypeId} {z : Nat} {w0 W : World} {x1 x2 x3 : List Value} {l1 l2 l3 : Nat} {X : Array Value} {bE b1 bX b2 b3 : Bool} {gE : Nat} {v1 : Value} {gX : Nat} {v2 v3 : Value}
theorem nof {P : Prop} {b : Bool} (h : b = false) (g : b = true) : P := by rw [h] at g; cases g
theorem nt {P : Prop} (g : true = false) : P := by cases g
theorem CH.start : CH e z w0 x1 x2 x3 l1 l2 l3 X false false false false false gE v1 gX v2 v3 w0.drew :=
  ⟨(Below.refl _ _).drew, nof rfl, nof rfl, nof rfl, nof rfl, nof rfl, nof rfl, nof rfl⟩
theorem CH.aE (h : CH e z w0 x1 x2 x3 l1 l2 l3 X bE b1 bX b2 b3 gE v1 gX v2 v3 W) (h1 : b1 = false) (h2 : b2 = false) (h3 : b3 = false) : CH e z w0 x1 x2 x3 l1 l2 l3 X true b1 bX b2 b3 W.heap.size v1 gX v2 v3 (W.alloc (.cells #[] e)) :=
  have hB := al_below W (.cells #[] e)
  ⟨h.be.trans (hB.mono h.be.size), fun _ _ => World.ownsRow_lit W #[] 0 h.be.size (by decide) (by simp), fun a b => row_after hB (h.rX a b), fun _ _ a b => Nat.ne_of_lt (block_lt (h.rX a b)), nof h1, nof h1, nof h2, nof h3⟩
theorem CH.aX (h : CH e z w0 x1 x2 x3 l1 l2 l3 X bE b1 bX b2 b3 gE v1 gX v2 v3 W) (h2 : b2 = false) (h3 : b3 = false) : CH e z w0 x1 x2 x3 l1 l2 l3 X bE b1 true b2 b3 gE v1 W.heap.size v2 v3 (W.alloc (.cells X e)) :=
  have hB := al_below W (.cells X e)
  ⟨h.be.trans (hB.mono h.be.size), fun a b => own_below (h.rE a b) fun g hg => hB.block g (own_blk (h.rE a b) hg).2, fun _ _ => new_block W _, fun a b _ _ => Nat.ne_of_gt (own_blk (h.rE a b) rfl).2, fun a b => own_below (h.r1 a b) fun g hg => hB.block g (own_blk (h.r1 a b) hg).2, fun a b _ e => by have := (own_blk (h.r1 a b) e).2; omega, nof h2, nof h3⟩
theorem CH.ap1 {u : Value} (h : CH e z w0 x1 x2 x3 l1 l2 l3 X bE b1 bX b2 b3 gE v1 gX v2 v3 W) (he : EL t e z) (hE : bE = true) (h1 : b1 = false) (h2 : b2 = false) (h3 : b3 = false) (hs : Src W u l1 x1) (hlen : x1.length = l1 * z ∧ ∀ y ∈ x1, y.oneCell' = true) (hm : l1 ≤ 100000) :
    ∃ v' w', (Builtin.append_ #[t, t] ty #[.slice (some ⟨gE, 0, none⟩) 0 0, u]).run Tryz.prog W = .ok v' w' ∧ CH e z w0 x1 x2 x3 l1 l2 l3 X bE true bX b2 b3 gE v' gX v2 v3 w' := by
  have ho := h.rE hE h1
  obtain ⟨v', w', hr, ho', hg, hat⟩ := own_append (ty := ty) he ho hs hlen.1 hlen.2 (by omega) h.be.size
  rw [Nat.zero_add, List.nil_append] at ho'
  have hB : Below w0.heap.size W w' := below_grown hg (fun g e => (own_blk ho e).1) h.be.size
  refine ⟨v', w', hr, h.be.trans hB, fun _ => nt, fun a b => ?_, fun _ => nt, fun _ _ => ho', fun _ b a e => ?_, nof h2, nof h3⟩
  · have hx := h.rX a b
    exact (hg.block gX (block_lt hx) (fun e => h.sE hE h1 a b (Option.some.inj e))).trans hx
  · have hx := block_lt (h.rX a b)
    rcases hat with k | k
    · rw [k] at e
      exact h.sE hE h1 a b (Option.some.inj e).symm
    · rw [k] at e
      have := Option.some.inj e
      omega
theorem CH.ap2 (h : CH e z w0 x1 x2 x3 l1 l2 l3 X bE b1 bX b2 b3 gE v1 gX v2 v3 W) (he : EL t e z) (h1 : b1 = true) (hX : bX = true) (h2 : b2 = false) (h3 : b3 = false) (hone : ∀ y ∈ X.toList, y.oneCell' = true) (hz : X.toList.length = 1 * z ∧ l2 = l1 + 1 ∧ x2 = x1 ++ X.toList) (hm : l1 + 1 ≤ 100000) :
    ∃ v' w', (Builtin.append_ #[t, t] ty #[v1, .slice (some ⟨gX, 0, none⟩) 1 1]).run Tryz.prog W = .ok v' w' ∧ CH e z w0 x1 x2 x3 l1 l2 l3 X bE b1 bX true b3 gE v1 gX v' v3 w' := by
  obtain ⟨hz, rfl, rfl⟩ := hz
  have ho := h.r1 h1 h2
  have hx := h.rX hX h2
  obtain ⟨v', w', hr, ho', hg, hat⟩ := own_append (ty := ty) he ho (u := .slice (some ⟨gX, 0, none⟩) 1 1) (m := 1) (news := X.toList) (.inr ⟨_, _, rfl, fun j y hj => by
    rw [add_lit, Nat.zero_add]
    exact ((row_cells hx).1 j).trans (by simpa using hj)⟩) hz hone hm h.be.size
  have hB : Below w0.heap.size W w' := below_grown hg (fun g e => (own_blk ho e).1) h.be.size
  exact ⟨v', w', hr, h.be.trans hB, fun _ a => nof a h1, fun _ => nt, fun _ a => nof a h1, fun _ => nt, fun _ => nt, fun _ _ => ho', nof h3⟩
theorem CH.ap3 {u : Value} {m : Nat} {news : List Value} (h : CH e z w0 x1 x2 x3 l1 l2 l3 X bE b1 bX b2 b3 gE v1 gX v2 v3 W) (he : EL t e z) (h1 : b1 = true) (h2 : b2 = true) (h3 : b3 = false) (hs : Src W u m news) (hz : (news.length = m * z ∧ ∀ y ∈ news, y.oneCell' = true) ∧ l3 = l2 + m ∧ x3 = x2 ++ news) (hm : l2 + m ≤ 100000) :
    ∃ v' w', (Builtin.append_ #[t, t] ty #[v2, u]).run Tryz.prog W = .ok v' w' ∧ CH e z w0 x1 x2 x3 l1 l2 l3 X bE b1 bX b2 true gE v1 gX v2 v' w' := by
  obtain ⟨⟨hz1, hz2⟩, rfl, rfl⟩ := hz
  have ho := h.r2 h2 h3
  obtain ⟨v', w', hr, ho', hg, hat⟩ := own_append (ty := ty) he ho hs hz1 hz2 hm h.be.size
  have hB : Below w0.heap.size W w' := below_grown hg (fun g e => (own_blk ho e).1) h.be.size
  exact ⟨v', w', hr, h.be.trans hB, fun _ a => nof a h1, fun _ a => nof a h2, fun _ _ _ a => nof a h2, fun _ a => nof a h2, fun _ a => nof a h2, fun _ => nt, fun _ => ho'⟩
end
theorem one_itR (x : It) : ∀ v ∈ itL x, v.oneCell' = true := by
  intro u hu
  simp only [itL, itC, List.mem_cons, List.not_mem_nil, or_false] at hu
  rcases hu with rfl | rfl | rfl | rfl | rfl | rfl | rfl | rfl | rfl | rfl <;> rfl
theorem flat_lenR (l : List It) : (l.flatMap itL).length = l.length * 10 := by
  induction l with
  | nil => rfl
  | cons a l ih => rw [List.flatMap_cons, List.length_append, ih, List.length_cons]; show 10 + l.length * 10 = _; omega
theorem flat_one (l : List It) : ∀ y ∈ l.flatMap itL, y.oneCell' = true := fun y hy => by
  obtain ⟨x, _, h⟩ := List.mem_flatMap.1 hy
  exact one_itR x y h
theorem src_take {W : World} {g c k : Nat} {s : List It} (hc : ∀ i u, (s.flatMap itL)[i]? = some u → W.cell? ⟨g, i, none⟩ = some u) : Src W (.slice (some ⟨g, 0, none⟩) k c) k ((s.take k).flatMap itL) :=
  .inr ⟨_, _, rfl, fun j x hj => by
    rw [add_lit, Nat.zero_add]
    refine hc j x ?_
    rw [← List.take_append_drop k s, List.flatMap_append, List.getElem?_append_left (List.getElem?_eq_some_iff.1 hj).1]
    exact hj⟩
theorem src_all {W : World} {g c : Nat} {s : List It} (hc : ∀ i u, (s.flatMap itL)[i]? = some u → W.cell? ⟨g, i, none⟩ = some u) : Src W (.slice (some ⟨g, 0, none⟩) s.length c) s.length (s.flatMap itL) :=
  .inr ⟨_, _, rfl, fun j x hj => by
    rw [add_lit, Nat.zero_add]
    exact hc j x hj⟩
theorem src_drop {W : World} {g c k : Nat} {s : List It} (hc : ∀ i u, (s.flatMap itL)[i]? = some u → W.cell? ⟨g, i, none⟩ = some u) (hk : k ≤ s.length) : Src W (.slice (some ⟨g, k * 10, none⟩) (s.length - k) c) (s.length - k) ((s.drop k).flatMap itL) :=
  .inr ⟨_, _, rfl, fun j x hj => by
    rw [add_lit]
    refine hc _ x ?_
    have hlen : ((s.take k).flatMap itL).length = k * 10 := by rw [flat_lenR, List.length_take]; congr 1; omega
    rw [← List.take_append_drop k s, List.flatMap_append, List.getElem?_append_right (by rw [hlen]; omega), hlen, Nat.add_sub_cancel_left]
    exact hj⟩
/-- The list with x at its place. -/
def ins (x : It) (s : List It) : List It := s.takeWhile (fun y => lessI y x) ++ [x] ++ s.dropWhile (fun y => lessI y x)
theorem ins_at {x : It} {s : List It} {k : Nat} (hk : k ≤ s.length) (h1 : ∀ (j : Nat) (z : It), j < k → s[j]? = some z → lessI z x = true) (h2 : ∀ z, s[k]? = some z → lessI z x = false) : ins x s = s.take k ++ [x] ++ s.drop k := by
  have ht : s.takeWhile (fun y => lessI y x) = s.take k ∧ s.dropWhile (fun y => lessI y x) = s.drop k := by
    induction s generalizing k with
    | nil => simp
    | cons a s ih =>
      cases k with
      | zero =>
        have := h2 a rfl
        simp [this]
      | succ k =>
        have ha := h1 0 a (by omega) rfl
        obtain ⟨i1, i2⟩ := ih (by simpa using hk) (fun j z hj hz => h1 (j + 1) z (by omega) hz) (fun z hz => h2 z hz)
        simp [ha, i1, i2]
  unfold ins
  rw [ht.1, ht.2]
theorem rat_store {W wq Wc : World} {R : Nat} {s s' : List It} {fs : List Fact} {v : Value} {n : Nat} (h : RAt W R s fs) (hbe : Below wq.heap.size wq Wc) (hw : Below W.heap.size W wq) (ho : Wc.ownsRow wq.heap.size 68 10 v n (s'.flatMap itL)) (hn : s'.length = n) (h0 : 0 < n) : RAt (Wc.setCell ⟨R, 0, none⟩ v) R s' fs := by
  have hlt := h.lt
  have hz := hw.size
  obtain ⟨IV, FV, h1, h2, h3⟩ := h
  have hw2 := hw.trans (hbe.mono hz)
  have hrow := row_after hw2 h1
  have hst := stay_cell Wc R 0 v
  subst hn
  refine ⟨v, FV, heap_setCell_same _ _ _ _ _ _ hrow, ?_, ?_⟩
  · rcases ho.2 with ⟨_, h0'⟩ | ⟨g, cap, cur, rfl, hg1, hg2, hg3, hg4, hg5, hg6⟩
    · omega
    · have hgR : g ≠ R := by omega
      refine ⟨_, cap, rfl, hg3, hg4, fun e => by omega, fun _ => ⟨g, rfl, by have := block_lt hg2; simpa using this, hgR, fun i u hi => ?_⟩⟩
      have hgs : (Wc.setCell ⟨R, 0, none⟩ (.slice (some ⟨g, 0, none⟩) s'.length cap)).heap[g]? = some (.cells cur 68 (0, 0)) := (hst.block g (block_lt hg2) hgR).trans hg2
      rw [(row_cells hgs).1 i]
      have hj := hi
      rw [← hg6, List.getElem?_take] at hj
      split at hj
      · simpa using hj
      · cases hj
  · exact ⟨(h3.1.below hw2).after hst.size fun b hb hne => hst.block b hb hne, h3.2⟩
set_option maxRecDepth 100000 in
set_option maxHeartbeats 32000000 in
theorem rput2_any {W : World} {R : Nat} {s : List It} {fs : List Fact} (h : RAt W R s fs) (hl : s.length < 5000) (x : It) :
    Calls Tryz.prog 47 #[.pointer (some ⟨R, 0, none⟩), .agg (itC x)] W fun e w' => e = .returned (.tuple #[]) ∧ RAt w' R (ins x s) fs ∧ Stay (fun i => i = R) W w' := by
  have HRA := Lib.hid h
  obtain ⟨IV, FV, hrw, ⟨A, c, rfl, hc1, hc2, hc3, hc4⟩, _⟩ := h
  have HRW0 := Lib.hid hrw
  have HC4 := Lib.hid hc4
  have HC3 := Lib.hid hc3
  clear hrw hc4 hc3 hc2
  rw [show itC x = #[.string x.id, .string x.par, .int .i64 x.bx.x0, .int .i64 x.bx.y0, .int .i64 x.bx.z0, .int .i64 x.bx.x1, .int .i64 x.bx.y1, .int .i64 x.bx.z1, .int .i64 x.st, .string x.stone] from rfl]
  have HB := Lib.hid (al_below W (.cells #[.string x.id, .string x.par, .int .i64 x.bx.x0, .int .i64 x.bx.y0, .int .i64 x.bx.z0, .int .i64 x.bx.x1, .int .i64 x.bx.y1, .int .i64 x.bx.z1, .int .i64 x.st, .string x.stone] 68))
  have HT := Lib.hid (new_block W (.cells #[.string x.id, .string x.par, .int .i64 x.bx.x0, .int .i64 x.bx.y0, .int .i64 x.bx.z0, .int .i64 x.bx.x1, .int .i64 x.bx.y1, .int .i64 x.bx.z1, .int .i64 x.st, .string x.stone] 68))
  have y0 := (row_cells (row_after HB.out HRW0.out)).1 0
  go_enter Tryz.func47, Tryz.ntmps47
  go_wp2_with fail
  clear y0
  generalize W.alloc (.cells #[.string x.id, .string x.par, .int .i64 x.bx.x0, .int .i64 x.bx.y0, .int .i64 x.bx.z0, .int .i64 x.bx.x1, .int .i64 x.bx.y1, .int .i64 x.bx.z1, .int .i64 x.st, .string x.stone] 68) = W1 at *
  go_loopw [4] (fun n wr => ∃ k : Nat, k ≤ s.length ∧ n = .int .i64 k ∧ (∀ (j : Nat) (z : It), j < k → s[j]? = some z → lessI z x = true) ∧ wr.heap[W.heap.size]? = some (.cells #[.string x.id, .string x.par, .int .i64 x.bx.x0, .int .i64 x.bx.y0, .int .i64 x.bx.z0, .int .i64 x.bx.x1, .int .i64 x.bx.y1, .int .i64 x.bx.z1, .int .i64 x.st, .string x.stone] 68 (0, 0)) ∧ Below W.heap.size W wr) (fun n _ => s.length - (intOf n).toNat)
  case atStart => exact ⟨0, by omega, rfl, fun j z h => by omega, HT.out, HB.out⟩
  case round =>
    obtain ⟨k, hk, rfl, hall, ht, hb⟩ := hrel
    have HA := Lib.hid hall
    have HB := Lib.hid hb
    have HT := Lib.hid ht
    have y0 := (row_cells (row_after hb HRW0.out)).1 0
    have t0 := (row_cells ht).1 0
    clear hall ht hb
    by_cases hlt : k < s.length
    · have hltd : decide (k < s.length) = true := by simp [hlt]
      obtain ⟨g, rfl, hg, hgR, hcl⟩ := HC4.out (by omega)
      have HL : Hid (s[k]? = some s[k]) := Lib.hid (List.getElem?_eq_getElem hlt)
      have HCL := Lib.hid hcl
      have HG := Lib.hid hg
      obtain ⟨x0, _⟩ := flat_at (W := wr) (g := g) (fun i u hi => (HB.out.cell (p := ⟨g, _, none⟩) hg).trans (hcl i u hi)) HL.out
      clear hcl
      generalize s[k] = z at *
      by_cases hle : lessI z x = true
      · have hq : Op.bytesLess z.id.toList x.id.toList = true := hle
        have HN : Hid (∀ (j : Nat) (y : It), j < k + 1 → s[j]? = some y → lessI y x = true) := Lib.hid (fun j y hj hy => by
          rcases Nat.lt_or_ge j k with g | g
          · exact HA.out j y g hy
          · obtain rfl : j = k := by omega
            obtain rfl : y = z := Option.some.inj (hy.symm.trans HL.out)
            exact hle)
        clear hle
        go_wp2_with fail
        go_quiet (fail)
        go_wp2_with fail
        exact ⟨⟨k + 1, hlt, by go_num, HN.out, by first | exact HT.out | exact row_after (below_drewN (Below.refl _ _) _) HT.out, by first | exact HB.out | exact HB.out.drew | exact below_drewN HB.out _⟩, by simp [intOf]; omega⟩
      · have hle' : lessI z x = false := by simpa using hle
        have hq : Op.bytesLess z.id.toList x.id.toList = false := hle'
        have HINS : Hid (ins x s = s.take k ++ [x] ++ s.drop k) := Lib.hid (ins_at hk HA.out fun y hy => by rw [Option.some.inj (hy.symm.trans HL.out)]; exact hle')
        clear hle hle'
        go_wp2_with fail
        go_quiet (fail)
        go_wp2_with fail
        clear x0 y0 t0
        have HB := Lib.hid (below_drewN HB.out nq)
        have HT := Lib.hid (row_after (below_drewN (Below.refl _ _) nq) HT.out)
        generalize wr.drewN nq = wq at *
        have HRW := Lib.hid (row_after HB.out HRW0.out)
        have HR0 := HB
        generalize hgt : W.heap.size = gT at HT ⊢
        have HCL := Lib.hid fun i u hi => (HB.out.cell (p := ⟨g, i, none⟩) HG.out).trans (HCL.out i u hi)
        have HG := Lib.hid (show g < wq.heap.size by have := HB.out.size; have := HG.out; omega)
        have HS1 : Hid (∀ ww, Below wq.heap.size wq ww → Src ww (.slice (some ⟨g, 0, none⟩) k c) k ((s.take k).flatMap itL)) := Lib.hid fun ww hb => src_take (fun i u hi => (hb.cell (p := ⟨g, _, none⟩) HG.out).trans (HCL.out i u hi))
        have HS2 : Hid (∀ ww, Below wq.heap.size wq ww → Src ww (.slice (some ⟨g, k * 10, none⟩) (s.length - k) (c - k)) (s.length - k) ((s.drop k).flatMap itL)) := Lib.hid fun ww hb => src_drop (fun i u hi => (hb.cell (p := ⟨g, _, none⟩) HG.out).trans (HCL.out i u hi)) (by omega)
        have HLK : Hid (k ≤ 100000) := Lib.hid (by omega)
        have HLK1 : Hid (k + 1 ≤ 100000) := Lib.hid (by omega)
        have HLK2 : Hid (k + 1 + (s.length - k) ≤ 100000) := Lib.hid (by omega)
        have HZ1 : Hid (((s.take k).flatMap itL).length = k * 10 ∧ ∀ y ∈ (s.take k).flatMap itL, y.oneCell' = true) := Lib.hid ⟨by rw [flat_lenR, List.length_take, Nat.min_eq_left (by omega)], flat_one _⟩
        have HZ2 : Hid (((s.drop k).flatMap itL).length = (s.length - k) * 10 ∧ ∀ y ∈ (s.drop k).flatMap itL, y.oneCell' = true) := Lib.hid ⟨by rw [flat_lenR, List.length_drop], flat_one _⟩
        refine Reg.region_inv [[], [], [], [2], [3], [4], [], [5, 6], [1, 7], [], [9], [8, 10], [], [12], [13], [14], [], [15, 16], [11, 17], [0, 1, 2, 3, 4, 5, 6, 7, 8, 9, 10, 11, 12, 13, 14, 15, 16, 17, 18], [0, 1, 2, 3, 4, 5, 6, 7, 8, 9, 10, 11, 12, 13, 14, 15, 16, 17, 18, 19], [0, 1, 2, 3, 4, 5, 6, 7, 8, 9, 10, 11, 12, 13, 14, 15, 16, 17, 18, 20]] [[], [], [], [2], [2, 3], [2, 3, 4], [], [2, 3, 4, 5, 6], [1, 2, 3, 4, 5, 6, 7], [], [9], [1, 2, 3, 4, 5, 6, 7, 8, 9, 10], [], [12], [12, 13], [12, 13, 14], [], [12, 13, 14, 15, 16], [1, 2, 3, 4, 5, 6, 7, 8, 9, 10, 11, 12, 13, 14, 15, 16, 17], [0, 1, 2, 3, 4, 5, 6, 7, 8, 9, 10, 11, 12, 13, 14, 15, 16, 17, 18], [0, 1, 2, 3, 4, 5, 6, 7, 8, 9, 10, 11, 12, 13, 14, 15, 16, 17, 18, 19], [0, 1, 2, 3, 4, 5, 6, 7, 8, 9, 10, 11, 12, 13, 14, 15, 16, 17, 18, 19, 20]] (fun a0_ bb aa ww => ∃ (gE : Nat) (v1 : Value) (gX : Nat) (v2 : Value) (v3 : Value) (Wc : World), aa = Reg.fill bb [(0, 27, .pointer (some ⟨R, 0, none⟩)), (1, 28, .slice (some ⟨gE, 0, none⟩) 0 0), (2, 29, .pointer (some ⟨R, 0, none⟩)), (3, 30, .pointer (some ⟨R, 0, none⟩)), (4, 31, .pointer (some ⟨R, 0, none⟩)), (5, 32, .slice (some ⟨g, 0, none⟩) s.length c), (6, 33, .int .i64 (k : Int)), (7, 34, .slice (some ⟨g, 0, none⟩) k c), (8, 35, v1), (9, 36, .agg #[.string x.id, .string x.par, .int .i64 x.bx.x0, .int .i64 x.bx.y0, .int .i64 x.bx.z0, .int .i64 x.bx.x1, .int .i64 x.bx.y1, .int .i64 x.bx.z1, .int .i64 x.st, .string x.stone]), (10, 37, .slice (some ⟨gX, 0, none⟩) 1 1), (11, 38, v2), (12, 39, .pointer (some ⟨R, 0, none⟩)), (13, 40, .pointer (some ⟨R, 0, none⟩)), (14, 41, .pointer (some ⟨R, 0, none⟩)), (15, 42, .slice (some ⟨g, 0, none⟩) s.length c), (16, 43, .int .i64 (k : Int)), (17, 44, .slice (some ⟨g, k * 10, none⟩) (s.length - k) (c - k)), (18, 45, v3), (19, 46, .pointer (some ⟨R, 0, none⟩)), (20, 47, .pointer (some ⟨R, 0, none⟩))] a0_ ∧ CH 68 10 wq ((s.take k).flatMap itL) ((s.take k).flatMap itL ++ itL x) ((s.take k).flatMap itL ++ itL x ++ (s.drop k).flatMap itL) k (k + 1) (k + 1 + (s.length - k)) #[.string x.id, .string x.par, .int .i64 x.bx.x0, .int .i64 x.bx.y0, .int .i64 x.bx.z0, .int .i64 x.bx.x1, .int .i64 x.bx.y1, .int .i64 x.bx.z1, .int .i64 x.st, .string x.stone] (bb 1) (bb 8) (bb 10) (bb 11) (bb 18) gE v1 gX v2 v3 Wc ∧ ww = (if bb 21 = true then Wc.setCell ⟨R, 0, none⟩ v3 else Wc)) (by kernel_rfl) (by kernel_rfl) (by kernel_rfl) ?_ ?_ ?_
        · exact ⟨0, .nilIface, 0, .nilIface, .nilIface, wq.drew, Reg.fill_start.symm, CH.start, rfl⟩
        · refine Reg.steps_cons (i := 0) ?_ ?_
          · rintro bb aa ww ⟨gE, v1, gX, v2, v3, Wc, ha, HW⟩ hb hd hn
            have e0 : aa.tmps[0]? = some (.pointer (some ⟨R, 0, none⟩)) := by rw [ha]; exact (Reg.fill_off rfl).trans rfl
            have HA := Lib.hid ha; clear ha; refine ⟨_, rfl, fun K hK => ?_⟩
            obtain rfl : ww = Wc := HW.2.trans (nxw (hn 21 (by decide))); have HC := Lib.hid HW.1; clear HW
            refine Reg.do_val rfl rfl (v := .pointer (some ⟨R, 0, none⟩)) (w1 := ww) (by simp only [List.getElem_toArray, List.getElem_cons_zero, execOp, Reg.eval_tmp e0]; rfl) ?_
            exact hK.out _ _ ⟨gE, v1, gX, v2, v3, ww, by rw [HA.out]; exact Reg.fill_up 0 hb rfl rfl rfl, ⟨HC.out, (nxw (hn 21 (by decide))).symm⟩⟩
          refine Reg.steps_cons (i := 1) ?_ ?_
          · rintro bb aa ww ⟨gE, v1, gX, v2, v3, Wc, ha, HW⟩ hb hd hn
            have HA := Lib.hid ha; clear ha; refine ⟨_, rfl, fun K hK => ?_⟩
            obtain rfl : ww = Wc := HW.2.trans (nxw (hn 21 (by decide))); have HC := Lib.hid HW.1; clear HW
            refine Reg.do_val rfl rfl (v := .slice (some ⟨ww.heap.size, 0, none⟩) 0 0) (w1 := ww.alloc (.cells #[] 68)) ?_ ?_
            · simp only [List.getElem_toArray, List.getElem_cons_succ, List.getElem_cons_zero, execOp]
              go_simp
            exact hK.out _ _ ⟨ww.heap.size, v1, gX, v2, v3, (ww.alloc (.cells #[] 68)), by rw [HA.out]; exact Reg.fill_up 1 hb rfl rfl rfl, ⟨HC.out.aE (hn 8 (by decide)) (hn 11 (by decide)) (hn 18 (by decide)), (nxw (hn 21 (by decide))).symm⟩⟩
          refine Reg.steps_cons (i := 2) ?_ ?_
          · rintro bb aa ww ⟨gE, v1, gX, v2, v3, Wc, ha, HW⟩ hb hd hn
            have e0 : aa.tmps[0]? = some (.pointer (some ⟨R, 0, none⟩)) := by rw [ha]; exact (Reg.fill_off rfl).trans rfl
            have HA := Lib.hid ha; clear ha; refine ⟨_, rfl, fun K hK => ?_⟩
            obtain rfl : ww = Wc := HW.2.trans (nxw (hn 21 (by decide))); have HC := Lib.hid HW.1; clear HW
            refine Reg.do_val rfl rfl (v := .pointer (some ⟨R, 0, none⟩)) (w1 := ww) (by simp only [List.getElem_toArray, List.getElem_cons_succ, List.getElem_cons_zero, execOp, Reg.eval_tmp e0]; rfl) ?_
            exact hK.out _ _ ⟨gE, v1, gX, v2, v3, ww, by rw [HA.out]; exact Reg.fill_up 2 hb rfl rfl rfl, ⟨HC.out, (nxw (hn 21 (by decide))).symm⟩⟩
          refine Reg.steps_cons (i := 3) ?_ ?_
          · rintro bb aa ww ⟨gE, v1, gX, v2, v3, Wc, ha, HW⟩ hb hd hn
            have e29 : aa.tmps[29]? = some (.pointer (some ⟨R, 0, none⟩)) := by rw [ha]; exact Reg.fill_on 2 rfl rfl (hd 2 (by decide)) rfl
            have HA := Lib.hid ha; clear ha; refine ⟨_, rfl, fun K hK => ?_⟩
            obtain rfl : ww = Wc := HW.2.trans (nxw (hn 21 (by decide))); have HC := Lib.hid HW.1; clear HW
            refine Reg.do_val rfl rfl (v := .pointer (some ⟨R, 0, none⟩)) (w1 := ww) ?_ ?_
            · simp only [List.getElem_toArray, List.getElem_cons_succ, List.getElem_cons_zero, execOp, Reg.eval_tmp e29]
              go_simp
            exact hK.out _ _ ⟨gE, v1, gX, v2, v3, ww, by rw [HA.out]; exact Reg.fill_up 3 hb rfl rfl rfl, ⟨HC.out, (nxw (hn 21 (by decide))).symm⟩⟩
          refine Reg.steps_cons (i := 4) ?_ ?_
          · rintro bb aa ww ⟨gE, v1, gX, v2, v3, Wc, ha, HW⟩ hb hd hn
            have e30 : aa.tmps[30]? = some (.pointer (some ⟨R, 0, none⟩)) := by rw [ha]; exact Reg.fill_on 3 rfl rfl (hd 3 (by decide)) rfl
            have HA := Lib.hid ha; clear ha; refine ⟨_, rfl, fun K hK => ?_⟩
            obtain rfl : ww = Wc := HW.2.trans (nxw (hn 21 (by decide))); have HC := Lib.hid HW.1; clear HW
            refine Reg.do_val rfl rfl (v := .pointer (some ⟨R, 0, none⟩)) (w1 := ww) ?_ ?_
            · simp only [List.getElem_toArray, List.getElem_cons_succ, List.getElem_cons_zero, execOp, Reg.eval_tmp e30]
              go_simp
            exact hK.out _ _ ⟨gE, v1, gX, v2, v3, ww, by rw [HA.out]; exact Reg.fill_up 4 hb rfl rfl rfl, ⟨HC.out, (nxw (hn 21 (by decide))).symm⟩⟩
          refine Reg.steps_cons (i := 5) ?_ ?_
          · rintro bb aa ww ⟨gE, v1, gX, v2, v3, Wc, ha, HW⟩ hb hd hn
            have e31 : aa.tmps[31]? = some (.pointer (some ⟨R, 0, none⟩)) := by rw [ha]; exact Reg.fill_on 4 rfl rfl (hd 4 (by decide)) rfl
            have HA := Lib.hid ha; clear ha; refine ⟨_, rfl, fun K hK => ?_⟩
            obtain rfl : ww = Wc := HW.2.trans (nxw (hn 21 (by decide))); have HC := Lib.hid HW.1; clear HW
            have y0 := (row_cells (row_after HC.out.be HRW.out)).1 0
            refine Reg.do_val rfl rfl (v := .slice (some ⟨g, 0, none⟩) s.length c) (w1 := ww) ?_ ?_
            · simp only [List.getElem_toArray, List.getElem_cons_succ, List.getElem_cons_zero, execOp, Reg.eval_tmp e31]
              go_simp
            exact hK.out _ _ ⟨gE, v1, gX, v2, v3, ww, by rw [HA.out]; exact Reg.fill_up 5 hb rfl rfl rfl, ⟨HC.out, (nxw (hn 21 (by decide))).symm⟩⟩
          refine Reg.steps_cons (i := 6) ?_ ?_
          · rintro bb aa ww ⟨gE, v1, gX, v2, v3, Wc, ha, HW⟩ hb hd hn
            have e4 : aa.tmps[4]? = some (.int .i64 (k : Int)) := by rw [ha]; exact (Reg.fill_off rfl).trans rfl
            have HA := Lib.hid ha; clear ha; refine ⟨_, rfl, fun K hK => ?_⟩
            obtain rfl : ww = Wc := HW.2.trans (nxw (hn 21 (by decide))); have HC := Lib.hid HW.1; clear HW
            refine Reg.do_val rfl rfl (v := .int .i64 (k : Int)) (w1 := ww) (by simp only [List.getElem_toArray, List.getElem_cons_succ, List.getElem_cons_zero, execOp, Reg.eval_tmp e4]; rfl) ?_
            exact hK.out _ _ ⟨gE, v1, gX, v2, v3, ww, by rw [HA.out]; exact Reg.fill_up 6 hb rfl rfl rfl, ⟨HC.out, (nxw (hn 21 (by decide))).symm⟩⟩
          refine Reg.steps_cons (i := 7) ?_ ?_
          · rintro bb aa ww ⟨gE, v1, gX, v2, v3, Wc, ha, HW⟩ hb hd hn
            have e32 : aa.tmps[32]? = some (.slice (some ⟨g, 0, none⟩) s.length c) := by rw [ha]; exact Reg.fill_on 5 rfl rfl (hd 5 (by decide)) rfl
            have e33 : aa.tmps[33]? = some (.int .i64 (k : Int)) := by rw [ha]; exact Reg.fill_on 6 rfl rfl (hd 6 (by decide)) rfl
            have HA := Lib.hid ha; clear ha; refine ⟨_, rfl, fun K hK => ?_⟩
            obtain rfl : ww = Wc := HW.2.trans (nxw (hn 21 (by decide))); have HC := Lib.hid HW.1; clear HW
            refine Reg.do_val rfl rfl (v := .slice (some ⟨g, 0, none⟩) k c) (w1 := ww) ?_ ?_
            · simp only [List.getElem_toArray, List.getElem_cons_succ, List.getElem_cons_zero, execOp, Reg.eval_tmp e32]
              go_simp
              intro hh; exact absurd hh (by omega)
            exact hK.out _ _ ⟨gE, v1, gX, v2, v3, ww, by rw [HA.out]; exact Reg.fill_up 7 hb rfl rfl rfl, ⟨HC.out, (nxw (hn 21 (by decide))).symm⟩⟩
          refine Reg.steps_cons (i := 8) ?_ ?_
          · rintro bb aa ww ⟨gE, v1, gX, v2, v3, Wc, ha, HW⟩ hb hd hn
            have e28 : aa.tmps[28]? = some (.slice (some ⟨gE, 0, none⟩) 0 0) := by rw [ha]; exact Reg.fill_on 1 rfl rfl (hd 1 (by decide)) rfl
            have e34 : aa.tmps[34]? = some (.slice (some ⟨g, 0, none⟩) k c) := by rw [ha]; exact Reg.fill_on 7 rfl rfl (hd 7 (by decide)) rfl
            have HA := Lib.hid ha; clear ha; refine ⟨_, rfl, fun K hK => ?_⟩
            obtain rfl : ww = Wc := HW.2.trans (nxw (hn 21 (by decide))); have HC := Lib.hid HW.1; clear HW
            obtain ⟨v1', w3, hrun, hch⟩ := HC.out.ap1 elI (hd 1 (by decide)) hb (hn 11 (by decide)) (hn 18 (by decide)) (HS1.out ww HC.out.be) HZ1.out HLK.out
            refine Reg.do_append rfl rfl rfl (Reg.eval_tmp e28) (Reg.eval_tmp e34) hrun ?_
            exact hK.out _ _ ⟨gE, v1', gX, v2, v3, w3, by rw [HA.out]; exact Reg.fill_up 8 hb rfl rfl rfl, ⟨hch, (nxw (hn 21 (by decide))).symm⟩⟩
          refine Reg.steps_cons (i := 9) ?_ ?_
          · rintro bb aa ww ⟨gE, v1, gX, v2, v3, Wc, ha, HW⟩ hb hd hn
            have e3 : aa.tmps[3]? = some (.pointer (some ⟨gT, 0, none⟩)) := by rw [ha]; exact (Reg.fill_off rfl).trans rfl
            have HA := Lib.hid ha; clear ha; refine ⟨_, rfl, fun K hK => ?_⟩
            obtain rfl : ww = Wc := HW.2.trans (nxw (hn 21 (by decide))); have HC := Lib.hid HW.1; clear HW
            refine Reg.do_load rfl rfl 68 _ rfl gT (Reg.eval_tmp e3) (row_after HC.out.be HT.out) Tryz.underlying68 rfl (by kernel_rfl) ?_
            exact hK.out _ _ ⟨gE, v1, gX, v2, v3, ww, by rw [HA.out]; exact Reg.fill_up 9 hb rfl rfl rfl, ⟨HC.out, (nxw (hn 21 (by decide))).symm⟩⟩
          refine Reg.steps_cons (i := 10) ?_ ?_
          · rintro bb aa ww ⟨gE, v1, gX, v2, v3, Wc, ha, HW⟩ hb hd hn
            have e36 : aa.tmps[36]? = some (.agg #[.string x.id, .string x.par, .int .i64 x.bx.x0, .int .i64 x.bx.y0, .int .i64 x.bx.z0, .int .i64 x.bx.x1, .int .i64 x.bx.y1, .int .i64 x.bx.z1, .int .i64 x.st, .string x.stone]) := by rw [ha]; exact Reg.fill_on 9 rfl rfl (hd 9 (by decide)) rfl
            have HA := Lib.hid ha; clear ha; refine ⟨_, rfl, fun K hK => ?_⟩
            obtain rfl : ww = Wc := HW.2.trans (nxw (hn 21 (by decide))); have HC := Lib.hid HW.1; clear HW
            refine Reg.do_val rfl rfl (v := .slice (some ⟨ww.heap.size, 0, none⟩) 1 1) (w1 := ww.alloc (.cells #[.string x.id, .string x.par, .int .i64 x.bx.x0, .int .i64 x.bx.y0, .int .i64 x.bx.z0, .int .i64 x.bx.x1, .int .i64 x.bx.y1, .int .i64 x.bx.z1, .int .i64 x.st, .string x.stone] 68)) ?_ ?_
            · simp only [List.getElem_toArray, List.getElem_cons_succ, List.getElem_cons_zero, execOp]
              go_simp
            exact hK.out _ _ ⟨gE, v1, ww.heap.size, v2, v3, (ww.alloc (.cells #[.string x.id, .string x.par, .int .i64 x.bx.x0, .int .i64 x.bx.y0, .int .i64 x.bx.z0, .int .i64 x.bx.x1, .int .i64 x.bx.y1, .int .i64 x.bx.z1, .int .i64 x.st, .string x.stone] 68)), by rw [HA.out]; exact Reg.fill_up 10 hb rfl rfl rfl, ⟨HC.out.aX (hn 11 (by decide)) (hn 18 (by decide)), (nxw (hn 21 (by decide))).symm⟩⟩
          refine Reg.steps_cons (i := 11) ?_ ?_
          · rintro bb aa ww ⟨gE, v1, gX, v2, v3, Wc, ha, HW⟩ hb hd hn
            have e35 : aa.tmps[35]? = some (v1) := by rw [ha]; exact Reg.fill_on 8 rfl rfl (hd 8 (by decide)) rfl
            have e37 : aa.tmps[37]? = some (.slice (some ⟨gX, 0, none⟩) 1 1) := by rw [ha]; exact Reg.fill_on 10 rfl rfl (hd 10 (by decide)) rfl
            have HA := Lib.hid ha; clear ha; refine ⟨_, rfl, fun K hK => ?_⟩
            obtain rfl : ww = Wc := HW.2.trans (nxw (hn 21 (by decide))); have HC := Lib.hid HW.1; clear HW
            obtain ⟨v2', w3, hrun, hch⟩ := HC.out.ap2 elI (hd 8 (by decide)) (hd 10 (by decide)) hb (hn 18 (by decide)) (one_itR x) ⟨rfl, rfl, rfl⟩ HLK1.out
            refine Reg.do_append rfl rfl rfl (Reg.eval_tmp e35) (Reg.eval_tmp e37) hrun ?_
            exact hK.out _ _ ⟨gE, v1, gX, v2', v3, w3, by rw [HA.out]; exact Reg.fill_up 11 hb rfl rfl rfl, ⟨hch, (nxw (hn 21 (by decide))).symm⟩⟩
          refine Reg.steps_cons (i := 12) ?_ ?_
          · rintro bb aa ww ⟨gE, v1, gX, v2, v3, Wc, ha, HW⟩ hb hd hn
            have e0 : aa.tmps[0]? = some (.pointer (some ⟨R, 0, none⟩)) := by rw [ha]; exact (Reg.fill_off rfl).trans rfl
            have HA := Lib.hid ha; clear ha; refine ⟨_, rfl, fun K hK => ?_⟩
            obtain rfl : ww = Wc := HW.2.trans (nxw (hn 21 (by decide))); have HC := Lib.hid HW.1; clear HW
            refine Reg.do_val rfl rfl (v := .pointer (some ⟨R, 0, none⟩)) (w1 := ww) (by simp only [List.getElem_toArray, List.getElem_cons_succ, List.getElem_cons_zero, execOp, Reg.eval_tmp e0]; rfl) ?_
            exact hK.out _ _ ⟨gE, v1, gX, v2, v3, ww, by rw [HA.out]; exact Reg.fill_up 12 hb rfl rfl rfl, ⟨HC.out, (nxw (hn 21 (by decide))).symm⟩⟩
          refine Reg.steps_cons (i := 13) ?_ ?_
          · rintro bb aa ww ⟨gE, v1, gX, v2, v3, Wc, ha, HW⟩ hb hd hn
            have e39 : aa.tmps[39]? = some (.pointer (some ⟨R, 0, none⟩)) := by rw [ha]; exact Reg.fill_on 12 rfl rfl (hd 12 (by decide)) rfl
            have HA := Lib.hid ha; clear ha; refine ⟨_, rfl, fun K hK => ?_⟩
            obtain rfl : ww = Wc := HW.2.trans (nxw (hn 21 (by decide))); have HC := Lib.hid HW.1; clear HW
            refine Reg.do_val rfl rfl (v := .pointer (some ⟨R, 0, none⟩)) (w1 := ww) ?_ ?_
            · simp only [List.getElem_toArray, List.getElem_cons_succ, List.getElem_cons_zero, execOp, Reg.eval_tmp e39]
              go_simp
            exact hK.out _ _ ⟨gE, v1, gX, v2, v3, ww, by rw [HA.out]; exact Reg.fill_up 13 hb rfl rfl rfl, ⟨HC.out, (nxw (hn 21 (by decide))).symm⟩⟩
          refine Reg.steps_cons (i := 14) ?_ ?_
          · rintro bb aa ww ⟨gE, v1, gX, v2, v3, Wc, ha, HW⟩ hb hd hn
            have e40 : aa.tmps[40]? = some (.pointer (some ⟨R, 0, none⟩)) := by rw [ha]; exact Reg.fill_on 13 rfl rfl (hd 13 (by decide)) rfl
            have HA := Lib.hid ha; clear ha; refine ⟨_, rfl, fun K hK => ?_⟩
            obtain rfl : ww = Wc := HW.2.trans (nxw (hn 21 (by decide))); have HC := Lib.hid HW.1; clear HW
            refine Reg.do_val rfl rfl (v := .pointer (some ⟨R, 0, none⟩)) (w1 := ww) ?_ ?_
            · simp only [List.getElem_toArray, List.getElem_cons_succ, List.getElem_cons_zero, execOp, Reg.eval_tmp e40]
              go_simp
            exact hK.out _ _ ⟨gE, v1, gX, v2, v3, ww, by rw [HA.out]; exact Reg.fill_up 14 hb rfl rfl rfl, ⟨HC.out, (nxw (hn 21 (by decide))).symm⟩⟩
          refine Reg.steps_cons (i := 15) ?_ ?_
          · rintro bb aa ww ⟨gE, v1, gX, v2, v3, Wc, ha, HW⟩ hb hd hn
            have e41 : aa.tmps[41]? = some (.pointer (some ⟨R, 0, none⟩)) := by rw [ha]; exact Reg.fill_on 14 rfl rfl (hd 14 (by decide)) rfl
            have HA := Lib.hid ha; clear ha; refine ⟨_, rfl, fun K hK => ?_⟩
            obtain rfl : ww = Wc := HW.2.trans (nxw (hn 21 (by decide))); have HC := Lib.hid HW.1; clear HW
            have y0 := (row_cells (row_after HC.out.be HRW.out)).1 0
            refine Reg.do_val rfl rfl (v := .slice (some ⟨g, 0, none⟩) s.length c) (w1 := ww) ?_ ?_
            · simp only [List.getElem_toArray, List.getElem_cons_succ, List.getElem_cons_zero, execOp, Reg.eval_tmp e41]
              go_simp
            exact hK.out _ _ ⟨gE, v1, gX, v2, v3, ww, by rw [HA.out]; exact Reg.fill_up 15 hb rfl rfl rfl, ⟨HC.out, (nxw (hn 21 (by decide))).symm⟩⟩
          refine Reg.steps_cons (i := 16) ?_ ?_
          · rintro bb aa ww ⟨gE, v1, gX, v2, v3, Wc, ha, HW⟩ hb hd hn
            have e4 : aa.tmps[4]? = some (.int .i64 (k : Int)) := by rw [ha]; exact (Reg.fill_off rfl).trans rfl
            have HA := Lib.hid ha; clear ha; refine ⟨_, rfl, fun K hK => ?_⟩
            obtain rfl : ww = Wc := HW.2.trans (nxw (hn 21 (by decide))); have HC := Lib.hid HW.1; clear HW
            refine Reg.do_val rfl rfl (v := .int .i64 (k : Int)) (w1 := ww) (by simp only [List.getElem_toArray, List.getElem_cons_succ, List.getElem_cons_zero, execOp, Reg.eval_tmp e4]; rfl) ?_
            exact hK.out _ _ ⟨gE, v1, gX, v2, v3, ww, by rw [HA.out]; exact Reg.fill_up 16 hb rfl rfl rfl, ⟨HC.out, (nxw (hn 21 (by decide))).symm⟩⟩
          refine Reg.steps_cons (i := 17) ?_ ?_
          · rintro bb aa ww ⟨gE, v1, gX, v2, v3, Wc, ha, HW⟩ hb hd hn
            have e42 : aa.tmps[42]? = some (.slice (some ⟨g, 0, none⟩) s.length c) := by rw [ha]; exact Reg.fill_on 15 rfl rfl (hd 15 (by decide)) rfl
            have e43 : aa.tmps[43]? = some (.int .i64 (k : Int)) := by rw [ha]; exact Reg.fill_on 16 rfl rfl (hd 16 (by decide)) rfl
            have HA := Lib.hid ha; clear ha; refine ⟨_, rfl, fun K hK => ?_⟩
            obtain rfl : ww = Wc := HW.2.trans (nxw (hn 21 (by decide))); have HC := Lib.hid HW.1; clear HW
            refine Reg.do_val rfl rfl (v := .slice (some ⟨g, k * 10, none⟩) (s.length - k) (c - k)) (w1 := ww) ?_ ?_
            · simp only [List.getElem_toArray, List.getElem_cons_succ, List.getElem_cons_zero, execOp, Reg.eval_tmp e42]
              go_simp
              intro hh; exact absurd hh (by omega)
            exact hK.out _ _ ⟨gE, v1, gX, v2, v3, ww, by rw [HA.out]; exact Reg.fill_up 17 hb rfl rfl rfl, ⟨HC.out, (nxw (hn 21 (by decide))).symm⟩⟩
          refine Reg.steps_cons (i := 18) ?_ ?_
          · rintro bb aa ww ⟨gE, v1, gX, v2, v3, Wc, ha, HW⟩ hb hd hn
            have e38 : aa.tmps[38]? = some (v2) := by rw [ha]; exact Reg.fill_on 11 rfl rfl (hd 11 (by decide)) rfl
            have e44 : aa.tmps[44]? = some (.slice (some ⟨g, k * 10, none⟩) (s.length - k) (c - k)) := by rw [ha]; exact Reg.fill_on 17 rfl rfl (hd 17 (by decide)) rfl
            have HA := Lib.hid ha; clear ha; refine ⟨_, rfl, fun K hK => ?_⟩
            obtain rfl : ww = Wc := HW.2.trans (nxw (hn 21 (by decide))); have HC := Lib.hid HW.1; clear HW
            obtain ⟨v3', w3, hrun, hch⟩ := HC.out.ap3 elI (hd 8 (by decide)) (hd 11 (by decide)) hb (HS2.out ww HC.out.be) ⟨HZ2.out, rfl, rfl⟩ HLK2.out
            refine Reg.do_append rfl rfl rfl (Reg.eval_tmp e38) (Reg.eval_tmp e44) hrun ?_
            exact hK.out _ _ ⟨gE, v1, gX, v2, v3', w3, by rw [HA.out]; exact Reg.fill_up 18 hb rfl rfl rfl, ⟨hch, (nxw (hn 21 (by decide))).symm⟩⟩
          refine Reg.steps_cons (i := 19) ?_ ?_
          · rintro bb aa ww ⟨gE, v1, gX, v2, v3, Wc, ha, HW⟩ hb hd hn
            have e27 : aa.tmps[27]? = some (.pointer (some ⟨R, 0, none⟩)) := by rw [ha]; exact Reg.fill_on 0 rfl rfl (hd 0 (by decide)) rfl
            have HA := Lib.hid ha; clear ha; refine ⟨_, rfl, fun K hK => ?_⟩
            obtain rfl : ww = Wc := HW.2.trans (nxw (hn 21 (by decide))); have HC := Lib.hid HW.1; clear HW
            refine Reg.do_val rfl rfl (v := .pointer (some ⟨R, 0, none⟩)) (w1 := ww) ?_ ?_
            · simp only [List.getElem_toArray, List.getElem_cons_succ, List.getElem_cons_zero, execOp, Reg.eval_tmp e27]
              go_simp
            exact hK.out _ _ ⟨gE, v1, gX, v2, v3, ww, by rw [HA.out]; exact Reg.fill_up 19 hb rfl rfl rfl, ⟨HC.out, (nxw (hn 21 (by decide))).symm⟩⟩
          refine Reg.steps_cons (i := 20) ?_ ?_
          · rintro bb aa ww ⟨gE, v1, gX, v2, v3, Wc, ha, HW⟩ hb hd hn
            have e46 : aa.tmps[46]? = some (.pointer (some ⟨R, 0, none⟩)) := by rw [ha]; exact Reg.fill_on 19 rfl rfl (hd 19 (by decide)) rfl
            have HA := Lib.hid ha; clear ha; refine ⟨_, rfl, fun K hK => ?_⟩
            obtain rfl : ww = Wc := HW.2.trans (nxw (hn 21 (by decide))); have HC := Lib.hid HW.1; clear HW
            refine Reg.do_val rfl rfl (v := .pointer (some ⟨R, 0, none⟩)) (w1 := ww) ?_ ?_
            · simp only [List.getElem_toArray, List.getElem_cons_succ, List.getElem_cons_zero, execOp, Reg.eval_tmp e46]
              go_simp
            exact hK.out _ _ ⟨gE, v1, gX, v2, v3, ww, by rw [HA.out]; exact Reg.fill_up 20 hb rfl rfl rfl, ⟨HC.out, (nxw (hn 21 (by decide))).symm⟩⟩
          refine Reg.steps_cons (i := 21) ?_ ?_
          · rintro bb aa ww ⟨gE, v1, gX, v2, v3, Wc, ha, HW⟩ hb hd hn
            have e47 : aa.tmps[47]? = some (.pointer (some ⟨R, 0, none⟩)) := by rw [ha]; exact Reg.fill_on 20 rfl rfl (hd 20 (by decide)) rfl
            have e45 : aa.tmps[45]? = some (v3) := by rw [ha]; exact Reg.fill_on 18 rfl rfl (hd 18 (by decide)) rfl
            have HA := Lib.hid ha; clear ha; refine ⟨_, rfl, fun K hK => ?_⟩
            obtain rfl : ww = Wc := HW.2.trans (nxw hb); have HC := Lib.hid HW.1; clear HW
            have y0 := (row_cells (row_after HC.out.be HRW.out)).1 0
            have y0f := (row_cells (row_after HC.out.be HRW.out)).2 0
            refine Reg.do_skip rfl rfl (w1 := ww.setCell ⟨R, 0, none⟩ v3) ?_ ?_
            · simp only [List.getElem_toArray, List.getElem_cons_succ, List.getElem_cons_zero, execOp, Reg.eval_tmp e47, Reg.eval_tmp e45]
              obtain ⟨A3, c3, rfl⟩ := own_sliceR (HC.out.r3 (hd 18 (by decide)))
              go_simp
            exact hK.out _ _ ⟨gE, v1, gX, v2, v3, ww, by rw [HA.out]; exact Reg.fill_none rfl, ⟨HC.out, (if_pos (show Reg.up bb 21 21 = true from rfl)).symm⟩⟩
          exact trivial
        rintro bb aa W8 hall ⟨gE, v1, gX, v2, v3, Wc, ha, HW⟩
        have hbe := HW.1.be
        have hown := HW.1.r3 (hall 18 (by decide))
        have hw8 := HW.2
        rw [hall 21 (by decide), if_pos rfl] at hw8
        clear HW
        have hb0 := hall 0 (by decide)
        have hb1 := hall 1 (by decide)
        have hb2 := hall 2 (by decide)
        have hb3 := hall 3 (by decide)
        have hb4 := hall 4 (by decide)
        have hb5 := hall 5 (by decide)
        have hb6 := hall 6 (by decide)
        have hb7 := hall 7 (by decide)
        have hb8 := hall 8 (by decide)
        have hb9 := hall 9 (by decide)
        have hb10 := hall 10 (by decide)
        have hb11 := hall 11 (by decide)
        have hb12 := hall 12 (by decide)
        have hb13 := hall 13 (by decide)
        have hb14 := hall 14 (by decide)
        have hb15 := hall 15 (by decide)
        have hb16 := hall 16 (by decide)
        have hb17 := hall 17 (by decide)
        have hb18 := hall 18 (by decide)
        have hb19 := hall 19 (by decide)
        have hb20 := hall 20 (by decide)
        have hb21 := hall 21 (by decide)
        simp only [Reg.fill, hb0, hb1, hb2, hb3, hb4, hb5, hb6, hb7, hb8, hb9, hb10, hb11, hb12, hb13, hb14, hb15, hb16, hb17, hb18, hb19, hb20, if_true, Act.put, List.setIfInBounds_toArray, List.set_cons_zero, List.set_cons_succ] at ha
        clear hb0 hb1 hb2 hb3 hb4 hb5 hb6 hb7 hb8 hb9 hb10 hb11 hb12 hb13 hb14 hb15 hb16 hb17 hb18 hb19 hb20 hb21 hall
        subst ha
        go_wp2_with fail
        go_end0
        have hfl : (s.take k).flatMap itL ++ itL x ++ (s.drop k).flatMap itL = ((s.take k ++ [x] ++ s.drop k) : List It).flatMap itL := by simp
        rw [hfl] at hown
        exact ⟨rfl, by rw [hw8, HINS.out]; exact rat_store HRA.out hbe HR0.out hown (by simp; omega) (by omega), by rw [hw8]; exact ((Stay.of_below HB.out).trans (Stay.of_below hbe)).trans (stay_cell _ _ _ _)⟩
    · obtain rfl : k = s.length := by omega
      have hltd : decide (s.length < s.length) = false := by simp
      have HINS : Hid (ins x s = s ++ [x]) := Lib.hid (by rw [ins_at (Nat.le_refl _) HA.out (fun z hz => by simp at hz)]; simp)
      rcases Nat.eq_zero_or_pos s.length with h0 | h0
      · obtain ⟨rfl, rfl⟩ := HC3.out h0
        obtain rfl : s = [] := List.length_eq_zero_iff.1 h0
        clear h0
        go_wp2_with fail
        go_quiet (fail)
        go_wp2_with fail
        clear y0 t0
        have HB := Lib.hid (below_drewN HB.out nq)
        have HT := Lib.hid (row_after (below_drewN (Below.refl _ _) nq) HT.out)
        generalize wr.drewN nq = wq at *
        have HRW := Lib.hid (row_after HB.out HRW0.out)
        have HR0 := HB
        generalize hgt : W.heap.size = gT at HT ⊢
        have HINS : Hid (ins x [] = [x]) := Lib.hid rfl
        have HS1 : Hid (∀ ww, Below wq.heap.size wq ww → Src ww (.slice none 0 0) 0 (([] : List It).flatMap itL)) := Lib.hid fun ww hb => .inl ⟨rfl, rfl, rfl⟩
        have HS2 : Hid (∀ ww, Below wq.heap.size wq ww → Src ww (.slice none 0 0) 0 (([] : List It).flatMap itL)) := Lib.hid fun ww hb => .inl ⟨rfl, rfl, rfl⟩
        have HLK : Hid (0 ≤ 100000) := Lib.hid (by omega)
        have HLK1 : Hid (0 + 1 ≤ 100000) := Lib.hid (by omega)
        have HLK2 : Hid (0 + 1 + 0 ≤ 100000) := Lib.hid (by omega)
        have HZ1 : Hid ((([] : List It).flatMap itL).length = 0 * 10 ∧ ∀ y ∈ ([] : List It).flatMap itL, y.oneCell' = true) := Lib.hid ⟨rfl, flat_one _⟩
        have HZ2 : Hid ((([] : List It).flatMap itL).length = 0 * 10 ∧ ∀ y ∈ ([] : List It).flatMap itL, y.oneCell' = true) := Lib.hid ⟨rfl, flat_one _⟩
        refine Reg.region_inv [[], [], [], [2], [3], [4], [], [5, 6], [1, 7], [], [9], [8, 10], [], [12], [13], [14], [], [15, 16], [11, 17], [0, 1, 2, 3, 4, 5, 6, 7, 8, 9, 10, 11, 12, 13, 14, 15, 16, 17, 18], [0, 1, 2, 3, 4, 5, 6, 7, 8, 9, 10, 11, 12, 13, 14, 15, 16, 17, 18, 19], [0, 1, 2, 3, 4, 5, 6, 7, 8, 9, 10, 11, 12, 13, 14, 15, 16, 17, 18, 20]] [[], [], [], [2], [2, 3], [2, 3, 4], [], [2, 3, 4, 5, 6], [1, 2, 3, 4, 5, 6, 7], [], [9], [1, 2, 3, 4, 5, 6, 7, 8, 9, 10], [], [12], [12, 13], [12, 13, 14], [], [12, 13, 14, 15, 16], [1, 2, 3, 4, 5, 6, 7, 8, 9, 10, 11, 12, 13, 14, 15, 16, 17], [0, 1, 2, 3, 4, 5, 6, 7, 8, 9, 10, 11, 12, 13, 14, 15, 16, 17, 18], [0, 1, 2, 3, 4, 5, 6, 7, 8, 9, 10, 11, 12, 13, 14, 15, 16, 17, 18, 19], [0, 1, 2, 3, 4, 5, 6, 7, 8, 9, 10, 11, 12, 13, 14, 15, 16, 17, 18, 19, 20]] (fun a0_ bb aa ww => ∃ (gE : Nat) (v1 : Value) (gX : Nat) (v2 : Value) (v3 : Value) (Wc : World), aa = Reg.fill bb [(0, 27, .pointer (some ⟨R, 0, none⟩)), (1, 28, .slice (some ⟨gE, 0, none⟩) 0 0), (2, 29, .pointer (some ⟨R, 0, none⟩)), (3, 30, .pointer (some ⟨R, 0, none⟩)), (4, 31, .pointer (some ⟨R, 0, none⟩)), (5, 32, .slice none 0 0), (6, 33, .int .i64 0), (7, 34, .slice none 0 0), (8, 35, v1), (9, 36, .agg #[.string x.id, .string x.par, .int .i64 x.bx.x0, .int .i64 x.bx.y0, .int .i64 x.bx.z0, .int .i64 x.bx.x1, .int .i64 x.bx.y1, .int .i64 x.bx.z1, .int .i64 x.st, .string x.stone]), (10, 37, .slice (some ⟨gX, 0, none⟩) 1 1), (11, 38, v2), (12, 39, .pointer (some ⟨R, 0, none⟩)), (13, 40, .pointer (some ⟨R, 0, none⟩)), (14, 41, .pointer (some ⟨R, 0, none⟩)), (15, 42, .slice none 0 0), (16, 43, .int .i64 0), (17, 44, .slice none 0 0), (18, 45, v3), (19, 46, .pointer (some ⟨R, 0, none⟩)), (20, 47, .pointer (some ⟨R, 0, none⟩))] a0_ ∧ CH 68 10 wq (([] : List It).flatMap itL) (([] : List It).flatMap itL ++ itL x) (([] : List It).flatMap itL ++ itL x ++ ([] : List It).flatMap itL) 0 (0 + 1) (0 + 1 + 0) #[.string x.id, .string x.par, .int .i64 x.bx.x0, .int .i64 x.bx.y0, .int .i64 x.bx.z0, .int .i64 x.bx.x1, .int .i64 x.bx.y1, .int .i64 x.bx.z1, .int .i64 x.st, .string x.stone] (bb 1) (bb 8) (bb 10) (bb 11) (bb 18) gE v1 gX v2 v3 Wc ∧ ww = (if bb 21 = true then Wc.setCell ⟨R, 0, none⟩ v3 else Wc)) (by kernel_rfl) (by kernel_rfl) (by kernel_rfl) ?_ ?_ ?_
        · exact ⟨0, .nilIface, 0, .nilIface, .nilIface, wq.drew, Reg.fill_start.symm, CH.start, rfl⟩
        · refine Reg.steps_cons (i := 0) ?_ ?_
          · rintro bb aa ww ⟨gE, v1, gX, v2, v3, Wc, ha, HW⟩ hb hd hn
            have e0 : aa.tmps[0]? = some (.pointer (some ⟨R, 0, none⟩)) := by rw [ha]; exact (Reg.fill_off rfl).trans rfl
            have HA := Lib.hid ha; clear ha; refine ⟨_, rfl, fun K hK => ?_⟩
            obtain rfl : ww = Wc := HW.2.trans (nxw (hn 21 (by decide))); have HC := Lib.hid HW.1; clear HW
            refine Reg.do_val rfl rfl (v := .pointer (some ⟨R, 0, none⟩)) (w1 := ww) (by simp only [List.getElem_toArray, List.getElem_cons_zero, execOp, Reg.eval_tmp e0]; rfl) ?_
            exact hK.out _ _ ⟨gE, v1, gX, v2, v3, ww, by rw [HA.out]; exact Reg.fill_up 0 hb rfl rfl rfl, ⟨HC.out, (nxw (hn 21 (by decide))).symm⟩⟩
          refine Reg.steps_cons (i := 1) ?_ ?_
          · rintro bb aa ww ⟨gE, v1, gX, v2, v3, Wc, ha, HW⟩ hb hd hn
            have HA := Lib.hid ha; clear ha; refine ⟨_, rfl, fun K hK => ?_⟩
            obtain rfl : ww = Wc := HW.2.trans (nxw (hn 21 (by decide))); have HC := Lib.hid HW.1; clear HW
            refine Reg.do_val rfl rfl (v := .slice (some ⟨ww.heap.size, 0, none⟩) 0 0) (w1 := ww.alloc (.cells #[] 68)) ?_ ?_
            · simp only [List.getElem_toArray, List.getElem_cons_succ, List.getElem_cons_zero, execOp]
              go_simp
            exact hK.out _ _ ⟨ww.heap.size, v1, gX, v2, v3, (ww.alloc (.cells #[] 68)), by rw [HA.out]; exact Reg.fill_up 1 hb rfl rfl rfl, ⟨HC.out.aE (hn 8 (by decide)) (hn 11 (by decide)) (hn 18 (by decide)), (nxw (hn 21 (by decide))).symm⟩⟩
          refine Reg.steps_cons (i := 2) ?_ ?_
          · rintro bb aa ww ⟨gE, v1, gX, v2, v3, Wc, ha, HW⟩ hb hd hn
            have e0 : aa.tmps[0]? = some (.pointer (some ⟨R, 0, none⟩)) := by rw [ha]; exact (Reg.fill_off rfl).trans rfl
            have HA := Lib.hid ha; clear ha; refine ⟨_, rfl, fun K hK => ?_⟩
            obtain rfl : ww = Wc := HW.2.trans (nxw (hn 21 (by decide))); have HC := Lib.hid HW.1; clear HW
            refine Reg.do_val rfl rfl (v := .pointer (some ⟨R, 0, none⟩)) (w1 := ww) (by simp only [List.getElem_toArray, List.getElem_cons_succ, List.getElem_cons_zero, execOp, Reg.eval_tmp e0]; rfl) ?_
            exact hK.out _ _ ⟨gE, v1, gX, v2, v3, ww, by rw [HA.out]; exact Reg.fill_up 2 hb rfl rfl rfl, ⟨HC.out, (nxw (hn 21 (by decide))).symm⟩⟩
          refine Reg.steps_cons (i := 3) ?_ ?_
          · rintro bb aa ww ⟨gE, v1, gX, v2, v3, Wc, ha, HW⟩ hb hd hn
            have e29 : aa.tmps[29]? = some (.pointer (some ⟨R, 0, none⟩)) := by rw [ha]; exact Reg.fill_on 2 rfl rfl (hd 2 (by decide)) rfl
            have HA := Lib.hid ha; clear ha; refine ⟨_, rfl, fun K hK => ?_⟩
            obtain rfl : ww = Wc := HW.2.trans (nxw (hn 21 (by decide))); have HC := Lib.hid HW.1; clear HW
            refine Reg.do_val rfl rfl (v := .pointer (some ⟨R, 0, none⟩)) (w1 := ww) ?_ ?_
            · simp only [List.getElem_toArray, List.getElem_cons_succ, List.getElem_cons_zero, execOp, Reg.eval_tmp e29]
              go_simp
            exact hK.out _ _ ⟨gE, v1, gX, v2, v3, ww, by rw [HA.out]; exact Reg.fill_up 3 hb rfl rfl rfl, ⟨HC.out, (nxw (hn 21 (by decide))).symm⟩⟩
          refine Reg.steps_cons (i := 4) ?_ ?_
          · rintro bb aa ww ⟨gE, v1, gX, v2, v3, Wc, ha, HW⟩ hb hd hn
            have e30 : aa.tmps[30]? = some (.pointer (some ⟨R, 0, none⟩)) := by rw [ha]; exact Reg.fill_on 3 rfl rfl (hd 3 (by decide)) rfl
            have HA := Lib.hid ha; clear ha; refine ⟨_, rfl, fun K hK => ?_⟩
            obtain rfl : ww = Wc := HW.2.trans (nxw (hn 21 (by decide))); have HC := Lib.hid HW.1; clear HW
            refine Reg.do_val rfl rfl (v := .pointer (some ⟨R, 0, none⟩)) (w1 := ww) ?_ ?_
            · simp only [List.getElem_toArray, List.getElem_cons_succ, List.getElem_cons_zero, execOp, Reg.eval_tmp e30]
              go_simp
            exact hK.out _ _ ⟨gE, v1, gX, v2, v3, ww, by rw [HA.out]; exact Reg.fill_up 4 hb rfl rfl rfl, ⟨HC.out, (nxw (hn 21 (by decide))).symm⟩⟩
          refine Reg.steps_cons (i := 5) ?_ ?_
          · rintro bb aa ww ⟨gE, v1, gX, v2, v3, Wc, ha, HW⟩ hb hd hn
            have e31 : aa.tmps[31]? = some (.pointer (some ⟨R, 0, none⟩)) := by rw [ha]; exact Reg.fill_on 4 rfl rfl (hd 4 (by decide)) rfl
            have HA := Lib.hid ha; clear ha; refine ⟨_, rfl, fun K hK => ?_⟩
            obtain rfl : ww = Wc := HW.2.trans (nxw (hn 21 (by decide))); have HC := Lib.hid HW.1; clear HW
            have y0 := (row_cells (row_after HC.out.be HRW.out)).1 0
            refine Reg.do_val rfl rfl (v := .slice none 0 0) (w1 := ww) ?_ ?_
            · simp only [List.getElem_toArray, List.getElem_cons_succ, List.getElem_cons_zero, execOp, Reg.eval_tmp e31]
              go_simp
            exact hK.out _ _ ⟨gE, v1, gX, v2, v3, ww, by rw [HA.out]; exact Reg.fill_up 5 hb rfl rfl rfl, ⟨HC.out, (nxw (hn 21 (by decide))).symm⟩⟩
          refine Reg.steps_cons (i := 6) ?_ ?_
          · rintro bb aa ww ⟨gE, v1, gX, v2, v3, Wc, ha, HW⟩ hb hd hn
            have e4 : aa.tmps[4]? = some (.int .i64 0) := by rw [ha]; exact (Reg.fill_off rfl).trans rfl
            have HA := Lib.hid ha; clear ha; refine ⟨_, rfl, fun K hK => ?_⟩
            obtain rfl : ww = Wc := HW.2.trans (nxw (hn 21 (by decide))); have HC := Lib.hid HW.1; clear HW
            refine Reg.do_val rfl rfl (v := .int .i64 0) (w1 := ww) (by simp only [List.getElem_toArray, List.getElem_cons_succ, List.getElem_cons_zero, execOp, Reg.eval_tmp e4]; rfl) ?_
            exact hK.out _ _ ⟨gE, v1, gX, v2, v3, ww, by rw [HA.out]; exact Reg.fill_up 6 hb rfl rfl rfl, ⟨HC.out, (nxw (hn 21 (by decide))).symm⟩⟩
          refine Reg.steps_cons (i := 7) ?_ ?_
          · rintro bb aa ww ⟨gE, v1, gX, v2, v3, Wc, ha, HW⟩ hb hd hn
            have e32 : aa.tmps[32]? = some (.slice none 0 0) := by rw [ha]; exact Reg.fill_on 5 rfl rfl (hd 5 (by decide)) rfl
            have e33 : aa.tmps[33]? = some (.int .i64 0) := by rw [ha]; exact Reg.fill_on 6 rfl rfl (hd 6 (by decide)) rfl
            have HA := Lib.hid ha; clear ha; refine ⟨_, rfl, fun K hK => ?_⟩
            obtain rfl : ww = Wc := HW.2.trans (nxw (hn 21 (by decide))); have HC := Lib.hid HW.1; clear HW
            refine Reg.do_val rfl rfl (v := .slice none 0 0) (w1 := ww) ?_ ?_
            · simp only [List.getElem_toArray, List.getElem_cons_succ, List.getElem_cons_zero, execOp, Reg.eval_tmp e32]
              go_simp
            exact hK.out _ _ ⟨gE, v1, gX, v2, v3, ww, by rw [HA.out]; exact Reg.fill_up 7 hb rfl rfl rfl, ⟨HC.out, (nxw (hn 21 (by decide))).symm⟩⟩
          refine Reg.steps_cons (i := 8) ?_ ?_
          · rintro bb aa ww ⟨gE, v1, gX, v2, v3, Wc, ha, HW⟩ hb hd hn
            have e28 : aa.tmps[28]? = some (.slice (some ⟨gE, 0, none⟩) 0 0) := by rw [ha]; exact Reg.fill_on 1 rfl rfl (hd 1 (by decide)) rfl
            have e34 : aa.tmps[34]? = some (.slice none 0 0) := by rw [ha]; exact Reg.fill_on 7 rfl rfl (hd 7 (by decide)) rfl
            have HA := Lib.hid ha; clear ha; refine ⟨_, rfl, fun K hK => ?_⟩
            obtain rfl : ww = Wc := HW.2.trans (nxw (hn 21 (by decide))); have HC := Lib.hid HW.1; clear HW
            obtain ⟨v1', w3, hrun, hch⟩ := HC.out.ap1 elI (hd 1 (by decide)) hb (hn 11 (by decide)) (hn 18 (by decide)) (HS1.out ww HC.out.be) HZ1.out HLK.out
            refine Reg.do_append rfl rfl rfl (Reg.eval_tmp e28) (Reg.eval_tmp e34) hrun ?_
            exact hK.out _ _ ⟨gE, v1', gX, v2, v3, w3, by rw [HA.out]; exact Reg.fill_up 8 hb rfl rfl rfl, ⟨hch, (nxw (hn 21 (by decide))).symm⟩⟩
          refine Reg.steps_cons (i := 9) ?_ ?_
          · rintro bb aa ww ⟨gE, v1, gX, v2, v3, Wc, ha, HW⟩ hb hd hn
            have e3 : aa.tmps[3]? = some (.pointer (some ⟨gT, 0, none⟩)) := by rw [ha]; exact (Reg.fill_off rfl).trans rfl
            have HA := Lib.hid ha; clear ha; refine ⟨_, rfl, fun K hK => ?_⟩
            obtain rfl : ww = Wc := HW.2.trans (nxw (hn 21 (by decide))); have HC := Lib.hid HW.1; clear HW
            refine Reg.do_load rfl rfl 68 _ rfl gT (Reg.eval_tmp e3) (row_after HC.out.be HT.out) Tryz.underlying68 rfl (by kernel_rfl) ?_
            exact hK.out _ _ ⟨gE, v1, gX, v2, v3, ww, by rw [HA.out]; exact Reg.fill_up 9 hb rfl rfl rfl, ⟨HC.out, (nxw (hn 21 (by decide))).symm⟩⟩
          refine Reg.steps_cons (i := 10) ?_ ?_
          · rintro bb aa ww ⟨gE, v1, gX, v2, v3, Wc, ha, HW⟩ hb hd hn
            have e36 : aa.tmps[36]? = some (.agg #[.string x.id, .string x.par, .int .i64 x.bx.x0, .int .i64 x.bx.y0, .int .i64 x.bx.z0, .int .i64 x.bx.x1, .int .i64 x.bx.y1, .int .i64 x.bx.z1, .int .i64 x.st, .string x.stone]) := by rw [ha]; exact Reg.fill_on 9 rfl rfl (hd 9 (by decide)) rfl
            have HA := Lib.hid ha; clear ha; refine ⟨_, rfl, fun K hK => ?_⟩
            obtain rfl : ww = Wc := HW.2.trans (nxw (hn 21 (by decide))); have HC := Lib.hid HW.1; clear HW
            refine Reg.do_val rfl rfl (v := .slice (some ⟨ww.heap.size, 0, none⟩) 1 1) (w1 := ww.alloc (.cells #[.string x.id, .string x.par, .int .i64 x.bx.x0, .int .i64 x.bx.y0, .int .i64 x.bx.z0, .int .i64 x.bx.x1, .int .i64 x.bx.y1, .int .i64 x.bx.z1, .int .i64 x.st, .string x.stone] 68)) ?_ ?_
            · simp only [List.getElem_toArray, List.getElem_cons_succ, List.getElem_cons_zero, execOp]
              go_simp
            exact hK.out _ _ ⟨gE, v1, ww.heap.size, v2, v3, (ww.alloc (.cells #[.string x.id, .string x.par, .int .i64 x.bx.x0, .int .i64 x.bx.y0, .int .i64 x.bx.z0, .int .i64 x.bx.x1, .int .i64 x.bx.y1, .int .i64 x.bx.z1, .int .i64 x.st, .string x.stone] 68)), by rw [HA.out]; exact Reg.fill_up 10 hb rfl rfl rfl, ⟨HC.out.aX (hn 11 (by decide)) (hn 18 (by decide)), (nxw (hn 21 (by decide))).symm⟩⟩
          refine Reg.steps_cons (i := 11) ?_ ?_
          · rintro bb aa ww ⟨gE, v1, gX, v2, v3, Wc, ha, HW⟩ hb hd hn
            have e35 : aa.tmps[35]? = some (v1) := by rw [ha]; exact Reg.fill_on 8 rfl rfl (hd 8 (by decide)) rfl
            have e37 : aa.tmps[37]? = some (.slice (some ⟨gX, 0, none⟩) 1 1) := by rw [ha]; exact Reg.fill_on 10 rfl rfl (hd 10 (by decide)) rfl
            have HA := Lib.hid ha; clear ha; refine ⟨_, rfl, fun K hK => ?_⟩
            obtain rfl : ww = Wc := HW.2.trans (nxw (hn 21 (by decide))); have HC := Lib.hid HW.1; clear HW
            obtain ⟨v2', w3, hrun, hch⟩ := HC.out.ap2 elI (hd 8 (by decide)) (hd 10 (by decide)) hb (hn 18 (by decide)) (one_itR x) ⟨rfl, rfl, rfl⟩ HLK1.out
            refine Reg.do_append rfl rfl rfl (Reg.eval_tmp e35) (Reg.eval_tmp e37) hrun ?_
            exact hK.out _ _ ⟨gE, v1, gX, v2', v3, w3, by rw [HA.out]; exact Reg.fill_up 11 hb rfl rfl rfl, ⟨hch, (nxw (hn 21 (by decide))).symm⟩⟩
          refine Reg.steps_cons (i := 12) ?_ ?_
          · rintro bb aa ww ⟨gE, v1, gX, v2, v3, Wc, ha, HW⟩ hb hd hn
            have e0 : aa.tmps[0]? = some (.pointer (some ⟨R, 0, none⟩)) := by rw [ha]; exact (Reg.fill_off rfl).trans rfl
            have HA := Lib.hid ha; clear ha; refine ⟨_, rfl, fun K hK => ?_⟩
            obtain rfl : ww = Wc := HW.2.trans (nxw (hn 21 (by decide))); have HC := Lib.hid HW.1; clear HW
            refine Reg.do_val rfl rfl (v := .pointer (some ⟨R, 0, none⟩)) (w1 := ww) (by simp only [List.getElem_toArray, List.getElem_cons_succ, List.getElem_cons_zero, execOp, Reg.eval_tmp e0]; rfl) ?_
            exact hK.out _ _ ⟨gE, v1, gX, v2, v3, ww, by rw [HA.out]; exact Reg.fill_up 12 hb rfl rfl rfl, ⟨HC.out, (nxw (hn 21 (by decide))).symm⟩⟩
          refine Reg.steps_cons (i := 13) ?_ ?_
          · rintro bb aa ww ⟨gE, v1, gX, v2, v3, Wc, ha, HW⟩ hb hd hn
            have e39 : aa.tmps[39]? = some (.pointer (some ⟨R, 0, none⟩)) := by rw [ha]; exact Reg.fill_on 12 rfl rfl (hd 12 (by decide)) rfl
            have HA := Lib.hid ha; clear ha; refine ⟨_, rfl, fun K hK => ?_⟩
            obtain rfl : ww = Wc := HW.2.trans (nxw (hn 21 (by decide))); have HC := Lib.hid HW.1; clear HW
            refine Reg.do_val rfl rfl (v := .pointer (some ⟨R, 0, none⟩)) (w1 := ww) ?_ ?_
            · simp only [List.getElem_toArray, List.getElem_cons_succ, List.getElem_cons_zero, execOp, Reg.eval_tmp e39]
              go_simp
            exact hK.out _ _ ⟨gE, v1, gX, v2, v3, ww, by rw [HA.out]; exact Reg.fill_up 13 hb rfl rfl rfl, ⟨HC.out, (nxw (hn 21 (by decide))).symm⟩⟩
          refine Reg.steps_cons (i := 14) ?_ ?_
          · rintro bb aa ww ⟨gE, v1, gX, v2, v3, Wc, ha, HW⟩ hb hd hn
            have e40 : aa.tmps[40]? = some (.pointer (some ⟨R, 0, none⟩)) := by rw [ha]; exact Reg.fill_on 13 rfl rfl (hd 13 (by decide)) rfl
            have HA := Lib.hid ha; clear ha; refine ⟨_, rfl, fun K hK => ?_⟩
            obtain rfl : ww = Wc := HW.2.trans (nxw (hn 21 (by decide))); have HC := Lib.hid HW.1; clear HW
            refine Reg.do_val rfl rfl (v := .pointer (some ⟨R, 0, none⟩)) (w1 := ww) ?_ ?_
            · simp only [List.getElem_toArray, List.getElem_cons_succ, List.getElem_cons_zero, execOp, Reg.eval_tmp e40]
              go_simp
            exact hK.out _ _ ⟨gE, v1, gX, v2, v3, ww, by rw [HA.out]; exact Reg.fill_up 14 hb rfl rfl rfl, ⟨HC.out, (nxw (hn 21 (by decide))).symm⟩⟩
          refine Reg.steps_cons (i := 15) ?_ ?_
          · rintro bb aa ww ⟨gE, v1, gX, v2, v3, Wc, ha, HW⟩ hb hd hn
            have e41 : aa.tmps[41]? = some (.pointer (some ⟨R, 0, none⟩)) := by rw [ha]; exact Reg.fill_on 14 rfl rfl (hd 14 (by decide)) rfl
            have HA := Lib.hid ha; clear ha; refine ⟨_, rfl, fun K hK => ?_⟩
            obtain rfl : ww = Wc := HW.2.trans (nxw (hn 21 (by decide))); have HC := Lib.hid HW.1; clear HW
            have y0 := (row_cells (row_after HC.out.be HRW.out)).1 0
            refine Reg.do_val rfl rfl (v := .slice none 0 0) (w1 := ww) ?_ ?_
            · simp only [List.getElem_toArray, List.getElem_cons_succ, List.getElem_cons_zero, execOp, Reg.eval_tmp e41]
              go_simp
            exact hK.out _ _ ⟨gE, v1, gX, v2, v3, ww, by rw [HA.out]; exact Reg.fill_up 15 hb rfl rfl rfl, ⟨HC.out, (nxw (hn 21 (by decide))).symm⟩⟩
          refine Reg.steps_cons (i := 16) ?_ ?_
          · rintro bb aa ww ⟨gE, v1, gX, v2, v3, Wc, ha, HW⟩ hb hd hn
            have e4 : aa.tmps[4]? = some (.int .i64 0) := by rw [ha]; exact (Reg.fill_off rfl).trans rfl
            have HA := Lib.hid ha; clear ha; refine ⟨_, rfl, fun K hK => ?_⟩
            obtain rfl : ww = Wc := HW.2.trans (nxw (hn 21 (by decide))); have HC := Lib.hid HW.1; clear HW
            refine Reg.do_val rfl rfl (v := .int .i64 0) (w1 := ww) (by simp only [List.getElem_toArray, List.getElem_cons_succ, List.getElem_cons_zero, execOp, Reg.eval_tmp e4]; rfl) ?_
            exact hK.out _ _ ⟨gE, v1, gX, v2, v3, ww, by rw [HA.out]; exact Reg.fill_up 16 hb rfl rfl rfl, ⟨HC.out, (nxw (hn 21 (by decide))).symm⟩⟩
          refine Reg.steps_cons (i := 17) ?_ ?_
          · rintro bb aa ww ⟨gE, v1, gX, v2, v3, Wc, ha, HW⟩ hb hd hn
            have e42 : aa.tmps[42]? = some (.slice none 0 0) := by rw [ha]; exact Reg.fill_on 15 rfl rfl (hd 15 (by decide)) rfl
            have e43 : aa.tmps[43]? = some (.int .i64 0) := by rw [ha]; exact Reg.fill_on 16 rfl rfl (hd 16 (by decide)) rfl
            have HA := Lib.hid ha; clear ha; refine ⟨_, rfl, fun K hK => ?_⟩
            obtain rfl : ww = Wc := HW.2.trans (nxw (hn 21 (by decide))); have HC := Lib.hid HW.1; clear HW
            refine Reg.do_val rfl rfl (v := .slice none 0 0) (w1 := ww) ?_ ?_
            · simp only [List.getElem_toArray, List.getElem_cons_succ, List.getElem_cons_zero, execOp, Reg.eval_tmp e42]
              go_simp
            exact hK.out _ _ ⟨gE, v1, gX, v2, v3, ww, by rw [HA.out]; exact Reg.fill_up 17 hb rfl rfl rfl, ⟨HC.out, (nxw (hn 21 (by decide))).symm⟩⟩
          refine Reg.steps_cons (i := 18) ?_ ?_
          · rintro bb aa ww ⟨gE, v1, gX, v2, v3, Wc, ha, HW⟩ hb hd hn
            have e38 : aa.tmps[38]? = some (v2) := by rw [ha]; exact Reg.fill_on 11 rfl rfl (hd 11 (by decide)) rfl
            have e44 : aa.tmps[44]? = some (.slice none 0 0) := by rw [ha]; exact Reg.fill_on 17 rfl rfl (hd 17 (by decide)) rfl
            have HA := Lib.hid ha; clear ha; refine ⟨_, rfl, fun K hK => ?_⟩
            obtain rfl : ww = Wc := HW.2.trans (nxw (hn 21 (by decide))); have HC := Lib.hid HW.1; clear HW
            obtain ⟨v3', w3, hrun, hch⟩ := HC.out.ap3 elI (hd 8 (by decide)) (hd 11 (by decide)) hb (HS2.out ww HC.out.be) ⟨HZ2.out, rfl, rfl⟩ HLK2.out
            refine Reg.do_append rfl rfl rfl (Reg.eval_tmp e38) (Reg.eval_tmp e44) hrun ?_
            exact hK.out _ _ ⟨gE, v1, gX, v2, v3', w3, by rw [HA.out]; exact Reg.fill_up 18 hb rfl rfl rfl, ⟨hch, (nxw (hn 21 (by decide))).symm⟩⟩
          refine Reg.steps_cons (i := 19) ?_ ?_
          · rintro bb aa ww ⟨gE, v1, gX, v2, v3, Wc, ha, HW⟩ hb hd hn
            have e27 : aa.tmps[27]? = some (.pointer (some ⟨R, 0, none⟩)) := by rw [ha]; exact Reg.fill_on 0 rfl rfl (hd 0 (by decide)) rfl
            have HA := Lib.hid ha; clear ha; refine ⟨_, rfl, fun K hK => ?_⟩
            obtain rfl : ww = Wc := HW.2.trans (nxw (hn 21 (by decide))); have HC := Lib.hid HW.1; clear HW
            refine Reg.do_val rfl rfl (v := .pointer (some ⟨R, 0, none⟩)) (w1 := ww) ?_ ?_
            · simp only [List.getElem_toArray, List.getElem_cons_succ, List.getElem_cons_zero, execOp, Reg.eval_tmp e27]
              go_simp
            exact hK.out _ _ ⟨gE, v1, gX, v2, v3, ww, by rw [HA.out]; exact Reg.fill_up 19 hb rfl rfl rfl, ⟨HC.out, (nxw (hn 21 (by decide))).symm⟩⟩
          refine Reg.steps_cons (i := 20) ?_ ?_
          · rintro bb aa ww ⟨gE, v1, gX, v2, v3, Wc, ha, HW⟩ hb hd hn
            have e46 : aa.tmps[46]? = some (.pointer (some ⟨R, 0, none⟩)) := by rw [ha]; exact Reg.fill_on 19 rfl rfl (hd 19 (by decide)) rfl
            have HA := Lib.hid ha; clear ha; refine ⟨_, rfl, fun K hK => ?_⟩
            obtain rfl : ww = Wc := HW.2.trans (nxw (hn 21 (by decide))); have HC := Lib.hid HW.1; clear HW
            refine Reg.do_val rfl rfl (v := .pointer (some ⟨R, 0, none⟩)) (w1 := ww) ?_ ?_
            · simp only [List.getElem_toArray, List.getElem_cons_succ, List.getElem_cons_zero, execOp, Reg.eval_tmp e46]
              go_simp
            exact hK.out _ _ ⟨gE, v1, gX, v2, v3, ww, by rw [HA.out]; exact Reg.fill_up 20 hb rfl rfl rfl, ⟨HC.out, (nxw (hn 21 (by decide))).symm⟩⟩
          refine Reg.steps_cons (i := 21) ?_ ?_
          · rintro bb aa ww ⟨gE, v1, gX, v2, v3, Wc, ha, HW⟩ hb hd hn
            have e47 : aa.tmps[47]? = some (.pointer (some ⟨R, 0, none⟩)) := by rw [ha]; exact Reg.fill_on 20 rfl rfl (hd 20 (by decide)) rfl
            have e45 : aa.tmps[45]? = some (v3) := by rw [ha]; exact Reg.fill_on 18 rfl rfl (hd 18 (by decide)) rfl
            have HA := Lib.hid ha; clear ha; refine ⟨_, rfl, fun K hK => ?_⟩
            obtain rfl : ww = Wc := HW.2.trans (nxw hb); have HC := Lib.hid HW.1; clear HW
            have y0 := (row_cells (row_after HC.out.be HRW.out)).1 0
            have y0f := (row_cells (row_after HC.out.be HRW.out)).2 0
            refine Reg.do_skip rfl rfl (w1 := ww.setCell ⟨R, 0, none⟩ v3) ?_ ?_
            · simp only [List.getElem_toArray, List.getElem_cons_succ, List.getElem_cons_zero, execOp, Reg.eval_tmp e47, Reg.eval_tmp e45]
              obtain ⟨A3, c3, rfl⟩ := own_sliceR (HC.out.r3 (hd 18 (by decide)))
              go_simp
            exact hK.out _ _ ⟨gE, v1, gX, v2, v3, ww, by rw [HA.out]; exact Reg.fill_none rfl, ⟨HC.out, (if_pos (show Reg.up bb 21 21 = true from rfl)).symm⟩⟩
          exact trivial
        rintro bb aa W8 hall ⟨gE, v1, gX, v2, v3, Wc, ha, HW⟩
        have hbe := HW.1.be
        have hown := HW.1.r3 (hall 18 (by decide))
        have hw8 := HW.2
        rw [hall 21 (by decide), if_pos rfl] at hw8
        clear HW
        have hb0 := hall 0 (by decide)
        have hb1 := hall 1 (by decide)
        have hb2 := hall 2 (by decide)
        have hb3 := hall 3 (by decide)
        have hb4 := hall 4 (by decide)
        have hb5 := hall 5 (by decide)
        have hb6 := hall 6 (by decide)
        have hb7 := hall 7 (by decide)
        have hb8 := hall 8 (by decide)
        have hb9 := hall 9 (by decide)
        have hb10 := hall 10 (by decide)
        have hb11 := hall 11 (by decide)
        have hb12 := hall 12 (by decide)
        have hb13 := hall 13 (by decide)
        have hb14 := hall 14 (by decide)
        have hb15 := hall 15 (by decide)
        have hb16 := hall 16 (by decide)
        have hb17 := hall 17 (by decide)
        have hb18 := hall 18 (by decide)
        have hb19 := hall 19 (by decide)
        have hb20 := hall 20 (by decide)
        have hb21 := hall 21 (by decide)
        simp only [Reg.fill, hb0, hb1, hb2, hb3, hb4, hb5, hb6, hb7, hb8, hb9, hb10, hb11, hb12, hb13, hb14, hb15, hb16, hb17, hb18, hb19, hb20, if_true, Act.put, List.setIfInBounds_toArray, List.set_cons_zero, List.set_cons_succ] at ha
        clear hb0 hb1 hb2 hb3 hb4 hb5 hb6 hb7 hb8 hb9 hb10 hb11 hb12 hb13 hb14 hb15 hb16 hb17 hb18 hb19 hb20 hb21 hall
        subst ha
        go_wp2_with fail
        go_end0
        have hfl : ([] : List It).flatMap itL ++ itL x ++ ([] : List It).flatMap itL = ([x] : List It).flatMap itL := by simp
        rw [hfl] at hown
        exact ⟨rfl, by rw [hw8, HINS.out]; exact rat_store HRA.out hbe HR0.out hown (rfl) (by omega), by rw [hw8]; exact ((Stay.of_below HB.out).trans (Stay.of_below hbe)).trans (stay_cell _ _ _ _)⟩
      · obtain ⟨g, rfl, hg, hgR, hcl⟩ := HC4.out h0
        have HCL := Lib.hid hcl
        have HG := Lib.hid hg
        clear hcl
        go_wp2_with fail
        go_quiet (fail)
        go_wp2_with fail
        clear y0 t0
        have HB := Lib.hid (below_drewN HB.out nq)
        have HT := Lib.hid (row_after (below_drewN (Below.refl _ _) nq) HT.out)
        generalize wr.drewN nq = wq at *
        have HRW := Lib.hid (row_after HB.out HRW0.out)
        have HR0 := HB
        generalize hgt : W.heap.size = gT at HT ⊢
        have HCL := Lib.hid fun i u hi => (HB.out.cell (p := ⟨g, i, none⟩) HG.out).trans (HCL.out i u hi)
        have HG := Lib.hid (show g < wq.heap.size by have := HB.out.size; have := HG.out; omega)
        obtain ⟨P2, hp2⟩ : ∃ P2 : Nat, (c = s.length ∧ P2 = 0) ∨ (¬ c = s.length ∧ P2 = s.length * 10) := by
          by_cases hck : c = s.length
          · exact ⟨0, .inl ⟨hck, rfl⟩⟩
          · exact ⟨_, .inr ⟨hck, rfl⟩⟩
        have HP2 := Lib.hid hp2
        clear hp2
        have HS1 : Hid (∀ ww, Below wq.heap.size wq ww → Src ww (.slice (some ⟨g, 0, none⟩) s.length c) s.length (s.flatMap itL)) := Lib.hid fun ww hb => src_all (fun i u hi => (hb.cell (p := ⟨g, _, none⟩) HG.out).trans (HCL.out i u hi))
        have HS2 : Hid (∀ ww, Below wq.heap.size wq ww → Src ww (.slice (some ⟨g, P2, none⟩) 0 (c - s.length)) 0 (([] : List It).flatMap itL)) := Lib.hid fun ww hb => .inr ⟨_, _, rfl, fun j x hj => by simp at hj⟩
        have HLK : Hid (s.length ≤ 100000) := Lib.hid (by omega)
        have HLK1 : Hid (s.length + 1 ≤ 100000) := Lib.hid (by omega)
        have HLK2 : Hid (s.length + 1 + 0 ≤ 100000) := Lib.hid (by omega)
        have HZ1 : Hid ((s.flatMap itL).length = s.length * 10 ∧ ∀ y ∈ s.flatMap itL, y.oneCell' = true) := Lib.hid ⟨flat_lenR _, flat_one _⟩
        have HZ2 : Hid ((([] : List It).flatMap itL).length = 0 * 10 ∧ ∀ y ∈ ([] : List It).flatMap itL, y.oneCell' = true) := Lib.hid ⟨rfl, flat_one _⟩
        refine Reg.region_inv [[], [], [], [2], [3], [4], [], [5, 6], [1, 7], [], [9], [8, 10], [], [12], [13], [14], [], [15, 16], [11, 17], [0, 1, 2, 3, 4, 5, 6, 7, 8, 9, 10, 11, 12, 13, 14, 15, 16, 17, 18], [0, 1, 2, 3, 4, 5, 6, 7, 8, 9, 10, 11, 12, 13, 14, 15, 16, 17, 18, 19], [0, 1, 2, 3, 4, 5, 6, 7, 8, 9, 10, 11, 12, 13, 14, 15, 16, 17, 18, 20]] [[], [], [], [2], [2, 3], [2, 3, 4], [], [2, 3, 4, 5, 6], [1, 2, 3, 4, 5, 6, 7], [], [9], [1, 2, 3, 4, 5, 6, 7, 8, 9, 10], [], [12], [12, 13], [12, 13, 14], [], [12, 13, 14, 15, 16], [1, 2, 3, 4, 5, 6, 7, 8, 9, 10, 11, 12, 13, 14, 15, 16, 17], [0, 1, 2, 3, 4, 5, 6, 7, 8, 9, 10, 11, 12, 13, 14, 15, 16, 17, 18], [0, 1, 2, 3, 4, 5, 6, 7, 8, 9, 10, 11, 12, 13, 14, 15, 16, 17, 18, 19], [0, 1, 2, 3, 4, 5, 6, 7, 8, 9, 10, 11, 12, 13, 14, 15, 16, 17, 18, 19, 20]] (fun a0_ bb aa ww => ∃ (gE : Nat) (v1 : Value) (gX : Nat) (v2 : Value) (v3 : Value) (Wc : World), aa = Reg.fill bb [(0, 27, .pointer (some ⟨R, 0, none⟩)), (1, 28, .slice (some ⟨gE, 0, none⟩) 0 0), (2, 29, .pointer (some ⟨R, 0, none⟩)), (3, 30, .pointer (some ⟨R, 0, none⟩)), (4, 31, .pointer (some ⟨R, 0, none⟩)), (5, 32, .slice (some ⟨g, 0, none⟩) s.length c), (6, 33, .int .i64 (s.length : Int)), (7, 34, .slice (some ⟨g, 0, none⟩) s.length c), (8, 35, v1), (9, 36, .agg #[.string x.id, .string x.par, .int .i64 x.bx.x0, .int .i64 x.bx.y0, .int .i64 x.bx.z0, .int .i64 x.bx.x1, .int .i64 x.bx.y1, .int .i64 x.bx.z1, .int .i64 x.st, .string x.stone]), (10, 37, .slice (some ⟨gX, 0, none⟩) 1 1), (11, 38, v2), (12, 39, .pointer (some ⟨R, 0, none⟩)), (13, 40, .pointer (some ⟨R, 0, none⟩)), (14, 41, .pointer (some ⟨R, 0, none⟩)), (15, 42, .slice (some ⟨g, 0, none⟩) s.length c), (16, 43, .int .i64 (s.length : Int)), (17, 44, .slice (some ⟨g, P2, none⟩) 0 (c - s.length)), (18, 45, v3), (19, 46, .pointer (some ⟨R, 0, none⟩)), (20, 47, .pointer (some ⟨R, 0, none⟩))] a0_ ∧ CH 68 10 wq (s.flatMap itL) (s.flatMap itL ++ itL x) (s.flatMap itL ++ itL x ++ ([] : List It).flatMap itL) s.length (s.length + 1) (s.length + 1 + 0) #[.string x.id, .string x.par, .int .i64 x.bx.x0, .int .i64 x.bx.y0, .int .i64 x.bx.z0, .int .i64 x.bx.x1, .int .i64 x.bx.y1, .int .i64 x.bx.z1, .int .i64 x.st, .string x.stone] (bb 1) (bb 8) (bb 10) (bb 11) (bb 18) gE v1 gX v2 v3 Wc ∧ ww = (if bb 21 = true then Wc.setCell ⟨R, 0, none⟩ v3 else Wc)) (by kernel_rfl) (by kernel_rfl) (by kernel_rfl) ?_ ?_ ?_
        · exact ⟨0, .nilIface, 0, .nilIface, .nilIface, wq.drew, Reg.fill_start.symm, CH.start, rfl⟩
        · refine Reg.steps_cons (i := 0) ?_ ?_
          · rintro bb aa ww ⟨gE, v1, gX, v2, v3, Wc, ha, HW⟩ hb hd hn
            have e0 : aa.tmps[0]? = some (.pointer (some ⟨R, 0, none⟩)) := by rw [ha]; exact (Reg.fill_off rfl).trans rfl
            have HA := Lib.hid ha; clear ha; refine ⟨_, rfl, fun K hK => ?_⟩
            obtain rfl : ww = Wc := HW.2.trans (nxw (hn 21 (by decide))); have HC := Lib.hid HW.1; clear HW
            refine Reg.do_val rfl rfl (v := .pointer (some ⟨R, 0, none⟩)) (w1 := ww) (by simp only [List.getElem_toArray, List.getElem_cons_zero, execOp, Reg.eval_tmp e0]; rfl) ?_
            exact hK.out _ _ ⟨gE, v1, gX, v2, v3, ww, by rw [HA.out]; exact Reg.fill_up 0 hb rfl rfl rfl, ⟨HC.out, (nxw (hn 21 (by decide))).symm⟩⟩
          refine Reg.steps_cons (i := 1) ?_ ?_
          · rintro bb aa ww ⟨gE, v1, gX, v2, v3, Wc, ha, HW⟩ hb hd hn
            have HA := Lib.hid ha; clear ha; refine ⟨_, rfl, fun K hK => ?_⟩
            obtain rfl : ww = Wc := HW.2.trans (nxw (hn 21 (by decide))); have HC := Lib.hid HW.1; clear HW
            refine Reg.do_val rfl rfl (v := .slice (some ⟨ww.heap.size, 0, none⟩) 0 0) (w1 := ww.alloc (.cells #[] 68)) ?_ ?_
            · simp only [List.getElem_toArray, List.getElem_cons_succ, List.getElem_cons_zero, execOp]
              go_simp
            exact hK.out _ _ ⟨ww.heap.size, v1, gX, v2, v3, (ww.alloc (.cells #[] 68)), by rw [HA.out]; exact Reg.fill_up 1 hb rfl rfl rfl, ⟨HC.out.aE (hn 8 (by decide)) (hn 11 (by decide)) (hn 18 (by decide)), (nxw (hn 21 (by decide))).symm⟩⟩
          refine Reg.steps_cons (i := 2) ?_ ?_
          · rintro bb aa ww ⟨gE, v1, gX, v2, v3, Wc, ha, HW⟩ hb hd hn
            have e0 : aa.tmps[0]? = some (.pointer (some ⟨R, 0, none⟩)) := by rw [ha]; exact (Reg.fill_off rfl).trans rfl
            have HA := Lib.hid ha; clear ha; refine ⟨_, rfl, fun K hK => ?_⟩
            obtain rfl : ww = Wc := HW.2.trans (nxw (hn 21 (by decide))); have HC := Lib.hid HW.1; clear HW
            refine Reg.do_val rfl rfl (v := .pointer (some ⟨R, 0, none⟩)) (w1 := ww) (by simp only [List.getElem_toArray, List.getElem_cons_succ, List.getElem_cons_zero, execOp, Reg.eval_tmp e0]; rfl) ?_
            exact hK.out _ _ ⟨gE, v1, gX, v2, v3, ww, by rw [HA.out]; exact Reg.fill_up 2 hb rfl rfl rfl, ⟨HC.out, (nxw (hn 21 (by decide))).symm⟩⟩
          refine Reg.steps_cons (i := 3) ?_ ?_
          · rintro bb aa ww ⟨gE, v1, gX, v2, v3, Wc, ha, HW⟩ hb hd hn
            have e29 : aa.tmps[29]? = some (.pointer (some ⟨R, 0, none⟩)) := by rw [ha]; exact Reg.fill_on 2 rfl rfl (hd 2 (by decide)) rfl
            have HA := Lib.hid ha; clear ha; refine ⟨_, rfl, fun K hK => ?_⟩
            obtain rfl : ww = Wc := HW.2.trans (nxw (hn 21 (by decide))); have HC := Lib.hid HW.1; clear HW
            refine Reg.do_val rfl rfl (v := .pointer (some ⟨R, 0, none⟩)) (w1 := ww) ?_ ?_
            · simp only [List.getElem_toArray, List.getElem_cons_succ, List.getElem_cons_zero, execOp, Reg.eval_tmp e29]
              go_simp
            exact hK.out _ _ ⟨gE, v1, gX, v2, v3, ww, by rw [HA.out]; exact Reg.fill_up 3 hb rfl rfl rfl, ⟨HC.out, (nxw (hn 21 (by decide))).symm⟩⟩
          refine Reg.steps_cons (i := 4) ?_ ?_
          · rintro bb aa ww ⟨gE, v1, gX, v2, v3, Wc, ha, HW⟩ hb hd hn
            have e30 : aa.tmps[30]? = some (.pointer (some ⟨R, 0, none⟩)) := by rw [ha]; exact Reg.fill_on 3 rfl rfl (hd 3 (by decide)) rfl
            have HA := Lib.hid ha; clear ha; refine ⟨_, rfl, fun K hK => ?_⟩
            obtain rfl : ww = Wc := HW.2.trans (nxw (hn 21 (by decide))); have HC := Lib.hid HW.1; clear HW
            refine Reg.do_val rfl rfl (v := .pointer (some ⟨R, 0, none⟩)) (w1 := ww) ?_ ?_
            · simp only [List.getElem_toArray, List.getElem_cons_succ, List.getElem_cons_zero, execOp, Reg.eval_tmp e30]
              go_simp
            exact hK.out _ _ ⟨gE, v1, gX, v2, v3, ww, by rw [HA.out]; exact Reg.fill_up 4 hb rfl rfl rfl, ⟨HC.out, (nxw (hn 21 (by decide))).symm⟩⟩
          refine Reg.steps_cons (i := 5) ?_ ?_
          · rintro bb aa ww ⟨gE, v1, gX, v2, v3, Wc, ha, HW⟩ hb hd hn
            have e31 : aa.tmps[31]? = some (.pointer (some ⟨R, 0, none⟩)) := by rw [ha]; exact Reg.fill_on 4 rfl rfl (hd 4 (by decide)) rfl
            have HA := Lib.hid ha; clear ha; refine ⟨_, rfl, fun K hK => ?_⟩
            obtain rfl : ww = Wc := HW.2.trans (nxw (hn 21 (by decide))); have HC := Lib.hid HW.1; clear HW
            have y0 := (row_cells (row_after HC.out.be HRW.out)).1 0
            refine Reg.do_val rfl rfl (v := .slice (some ⟨g, 0, none⟩) s.length c) (w1 := ww) ?_ ?_
            · simp only [List.getElem_toArray, List.getElem_cons_succ, List.getElem_cons_zero, execOp, Reg.eval_tmp e31]
              go_simp
            exact hK.out _ _ ⟨gE, v1, gX, v2, v3, ww, by rw [HA.out]; exact Reg.fill_up 5 hb rfl rfl rfl, ⟨HC.out, (nxw (hn 21 (by decide))).symm⟩⟩
          refine Reg.steps_cons (i := 6) ?_ ?_
          · rintro bb aa ww ⟨gE, v1, gX, v2, v3, Wc, ha, HW⟩ hb hd hn
            have e4 : aa.tmps[4]? = some (.int .i64 (s.length : Int)) := by rw [ha]; exact (Reg.fill_off rfl).trans rfl
            have HA := Lib.hid ha; clear ha; refine ⟨_, rfl, fun K hK => ?_⟩
            obtain rfl : ww = Wc := HW.2.trans (nxw (hn 21 (by decide))); have HC := Lib.hid HW.1; clear HW
            refine Reg.do_val rfl rfl (v := .int .i64 (s.length : Int)) (w1 := ww) (by simp only [List.getElem_toArray, List.getElem_cons_succ, List.getElem_cons_zero, execOp, Reg.eval_tmp e4]; rfl) ?_
            exact hK.out _ _ ⟨gE, v1, gX, v2, v3, ww, by rw [HA.out]; exact Reg.fill_up 6 hb rfl rfl rfl, ⟨HC.out, (nxw (hn 21 (by decide))).symm⟩⟩
          refine Reg.steps_cons (i := 7) ?_ ?_
          · rintro bb aa ww ⟨gE, v1, gX, v2, v3, Wc, ha, HW⟩ hb hd hn
            have e32 : aa.tmps[32]? = some (.slice (some ⟨g, 0, none⟩) s.length c) := by rw [ha]; exact Reg.fill_on 5 rfl rfl (hd 5 (by decide)) rfl
            have e33 : aa.tmps[33]? = some (.int .i64 (s.length : Int)) := by rw [ha]; exact Reg.fill_on 6 rfl rfl (hd 6 (by decide)) rfl
            have HA := Lib.hid ha; clear ha; refine ⟨_, rfl, fun K hK => ?_⟩
            obtain rfl : ww = Wc := HW.2.trans (nxw (hn 21 (by decide))); have HC := Lib.hid HW.1; clear HW
            refine Reg.do_val rfl rfl (v := .slice (some ⟨g, 0, none⟩) s.length c) (w1 := ww) ?_ ?_
            · simp only [List.getElem_toArray, List.getElem_cons_succ, List.getElem_cons_zero, execOp, Reg.eval_tmp e32]
              go_simp
            exact hK.out _ _ ⟨gE, v1, gX, v2, v3, ww, by rw [HA.out]; exact Reg.fill_up 7 hb rfl rfl rfl, ⟨HC.out, (nxw (hn 21 (by decide))).symm⟩⟩
          refine Reg.steps_cons (i := 8) ?_ ?_
          · rintro bb aa ww ⟨gE, v1, gX, v2, v3, Wc, ha, HW⟩ hb hd hn
            have e28 : aa.tmps[28]? = some (.slice (some ⟨gE, 0, none⟩) 0 0) := by rw [ha]; exact Reg.fill_on 1 rfl rfl (hd 1 (by decide)) rfl
            have e34 : aa.tmps[34]? = some (.slice (some ⟨g, 0, none⟩) s.length c) := by rw [ha]; exact Reg.fill_on 7 rfl rfl (hd 7 (by decide)) rfl
            have HA := Lib.hid ha; clear ha; refine ⟨_, rfl, fun K hK => ?_⟩
            obtain rfl : ww = Wc := HW.2.trans (nxw (hn 21 (by decide))); have HC := Lib.hid HW.1; clear HW
            obtain ⟨v1', w3, hrun, hch⟩ := HC.out.ap1 elI (hd 1 (by decide)) hb (hn 11 (by decide)) (hn 18 (by decide)) (HS1.out ww HC.out.be) HZ1.out HLK.out
            refine Reg.do_append rfl rfl rfl (Reg.eval_tmp e28) (Reg.eval_tmp e34) hrun ?_
            exact hK.out _ _ ⟨gE, v1', gX, v2, v3, w3, by rw [HA.out]; exact Reg.fill_up 8 hb rfl rfl rfl, ⟨hch, (nxw (hn 21 (by decide))).symm⟩⟩
          refine Reg.steps_cons (i := 9) ?_ ?_
          · rintro bb aa ww ⟨gE, v1, gX, v2, v3, Wc, ha, HW⟩ hb hd hn
            have e3 : aa.tmps[3]? = some (.pointer (some ⟨gT, 0, none⟩)) := by rw [ha]; exact (Reg.fill_off rfl).trans rfl
            have HA := Lib.hid ha; clear ha; refine ⟨_, rfl, fun K hK => ?_⟩
            obtain rfl : ww = Wc := HW.2.trans (nxw (hn 21 (by decide))); have HC := Lib.hid HW.1; clear HW
            refine Reg.do_load rfl rfl 68 _ rfl gT (Reg.eval_tmp e3) (row_after HC.out.be HT.out) Tryz.underlying68 rfl (by kernel_rfl) ?_
            exact hK.out _ _ ⟨gE, v1, gX, v2, v3, ww, by rw [HA.out]; exact Reg.fill_up 9 hb rfl rfl rfl, ⟨HC.out, (nxw (hn 21 (by decide))).symm⟩⟩
          refine Reg.steps_cons (i := 10) ?_ ?_
          · rintro bb aa ww ⟨gE, v1, gX, v2, v3, Wc, ha, HW⟩ hb hd hn
            have e36 : aa.tmps[36]? = some (.agg #[.string x.id, .string x.par, .int .i64 x.bx.x0, .int .i64 x.bx.y0, .int .i64 x.bx.z0, .int .i64 x.bx.x1, .int .i64 x.bx.y1, .int .i64 x.bx.z1, .int .i64 x.st, .string x.stone]) := by rw [ha]; exact Reg.fill_on 9 rfl rfl (hd 9 (by decide)) rfl
            have HA := Lib.hid ha; clear ha; refine ⟨_, rfl, fun K hK => ?_⟩
            obtain rfl : ww = Wc := HW.2.trans (nxw (hn 21 (by decide))); have HC := Lib.hid HW.1; clear HW
            refine Reg.do_val rfl rfl (v := .slice (some ⟨ww.heap.size, 0, none⟩) 1 1) (w1 := ww.alloc (.cells #[.string x.id, .string x.par, .int .i64 x.bx.x0, .int .i64 x.bx.y0, .int .i64 x.bx.z0, .int .i64 x.bx.x1, .int .i64 x.bx.y1, .int .i64 x.bx.z1, .int .i64 x.st, .string x.stone] 68)) ?_ ?_
            · simp only [List.getElem_toArray, List.getElem_cons_succ, List.getElem_cons_zero, execOp]
              go_simp
            exact hK.out _ _ ⟨gE, v1, ww.heap.size, v2, v3, (ww.alloc (.cells #[.string x.id, .string x.par, .int .i64 x.bx.x0, .int .i64 x.bx.y0, .int .i64 x.bx.z0, .int .i64 x.bx.x1, .int .i64 x.bx.y1, .int .i64 x.bx.z1, .int .i64 x.st, .string x.stone] 68)), by rw [HA.out]; exact Reg.fill_up 10 hb rfl rfl rfl, ⟨HC.out.aX (hn 11 (by decide)) (hn 18 (by decide)), (nxw (hn 21 (by decide))).symm⟩⟩
          refine Reg.steps_cons (i := 11) ?_ ?_
          · rintro bb aa ww ⟨gE, v1, gX, v2, v3, Wc, ha, HW⟩ hb hd hn
            have e35 : aa.tmps[35]? = some (v1) := by rw [ha]; exact Reg.fill_on 8 rfl rfl (hd 8 (by decide)) rfl
            have e37 : aa.tmps[37]? = some (.slice (some ⟨gX, 0, none⟩) 1 1) := by rw [ha]; exact Reg.fill_on 10 rfl rfl (hd 10 (by decide)) rfl
            have HA := Lib.hid ha; clear ha; refine ⟨_, rfl, fun K hK => ?_⟩
            obtain rfl : ww = Wc := HW.2.trans (nxw (hn 21 (by decide))); have HC := Lib.hid HW.1; clear HW
            obtain ⟨v2', w3, hrun, hch⟩ := HC.out.ap2 elI (hd 8 (by decide)) (hd 10 (by decide)) hb (hn 18 (by decide)) (one_itR x) ⟨rfl, rfl, rfl⟩ HLK1.out
            refine Reg.do_append rfl rfl rfl (Reg.eval_tmp e35) (Reg.eval_tmp e37) hrun ?_
            exact hK.out _ _ ⟨gE, v1, gX, v2', v3, w3, by rw [HA.out]; exact Reg.fill_up 11 hb rfl rfl rfl, ⟨hch, (nxw (hn 21 (by decide))).symm⟩⟩
          refine Reg.steps_cons (i := 12) ?_ ?_
          · rintro bb aa ww ⟨gE, v1, gX, v2, v3, Wc, ha, HW⟩ hb hd hn
            have e0 : aa.tmps[0]? = some (.pointer (some ⟨R, 0, none⟩)) := by rw [ha]; exact (Reg.fill_off rfl).trans rfl
            have HA := Lib.hid ha; clear ha; refine ⟨_, rfl, fun K hK => ?_⟩
            obtain rfl : ww = Wc := HW.2.trans (nxw (hn 21 (by decide))); have HC := Lib.hid HW.1; clear HW
            refine Reg.do_val rfl rfl (v := .pointer (some ⟨R, 0, none⟩)) (w1 := ww) (by simp only [List.getElem_toArray, List.getElem_cons_succ, List.getElem_cons_zero, execOp, Reg.eval_tmp e0]; rfl) ?_
            exact hK.out _ _ ⟨gE, v1, gX, v2, v3, ww, by rw [HA.out]; exact Reg.fill_up 12 hb rfl rfl rfl, ⟨HC.out, (nxw (hn 21 (by decide))).symm⟩⟩
          refine Reg.steps_cons (i := 13) ?_ ?_
          · rintro bb aa ww ⟨gE, v1, gX, v2, v3, Wc, ha, HW⟩ hb hd hn
            have e39 : aa.tmps[39]? = some (.pointer (some ⟨R, 0, none⟩)) := by rw [ha]; exact Reg.fill_on 12 rfl rfl (hd 12 (by decide)) rfl
            have HA := Lib.hid ha; clear ha; refine ⟨_, rfl, fun K hK => ?_⟩
            obtain rfl : ww = Wc := HW.2.trans (nxw (hn 21 (by decide))); have HC := Lib.hid HW.1; clear HW
            refine Reg.do_val rfl rfl (v := .pointer (some ⟨R, 0, none⟩)) (w1 := ww) ?_ ?_
            · simp only [List.getElem_toArray, List.getElem_cons_succ, List.getElem_cons_zero, execOp, Reg.eval_tmp e39]
              go_simp
            exact hK.out _ _ ⟨gE, v1, gX, v2, v3, ww, by rw [HA.out]; exact Reg.fill_up 13 hb rfl rfl rfl, ⟨HC.out, (nxw (hn 21 (by decide))).symm⟩⟩
          refine Reg.steps_cons (i := 14) ?_ ?_
          · rintro bb aa ww ⟨gE, v1, gX, v2, v3, Wc, ha, HW⟩ hb hd hn
            have e40 : aa.tmps[40]? = some (.pointer (some ⟨R, 0, none⟩)) := by rw [ha]; exact Reg.fill_on 13 rfl rfl (hd 13 (by decide)) rfl
            have HA := Lib.hid ha; clear ha; refine ⟨_, rfl, fun K hK => ?_⟩
            obtain rfl : ww = Wc := HW.2.trans (nxw (hn 21 (by decide))); have HC := Lib.hid HW.1; clear HW
            refine Reg.do_val rfl rfl (v := .pointer (some ⟨R, 0, none⟩)) (w1 := ww) ?_ ?_
            · simp only [List.getElem_toArray, List.getElem_cons_succ, List.getElem_cons_zero, execOp, Reg.eval_tmp e40]
              go_simp
            exact hK.out _ _ ⟨gE, v1, gX, v2, v3, ww, by rw [HA.out]; exact Reg.fill_up 14 hb rfl rfl rfl, ⟨HC.out, (nxw (hn 21 (by decide))).symm⟩⟩
          refine Reg.steps_cons (i := 15) ?_ ?_
          · rintro bb aa ww ⟨gE, v1, gX, v2, v3, Wc, ha, HW⟩ hb hd hn
            have e41 : aa.tmps[41]? = some (.pointer (some ⟨R, 0, none⟩)) := by rw [ha]; exact Reg.fill_on 14 rfl rfl (hd 14 (by decide)) rfl
            have HA := Lib.hid ha; clear ha; refine ⟨_, rfl, fun K hK => ?_⟩
            obtain rfl : ww = Wc := HW.2.trans (nxw (hn 21 (by decide))); have HC := Lib.hid HW.1; clear HW
            have y0 := (row_cells (row_after HC.out.be HRW.out)).1 0
            refine Reg.do_val rfl rfl (v := .slice (some ⟨g, 0, none⟩) s.length c) (w1 := ww) ?_ ?_
            · simp only [List.getElem_toArray, List.getElem_cons_succ, List.getElem_cons_zero, execOp, Reg.eval_tmp e41]
              go_simp
            exact hK.out _ _ ⟨gE, v1, gX, v2, v3, ww, by rw [HA.out]; exact Reg.fill_up 15 hb rfl rfl rfl, ⟨HC.out, (nxw (hn 21 (by decide))).symm⟩⟩
          refine Reg.steps_cons (i := 16) ?_ ?_
          · rintro bb aa ww ⟨gE, v1, gX, v2, v3, Wc, ha, HW⟩ hb hd hn
            have e4 : aa.tmps[4]? = some (.int .i64 (s.length : Int)) := by rw [ha]; exact (Reg.fill_off rfl).trans rfl
            have HA := Lib.hid ha; clear ha; refine ⟨_, rfl, fun K hK => ?_⟩
            obtain rfl : ww = Wc := HW.2.trans (nxw (hn 21 (by decide))); have HC := Lib.hid HW.1; clear HW
            refine Reg.do_val rfl rfl (v := .int .i64 (s.length : Int)) (w1 := ww) (by simp only [List.getElem_toArray, List.getElem_cons_succ, List.getElem_cons_zero, execOp, Reg.eval_tmp e4]; rfl) ?_
            exact hK.out _ _ ⟨gE, v1, gX, v2, v3, ww, by rw [HA.out]; exact Reg.fill_up 16 hb rfl rfl rfl, ⟨HC.out, (nxw (hn 21 (by decide))).symm⟩⟩
          refine Reg.steps_cons (i := 17) ?_ ?_
          · rintro bb aa ww ⟨gE, v1, gX, v2, v3, Wc, ha, HW⟩ hb hd hn
            have e42 : aa.tmps[42]? = some (.slice (some ⟨g, 0, none⟩) s.length c) := by rw [ha]; exact Reg.fill_on 15 rfl rfl (hd 15 (by decide)) rfl
            have e43 : aa.tmps[43]? = some (.int .i64 (s.length : Int)) := by rw [ha]; exact Reg.fill_on 16 rfl rfl (hd 16 (by decide)) rfl
            have HA := Lib.hid ha; clear ha; refine ⟨_, rfl, fun K hK => ?_⟩
            obtain rfl : ww = Wc := HW.2.trans (nxw (hn 21 (by decide))); have HC := Lib.hid HW.1; clear HW
            refine Reg.do_val rfl rfl (v := .slice (some ⟨g, P2, none⟩) 0 (c - s.length)) (w1 := ww) ?_ ?_
            · simp only [List.getElem_toArray, List.getElem_cons_succ, List.getElem_cons_zero, execOp, Reg.eval_tmp e42]
              rcases HP2.out with ⟨hc2, hp2⟩ | ⟨hc2, hp2⟩
              · rw [hp2]; go_simp
              · rw [hp2]; go_simp
            exact hK.out _ _ ⟨gE, v1, gX, v2, v3, ww, by rw [HA.out]; exact Reg.fill_up 17 hb rfl rfl rfl, ⟨HC.out, (nxw (hn 21 (by decide))).symm⟩⟩
          refine Reg.steps_cons (i := 18) ?_ ?_
          · rintro bb aa ww ⟨gE, v1, gX, v2, v3, Wc, ha, HW⟩ hb hd hn
            have e38 : aa.tmps[38]? = some (v2) := by rw [ha]; exact Reg.fill_on 11 rfl rfl (hd 11 (by decide)) rfl
            have e44 : aa.tmps[44]? = some (.slice (some ⟨g, P2, none⟩) 0 (c - s.length)) := by rw [ha]; exact Reg.fill_on 17 rfl rfl (hd 17 (by decide)) rfl
            have HA := Lib.hid ha; clear ha; refine ⟨_, rfl, fun K hK => ?_⟩
            obtain rfl : ww = Wc := HW.2.trans (nxw (hn 21 (by decide))); have HC := Lib.hid HW.1; clear HW
            obtain ⟨v3', w3, hrun, hch⟩ := HC.out.ap3 elI (hd 8 (by decide)) (hd 11 (by decide)) hb (HS2.out ww HC.out.be) ⟨HZ2.out, rfl, rfl⟩ HLK2.out
            refine Reg.do_append rfl rfl rfl (Reg.eval_tmp e38) (Reg.eval_tmp e44) hrun ?_
            exact hK.out _ _ ⟨gE, v1, gX, v2, v3', w3, by rw [HA.out]; exact Reg.fill_up 18 hb rfl rfl rfl, ⟨hch, (nxw (hn 21 (by decide))).symm⟩⟩
          refine Reg.steps_cons (i := 19) ?_ ?_
          · rintro bb aa ww ⟨gE, v1, gX, v2, v3, Wc, ha, HW⟩ hb hd hn
            have e27 : aa.tmps[27]? = some (.pointer (some ⟨R, 0, none⟩)) := by rw [ha]; exact Reg.fill_on 0 rfl rfl (hd 0 (by decide)) rfl
            have HA := Lib.hid ha; clear ha; refine ⟨_, rfl, fun K hK => ?_⟩
            obtain rfl : ww = Wc := HW.2.trans (nxw (hn 21 (by decide))); have HC := Lib.hid HW.1; clear HW
            refine Reg.do_val rfl rfl (v := .pointer (some ⟨R, 0, none⟩)) (w1 := ww) ?_ ?_
            · simp only [List.getElem_toArray, List.getElem_cons_succ, List.getElem_cons_zero, execOp, Reg.eval_tmp e27]
              go_simp
            exact hK.out _ _ ⟨gE, v1, gX, v2, v3, ww, by rw [HA.out]; exact Reg.fill_up 19 hb rfl rfl rfl, ⟨HC.out, (nxw (hn 21 (by decide))).symm⟩⟩
          refine Reg.steps_cons (i := 20) ?_ ?_
          · rintro bb aa ww ⟨gE, v1, gX, v2, v3, Wc, ha, HW⟩ hb hd hn
            have e46 : aa.tmps[46]? = some (.pointer (some ⟨R, 0, none⟩)) := by rw [ha]; exact Reg.fill_on 19 rfl rfl (hd 19 (by decide)) rfl
            have HA := Lib.hid ha; clear ha; refine ⟨_, rfl, fun K hK => ?_⟩
            obtain rfl : ww = Wc := HW.2.trans (nxw (hn 21 (by decide))); have HC := Lib.hid HW.1; clear HW
            refine Reg.do_val rfl rfl (v := .pointer (some ⟨R, 0, none⟩)) (w1 := ww) ?_ ?_
            · simp only [List.getElem_toArray, List.getElem_cons_succ, List.getElem_cons_zero, execOp, Reg.eval_tmp e46]
              go_simp
            exact hK.out _ _ ⟨gE, v1, gX, v2, v3, ww, by rw [HA.out]; exact Reg.fill_up 20 hb rfl rfl rfl, ⟨HC.out, (nxw (hn 21 (by decide))).symm⟩⟩
          refine Reg.steps_cons (i := 21) ?_ ?_
          · rintro bb aa ww ⟨gE, v1, gX, v2, v3, Wc, ha, HW⟩ hb hd hn
            have e47 : aa.tmps[47]? = some (.pointer (some ⟨R, 0, none⟩)) := by rw [ha]; exact Reg.fill_on 20 rfl rfl (hd 20 (by decide)) rfl
            have e45 : aa.tmps[45]? = some (v3) := by rw [ha]; exact Reg.fill_on 18 rfl rfl (hd 18 (by decide)) rfl
            have HA := Lib.hid ha; clear ha; refine ⟨_, rfl, fun K hK => ?_⟩
            obtain rfl : ww = Wc := HW.2.trans (nxw hb); have HC := Lib.hid HW.1; clear HW
            have y0 := (row_cells (row_after HC.out.be HRW.out)).1 0
            have y0f := (row_cells (row_after HC.out.be HRW.out)).2 0
            refine Reg.do_skip rfl rfl (w1 := ww.setCell ⟨R, 0, none⟩ v3) ?_ ?_
            · simp only [List.getElem_toArray, List.getElem_cons_succ, List.getElem_cons_zero, execOp, Reg.eval_tmp e47, Reg.eval_tmp e45]
              obtain ⟨A3, c3, rfl⟩ := own_sliceR (HC.out.r3 (hd 18 (by decide)))
              go_simp
            exact hK.out _ _ ⟨gE, v1, gX, v2, v3, ww, by rw [HA.out]; exact Reg.fill_none rfl, ⟨HC.out, (if_pos (show Reg.up bb 21 21 = true from rfl)).symm⟩⟩
          exact trivial
        rintro bb aa W8 hall ⟨gE, v1, gX, v2, v3, Wc, ha, HW⟩
        have hbe := HW.1.be
        have hown := HW.1.r3 (hall 18 (by decide))
        have hw8 := HW.2
        rw [hall 21 (by decide), if_pos rfl] at hw8
        clear HW
        have hb0 := hall 0 (by decide)
        have hb1 := hall 1 (by decide)
        have hb2 := hall 2 (by decide)
        have hb3 := hall 3 (by decide)
        have hb4 := hall 4 (by decide)
        have hb5 := hall 5 (by decide)
        have hb6 := hall 6 (by decide)
        have hb7 := hall 7 (by decide)
        have hb8 := hall 8 (by decide)
        have hb9 := hall 9 (by decide)
        have hb10 := hall 10 (by decide)
        have hb11 := hall 11 (by decide)
        have hb12 := hall 12 (by decide)
        have hb13 := hall 13 (by decide)
        have hb14 := hall 14 (by decide)
        have hb15 := hall 15 (by decide)
        have hb16 := hall 16 (by decide)
        have hb17 := hall 17 (by decide)
        have hb18 := hall 18 (by decide)
        have hb19 := hall 19 (by decide)
        have hb20 := hall 20 (by decide)
        have hb21 := hall 21 (by decide)
        simp only [Reg.fill, hb0, hb1, hb2, hb3, hb4, hb5, hb6, hb7, hb8, hb9, hb10, hb11, hb12, hb13, hb14, hb15, hb16, hb17, hb18, hb19, hb20, if_true, Act.put, List.setIfInBounds_toArray, List.set_cons_zero, List.set_cons_succ] at ha
        clear hb0 hb1 hb2 hb3 hb4 hb5 hb6 hb7 hb8 hb9 hb10 hb11 hb12 hb13 hb14 hb15 hb16 hb17 hb18 hb19 hb20 hb21 hall
        subst ha
        go_wp2_with fail
        go_end0
        have hfl : s.flatMap itL ++ itL x ++ ([] : List It).flatMap itL = ((s ++ [x]) : List It).flatMap itL := by simp
        rw [hfl] at hown
        exact ⟨rfl, by rw [hw8, HINS.out]; exact rat_store HRA.out hbe HR0.out hown (by simp) (by omega), by rw [hw8]; exact ((Stay.of_below HB.out).trans (Stay.of_below hbe)).trans (stay_cell _ _ _ _)⟩
end Go.Proofs.YtejhcbbfdfnfdaaGreatDoor.Yard

/- The reference's rows: facts laid behind the others, an item changed. -/
namespace Go.Proofs.YtejhcbbfdfnfdaaGreatDoor.Yard
open Go.RowKit Go.Proofs.YtejhcbbfdfnfdaaGreatDoor.Base Go.Proofs.YtejhcbbfdfnfdaaGreatDoor.Mp
open Yp (It Yd Fact Bx)
theorem rd_slice {W : World} {X : Nat → Prop} {v : Value} {xs : List Value} (h : Rd W X v xs) : v.oneCell' = true := by
  obtain ⟨A, c, rfl, _⟩ := h
  rfl
/-- The cells of a list of facts. -/
theorem fls_news {W : World} {X : Nat → Prop} {v : Value} {l : List Fact} (h : FLs W X v l) (hnil : l.length = 0 → v = .slice none 0 0) : ∃ A c news, v = .slice A l.length c ∧ news.length = l.length * 3 ∧ (∀ y ∈ news, y.oneCell' = true) ∧ (∀ W', Below W.heap.size W W' → Src W' (.slice A l.length c) l.length news) ∧
    (∀ (j : Nat) (f : Fact), l[j]? = some f → ∃ nv vv, news[j * 3]? = some (.string f.kind) ∧ news[j * 3 + 1]? = some nv ∧ news[j * 3 + 2]? = some vv ∧ Rd W X nv (strV f.names) ∧ Rd W X vv (intV f.vals)) := by
  obtain ⟨A, c, rfl, _, hx⟩ := h
  rcases Nat.eq_zero_or_pos l.length with h0 | h0
  · have hl : l = [] := List.length_eq_zero_iff.1 h0
    have he := hnil h0
    subst hl
    exact ⟨A, c, [], rfl, rfl, fun y hy => absurd hy List.not_mem_nil, fun W' _ => .inl ⟨he, rfl, rfl⟩, fun j f hj => by simp at hj⟩
  · obtain ⟨b, o, rfl, hb, _, hc⟩ := hx h0
    have hcell : ∀ i, i < l.length * 3 → ∃ u, W.cell? ⟨b, o + i, none⟩ = some u ∧ u.oneCell' = true := by
      intro i hi
      have hj : i / 3 < l.length := by omega
      obtain ⟨nv, vv, c0, c1, c2, hn, hv⟩ := hc (i / 3) _ (List.getElem?_eq_getElem hj)
      have h3 : i % 3 = 0 ∨ i % 3 = 1 ∨ i % 3 = 2 := by omega
      rcases h3 with e | e | e
      · refine ⟨.string (l[i / 3]).kind, ?_, rfl⟩; rw [show o + i = o + i / 3 * 3 by omega]; exact c0
      · refine ⟨_, ?_, rd_slice hn⟩; rw [show o + i = o + i / 3 * 3 + 1 by omega]; exact c1
      · refine ⟨_, ?_, rd_slice hv⟩; rw [show o + i = o + i / 3 * 3 + 2 by omega]; exact c2
    have hnews : ∀ i u, ((List.range (l.length * 3)).map fun i => (W.cell? ⟨b, o + i, none⟩).getD (.bool false))[i]? = some u ↔ i < l.length * 3 ∧ W.cell? ⟨b, o + i, none⟩ = some u := by
      intro i u
      by_cases hi : i < l.length * 3
      · obtain ⟨u', hu, _⟩ := hcell i hi
        simp [hi, hu]
      · simp [hi]
    refine ⟨_, c, (List.range (l.length * 3)).map fun i => (W.cell? ⟨b, o + i, none⟩).getD (.bool false), rfl, by simp, fun y hy => ?_, fun W' hW => .inr ⟨_, _, rfl, fun j x hj => ?_⟩, fun j f hj => ?_⟩
    · obtain ⟨i, hi, e⟩ := List.mem_map.1 hy
      obtain ⟨u, hu, h1⟩ := hcell i (List.mem_range.1 hi)
      rw [← e, hu]; exact h1
    · obtain ⟨_, h2⟩ := (hnews j x).1 hj
      rw [add_lit]
      exact (hW.cell (p := ⟨b, _, none⟩) hb).trans h2
    · obtain ⟨nv, vv, c0, c1, c2, hn, hv⟩ := hc j f hj
      have hjl := (List.getElem?_eq_some_iff.1 hj).1
      exact ⟨nv, vv, (hnews _ _).2 ⟨by omega, c0⟩, (hnews _ _).2 ⟨by omega, by rw [← Nat.add_assoc]; exact c1⟩, (hnews _ _).2 ⟨by omega, by rw [← Nat.add_assoc]; exact c2⟩, hn, hv⟩
/-- A row of one's own that holds the facts' cells reads as the facts. -/
theorem fls_own {W W' : World} {X Y : Nat → Prop} {v : Value} {l : List Fact} {base n : Nat} {cells : List Value} (ho : W'.ownsRow base 39 3 v n cells) (hn : l.length = n) (hX : ∀ b, b < W.heap.size → X b → Y b ∧ W'.heap[b]? = W.heap[b]?) (hz : W.heap.size ≤ W'.heap.size) (hY : ∀ b, base ≤ b → Y b)
    (hc : ∀ (j : Nat) (f : Fact), l[j]? = some f → ∃ nv vv, cells[j * 3]? = some (.string f.kind) ∧ cells[j * 3 + 1]? = some nv ∧ cells[j * 3 + 2]? = some vv ∧ Rd W X nv (strV f.names) ∧ Rd W X vv (intV f.vals)) : FLs W' Y v l := by
  subst hn
  rcases ho.2 with ⟨rfl, h0⟩ | ⟨g, cap, cur, rfl, h1, h2, h3, _, _, h6⟩
  · exact ⟨none, 0, by rw [h0], by omega, fun h => by omega⟩
  · refine ⟨_, cap, rfl, h3, fun _ => ⟨g, 0, rfl, block_lt h2, hY g h1, fun j f hj => ?_⟩⟩
    obtain ⟨nv, vv, c0, c1, c2, r1, r2⟩ := hc j f hj
    have hcell : ∀ i u, cells[i]? = some u → W'.cell? ⟨g, 0 + i, none⟩ = some u := fun i u hi => by
      rw [Nat.zero_add, (row_cells h2).1 i]
      have hj := hi
      rw [← h6, List.getElem?_take] at hj
      split at hj
      · simpa using hj
      · cases hj
    exact ⟨nv, vv, hcell _ _ c0, by rw [Nat.add_assoc]; exact hcell _ _ c1, by rw [Nat.add_assoc]; exact hcell _ _ c2, ((r1.mono (X' := fun b => X b ∧ Y b) fun b hb hx => ⟨hx, (hX b hb hx).1⟩).after hz fun b hb hx => (hX b hb hx.1).2).mono fun b _ hx => hx.2, ((r2.mono (X' := fun b => X b ∧ Y b) fun b hb hx => ⟨hx, (hX b hb hx).1⟩).after hz fun b hb hx => (hX b hb hx.1).2).mono fun b _ hx => hx.2⟩
/-- An item is changed at its place. -/
theorem change_at {s : List It} (hu : s.Pairwise fun a b => a.id ≠ b.id) {i : Nat} {x : It} (hi : s[i]? = some x) (st : Int) (stone : ByteArray) : Yp.change s x.id st stone = s.set i { x with st := st, stone := stone } := by
  apply List.ext_getElem?
  intro j
  unfold Yp.change
  rw [List.getElem?_map, List.getElem?_set]
  have hil := (List.getElem?_eq_some_iff.1 hi).1
  by_cases hij : i = j
  · subst hij
    rw [hi, if_pos rfl, if_pos hil]
    simp
  · rw [if_neg hij]
    cases hj : s[j]? with
    | none => rfl
    | some z =>
      have hne : z.id ≠ x.id := fun e => by
        have hjl := (List.getElem?_eq_some_iff.1 hj).1
        have h1 := (List.getElem?_eq_some_iff.1 hi).2
        have h2 := (List.getElem?_eq_some_iff.1 hj).2
        rcases Nat.lt_or_gt_of_ne hij with g | g
        · exact List.pairwise_iff_getElem.1 hu i j hil hjl g (by rw [h1, h2, e])
        · exact List.pairwise_iff_getElem.1 hu j i hjl hil g (by rw [h1, h2, e])
      simp [hne]
end Go.Proofs.YtejhcbbfdfnfdaaGreatDoor.Yard
