/- The examples of the chapter (awake). -/
import Derived.Test.YtejhcbbfdfnfdaaGreatDoorR32
import Derived.Test.YtejhcbbfdfnfdaaGreatDoorR33
import Derived.Test.YtejhcbbfdfnfdaaGreatDoorR27
import Derived.Test.YtejhcbbfdfnfdaaGreatDoorR34
import Derived.Test.YtejhcbbfdfnfdaaGreatDoorR35
import Derived.Test.YtejhcbbfdfnfdaaGreatDoorR36
import Derived.Test.YtejhcbbfdfnfdaaGreatDoorR21
import Derived.Test.YtejhcbbfdfnfdaaGreatDoorR20
import Derived.Test.YtejhcbbfdfnfdaaGreatDoorR16
/- The examples of the chapter (awake), first part: the first two facts. -/
namespace Go.Proofs.YtejhcbbfdfnfdaaGreatDoor.Yard
open Go.RowKit Go.Proofs.YtejhcbbfdfnfdaaGreatDoor.Base Go.Proofs.YtejhcbbfdfnfdaaGreatDoor.Mp
open Yp (It Yd Fact Bx)
theorem aw_short : shortNames [Yp.freeF, Yp.cutF] := by
  intro f hf s hs
  simp only [List.mem_cons, List.not_mem_nil, or_false] at hf
  rcases hf with rfl | rfl
  · simp only [Yp.freeF, List.mem_cons, List.not_mem_nil, or_false] at hs
    subst hs; decide
  · simp only [Yp.cutF, List.mem_cons, List.not_mem_nil, or_false] at hs
    rcases hs with rfl | rfl | rfl <;> decide
section
open Go.Proofs.YtejhcbbfdfnfdaaGreatDoor.Reg
variable {q0 q1 : Nat} {w0 W W' : World} {b : Nat → Bool} {g1 g2 g3 Y M Y' M' : Nat}
structure A2 (q0 q1 : Nat) (w0 : World) (b : Nat → Bool) (W : World) (g1 g2 g3 Y M : Nat) : Prop where
  be : Below w0.heap.size w0 W
  r1 : Al W w0.heap.size (b 0) g1 #[.string { data := #[98] }] 9
  r2 : Al W w0.heap.size (b 1) g2 #[.int .i64 0, .int .i64 0, .int .i64 0, .int .i64 100, .int .i64 10, .int .i64 10] 2
  r3 : Al W w0.heap.size (b 4) g3 #[.string { data := #[102, 114, 101, 101] }, .slice (some ⟨g1, 0, none⟩) 1 1, .slice (some ⟨g2, 0, none⟩) 6 6, .string { data := #[99, 117, 116] }, .slice (some ⟨q0, 0, none⟩) 3 3, .slice (some ⟨(q1), 0, none⟩) 3 3] 39
  y : b 5 = true → YOwn w0.heap.size W Y M Yp.aw1
theorem A2.start : A2 q0 q1 W (fun _ => false) W.drew g1 g2 g3 Y M := ⟨(Below.refl _ _).drew, Al.off, Al.off, Al.off, fun h => (by cases h)⟩
theorem A2.keep {i : Nat} (h : A2 q0 q1 w0 b W g1 g2 g3 Y M) (hi : i ∉ [0, 1, 4, 5]) : A2 q0 q1 w0 (up b i) W g1 g2 g3 Y M := by
  simp only [List.mem_cons, List.not_mem_nil, or_false, not_or] at hi
  refine ⟨h.be, ?_, ?_, ?_, ?_⟩
  · rw [up_ne (Ne.symm hi.1)]; exact h.r1
  · rw [up_ne (Ne.symm hi.2.1)]; exact h.r2
  · rw [up_ne (Ne.symm hi.2.2.1)]; exact h.r3
  · rw [up_ne (Ne.symm hi.2.2.2)]; exact h.y
theorem A2.grow (h : A2 q0 q1 w0 b W g1 g2 g3 Y M) (hb : Below W.heap.size W W') (h5 : b 5 = false) : A2 q0 q1 w0 b W' g1 g2 g3 Y M :=
  ⟨h.be.trans (hb.mono h.be.size), h.r1.below hb, h.r2.below hb, h.r3.below hb, fun e => by rw [h5] at e; cases e⟩
theorem A2.old (h : A2 q0 q1 w0 b W g1 g2 g3 Y M) {p : Nat} {o : Obj} (hp : w0.heap[p]? = some o) : W.heap[p]? = some o := (h.be.block p (Array.getElem?_eq_some_iff.1 hp).1).trans hp
theorem A2.a0 (h : A2 q0 q1 w0 b W g1 g2 g3 Y M) (_ : b 0 = false) (_ : b 2 = false) (h4 : b 4 = false) (h5 : b 5 = false) : A2 q0 q1 w0 (up b 0) (W.alloc (.cells #[.string { data := #[98] }] 9)) W.heap.size g2 g3 Y M := by
  have hB := al_below W (.cells #[.string { data := #[98] }] 9)
  have hz := h.be.size
  refine ⟨h.be.trans (hB.mono hz), ?_, ?_, ?_, ?_⟩
  · rw [up_self]; exact Al.new hz
  · rw [up_ne (show (1 : Nat) ≠ 0 by decide)]; exact h.r2.below hB
  · rw [up_ne (show (4 : Nat) ≠ 0 by decide), h4]; exact Al.off
  · rw [up_ne (show (5 : Nat) ≠ 0 by decide), h5]; exact fun e => (by cases e)
theorem A2.a1 (h : A2 q0 q1 w0 b W g1 g2 g3 Y M) (_ : b 1 = false) (_ : b 2 = false) (h4 : b 4 = false) (h5 : b 5 = false) : A2 q0 q1 w0 (up b 1) (W.alloc (.cells #[.int .i64 0, .int .i64 0, .int .i64 0, .int .i64 100, .int .i64 10, .int .i64 10] 2)) g1 W.heap.size g3 Y M := by
  have hB := al_below W (.cells #[.int .i64 0, .int .i64 0, .int .i64 0, .int .i64 100, .int .i64 10, .int .i64 10] 2)
  have hz := h.be.size
  refine ⟨h.be.trans (hB.mono hz), ?_, ?_, ?_, ?_⟩
  · rw [up_ne (show (0 : Nat) ≠ 1 by decide)]; exact h.r1.below hB
  · rw [up_self]; exact Al.new hz
  · rw [up_ne (show (4 : Nat) ≠ 1 by decide), h4]; exact Al.off
  · rw [up_ne (show (5 : Nat) ≠ 1 by decide), h5]; exact fun e => (by cases e)
theorem A2.a4 (h : A2 q0 q1 w0 b W g1 g2 g3 Y M) (h5 : b 5 = false) : A2 q0 q1 w0 (up b 4) (W.alloc (.cells #[.string { data := #[102, 114, 101, 101] }, .slice (some ⟨g1, 0, none⟩) 1 1, .slice (some ⟨g2, 0, none⟩) 6 6, .string { data := #[99, 117, 116] }, .slice (some ⟨q0, 0, none⟩) 3 3, .slice (some ⟨(q1), 0, none⟩) 3 3] 39)) g1 g2 W.heap.size Y M := by
  have hB := al_below W (.cells #[.string { data := #[102, 114, 101, 101] }, .slice (some ⟨g1, 0, none⟩) 1 1, .slice (some ⟨g2, 0, none⟩) 6 6, .string { data := #[99, 117, 116] }, .slice (some ⟨q0, 0, none⟩) 3 3, .slice (some ⟨(q1), 0, none⟩) 3 3] 39)
  have hz := h.be.size
  refine ⟨h.be.trans (hB.mono hz), ?_, ?_, ?_, ?_⟩
  · rw [up_ne (show (0 : Nat) ≠ 4 by decide)]; exact h.r1.below hB
  · rw [up_ne (show (1 : Nat) ≠ 4 by decide)]; exact h.r2.below hB
  · rw [up_self]; exact Al.new hz
  · rw [up_ne (show (5 : Nat) ≠ 4 by decide), h5]; exact fun e => (by cases e)
theorem A2.call (h : A2 q0 q1 w0 b W g1 g2 g3 Y M) (hy : YOwn W.heap.size W' Y' M' Yp.aw1) (hb : Below W.heap.size W W') : A2 q0 q1 w0 (up b 5) W' g1 g2 g3 Y' M' := by
  have hz := h.be.size
  refine ⟨h.be.trans (hb.mono hz), ?_, ?_, ?_, fun _ => hy.mono hz⟩
  · rw [up_ne (show (0 : Nat) ≠ 5 by decide)]; exact h.r1.below hb
  · rw [up_ne (show (1 : Nat) ≠ 5 by decide)]; exact h.r2.below hb
  · rw [up_ne (show (4 : Nat) ≠ 5 by decide)]; exact h.r3.below hb
theorem rd_block {W : World} {b : Nat} {l : List Value} {t : TypeId} {fr : Nat × Nat} (h : W.heap[b]? = some (.cells l.toArray t fr)) : Rd W (fun _ => True) (.slice (some ⟨b, 0, none⟩) l.length l.length) l :=
  ⟨some ⟨b, 0, none⟩, l.length, rfl, Nat.le_refl _, fun _ => ⟨b, 0, rfl, block_lt h, trivial, fun j u hj => by
    rw [Nat.zero_add, World.cell?]
    simp [h, hj]⟩⟩
theorem A2.list (h : A2 q0 q1 w0 b W g1 g2 g3 Y M) (h0 : b 0 = true) (h1 : b 1 = true) (h4 : b 4 = true) (hn : Rd w0 (fun _ => True) (.slice (some ⟨q0, 0, none⟩) 3 3) (strV Yp.cutF.names)) (hv : Rd w0 (fun _ => True) (.slice (some ⟨q1, 0, none⟩) 3 3) (intV Yp.cutF.vals)) :
    FLs W (fun _ => True) (.slice (some ⟨g3, 0, none⟩) 2 2) [Yp.freeF, Yp.cutF] := by
  have hr := (h.r3 h4).2
  have hc := (row_cells hr).1
  have hn' := hn.below (h.be.mono (Nat.le_refl _))
  have hv' := hv.below (h.be.mono (Nat.le_refl _))
  have hn1 : Rd W (fun _ => True) (.slice (some ⟨g1, 0, none⟩) 1 1) (strV Yp.freeF.names) := rd_block (l := strV Yp.freeF.names) (h.r1 h0).2
  have hv1 : Rd W (fun _ => True) (.slice (some ⟨g2, 0, none⟩) 6 6) (intV Yp.freeF.vals) := rd_block (l := intV Yp.freeF.vals) (h.r2 h1).2
  refine ⟨_, _, rfl, Nat.le_refl _, fun _ => ⟨g3, 0, rfl, block_lt hr, trivial, fun j f hj => ?_⟩⟩
  match j, hj with
  | 0, hj => cases hj; exact ⟨_, _, hc 0, hc 1, hc 2, hn1, hv1⟩
  | 1, hj => cases hj; exact ⟨_, _, hc 3, hc 4, hc 5, hn', hv'⟩
  | j + 2, hj => simp at hj
end

/-- A block that the call remembers: none of the yard's. -/
structure Rem (W : World) (Y M : Nat) (FS : Value) (b : Nat) (o : Obj) : Prop where
  row : W.heap[b]? = some o
  nY : b ≠ Y
  nM : b ≠ M
  nF : FS.ownBlock ≠ some b
theorem Rem.below {W W' : World} {Y M b : Nat} {FS : Value} {o : Obj} (h : Rem W Y M FS b o) (hb : Below W.heap.size W W') : Rem W' Y M FS b o :=
  ⟨(hb.block b (block_lt h.row)).trans h.row, h.nY, h.nM, h.nF⟩
theorem Rem.new {W : World} {Y M : Nat} {FS : Value} {y : Yd} (hy : YAt W Y M FS y) (C : Array Value) (t : TypeId) : Rem (W.alloc (.cells C t)) Y M FS W.heap.size (.cells C t (0, 0)) :=
  ⟨new_block _ _, Nat.ne_of_gt hy.ltY, Nat.ne_of_gt hy.ltM, fun e => by have := own_lt hy e; omega⟩
theorem A2.rem {q0 q1 : Nat} {w0 W : World} {b : Nat → Bool} {g1 g2 g3 Y M p : Nat} {FS : Value} {o : Obj} (h : A2 q0 q1 w0 b W g1 g2 g3 Y M) (hp : w0.heap[p]? = some o) (hY : w0.heap.size ≤ Y) (hM : w0.heap.size ≤ M) (hF : ∀ g, FS.ownBlock = some g → w0.heap.size ≤ g) : Rem W Y M FS p o :=
  have hl := block_lt hp
  ⟨h.old hp, by omega, by omega, fun e => by have := hF p e; omega⟩
/-- The yard, all of whose blocks the call has made. -/
structure AS (w : World) (Y M : Nat) (FS : Value) (y : Yd) (W : World) : Prop where
  yat : YAt W Y M FS y
  hY : w.heap.size ≤ Y
  hM : w.heap.size ≤ M
  hF : ∀ g, FS.ownBlock = some g → w.heap.size ≤ g
  be : Below w.heap.size w W
theorem AS.below {w W W' : World} {Y M : Nat} {FS : Value} {y : Yd} (h : AS w Y M FS y W) (hb : Below W.heap.size W W') : AS w Y M FS y W' :=
  ⟨h.yat.below hb, h.hY, h.hM, h.hF, h.be.trans (hb.mono h.be.size)⟩
theorem do_aw {w W : World} {Y M : Nat} {FS : Value} {y : Yd} (h : AS w Y M FS y W) (hi : Yp.Inv y) (hlen : y.items.length < 4000) (hfl : y.facts.length < 4096) (f : Fact) (nv vv : Value) (hn : Rd W (fun b => b ≠ M ∧ b ≠ Y) nv (strV f.names)) (hv : Rd W (fun b => b ≠ M ∧ b ≠ Y) vv (intV f.vals)) (hsz : ∀ s ∈ f.names, s.size ≤ 140737488351232) (hc : Yp.check y f = 0) :
    Calls Tryz.prog 14 #[.pointer (some ⟨Y, 0, none⟩), .agg #[.string f.kind, nv, vv]] W fun e w' => e = .returned (.int .i64 0) ∧ ∃ FS', AS w Y M FS' (Yp.step y f) w' ∧ ∀ b o, Rem W Y M FS b o → Rem w' Y M FS' b o := by
  refine (do_done h.yat hi hlen hfl _ (fun _ hb => hb) f nv vv hn hv hsz hc).mono ?_
  rintro e w' ⟨rfl, gq, cq, hy, hs, hg⟩
  have hbe := h.be.size
  refine ⟨rfl, _, ⟨hy, h.hY, h.hM, ?_, h.be.trans (hs.below hbe ?_)⟩, ?_⟩
  · intro g e
    have e : gq = g := Option.some.inj e
    subst e
    rcases hg with e | e
    · exact h.hF _ e
    · omega
  · rintro i (rfl | rfl | e)
    · exact h.hM
    · exact h.hY
    · exact h.hF _ e
  · rintro b o ⟨h1, h2, h3, h4⟩
    refine ⟨(hs.block b (block_lt h1) (by rintro (e | e | e); exact h3 e; exact h2 e; exact h4 e)).trans h1, h2, h3, fun e => ?_⟩
    have e : gq = b := Option.some.inj e
    subst e
    rcases hg with e | e
    · exact h4 e
    · have := block_lt h1; omega
theorem rd_rem {W : World} {Y M b : Nat} {FS : Value} {l : List Value} {t : TypeId} {fr : Nat × Nat} (h : Rem W Y M FS b (.cells l.toArray t fr)) : Rd W (fun b => b ≠ M ∧ b ≠ Y) (.slice (some ⟨b, 0, none⟩) l.length l.length) l :=
  ⟨some ⟨b, 0, none⟩, l.length, rfl, Nat.le_refl _, fun _ => ⟨b, 0, rfl, block_lt h.row, ⟨h.nM, h.nY⟩, fun j u hj => by
    rw [Nat.zero_add, World.cell?]
    simp [h.row, hj]⟩⟩
theorem own_rem {w W4 W5 : World} {Y M g c n : Nat} {FS : Value} {y : Yd} {e : TypeId} {xs : List Value} (h : W5.ownsRow W4.heap.size e 1 (.slice (some ⟨g, 0, none⟩) n c) n xs) (hy : AS w Y M FS y W4) :
    ∃ cur : Array Value, Rem W5 Y M FS g (.cells cur e (0, 0)) ∧ ∀ (j : Nat) (u : Value), xs[j]? = some u → cur[j]? = some u := by
  have hl := h.lt g rfl
  have hY := hy.yat.ltY
  have hM := hy.yat.ltM
  rcases h.2 with ⟨h0, _⟩ | ⟨g', cap, cur, hv, _, hg, _⟩
  · cases h0
  · injection hv with e1 _ _
    injection e1 with e1
    injection e1 with e1
    subst e1
    refine ⟨cur, ⟨hg, by omega, by omega, fun e => by have := own_lt hy.yat e; omega⟩, fun j u hj => ?_⟩
    have := h.cells (g := g) rfl j u hj
    rw [add_lit, Nat.zero_add, World.cell?] at this
    simpa [hg] using this
theorem aw_stone : ∀ x ∈ Yp.aw3.items, x.stone = Yp.sS → x = Yp.itL 4 Yp.sS := by
  intro x hx hs
  simp only [Yp.aw3, List.mem_cons, List.not_mem_nil, or_false] at hx
  rcases hx with rfl | rfl | rfl
  · exact absurd hs (by decide)
  · rfl
  · exact absurd hs (by decide)
theorem aw_tot : totV Yp.aw1.items Yp.aw1.kerfs = #[.int .i64 10000, .int .i64 0, .int .i64 9200, .int .i64 0, .int .i64 0, .int .i64 0, .int .i64 0, .int .i64 800] := by kernel_rfl
theorem rd_nl (W : World) (X : Nat → Prop) : Rd W X (.slice none 0 0) [] := ⟨none, 0, rfl, Nat.le_refl _, fun h => absurd h (by simp)⟩
end Go.Proofs.YtejhcbbfdfnfdaaGreatDoor.Yard

/- The examples of the chapter (awake). -/
namespace Go.Proofs.YtejhcbbfdfnfdaaGreatDoor.Yard
open Go.RowKit Go.Proofs.YtejhcbbfdfnfdaaGreatDoor.Base Go.Proofs.YtejhcbbfdfnfdaaGreatDoor.Mp
open Yp (It Yd Fact Bx)
set_option maxRecDepth 100000 in
set_option maxHeartbeats 16000000 in
theorem awake_any {w : World} (hE : Env w) : Calls Tryz.prog 8 #[] w fun e w' => e = .returned (.bool true) ∧ Below w.heap.size w w' := by
  have hB0 := al_below w (.cells #[.string { data := #[98] }, .string { data := #[108] }, .string { data := #[114] }] 9)
  have hB1 := hB0.trans ((al_below (w.alloc (.cells #[.string { data := #[98] }, .string { data := #[108] }, .string { data := #[114] }] 9)) (.cells #[.int .i64 0, .int .i64 40, .int .i64 8] 2)).mono hB0.size)
  have p0 := row_after (al_below _ (.cells #[.int .i64 0, .int .i64 40, .int .i64 8] 2)) (new_block w (.cells #[.string { data := #[98] }, .string { data := #[108] }, .string { data := #[114] }] 9))
  have p1 := new_block2 w (.cells #[.string { data := #[98] }, .string { data := #[108] }, .string { data := #[114] }] 9) (.cells #[.int .i64 0, .int .i64 40, .int .i64 8] 2)
  have HB1 := Lib.hid hB1
  have P0 := Lib.hid p0
  have P1 := Lib.hid p1
  have HE := Lib.hid hE
  have hf := fact_any ((w.alloc (.cells #[.string { data := #[98] }, .string { data := #[108] }, .string { data := #[114] }] 9)).alloc (.cells #[.int .i64 0, .int .i64 40, .int .i64 8] 2)) { data := #[99, 117, 116] } (some ⟨w.heap.size, 0, none⟩) (some ⟨w.heap.size + 1, 0, none⟩) 3 3 3 3
  clear hB0 hB1 p0 p1 hE
  go_enter Tryz.func8, Tryz.ntmps8
  go_wp2_with fail
  refine hf.mono ?_; rintro e w2 ⟨rfl, hb2⟩
  have HB2 := Lib.hid (HB1.out.trans (hb2.mono HB1.out.size))
  have P0 := Lib.hid (row_after hb2 P0.out)
  have P1 := Lib.hid (row_after hb2 P1.out)
  clear hf hb2
  go_wp2_with fail
  have HB3 := Lib.hid (HB2.out.trans ((al_below w2 (.cells #[.string { data := #[99, 117, 116] }, .slice (some ⟨w.heap.size, 0, none⟩) 3 3, .slice (some ⟨(w.heap.size + 1), 0, none⟩) 3 3] 39)).mono HB2.out.size))
  have P0 := Lib.hid (row_after (al_below w2 (.cells #[.string { data := #[99, 117, 116] }, .slice (some ⟨w.heap.size, 0, none⟩) 3 3, .slice (some ⟨(w.heap.size + 1), 0, none⟩) 3 3] 39)) P0.out)
  have P1 := Lib.hid (row_after (al_below w2 (.cells #[.string { data := #[99, 117, 116] }, .slice (some ⟨w.heap.size, 0, none⟩) 3 3, .slice (some ⟨(w.heap.size + 1), 0, none⟩) 3 3] 39)) P1.out)
  have RT := Lib.hid (new_block w2 (.cells #[.string { data := #[99, 117, 116] }, .slice (some ⟨w.heap.size, 0, none⟩) 3 3, .slice (some ⟨(w.heap.size + 1), 0, none⟩) 3 3] 39))
  generalize w2.alloc (.cells #[.string { data := #[99, 117, 116] }, .slice (some ⟨w.heap.size, 0, none⟩) 3 3, .slice (some ⟨(w.heap.size + 1), 0, none⟩) 3 3] 39) = W2 at *
  have RN : Hid (Rd W2 (fun _ => True) (.slice (some ⟨w.heap.size, 0, none⟩) 3 3) (strV Yp.cutF.names)) := Lib.hid (rd_block (l := strV Yp.cutF.names) P0.out)
  have RV : Hid (Rd W2 (fun _ => True) (.slice (some ⟨w.heap.size + 1, 0, none⟩) 3 3) (intV Yp.cutF.vals)) := Lib.hid (rd_block (l := intV Yp.cutF.vals) P1.out)
  refine Reg.region_inv [[], [], [0, 1], [], [2, 3], [2, 4], [5], [6], [6], [0, 1, 2, 3, 4, 5, 6, 7], [0, 1, 2, 3, 4, 5, 6, 7, 8, 9]] [[], [], [0, 1], [], [0, 1, 2, 3], [0, 1, 2, 3, 4], [0, 1, 2, 3, 4, 5], [0, 1, 2, 3, 4, 5, 6], [0, 1, 2, 3, 4, 5, 6], [0, 1, 2, 3, 4, 5, 6, 7], [0, 1, 2, 3, 4, 5, 6, 7, 8, 9]] (fun a0_ bb aa ww => ∃ (g1 : Nat) (g2 : Nat) (g3 : Nat) (Y : Nat) (M : Nat), aa = Reg.fill bb [(0, 21, .slice (some ⟨g1, 0, none⟩) 1 1), (1, 22, .slice (some ⟨g2, 0, none⟩) 6 6), (2, 23, .agg #[.string { data := #[102, 114, 101, 101] }, .slice (some ⟨g1, 0, none⟩) 1 1, .slice (some ⟨g2, 0, none⟩) 6 6]), (3, 24, .agg #[.string { data := #[99, 117, 116] }, .slice (some ⟨w.heap.size, 0, none⟩) 3 3, .slice (some ⟨(w.heap.size + 1), 0, none⟩) 3 3]), (4, 25, .slice (some ⟨g3, 0, none⟩) 2 2), (5, 26, .tuple #[.pointer (some ⟨Y, 0, none⟩), .int .i64 (-1)]), (6, 20, .tuple #[.pointer (some ⟨Y, 0, none⟩), .int .i64 (-1)]), (7, 27, .pointer (some ⟨Y, 0, none⟩)), (8, 28, .int .i64 (-1)), (9, 2, .pointer (some ⟨Y, 0, none⟩)), (10, 3, .int .i64 (-1))] a0_ ∧ A2 w.heap.size (w.heap.size + 1) W2 bb ww g1 g2 g3 Y M) (by kernel_rfl) (by kernel_rfl) (by kernel_rfl) ?_ ?_ ?_
  · exact ⟨0, 0, 0, 0, 0, Reg.fill_start.symm, A2.start⟩
  · refine Reg.steps_cons (i := 0) ?_ ?_
    · rintro bb aa ww ⟨g1, g2, g3, Y, M, ha, HW⟩ hb hd hn
      have HA := Lib.hid ha
      clear ha
      refine ⟨_, rfl, fun K hK => ?_⟩
      refine Reg.do_val rfl rfl (v := .slice (some ⟨ww.heap.size, 0, none⟩) 1 1) (w1 := ww.alloc (.cells #[.string { data := #[98] }] 9)) ?_ ?_
      · simp only [List.getElem_toArray, List.getElem_cons_zero, execOp]
        go_simp
      exact hK.out _ _ ⟨ww.heap.size, g2, g3, Y, M, by rw [HA.out]; exact (Reg.fill_up 0 hb rfl rfl rfl).trans (Reg.fill_swap ⟨rfl, rfl, fun _ => rfl, ⟨rfl, rfl, fun _ => rfl, ⟨rfl, rfl, Reg.not_up (show (2 : Nat) ≠ 0 by decide) (hn 2 (by decide)), ⟨rfl, rfl, fun _ => rfl, ⟨rfl, rfl, fun _ => rfl, ⟨rfl, rfl, fun _ => rfl, ⟨rfl, rfl, fun _ => rfl, ⟨rfl, rfl, fun _ => rfl, ⟨rfl, rfl, fun _ => rfl, ⟨rfl, rfl, fun _ => rfl, ⟨rfl, rfl, fun _ => rfl, trivial⟩⟩⟩⟩⟩⟩⟩⟩⟩⟩⟩), HW.a0 hb (hn 2 (by decide)) (hn 4 (by decide)) (hn 5 (by decide))⟩
    refine Reg.steps_cons (i := 1) ?_ ?_
    · rintro bb aa ww ⟨g1, g2, g3, Y, M, ha, HW⟩ hb hd hn
      have HA := Lib.hid ha
      clear ha
      refine ⟨_, rfl, fun K hK => ?_⟩
      refine Reg.do_val rfl rfl (v := .slice (some ⟨ww.heap.size, 0, none⟩) 6 6) (w1 := ww.alloc (.cells #[.int .i64 0, .int .i64 0, .int .i64 0, .int .i64 100, .int .i64 10, .int .i64 10] 2)) ?_ ?_
      · simp only [List.getElem_toArray, List.getElem_cons_succ, List.getElem_cons_zero, execOp]
        go_simp
      exact hK.out _ _ ⟨g1, ww.heap.size, g3, Y, M, by rw [HA.out]; exact (Reg.fill_up 1 hb rfl rfl rfl).trans (Reg.fill_swap ⟨rfl, rfl, fun _ => rfl, ⟨rfl, rfl, fun _ => rfl, ⟨rfl, rfl, Reg.not_up (show (2 : Nat) ≠ 1 by decide) (hn 2 (by decide)), ⟨rfl, rfl, fun _ => rfl, ⟨rfl, rfl, fun _ => rfl, ⟨rfl, rfl, fun _ => rfl, ⟨rfl, rfl, fun _ => rfl, ⟨rfl, rfl, fun _ => rfl, ⟨rfl, rfl, fun _ => rfl, ⟨rfl, rfl, fun _ => rfl, ⟨rfl, rfl, fun _ => rfl, trivial⟩⟩⟩⟩⟩⟩⟩⟩⟩⟩⟩), HW.a1 hb (hn 2 (by decide)) (hn 4 (by decide)) (hn 5 (by decide))⟩
    refine Reg.steps_cons (i := 2) ?_ ?_
    · rintro bb aa ww ⟨g1, g2, g3, Y, M, ha, HW⟩ hb hd hn
      have e21 : aa.tmps[21]? = some (.slice (some ⟨g1, 0, none⟩) 1 1) := by rw [ha]; exact Reg.fill_on 0 rfl rfl (hd 0 (by decide)) rfl
      have e22 : aa.tmps[22]? = some (.slice (some ⟨g2, 0, none⟩) 6 6) := by rw [ha]; exact Reg.fill_on 1 rfl rfl (hd 1 (by decide)) rfl
      have HA := Lib.hid ha
      clear ha
      refine ⟨_, rfl, fun K hK => ?_⟩
      refine Reg.do_call rfl rfl Tryz.func25 (by kernel_rfl) rfl #[.string { data := #[102, 114, 101, 101] }, .slice (some ⟨g1, 0, none⟩) 1 1, .slice (some ⟨g2, 0, none⟩) 6 6] rfl (by simp [Reg.eval_tmp e21, Reg.eval_tmp e22]; rfl) ?_
      refine (fact_any ww _ _ _ _ _ _ _).mono ?_; rintro e w3 ⟨rfl, hb3⟩; refine ⟨_, rfl, ?_⟩
      exact hK.out _ _ ⟨g1, g2, g3, Y, M, by rw [HA.out]; exact Reg.fill_up 2 hb rfl rfl rfl, (HW.grow hb3 (hn 5 (by decide))).keep (show 2 ∉ [0, 1, 4, 5] by decide)⟩
    refine Reg.steps_cons (i := 3) ?_ ?_
    · rintro bb aa ww ⟨g1, g2, g3, Y, M, ha, HW⟩ hb hd hn
      have e1 : aa.tmps[1]? = some (.pointer (some ⟨w2.heap.size, 0, none⟩)) := by rw [ha]; exact (Reg.fill_off rfl).trans rfl
      have HA := Lib.hid ha
      clear ha
      refine ⟨_, rfl, fun K hK => ?_⟩
      refine Reg.do_load rfl rfl 39 _ rfl w2.heap.size (Reg.eval_tmp e1) (HW.old RT.out) Tryz.underlying39 rfl (by kernel_rfl) ?_
      exact hK.out _ _ ⟨g1, g2, g3, Y, M, by rw [HA.out]; exact Reg.fill_up 3 hb rfl rfl rfl, HW.keep (show 3 ∉ [0, 1, 4, 5] by decide)⟩
    refine Reg.steps_cons (i := 4) ?_ ?_
    · rintro bb aa ww ⟨g1, g2, g3, Y, M, ha, HW⟩ hb hd hn
      have e23 : aa.tmps[23]? = some (.agg #[.string { data := #[102, 114, 101, 101] }, .slice (some ⟨g1, 0, none⟩) 1 1, .slice (some ⟨g2, 0, none⟩) 6 6]) := by rw [ha]; exact Reg.fill_on 2 rfl rfl (hd 2 (by decide)) rfl
      have e24 : aa.tmps[24]? = some (.agg #[.string { data := #[99, 117, 116] }, .slice (some ⟨w.heap.size, 0, none⟩) 3 3, .slice (some ⟨(w.heap.size + 1), 0, none⟩) 3 3]) := by rw [ha]; exact Reg.fill_on 3 rfl rfl (hd 3 (by decide)) rfl
      have HA := Lib.hid ha
      clear ha
      refine ⟨_, rfl, fun K hK => ?_⟩
      refine Reg.do_val rfl rfl (v := .slice (some ⟨ww.heap.size, 0, none⟩) 2 2) (w1 := ww.alloc (.cells #[.string { data := #[102, 114, 101, 101] }, .slice (some ⟨g1, 0, none⟩) 1 1, .slice (some ⟨g2, 0, none⟩) 6 6, .string { data := #[99, 117, 116] }, .slice (some ⟨w.heap.size, 0, none⟩) 3 3, .slice (some ⟨(w.heap.size + 1), 0, none⟩) 3 3] 39)) ?_ ?_
      · simp only [List.getElem_toArray, List.getElem_cons_succ, List.getElem_cons_zero, execOp]
        go_simp
      exact hK.out _ _ ⟨g1, g2, ww.heap.size, Y, M, by rw [HA.out]; exact Reg.fill_up 4 hb rfl rfl rfl, HW.a4 (hn 5 (by decide))⟩
    refine Reg.steps_cons (i := 5) ?_ ?_
    · rintro bb aa ww ⟨g1, g2, g3, Y, M, ha, HW⟩ hb hd hn
      have e25 : aa.tmps[25]? = some (.slice (some ⟨g3, 0, none⟩) 2 2) := by rw [ha]; exact Reg.fill_on 4 rfl rfl (hd 4 (by decide)) rfl
      have HA := Lib.hid ha
      clear ha
      refine ⟨_, rfl, fun K hK => ?_⟩
      refine Reg.do_call rfl rfl Tryz.func10 (by kernel_rfl) rfl #[.slice (some ⟨g3, 0, none⟩) 2 2] rfl (by simp [Reg.eval_tmp e25]) ?_
      refine (replay_any (HW.list (hd 0 (by decide)) (hd 1 (by decide)) (hd 4 (by decide)) RN.out RV.out) (by decide) aw_short).mono ?_; rintro e w3 ⟨Y', M', rfl, hy3, hb3⟩; rw [Yp.aw_rep] at hy3 ⊢; refine ⟨_, rfl, ?_⟩
      exact hK.out _ _ ⟨g1, g2, g3, Y', M', by rw [HA.out]; exact (Reg.fill_up 5 hb rfl rfl rfl).trans (Reg.fill_swap ⟨rfl, rfl, fun _ => rfl, ⟨rfl, rfl, fun _ => rfl, ⟨rfl, rfl, fun _ => rfl, ⟨rfl, rfl, fun _ => rfl, ⟨rfl, rfl, fun _ => rfl, ⟨rfl, rfl, fun _ => rfl, ⟨rfl, rfl, Reg.not_up (show (6 : Nat) ≠ 5 by decide) (hn 6 (by decide)), ⟨rfl, rfl, Reg.not_up (show (7 : Nat) ≠ 5 by decide) (hn 7 (by decide)), ⟨rfl, rfl, fun _ => rfl, ⟨rfl, rfl, Reg.not_up (show (9 : Nat) ≠ 5 by decide) (hn 9 (by decide)), ⟨rfl, rfl, fun _ => rfl, trivial⟩⟩⟩⟩⟩⟩⟩⟩⟩⟩⟩), HW.call hy3 hb3⟩
    refine Reg.steps_cons (i := 6) ?_ ?_
    · rintro bb aa ww ⟨g1, g2, g3, Y, M, ha, HW⟩ hb hd hn
      have e26 : aa.tmps[26]? = some (.tuple #[.pointer (some ⟨Y, 0, none⟩), .int .i64 (-1)]) := by rw [ha]; exact Reg.fill_on 5 rfl rfl (hd 5 (by decide)) rfl
      have HA := Lib.hid ha
      clear ha
      refine ⟨_, rfl, fun K hK => ?_⟩
      refine Reg.do_val rfl rfl (v := .tuple #[.pointer (some ⟨Y, 0, none⟩), .int .i64 (-1)]) (w1 := ww) (by simp only [List.getElem_toArray, List.getElem_cons_succ, List.getElem_cons_zero, execOp, Reg.eval_tmp e26]; rfl) ?_
      exact hK.out _ _ ⟨g1, g2, g3, Y, M, by rw [HA.out]; exact Reg.fill_up 6 hb rfl rfl rfl, HW.keep (show 6 ∉ [0, 1, 4, 5] by decide)⟩
    refine Reg.steps_cons (i := 7) ?_ ?_
    · rintro bb aa ww ⟨g1, g2, g3, Y, M, ha, HW⟩ hb hd hn
      have e20 : aa.tmps[20]? = some (.tuple #[.pointer (some ⟨Y, 0, none⟩), .int .i64 (-1)]) := by rw [ha]; exact Reg.fill_on 6 rfl rfl (hd 6 (by decide)) rfl
      have HA := Lib.hid ha
      clear ha
      refine ⟨_, rfl, fun K hK => ?_⟩
      refine Reg.do_val rfl rfl (v := .pointer (some ⟨Y, 0, none⟩)) (w1 := ww) ?_ ?_
      · simp only [List.getElem_toArray, List.getElem_cons_succ, List.getElem_cons_zero, execOp, Reg.eval_tmp e20]
        go_simp
      exact hK.out _ _ ⟨g1, g2, g3, Y, M, by rw [HA.out]; exact Reg.fill_up 7 hb rfl rfl rfl, HW.keep (show 7 ∉ [0, 1, 4, 5] by decide)⟩
    refine Reg.steps_cons (i := 8) ?_ ?_
    · rintro bb aa ww ⟨g1, g2, g3, Y, M, ha, HW⟩ hb hd hn
      have e20 : aa.tmps[20]? = some (.tuple #[.pointer (some ⟨Y, 0, none⟩), .int .i64 (-1)]) := by rw [ha]; exact Reg.fill_on 6 rfl rfl (hd 6 (by decide)) rfl
      have HA := Lib.hid ha
      clear ha
      refine ⟨_, rfl, fun K hK => ?_⟩
      refine Reg.do_val rfl rfl (v := .int .i64 (-1)) (w1 := ww) ?_ ?_
      · simp only [List.getElem_toArray, List.getElem_cons_succ, List.getElem_cons_zero, execOp, Reg.eval_tmp e20]
        go_simp
      exact hK.out _ _ ⟨g1, g2, g3, Y, M, by rw [HA.out]; exact Reg.fill_up 8 hb rfl rfl rfl, HW.keep (show 8 ∉ [0, 1, 4, 5] by decide)⟩
    refine Reg.steps_cons (i := 9) ?_ ?_
    · rintro bb aa ww ⟨g1, g2, g3, Y, M, ha, HW⟩ hb hd hn
      have e27 : aa.tmps[27]? = some (.pointer (some ⟨Y, 0, none⟩)) := by rw [ha]; exact Reg.fill_on 7 rfl rfl (hd 7 (by decide)) rfl
      have HA := Lib.hid ha
      clear ha
      refine ⟨_, rfl, fun K hK => ?_⟩
      refine Reg.do_val rfl rfl (v := .pointer (some ⟨Y, 0, none⟩)) (w1 := ww) (by simp only [List.getElem_toArray, List.getElem_cons_succ, List.getElem_cons_zero, execOp, Reg.eval_tmp e27]; rfl) ?_
      exact hK.out _ _ ⟨g1, g2, g3, Y, M, by rw [HA.out]; exact Reg.fill_up 9 hb rfl rfl rfl, HW.keep (show 9 ∉ [0, 1, 4, 5] by decide)⟩
    refine Reg.steps_cons (i := 10) ?_ ?_
    · rintro bb aa ww ⟨g1, g2, g3, Y, M, ha, HW⟩ hb hd hn
      have e28 : aa.tmps[28]? = some (.int .i64 (-1)) := by rw [ha]; exact Reg.fill_on 8 rfl rfl (hd 8 (by decide)) rfl
      have HA := Lib.hid ha
      clear ha
      refine ⟨_, rfl, fun K hK => ?_⟩
      refine Reg.do_val rfl rfl (v := .int .i64 (-1)) (w1 := ww) (by simp only [List.getElem_toArray, List.getElem_cons_succ, List.getElem_cons_zero, execOp, Reg.eval_tmp e28]; rfl) ?_
      exact hK.out _ _ ⟨g1, g2, g3, Y, M, by rw [HA.out]; exact Reg.fill_up 10 hb rfl rfl rfl, HW.keep (show 10 ∉ [0, 1, 4, 5] by decide)⟩
    exact trivial
  rintro bb aa W3 hall ⟨g1, g2, g3, Y, M, ha, HW⟩
  obtain ⟨⟨FS, hy, hF⟩, hY, hM⟩ := HW.y (hall 5 (by decide))
  have HAS : Hid (AS w Y M FS Yp.aw1 W3) := Lib.hid ⟨hy, Nat.le_trans HB3.out.size hY, Nat.le_trans HB3.out.size hM, fun g e => Nat.le_trans HB3.out.size (hF g e), HB3.out.trans (HW.be.mono HB3.out.size)⟩
  have Q0 := Lib.hid (HW.rem P0.out hY hM hF)
  have Q1 := Lib.hid (HW.rem P1.out hY hM hF)
  have QT := Lib.hid (HW.rem RT.out hY hM hF)
  have hg1 := And.intro (HW.r1 (hall 0 (by decide))).1 (HW.r2 (hall 1 (by decide))).1
  clear HW hy hF hY hM hg1 P0 P1 RT RN RV HB1 HB2
  have hb0 := hall 0 (by decide)
  have hb1 := hall 1 (by decide)
  have hb2 := hall 2 (by decide)
  have hb3 := hall 3 (by decide)
  have hb4 := hall 4 (by decide)
  have hb5 := hall 5 (by decide)
  have hb6 := hall 6 (by decide)
  have hb7 := hall 7 (by decide)
  have hb8 := hall 8 (by decide)
  have hb9 := hall 9 (by decide)
  have hb10 := hall 10 (by decide)
  simp only [Reg.fill, hb0, hb1, hb2, hb3, hb4, hb5, hb6, hb7, hb8, hb9, hb10, if_true, Act.put, List.setIfInBounds_toArray, List.set_cons_zero, List.set_cons_succ] at ha
  clear hb0 hb1 hb2 hb3 hb4 hb5 hb6 hb7 hb8 hb9 hb10 hall
  subst ha
  have ht := totals_any HAS.out.yat Yp.aw_inv1
  rw [aw_tot] at ht
  go_wp2_with fail
  refine ht.mono ?_; rintro e w4 ⟨rfl, hb4⟩
  have HAS := Lib.hid (HAS.out.below hb4)
  have Q0 := Lib.hid (Q0.out.below hb4)
  have Q1 := Lib.hid (Q1.out.below hb4)
  have QT := Lib.hid (QT.out.below hb4)
  clear ht hb4
  go_wp2_with fail
  have Q4 := Lib.hid (Rem.new HAS.out.yat #[.int .i64 10000, .int .i64 0, .int .i64 9200, .int .i64 0, .int .i64 0, .int .i64 0, .int .i64 0, .int .i64 800] 53)
  have HAS := Lib.hid (HAS.out.below (al_below w4 (.cells #[.int .i64 10000, .int .i64 0, .int .i64 9200, .int .i64 0, .int .i64 0, .int .i64 0, .int .i64 0, .int .i64 800] 53)))
  have Q0 := Lib.hid (Q0.out.below (al_below w4 (.cells #[.int .i64 10000, .int .i64 0, .int .i64 9200, .int .i64 0, .int .i64 0, .int .i64 0, .int .i64 0, .int .i64 800] 53)))
  have Q1 := Lib.hid (Q1.out.below (al_below w4 (.cells #[.int .i64 10000, .int .i64 0, .int .i64 9200, .int .i64 0, .int .i64 0, .int .i64 0, .int .i64 0, .int .i64 800] 53)))
  have QT := Lib.hid (QT.out.below (al_below w4 (.cells #[.int .i64 10000, .int .i64 0, .int .i64 9200, .int .i64 0, .int .i64 0, .int .i64 0, .int .i64 0, .int .i64 800] 53)))
  generalize w4.alloc (.cells #[.int .i64 10000, .int .i64 0, .int .i64 9200, .int .i64 0, .int .i64 0, .int .i64 0, .int .i64 0, .int .i64 800] 53) = W4 at *
  have hpth := path_any HAS.out.yat (id := Yp.sR) (x := Yp.itR) (l := [Yp.sB]) (by kernel_rfl) (.step Yp.itR Yp.itB [] (by decide) (by kernel_rfl) (.top Yp.itB rfl)) (by decide)
  go_wp2_with fail
  refine hpth.mono ?_; rintro e w5 ⟨vp, rfl, hop, hb5⟩
  obtain ⟨gp, cp, rfl, hgp, _⟩ := own_slice hop (by decide)
  obtain ⟨cur, hqp, hcur⟩ := own_rem hop HAS.out
  have HAS := Lib.hid (HAS.out.below hb5)
  have Q0 := Lib.hid (Q0.out.below hb5)
  have Q1 := Lib.hid (Q1.out.below hb5)
  have QT := Lib.hid (QT.out.below hb5)
  have Q4 := Lib.hid (Q4.out.below hb5)
  have QP := Lib.hid hqp
  have HCUR := Lib.hid hcur
  clear hop hgp hqp hcur hb5
  go_wp2_with fail
  have QN := Lib.hid (Rem.new HAS.out.yat #[.string { data := #[108] }, .string { data := #[115] }] 9)
  have HAS := Lib.hid (HAS.out.below (al_below w5 (.cells #[.string { data := #[108] }, .string { data := #[115] }] 9)))
  have Q0 := Lib.hid (Q0.out.below (al_below w5 (.cells #[.string { data := #[108] }, .string { data := #[115] }] 9)))
  have Q1 := Lib.hid (Q1.out.below (al_below w5 (.cells #[.string { data := #[108] }, .string { data := #[115] }] 9)))
  have QT := Lib.hid (QT.out.below (al_below w5 (.cells #[.string { data := #[108] }, .string { data := #[115] }] 9)))
  have Q4 := Lib.hid (Q4.out.below (al_below w5 (.cells #[.string { data := #[108] }, .string { data := #[115] }] 9)))
  have QP := Lib.hid (QP.out.below (al_below w5 (.cells #[.string { data := #[108] }, .string { data := #[115] }] 9)))
  have hf := fact_any (w5.alloc (.cells #[.string { data := #[108] }, .string { data := #[115] }] 9)) Yp.asgF.kind (some ⟨w5.heap.size, 0, none⟩) none 2 2 0 0
  generalize w5.alloc (.cells #[.string { data := #[108] }, .string { data := #[115] }] 9) = W5 at *
  refine hf.mono ?_; rintro e w6 ⟨rfl, hb6⟩
  have HAS := Lib.hid (HAS.out.below hb6)
  have Q0 := Lib.hid (Q0.out.below hb6)
  have Q1 := Lib.hid (Q1.out.below hb6)
  have QT := Lib.hid (QT.out.below hb6)
  have Q4 := Lib.hid (Q4.out.below hb6)
  have QP := Lib.hid (QP.out.below hb6)
  have QN := Lib.hid (QN.out.below hb6)
  clear hf hb6
  go_wp2_with fail
  have hdo := do_aw HAS.out Yp.aw_inv1 (by decide) (by decide) Yp.asgF (.slice (some ⟨w5.heap.size, 0, none⟩) 2 2) (.slice none 0 0) (rd_rem (l := strV Yp.asgF.names) QN.out) (rd_nl _ _) Yp.aw_s2 Yp.aw_asg
  rw [Yp.aw_asg2] at hdo
  refine hdo.mono ?_; rintro e w7 ⟨rfl, FS2, has7, hrem7⟩
  have Q0 := Lib.hid (hrem7 _ _ Q0.out)
  have Q1 := Lib.hid (hrem7 _ _ Q1.out)
  have QT := Lib.hid (hrem7 _ _ QT.out)
  have Q4 := Lib.hid (hrem7 _ _ Q4.out)
  have QP := Lib.hid (hrem7 _ _ QP.out)
  have HAS := Lib.hid has7
  clear hdo has7 hrem7 QN
  go_wp2_with fail
  have QN := Lib.hid (Rem.new HAS.out.yat #[.string { data := #[108] }] 9)
  have HAS := Lib.hid (HAS.out.below (al_below w7 (.cells #[.string { data := #[108] }] 9)))
  have Q0 := Lib.hid (Q0.out.below (al_below w7 (.cells #[.string { data := #[108] }] 9)))
  have Q1 := Lib.hid (Q1.out.below (al_below w7 (.cells #[.string { data := #[108] }] 9)))
  have QT := Lib.hid (QT.out.below (al_below w7 (.cells #[.string { data := #[108] }] 9)))
  have Q4 := Lib.hid (Q4.out.below (al_below w7 (.cells #[.string { data := #[108] }] 9)))
  have QP := Lib.hid (QP.out.below (al_below w7 (.cells #[.string { data := #[108] }] 9)))
  have hf := fact_any (w7.alloc (.cells #[.string { data := #[108] }] 9)) Yp.setF.kind (some ⟨w7.heap.size, 0, none⟩) none 1 1 0 0
  generalize w7.alloc (.cells #[.string { data := #[108] }] 9) = W7 at *
  refine hf.mono ?_; rintro e w8 ⟨rfl, hb8⟩
  have HAS := Lib.hid (HAS.out.below hb8)
  have Q0 := Lib.hid (Q0.out.below hb8)
  have Q1 := Lib.hid (Q1.out.below hb8)
  have QT := Lib.hid (QT.out.below hb8)
  have Q4 := Lib.hid (Q4.out.below hb8)
  have QP := Lib.hid (QP.out.below hb8)
  have QN := Lib.hid (QN.out.below hb8)
  clear hf hb8
  go_wp2_with fail
  have hdo := do_aw HAS.out Yp.aw_inv2 (by decide) (by decide) Yp.setF (.slice (some ⟨w7.heap.size, 0, none⟩) 1 1) (.slice none 0 0) (rd_rem (l := strV Yp.setF.names) QN.out) (rd_nl _ _) Yp.aw_s3 Yp.aw_set
  rw [Yp.aw_set2] at hdo
  refine hdo.mono ?_; rintro e w9 ⟨rfl, FS3, has9, hrem9⟩
  have Q0 := Lib.hid (hrem9 _ _ Q0.out)
  have Q1 := Lib.hid (hrem9 _ _ Q1.out)
  have QT := Lib.hid (hrem9 _ _ QT.out)
  have Q4 := Lib.hid (hrem9 _ _ Q4.out)
  have QP := Lib.hid (hrem9 _ _ QP.out)
  have HAS := Lib.hid has9
  clear hdo has9 hrem9 QN
  have hst := stone_any HAS.out.yat Yp.sS
  go_wp2_with fail
  refine hst.mono ?_; rintro e w10 ⟨h10, hb10⟩
  have HAS := Lib.hid (HAS.out.below hb10)
  have Q0 := Lib.hid (Q0.out.below hb10)
  have Q1 := Lib.hid (Q1.out.below hb10)
  have QT := Lib.hid (QT.out.below hb10)
  have Q4 := Lib.hid (Q4.out.below hb10)
  have QP := Lib.hid (QP.out.below hb10)
  rcases h10 with ⟨x, hx, _, hxs, rfl⟩ | ⟨h10, _⟩
  rotate_left
  · rcases h10 with h10 | h10
    · exact absurd h10 (by decide)
    · exact absurd rfl (h10 (Yp.itL 4 Yp.sS) (.tail _ (.head _)))
  obtain rfl := aw_stone x hx hxs
  clear hx hxs hst hb10
  rw [show itC (Yp.itL 4 Yp.sS) = #[.string { data := #[108] }, .string { data := #[98] }, .int .i64 0, .int .i64 0, .int .i64 0, .int .i64 40, .int .i64 10, .int .i64 10, .int .i64 4, .string { data := #[115] }] from rfl]
  have Q9 := Lib.hid (Rem.new HAS.out.yat #[.string { data := #[108] }, .string { data := #[98] }, .int .i64 0, .int .i64 0, .int .i64 0, .int .i64 40, .int .i64 10, .int .i64 10, .int .i64 4, .string { data := #[115] }] 47)
  have HAS := Lib.hid (HAS.out.below (al_below w10 (.cells #[.string { data := #[108] }, .string { data := #[98] }, .int .i64 0, .int .i64 0, .int .i64 0, .int .i64 40, .int .i64 10, .int .i64 10, .int .i64 4, .string { data := #[115] }] 47)))
  have Q0 := Lib.hid (Q0.out.below (al_below w10 (.cells #[.string { data := #[108] }, .string { data := #[98] }, .int .i64 0, .int .i64 0, .int .i64 0, .int .i64 40, .int .i64 10, .int .i64 10, .int .i64 4, .string { data := #[115] }] 47)))
  have Q1 := Lib.hid (Q1.out.below (al_below w10 (.cells #[.string { data := #[108] }, .string { data := #[98] }, .int .i64 0, .int .i64 0, .int .i64 0, .int .i64 40, .int .i64 10, .int .i64 10, .int .i64 4, .string { data := #[115] }] 47)))
  have QT := Lib.hid (QT.out.below (al_below w10 (.cells #[.string { data := #[108] }, .string { data := #[98] }, .int .i64 0, .int .i64 0, .int .i64 0, .int .i64 40, .int .i64 10, .int .i64 10, .int .i64 4, .string { data := #[115] }] 47)))
  have Q4 := Lib.hid (Q4.out.below (al_below w10 (.cells #[.string { data := #[108] }, .string { data := #[98] }, .int .i64 0, .int .i64 0, .int .i64 0, .int .i64 40, .int .i64 10, .int .i64 10, .int .i64 4, .string { data := #[115] }] 47)))
  have QP := Lib.hid (QP.out.below (al_below w10 (.cells #[.string { data := #[108] }, .string { data := #[98] }, .int .i64 0, .int .i64 0, .int .i64 0, .int .i64 40, .int .i64 10, .int .i64 10, .int .i64 4, .string { data := #[115] }] 47)))
  have k0 := (row_cells QT.out.row).1 0
  have k1 := (row_cells QT.out.row).1 1
  have k2 := (row_cells QT.out.row).1 2
  have hen := enc_any (w := w10.alloc (.cells #[.string { data := #[108] }, .string { data := #[98] }, .int .i64 0, .int .i64 0, .int .i64 0, .int .i64 40, .int .i64 10, .int .i64 10, .int .i64 4, .string { data := #[115] }] 47)) Yp.cutF (.slice (some ⟨w.heap.size, 0, none⟩) 3 3) (.slice (some ⟨w.heap.size + 1, 0, none⟩) 3 3) (rd_rem (l := strV Yp.cutF.names) Q0.out) (rd_rem (l := intV Yp.cutF.vals) Q1.out) Yp.aw_s6 Yp.aw_i6 (HE.out.on HAS.out.be).tab
  rw [Yp.aw_enc] at hen
  have HEN := Lib.hid hen
  clear hen
  go_wp2_with fail
  clear k0 k1 k2
  generalize w10.alloc (.cells #[.string { data := #[108] }, .string { data := #[98] }, .int .i64 0, .int .i64 0, .int .i64 0, .int .i64 40, .int .i64 10, .int .i64 10, .int .i64 4, .string { data := #[115] }] 47) = W10 at *
  refine HEN.out.mono ?_; rintro e w11 ⟨rfl, hb11⟩
  have HAS := Lib.hid (HAS.out.below hb11)
  have Q0 := Lib.hid (Q0.out.below hb11)
  have Q1 := Lib.hid (Q1.out.below hb11)
  have QT := Lib.hid (QT.out.below hb11)
  have Q4 := Lib.hid (Q4.out.below hb11)
  have QP := Lib.hid (QP.out.below hb11)
  have Q9 := Lib.hid (Q9.out.below hb11)
  clear HEN hb11
  have hde := dec_any (HE.out.on HAS.out.be) Yp.sCut (by decide)
  rw [Yp.aw_dec] at hde
  go_wp2_with fail
  rw [show Yp.sCut = ({ data := #[99, 117, 116, 32, 98, 32, 108, 32, 114, 32, 48, 32, 52, 48, 32, 56] } : ByteArray) from rfl]
  refine hde.mono ?_; rintro e w12 ⟨dn, dv, rfl, hdn, hdv, hb12⟩
  have HAS := Lib.hid (HAS.out.below hb12)
  have Q0 := Lib.hid (Q0.out.below hb12)
  have Q1 := Lib.hid (Q1.out.below hb12)
  have QT := Lib.hid (QT.out.below hb12)
  have Q4 := Lib.hid (Q4.out.below hb12)
  have QP := Lib.hid (QP.out.below hb12)
  have Q9 := Lib.hid (Q9.out.below hb12)
  obtain ⟨An, cn, rfl, hxn⟩ := id hdn
  obtain ⟨Av, cv, rfl, hxv⟩ := id hdv
  have DN := Lib.hid (hdn.mono fun _ _ _ => trivial : Rd w12 (fun _ => True) _ _)
  have DV := Lib.hid (hdv.mono fun _ _ _ => trivial : Rd w12 (fun _ => True) _ _)
  clear hxn hxv hdn hdv hde hb12
  have hl3 : (strV Yp.cutF.names).length = 3 := rfl
  have hl4 : (intV Yp.cutF.vals).length = 3 := rfl
  rw [hl3] at DN ⊢
  rw [hl4] at DV ⊢
  clear hl3 hl4
  rw [show Yp.cutF.kind = ({ data := #[99, 117, 116] } : ByteArray) from rfl]
  go_wp2_with fail
  have QD := Lib.hid (Rem.new HAS.out.yat #[.string { data := #[99, 117, 116] }, .slice An 3 cn, .slice Av 3 cv] 39)
  have HAS := Lib.hid (HAS.out.below (al_below w12 (.cells #[.string { data := #[99, 117, 116] }, .slice An 3 cn, .slice Av 3 cv] 39)))
  have Q0 := Lib.hid (Q0.out.below (al_below w12 (.cells #[.string { data := #[99, 117, 116] }, .slice An 3 cn, .slice Av 3 cv] 39)))
  have Q1 := Lib.hid (Q1.out.below (al_below w12 (.cells #[.string { data := #[99, 117, 116] }, .slice An 3 cn, .slice Av 3 cv] 39)))
  have QT := Lib.hid (QT.out.below (al_below w12 (.cells #[.string { data := #[99, 117, 116] }, .slice An 3 cn, .slice Av 3 cv] 39)))
  have Q4 := Lib.hid (Q4.out.below (al_below w12 (.cells #[.string { data := #[99, 117, 116] }, .slice An 3 cn, .slice Av 3 cv] 39)))
  have QP := Lib.hid (QP.out.below (al_below w12 (.cells #[.string { data := #[99, 117, 116] }, .slice An 3 cn, .slice Av 3 cv] 39)))
  have Q9 := Lib.hid (Q9.out.below (al_below w12 (.cells #[.string { data := #[99, 117, 116] }, .slice An 3 cn, .slice Av 3 cv] 39)))
  have DN := Lib.hid (DN.out.below (al_below w12 (.cells #[.string { data := #[99, 117, 116] }, .slice An 3 cn, .slice Av 3 cv] 39)))
  have DV := Lib.hid (DV.out.below (al_below w12 (.cells #[.string { data := #[99, 117, 116] }, .slice An 3 cn, .slice Av 3 cv] 39)))
  generalize w12.alloc (.cells #[.string { data := #[99, 117, 116] }, .slice An 3 cn, .slice Av 3 cv] 39) = W12 at *
  have hfi := find_found HAS.out.yat (id := Yp.sR) (x := Yp.itR) (by kernel_rfl)
  rw [show itC Yp.itR = #[.string { data := #[114] }, .string { data := #[98] }, .int .i64 48, .int .i64 0, .int .i64 0, .int .i64 100, .int .i64 10, .int .i64 10, .int .i64 1, .string { data := #[] }] from rfl] at hfi
  refine hfi.mono ?_; rintro e w13 ⟨rfl, hb13⟩
  have HAS := Lib.hid (HAS.out.below hb13)
  have Q0 := Lib.hid (Q0.out.below hb13)
  have Q1 := Lib.hid (Q1.out.below hb13)
  have QT := Lib.hid (QT.out.below hb13)
  have Q4 := Lib.hid (Q4.out.below hb13)
  have QP := Lib.hid (QP.out.below hb13)
  have Q9 := Lib.hid (Q9.out.below hb13)
  have QD := Lib.hid (QD.out.below hb13)
  have DN := Lib.hid (DN.out.below hb13)
  have DV := Lib.hid (DV.out.below hb13)
  clear hfi hb13
  have QF := Lib.hid (Rem.new HAS.out.yat #[.string { data := #[114] }, .string { data := #[98] }, .int .i64 48, .int .i64 0, .int .i64 0, .int .i64 100, .int .i64 10, .int .i64 10, .int .i64 1, .string { data := #[] }] 47)
  have HAS := Lib.hid (HAS.out.below (al_below w13 (.cells #[.string { data := #[114] }, .string { data := #[98] }, .int .i64 48, .int .i64 0, .int .i64 0, .int .i64 100, .int .i64 10, .int .i64 10, .int .i64 1, .string { data := #[] }] 47)))
  have Q0 := Lib.hid (Q0.out.below (al_below w13 (.cells #[.string { data := #[114] }, .string { data := #[98] }, .int .i64 48, .int .i64 0, .int .i64 0, .int .i64 100, .int .i64 10, .int .i64 10, .int .i64 1, .string { data := #[] }] 47)))
  have Q1 := Lib.hid (Q1.out.below (al_below w13 (.cells #[.string { data := #[114] }, .string { data := #[98] }, .int .i64 48, .int .i64 0, .int .i64 0, .int .i64 100, .int .i64 10, .int .i64 10, .int .i64 1, .string { data := #[] }] 47)))
  have QT := Lib.hid (QT.out.below (al_below w13 (.cells #[.string { data := #[114] }, .string { data := #[98] }, .int .i64 48, .int .i64 0, .int .i64 0, .int .i64 100, .int .i64 10, .int .i64 10, .int .i64 1, .string { data := #[] }] 47)))
  have Q4 := Lib.hid (Q4.out.below (al_below w13 (.cells #[.string { data := #[114] }, .string { data := #[98] }, .int .i64 48, .int .i64 0, .int .i64 0, .int .i64 100, .int .i64 10, .int .i64 10, .int .i64 1, .string { data := #[] }] 47)))
  have QP := Lib.hid (QP.out.below (al_below w13 (.cells #[.string { data := #[114] }, .string { data := #[98] }, .int .i64 48, .int .i64 0, .int .i64 0, .int .i64 100, .int .i64 10, .int .i64 10, .int .i64 1, .string { data := #[] }] 47)))
  have Q9 := Lib.hid (Q9.out.below (al_below w13 (.cells #[.string { data := #[114] }, .string { data := #[98] }, .int .i64 48, .int .i64 0, .int .i64 0, .int .i64 100, .int .i64 10, .int .i64 10, .int .i64 1, .string { data := #[] }] 47)))
  have QD := Lib.hid (QD.out.below (al_below w13 (.cells #[.string { data := #[114] }, .string { data := #[98] }, .int .i64 48, .int .i64 0, .int .i64 0, .int .i64 100, .int .i64 10, .int .i64 10, .int .i64 1, .string { data := #[] }] 47)))
  have DN := Lib.hid (DN.out.below (al_below w13 (.cells #[.string { data := #[114] }, .string { data := #[98] }, .int .i64 48, .int .i64 0, .int .i64 0, .int .i64 100, .int .i64 10, .int .i64 10, .int .i64 1, .string { data := #[] }] 47)))
  have DV := Lib.hid (DV.out.below (al_below w13 (.cells #[.string { data := #[114] }, .string { data := #[98] }, .int .i64 48, .int .i64 0, .int .i64 0, .int .i64 100, .int .i64 10, .int .i64 10, .int .i64 1, .string { data := #[] }] 47)))
  have l0 := (row_cells Q4.out.row).1 0
  have l1 := (row_cells Q4.out.row).1 1
  have l2 := (row_cells Q4.out.row).1 2
  have l3 := (row_cells Q4.out.row).1 3
  have l4 := (row_cells Q4.out.row).1 4
  have l5 := (row_cells Q4.out.row).1 5
  have l6 := (row_cells Q4.out.row).1 6
  have l7 := (row_cells Q4.out.row).1 7
  have m0 := ((row_cells QP.out.row).1 0).trans (HCUR.out 0 (.string { data := #[98] }) rfl)
  have m1 := ((row_cells QP.out.row).1 1).trans (HCUR.out 1 (.string { data := #[114] }) rfl)
  have n0 := (row_cells Q9.out.row).1 0
  have n5 := (row_cells Q9.out.row).1 5
  have n8 := (row_cells Q9.out.row).1 8
  have heq : (Op.equalIn 9999 51 (.agg #[.int .i64 0, .int .i64 9200, .int .i64 0, .int .i64 0, .int .i64 0, .int .i64 0]) (.agg #[.int .i64 0, .int .i64 9200, .int .i64 0, .int .i64 0, .int .i64 0, .int .i64 0])).run Tryz.prog (w13.alloc (.cells #[.string { data := #[114] }, .string { data := #[98] }, .int .i64 48, .int .i64 0, .int .i64 0, .int .i64 100, .int .i64 10, .int .i64 10, .int .i64 1, .string { data := #[] }] 47)) = .ok true (w13.alloc (.cells #[.string { data := #[114] }, .string { data := #[98] }, .int .i64 48, .int .i64 0, .int .i64 0, .int .i64 100, .int .i64 10, .int .i64 10, .int .i64 1, .string { data := #[] }] 47)) := by kernel_rfl
  go_wp2_with fail
  have hsz : (w13.alloc (.cells #[.string { data := #[114] }, .string { data := #[98] }, .int .i64 48, .int .i64 0, .int .i64 0, .int .i64 100, .int .i64 10, .int .i64 10, .int .i64 1, .string { data := #[] }] 47)).heap.size = w13.heap.size + 1 := by simp
  have hbx := al_below (w13.alloc (.cells #[.string { data := #[114] }, .string { data := #[98] }, .int .i64 48, .int .i64 0, .int .i64 0, .int .i64 100, .int .i64 10, .int .i64 10, .int .i64 1, .string { data := #[] }] 47)) (.cells #[.string { data := #[114] }, .string { data := #[115] }] 9)
  have hqn := Rem.new HAS.out.yat #[.string { data := #[114] }, .string { data := #[115] }] 9
  rw [hsz] at hqn
  have QN := Lib.hid hqn
  have HAS := Lib.hid (HAS.out.below hbx)
  have Q0 := Lib.hid (Q0.out.below hbx)
  have Q1 := Lib.hid (Q1.out.below hbx)
  have QT := Lib.hid (QT.out.below hbx)
  have Q4 := Lib.hid (Q4.out.below hbx)
  have QP := Lib.hid (QP.out.below hbx)
  have Q9 := Lib.hid (Q9.out.below hbx)
  have QD := Lib.hid (QD.out.below hbx)
  have QF := Lib.hid (QF.out.below hbx)
  have DN := Lib.hid (DN.out.below hbx)
  have DV := Lib.hid (DV.out.below hbx)
  clear hqn hsz hbx heq l0 l1 l2 l3 l4 l5 l6 l7 m0 m1 n0 n5 n8
  have hf := fun W => fact_any W Yp.asg2F.kind (some ⟨w13.heap.size + 1, 0, none⟩) none 2 2 0 0
  generalize (w13.alloc (.cells #[.string { data := #[114] }, .string { data := #[98] }, .int .i64 48, .int .i64 0, .int .i64 0, .int .i64 100, .int .i64 10, .int .i64 10, .int .i64 1, .string { data := #[] }] 47)).alloc (.cells #[.string { data := #[114] }, .string { data := #[115] }] 9) = W14 at *
  refine (hf W14).mono ?_; rintro e w15 ⟨rfl, hb15⟩
  have HAS := Lib.hid (HAS.out.below hb15)
  have Q0 := Lib.hid (Q0.out.below hb15)
  have Q1 := Lib.hid (Q1.out.below hb15)
  have QT := Lib.hid (QT.out.below hb15)
  have Q4 := Lib.hid (Q4.out.below hb15)
  have QP := Lib.hid (QP.out.below hb15)
  have Q9 := Lib.hid (Q9.out.below hb15)
  have QD := Lib.hid (QD.out.below hb15)
  have QF := Lib.hid (QF.out.below hb15)
  have QN := Lib.hid (QN.out.below hb15)
  have DN := Lib.hid (DN.out.below hb15)
  have DV := Lib.hid (DV.out.below hb15)
  clear hf hb15
  have hck := check_any HAS.out.yat Yp.aw_inv3 (by decide) (by decide) _ Yp.asg2F _ _ (rd_rem (l := strV Yp.asg2F.names) QN.out) (rd_nl _ _) Yp.aw_s4
  rw [Yp.aw_dup] at hck
  go_wp2_with fail
  refine hck.mono ?_; rintro e w16 ⟨rfl, hb16⟩
  have HAS := Lib.hid (HAS.out.below hb16)
  have Q0 := Lib.hid (Q0.out.below hb16)
  have Q1 := Lib.hid (Q1.out.below hb16)
  have QT := Lib.hid (QT.out.below hb16)
  have Q4 := Lib.hid (Q4.out.below hb16)
  have QP := Lib.hid (QP.out.below hb16)
  have Q9 := Lib.hid (Q9.out.below hb16)
  have QD := Lib.hid (QD.out.below hb16)
  have QF := Lib.hid (QF.out.below hb16)
  have DN := Lib.hid (DN.out.below hb16)
  have DV := Lib.hid (DV.out.below hb16)
  clear hck hb16 QN
  go_wp2_with fail
  have QN := Lib.hid (Rem.new HAS.out.yat #[.string { data := #[108] }] 9)
  have HAS := Lib.hid (HAS.out.below (al_below w16 (.cells #[.string { data := #[108] }] 9)))
  have Q0 := Lib.hid (Q0.out.below (al_below w16 (.cells #[.string { data := #[108] }] 9)))
  have Q1 := Lib.hid (Q1.out.below (al_below w16 (.cells #[.string { data := #[108] }] 9)))
  have QT := Lib.hid (QT.out.below (al_below w16 (.cells #[.string { data := #[108] }] 9)))
  have Q4 := Lib.hid (Q4.out.below (al_below w16 (.cells #[.string { data := #[108] }] 9)))
  have QP := Lib.hid (QP.out.below (al_below w16 (.cells #[.string { data := #[108] }] 9)))
  have Q9 := Lib.hid (Q9.out.below (al_below w16 (.cells #[.string { data := #[108] }] 9)))
  have QD := Lib.hid (QD.out.below (al_below w16 (.cells #[.string { data := #[108] }] 9)))
  have QF := Lib.hid (QF.out.below (al_below w16 (.cells #[.string { data := #[108] }] 9)))
  have DN := Lib.hid (DN.out.below (al_below w16 (.cells #[.string { data := #[108] }] 9)))
  have DV := Lib.hid (DV.out.below (al_below w16 (.cells #[.string { data := #[108] }] 9)))
  have hf := fact_any (w16.alloc (.cells #[.string { data := #[108] }] 9)) Yp.relF.kind (some ⟨w16.heap.size, 0, none⟩) none 1 1 0 0
  generalize w16.alloc (.cells #[.string { data := #[108] }] 9) = W16 at *
  refine hf.mono ?_; rintro e w17 ⟨rfl, hb17⟩
  have HAS := Lib.hid (HAS.out.below hb17)
  have Q0 := Lib.hid (Q0.out.below hb17)
  have Q1 := Lib.hid (Q1.out.below hb17)
  have QT := Lib.hid (QT.out.below hb17)
  have Q4 := Lib.hid (Q4.out.below hb17)
  have QP := Lib.hid (QP.out.below hb17)
  have Q9 := Lib.hid (Q9.out.below hb17)
  have QD := Lib.hid (QD.out.below hb17)
  have QF := Lib.hid (QF.out.below hb17)
  have QN := Lib.hid (QN.out.below hb17)
  have DN := Lib.hid (DN.out.below hb17)
  have DV := Lib.hid (DV.out.below hb17)
  clear hf hb17
  have hdo := do_refused HAS.out.yat Yp.aw_inv3 (by decide) (by decide) _ Yp.relF _ _ (rd_rem (l := strV Yp.relF.names) QN.out) (rd_nl _ _) Yp.aw_s5 (by rw [Yp.aw_rel]; decide)
  rw [Yp.aw_rel] at hdo
  go_wp2_with fail
  refine hdo.mono ?_; rintro e w18 ⟨rfl, hb18⟩
  have HAS := Lib.hid (HAS.out.below hb18)
  have Q0 := Lib.hid (Q0.out.below hb18)
  have Q1 := Lib.hid (Q1.out.below hb18)
  have QT := Lib.hid (QT.out.below hb18)
  have Q4 := Lib.hid (Q4.out.below hb18)
  have QP := Lib.hid (QP.out.below hb18)
  have Q9 := Lib.hid (Q9.out.below hb18)
  have QD := Lib.hid (QD.out.below hb18)
  have QF := Lib.hid (QF.out.below hb18)
  have DN := Lib.hid (DN.out.below hb18)
  have DV := Lib.hid (DV.out.below hb18)
  clear hdo hb18 QN
  have k0 := (row_cells QT.out.row).1 0
  have k1 := (row_cells QT.out.row).1 1
  have k2 := (row_cells QT.out.row).1 2
  have d0 := (row_cells QD.out.row).1 0
  have d1 := (row_cells QD.out.row).1 1
  have d2 := (row_cells QD.out.row).1 2
  have hsm := same_any Yp.cutF Yp.cutF _ _ _ _ DN.out DV.out (rd_rem (l := strV Yp.cutF.names) Q0.out) (rd_rem (l := intV Yp.cutF.vals) Q1.out) (by decide)
  rw [show sameF Yp.cutF Yp.cutF = true from by decide] at hsm
  go_wp2_with fail
  refine hsm.mono ?_; rintro e w19 ⟨rfl, hb19⟩
  have HAS := Lib.hid (HAS.out.below hb19)
  have QF := Lib.hid (QF.out.below hb19)
  clear hsm hb19 k0 k1 k2 d0 d1 d2 Q0 Q1 QT Q4 QP Q9 QD DN DV
  have l1 := (row_cells QF.out.row).1 1
  have l2 := (row_cells QF.out.row).1 2
  have hit := items_any sort_said HAS.out.yat (by decide)
  go_wp2_with fail
  refine hit.mono ?_; rintro e w20 ⟨vi, li, rfl, hperm, _, hrow, hb20⟩
  have hli : li.length = 3 := hperm.length_eq
  unfold IRow at hrow
  rw [hli] at hrow
  obtain ⟨gi, ci, rfl⟩ := Go.Joins.ownsRow_form hrow (by decide)
  have HAS := Lib.hid (HAS.out.below hb20)
  clear hit hperm hrow hb20 hli l1 l2 QF
  have hfa := facts_any HAS.out.yat (by decide) Yp.aw_fs
  go_wp2_with fail
  refine hfa.mono ?_; rintro e w21 ⟨vf, rfl, hfl, hb21⟩
  obtain ⟨Af, cf, rfl, _⟩ := id hfl
  rw [show Yp.aw3.facts.length = 4 from rfl]
  have HAS := Lib.hid (HAS.out.below hb21)
  clear hfa hfl hb21
  go_wp2_with fail
  go_ret
  exact ⟨rfl, HAS.out.be⟩
end Go.Proofs.YtejhcbbfdfnfdaaGreatDoor.Yard
