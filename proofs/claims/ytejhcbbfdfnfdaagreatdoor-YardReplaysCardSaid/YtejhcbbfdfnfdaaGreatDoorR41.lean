/- The reference's Do. -/
import Derived.Test.YtejhcbbfdfnfdaaGreatDoorR40
import Derived.Test.YtejhcbbfdfnfdaaGreatDoorR39
/- The reference's items in a row of their own. -/
namespace Go.Proofs.YtejhcbbfdfnfdaaGreatDoor.Yard
open Go.RowKit Go.Proofs.YtejhcbbfdfnfdaaGreatDoor.Base Go.Proofs.YtejhcbbfdfnfdaaGreatDoor.Mp
open Yp (It Yd Fact Bx)
theorem FLs.mono {W : World} {X X' : Nat → Prop} {v : Value} {l : List Fact} (h : FLs W X v l) (hX : ∀ b, b < W.heap.size → X b → X' b) : FLs W X' v l := by
  obtain ⟨A, c, rfl, hc, h⟩ := h
  refine ⟨A, c, rfl, hc, fun h0 => ?_⟩
  obtain ⟨b, o, rfl, hl, hXb, hcell⟩ := h h0
  refine ⟨b, o, rfl, hl, hX b hl hXb, fun j f hj => ?_⟩
  obtain ⟨nv, vv, c0, c1, c2, h4, h5⟩ := hcell j f hj
  exact ⟨nv, vv, c0, c1, c2, h4.mono hX, h5.mono hX⟩
/-- The reference's yard at R, whose items lie in the row g. -/
def RG (W : World) (R g cap : Nat) (s : List It) (fs : List Fact) : Prop :=
  (∃ FV, W.heap[R]? = some (.cells #[.slice (some ⟨g, 0, none⟩) s.length cap, FV] 67 (0, 0)) ∧ FLs W (fun b => b ≠ R ∧ b ≠ g) FV fs ∧ (fs.length = 0 → FV = .slice none 0 0)) ∧
  s.length ≤ cap ∧ cap ≤ maxLen ∧ 0 < s.length ∧ g ≠ R ∧ ∃ cur : Array Value, W.heap[g]? = some (.cells cur 68 (0, 0)) ∧ ∀ (j : Nat) (u : Value), (s.flatMap itL)[j]? = some u → cur[j]? = some u
theorem RG.rat {W : World} {R g cap : Nat} {s : List It} {fs : List Fact} (h : RG W R g cap s fs) : RAt W R s fs := by
  obtain ⟨⟨FV, h1, h2, h3⟩, h4, h5, h6, h7, cur, h8, h9⟩ := h
  exact ⟨_, FV, h1, ⟨_, cap, rfl, h4, h5, fun e => by omega, fun _ => ⟨g, rfl, block_lt h8, h7, fun i u hi => ((row_cells h8).1 i).trans (h9 i u hi)⟩⟩, h2.mono fun b _ hx => hx.1, h3⟩
theorem RG.below {W W' : World} {R g cap : Nat} {s : List It} {fs : List Fact} (h : RG W R g cap s fs) (hb : Below W.heap.size W W') : RG W' R g cap s fs := by
  obtain ⟨⟨FV, h1, h2, h3⟩, h4, h5, h6, h7, cur, h8, h9⟩ := h
  exact ⟨⟨FV, row_after hb h1, h2.below hb, h3⟩, h4, h5, h6, h7, cur, row_after hb h8, h9⟩
theorem RG.cells {W : World} {R g cap : Nat} {s : List It} {fs : List Fact} (h : RG W R g cap s fs) {i : Nat} {x : It} (hi : s[i]? = some x) : W.cell? ⟨R, 0, none⟩ = some (.slice (some ⟨g, 0, none⟩) s.length cap) ∧ ItAt W g i x ∧ ∀ o, W.frozen? ⟨g, o, none⟩ = false := by
  obtain ⟨⟨FV, h1, h2, h3⟩, h4, h5, h6, h7, cur, h8, h9⟩ := h
  exact ⟨(row_cells h1).1 0, flat_at (fun j u hj => ((row_cells h8).1 j).trans (h9 j u hj)) hi, (row_cells h8).2⟩
/-- A field of an item is stored. -/
theorem RG.field {W : World} {R g cap : Nat} {s : List It} {fs : List Fact} (h : RG W R g cap s fs) {i : Nat} {x x' : It} (hi : s[i]? = some x) {r : Nat} (hr : r < 10) {v : Value} (hx : itL x' = (itL x).set r v) : RG (W.setCell ⟨g, i * 10 + r, none⟩ v) R g cap (s.set i x') fs ∧ Stay (fun b => b = g) W (W.setCell ⟨g, i * 10 + r, none⟩ v) := by
  have hil := (List.getElem?_eq_some_iff.1 hi).1
  have hst := stay_cell W g (i * 10 + r) v
  refine ⟨?_, hst⟩
  obtain ⟨⟨FV, h1, h2, h3⟩, h4, h5, h6, h7, cur, h8, h9⟩ := h
  refine ⟨⟨FV, ?_, ?_, h3⟩, by simpa using h4, h5, by simpa using h6, h7, cur.setIfInBounds (i * 10 + r) v, heap_setCell_same _ _ _ _ _ _ h8, ?_⟩
  · rw [List.length_set]
    exact (hst.block R (block_lt h1) (Ne.symm h7)).trans h1
  · exact h2.after hst.size fun b hb hx => hst.block b hb hx.2
  · intro j u hj
    have hq : j = j / 10 * 10 + j % 10 := by omega
    have hm : j % 10 < 10 := Nat.mod_lt _ (by decide)
    rw [hq, flat10 _ _ _ hm, List.getElem?_set] at hj
    have h10 : (itL x).length = 10 := rfl
    by_cases hji : i = j / 10
    · rw [if_pos hji, if_pos hil] at hj
      have hj : (itL x')[j % 10]? = some u := hj
      rw [hx, List.getElem?_set] at hj
      by_cases hjr : r = j % 10
      · rw [if_pos hjr, if_pos (by omega)] at hj
        have hcr : ∃ u0, (itL x)[r]? = some u0 := ⟨_, List.getElem?_eq_getElem (by omega)⟩
        obtain ⟨u0, hu0⟩ := hcr
        have hc0 := h9 (i * 10 + r) u0 (by rw [flat10 _ _ _ hr, hi]; exact hu0)
        have hlt := (Array.getElem?_eq_some_iff.1 hc0).1
        rw [show j = i * 10 + r by omega, Array.getElem?_setIfInBounds_self, if_pos hlt]
        exact hj
      · rw [if_neg hjr] at hj
        rw [Array.getElem?_setIfInBounds_ne (by omega)]
        exact h9 j u (by rw [hq, flat10 _ _ _ hm, ← hji, hi]; exact hj)
    · rw [if_neg hji] at hj
      rw [Array.getElem?_setIfInBounds_ne (by omega)]
      exact h9 j u (by rw [hq, flat10 _ _ _ hm]; exact hj)
/-- The items copied into a new row. -/
theorem rg_copy {wf Wc : World} {R : Nat} {s : List It} {fs : List Fact} {v : Value} (h : RAt wf R s fs) (hbe : Below wf.heap.size wf Wc) (ho : Wc.ownsRow wf.heap.size 68 10 v s.length (s.flatMap itL)) (h0 : 0 < s.length) : ∃ g cap, v = .slice (some ⟨g, 0, none⟩) s.length cap ∧ wf.heap.size ≤ g ∧ RG (Wc.setCell ⟨R, 0, none⟩ v) R g cap s fs := by
  have hlt := h.lt
  obtain ⟨IV, FV, h1, h2, h3, h4⟩ := h
  have hrow := row_after hbe h1
  have hst := stay_cell Wc R 0 v
  rcases ho.2 with ⟨_, h0'⟩ | ⟨g, cap, cur, rfl, hg1, hg2, hg3, hg4, hg5, hg6⟩
  · omega
  · have hgR : g ≠ R := by omega
    refine ⟨g, cap, rfl, hg1, ⟨FV, heap_setCell_same _ _ _ _ _ _ hrow, ((h3.mono (X' := fun b => b ≠ R ∧ b ≠ g) fun b hb hne => ⟨hne, by omega⟩).below hbe).after hst.size fun b hb hne => hst.block b hb hne.1, h4⟩, hg3, hg4, h0, hgR, cur, (hst.block g (block_lt hg2) hgR).trans hg2, fun j u hj => ?_⟩
    rw [← hg6, List.getElem?_take] at hj
    split at hj
    · simpa using hj
    · cases hj
theorem rcheck_zero {s : List It} {fs : List Fact} {kd : ByteArray} {ns : List ByteArray} {vs : List Int} {k : Nat} (h : Yp.check ⟨s, fs, 0⟩ ⟨kd, ns, vs⟩ = 0) (hk : Yp.kindNo kd = some k) (h0 : k ≠ 0) : ∃ x, Yp.look s (ns.getD 0 Yp.es) = some x ∧ Yp.allowed k x.st = true ∧ (k = 1 → Yp.cutErr s x ⟨kd, ns, vs⟩ = 0) := by
  by_cases h1 : ns.length = Yp.nNames k
  rotate_left
  · rw [Yp.check_shape hk (.inl h1)] at h; exact absurd h (by decide)
  by_cases h2 : vs.length = Yp.nVals k
  rotate_left
  · rw [Yp.check_shape hk (.inr h2)] at h; exact absurd h (by decide)
  cases hb : (ns.any fun s => !Yp.isName s) with
  | true => rw [Yp.check_bad hk h1 h2 hb] at h; exact absurd h (by decide)
  | false =>
    cases hl : Yp.look s (ns.getD 0 Yp.es) with
    | none => rw [Yp.check_miss (y := ⟨s, fs, 0⟩) hk h1 h2 hb h0 hl] at h; exact absurd h (by decide)
    | some x =>
      have := Yp.check_found (y := ⟨s, fs, 0⟩) hk h1 h2 hb h0 hl
      rw [this] at h
      refine ⟨x, rfl, ?_, fun h1 => ?_⟩
      · cases ha : Yp.allowed k x.st with
        | true => rfl
        | false => rw [if_pos ha] at h; exact absurd h (by decide)
      · split at h
        · exact absurd h (by decide)
        · first | exact h | (rw [if_pos h1] at h; exact h)
/-- The reference's items behind a possible fact. -/
def rApply (s : List It) (f : Fact) (k : Nat) : List It :=
  let x := (Yp.look s (Yp.nm f 0)).getD Yp.zIt
  match k with
  | 0 => ins ⟨Yp.nm f 0, Yp.es, Yp.boxOf f.vals, 1, Yp.es⟩ s
  | 1 => ins ⟨Yp.nm f 2, Yp.nm f 0, Yp.setLo x.bx (Yp.vl f 0) (Yp.vl f 1 + Yp.vl f 2), 1, Yp.es⟩ (ins ⟨Yp.nm f 1, Yp.nm f 0, Yp.setHi x.bx (Yp.vl f 0) (Yp.vl f 1), 1, Yp.es⟩ (Yp.change s (Yp.nm f 0) 2 Yp.es))
  | 2 => Yp.change s (Yp.nm f 0) 3 (Yp.nm f 1)
  | 3 => Yp.change s (Yp.nm f 0) 1 Yp.es
  | 4 => Yp.change s (Yp.nm f 0) 4 x.stone
  | _ => Yp.change s (Yp.nm f 0) 5 Yp.es
def rItems (s : List It) (f : Fact) : List It := match Yp.kindNo f.kind with
  | none => s
  | some k => rApply s f k
/-- The reference's state behind a fact. -/
def rOut (s : List It) (fs : List Fact) (f : Fact) : List It × List Fact := if Yp.check ⟨s, fs, 0⟩ f = 0 then (rItems s f, fs ++ [f]) else (s, fs)
end Go.Proofs.YtejhcbbfdfnfdaaGreatDoor.Yard

/- The reference's Do. -/
namespace Go.Proofs.YtejhcbbfdfnfdaaGreatDoor.Yard
open Go.RowKit Go.Proofs.YtejhcbbfdfnfdaaGreatDoor.Base Go.Proofs.YtejhcbbfdfnfdaaGreatDoor.Mp
open Yp (It Yd Fact Bx)
theorem Stay.far {S : Nat → Prop} {W w w' : World} {g : Nat} (h : Stay S W w) (hg : W.heap.size ≤ g) (k : Stay (fun b => b = g) w w') : Stay S W w' :=
  ⟨k.os.trans h.os, k.tape.trans h.tape, k.output.trans h.output, Nat.le_trans h.size k.size, fun i hi hs => (k.block i (Nat.lt_of_lt_of_le hi h.size) (by omega)).trans (h.block i hi hs)⟩
theorem ins_len (x : It) (s : List It) : (ins x s).length = s.length + 1 := by
  unfold ins
  have h := congrArg List.length (List.takeWhile_append_dropWhile (p := fun y => lessI y x) (l := s))
  simp only [List.length_append, List.length_cons, List.length_nil] at h ⊢
  omega
theorem ins_len_le (x : It) {s : List It} {n : Nat} (h : s.length ≤ n) : (ins x s).length ≤ n + 1 := by rw [ins_len]; omega
theorem CutR.chg {w0 W : World} {Z F1 F2 F3 : Array Value} {t : TypeId} {b : Nat → Bool} {p q r : Nat} (h : CutR w0 Z F1 F2 F3 t b W p q r) (hb : b 13 = false) {G : Array Value} : CutR w0 Z F1 G F3 t b W p q r := by
  unfold CutR at h ⊢
  rw [hb] at h ⊢
  exact h
theorem cut_bounds {s : List It} {x : It} {kd n0 n1 n2 : ByteArray} {v0 v1 v2 : Int} (h : Yp.cutErr s x ⟨kd, [n0, n1, n2], [v0, v1, v2]⟩ = 0) : 0 ≤ v0 ∧ v0 ≤ 2 ∧ 0 ≤ v2 ∧ v2 ≤ 1000 ∧ -2000000 ≤ v1 ∧ v1 ≤ 2000000 := by
  have h : (if (Yp.look s n1).isSome = true ∨ (Yp.look s n2).isSome = true ∨ n1 = n2 then (5 : Int) else Yp.kerfCheck x.bx v0 v1 v2) = 0 := h
  split at h
  · exact absurd h (by decide)
  · have hb := h
    unfold Yp.kerfCheck at h
    split at h
    · contradiction
    · rename_i hbc
      have hbc : Yp.boxCheck x.bx = 0 := by simpa using hbc
      have hax := ax_ok hbc v0
      split at h
      · exact absurd h (by decide)
      · split at h
        · exact absurd h (by decide)
        · split at h
          · exact absurd h (by decide)
          · omega
theorem one_fact {kd : ByteArray} {A1 A2 : Option Addr} {n1 c1 n2 c2 : Nat} : ∀ y ∈ (#[.string kd, .slice A1 n1 c1, .slice A2 n2 c2] : Array Value).toList, y.oneCell' = true := by
  intro y hy
  simp only [List.mem_cons, List.not_mem_nil, or_false] at hy
  rcases hy with rfl | rfl | rfl <;> rfl
/-- Behind the store of the facts. -/
theorem rat_fact {W Wc : World} {R : Nat} {s : List It} {fs : List Fact} {X : Nat → Prop} {v nv vv : Value} {f : Fact} {news : List Value} (h : RAt W R s fs) (hbe : Below W.heap.size W Wc) (hX : ∀ b, X b → b ≠ R) (hn : Rd W X nv (strV f.names)) (hv : Rd W X vv (intV f.vals))
    (ho : Wc.ownsRow W.heap.size 39 3 v (fs.length + 1) (news ++ [.string f.kind, nv, vv])) (hl : news.length = fs.length * 3)
    (hc : ∀ (j : Nat) (g : Fact), fs[j]? = some g → ∃ nv vv, news[j * 3]? = some (.string g.kind) ∧ news[j * 3 + 1]? = some nv ∧ news[j * 3 + 2]? = some vv ∧ Rd W (fun b => b ≠ R) nv (strV g.names) ∧ Rd W (fun b => b ≠ R) vv (intV g.vals)) : RAt (Wc.setCell ⟨R, 1, none⟩ v) R s (fs ++ [f]) := by
  have hlt := h.lt
  obtain ⟨IV, FV, h1, h2, h3, h4⟩ := h
  have hrow := row_after hbe h1
  have hst := stay_cell Wc R 1 v
  have hstay : Stay (fun i => i = R) W (Wc.setCell ⟨R, 1, none⟩ v) := (Stay.of_below hbe).trans hst
  refine ⟨IV, v, heap_setCell_same _ _ _ _ _ _ hrow, h2.after hstay.size fun b hb hne => hstay.block b hb hne, ?_, fun e => by simp at e⟩
  have ho' : (Wc.setCell ⟨R, 1, none⟩ v).ownsRow W.heap.size 39 3 v (fs.length + 1) (news ++ [.string f.kind, nv, vv]) := own_below ho fun g hg => hst.block g (own_blk ho hg).2 (by have := (own_blk ho hg).1; omega)
  refine fls_own (X := fun b => b ≠ R) ho' (by simp) (fun b hb hne => ⟨hne, hstay.block b hb hne⟩) hstay.size (fun b hb => by omega) fun j g hj => ?_
  rcases Nat.lt_or_ge j fs.length with hlt2 | hge
  · rw [List.getElem?_append_left hlt2] at hj
    obtain ⟨nv', vv', c0, c1, c2, r1, r2⟩ := hc j g hj
    exact ⟨nv', vv', by rw [List.getElem?_append_left (by omega)]; exact c0, by rw [List.getElem?_append_left (by omega)]; exact c1, by rw [List.getElem?_append_left (by omega)]; exact c2, r1, r2⟩
  · have hjl := (List.getElem?_eq_some_iff.1 hj).1
    obtain rfl : j = fs.length := by simp at hjl; omega
    obtain rfl : f = g := by simpa using hj
    refine ⟨nv, vv, ?_, ?_, ?_, hn.mono fun b _ hx => hX b hx, hv.mono fun b _ hx => hX b hx⟩
    · rw [List.getElem?_append_right (by omega), hl, Nat.sub_self]; rfl
    · rw [List.getElem?_append_right (by omega), hl, Nat.add_sub_cancel_left]; rfl
    · rw [List.getElem?_append_right (by omega), hl, Nat.add_sub_cancel_left]; rfl
theorem check_len {y : Yd} {kd : ByteArray} {ns : List ByteArray} {vs : List Int} {k : Nat} (h : Yp.check y ⟨kd, ns, vs⟩ = 0) (hk : Yp.kindNo kd = some k) : ns.length = Yp.nNames k ∧ vs.length = Yp.nVals k := by
  by_cases h1 : ns.length = Yp.nNames k
  · by_cases h2 : vs.length = Yp.nVals k
    · exact ⟨h1, h2⟩
    · rw [Yp.check_shape hk (.inr h2)] at h; exact absurd h (by decide)
  · rw [Yp.check_shape hk (.inl h1)] at h; exact absurd h (by decide)
set_option maxRecDepth 100000 in
set_option maxHeartbeats 32000000 in
theorem rdo_any {W : World} {R : Nat} {s : List It} {fs : List Fact} (h : RAt W R s fs) (hu : s.Pairwise fun a b => a.id ≠ b.id) (hl : s.length < 4000) (hfl : fs.length < 4096) (hse : ∀ x ∈ s, x.st = 1 → x.stone = Yp.es) {X : Nat → Prop} (hXR : ∀ b, X b → b ≠ R) (kd : ByteArray) (ns : List ByteArray) (vs : List Int) (nv vv : Value) (hn : Rd W X nv (strV ns)) (hv : Rd W X vv (intV vs)) :
    Calls Tryz.prog 28 #[.pointer (some ⟨R, 0, none⟩), .agg #[.string kd, nv, vv]] W fun e w' => e = .returned (.int .i64 (Yp.check ⟨s, fs, 0⟩ ⟨kd, ns, vs⟩)) ∧ RAt w' R (rOut s fs ⟨kd, ns, vs⟩).1 (rOut s fs ⟨kd, ns, vs⟩).2 ∧ Stay (fun i => i = R) W w' := by
  have HRA := Lib.hid h
  have HNN := Lib.hid hn
  have HXR := Lib.hid hXR
  obtain ⟨A1, c1, rfl, _, rn⟩ := id hn
  obtain ⟨A2, c2, rfl, _, rv⟩ := id hv
  rw [show (strV ns).length = ns.length by simp [strV]] at *
  rw [show (intV vs).length = vs.length by simp [intV]] at *
  have HV0 := Lib.hid hv
  have HNA : Hid (0 < ns.length → ∃ b1 o1, A1 = some ⟨b1, o1, none⟩ ∧ ∀ W', Stay (fun i => i = R) W W' → ∀ j u, (strV ns)[j]? = some u → W'.cell? ⟨b1, o1 + j, none⟩ = some u) := Lib.hid fun h0 => by
    obtain ⟨b1, o1, e, hl1, hx1, cn⟩ := rn h0
    exact ⟨b1, o1, e, fun W' hb j u hj => (World.cell?_of_block (a := ⟨b1, _, none⟩) (hb.block b1 hl1 (hXR b1 hx1))).trans (cn j u hj)⟩
  have HVV : Hid (∀ W', Stay (fun i => i = R) W W' → Rd W' X (.slice A2 vs.length c2) (intV vs)) := Lib.hid fun W' hb => hv.after hb.size fun b hl hx => hb.block b hl (hXR b hx)
  have hb1 := al_below W (.cells #[.string kd, .slice A1 ns.length c1, .slice A2 vs.length c2] 39)
  have hck := rcheck_any (h.below hb1) hu hl hfl kd ns vs _ _ (hn.below hb1) (hv.below hb1)
  have HGT : Hid (W.heap.size ≠ R) := Lib.hid (by have := h.lt; omega)
  have HB := Lib.hid hb1
  have HT := Lib.hid (new_block W (.cells #[.string kd, .slice A1 ns.length c1, .slice A2 vs.length c2] 39))
  have HH1 : Hid (Yp.check ⟨s, fs, 0⟩ ⟨kd, ns, vs⟩ = 0 → ∀ k, Yp.kindNo kd = some k → ns.length = Yp.nNames k) := Lib.hid fun h0 k hk => (check_len h0 hk).1
  have HH2 : Hid (Yp.check ⟨s, fs, 0⟩ ⟨kd, ns, vs⟩ = 0 → ∀ k, Yp.kindNo kd = some k → vs.length = Yp.nVals k) := Lib.hid fun h0 k hk => (check_len h0 hk).2
  have HKN : Hid (Yp.check ⟨s, fs, 0⟩ ⟨kd, ns, vs⟩ = 0 → Yp.kindNo kd ≠ none) := Lib.hid fun h0 hk => by rw [Yp.check_out hk] at h0; exact absurd h0 (by decide)
  have HRO : Hid (rOut s fs ⟨kd, ns, vs⟩ = if Yp.check ⟨s, fs, 0⟩ ⟨kd, ns, vs⟩ = 0 then (rItems s ⟨kd, ns, vs⟩, fs ++ [⟨kd, ns, vs⟩]) else (s, fs)) := Lib.hid rfl
  obtain ⟨S', F', hsf⟩ : ∃ S' F', rOut s fs ⟨kd, ns, vs⟩ = (S', F') := ⟨_, _, rfl⟩
  have HSF := Lib.hid hsf
  rw [hsf]
  clear hsf
  obtain ⟨E, hE⟩ : ∃ E, Yp.check ⟨s, fs, 0⟩ ⟨kd, ns, vs⟩ = E := ⟨_, rfl⟩
  have HE := Lib.hid hE
  rw [hE] at hck ⊢
  clear hE
  have HCUT : Hid (Yp.check ⟨s, fs, 0⟩ ⟨kd, ns, vs⟩ = 0 → True) := Lib.hid fun _ => trivial
  have u0 := (row_cells HT.out).1 0
  have u1 := (row_cells HT.out).1 1
  have u2 := (row_cells HT.out).1 2
  have HUQ := Lib.hid hu
  have HSE := Lib.hid hse
  clear h hn hv rn rv hb1 hXR hu hse
  go_enter Tryz.func28, Tryz.ntmps28
  go_wp2_with fail
  clear u0 u1 u2
  generalize W.alloc (.cells #[.string kd, .slice A1 ns.length c1, .slice A2 vs.length c2] 39) = W1 at *
  refine hck.mono ?_; rintro e w2 ⟨rfl, hb⟩
  have HT := Lib.hid (row_after hb HT.out)
  have HB := Lib.hid (HB.out.trans (hb.mono HB.out.size))
  have HRA := Lib.hid (HRA.out.below HB.out)
  clear hb hck
  by_cases h0 : E = 0
  rotate_left
  · have hne : (E != 0) = true := by simpa using h0
    have hro := HSF.out
    rw [HRO.out, HE.out, if_neg h0] at hro
    injection hro with hr1 hr2
    subst hr1 hr2
    clear h0 HH1 HH2 HKN HCUT
    go_wp2_with fail
    refine bodyPost_ret (v := .int .i64 E) (by simp [results, Tryz.results28, go_sem, *]) rfl ⟨rfl, HRA.out, Stay.of_below HB.out⟩
  subst h0
  have hro := HSF.out
  rw [HRO.out, HE.out, if_pos rfl] at hro
  injection hro with hr1 hr2
  have HS' := Lib.hid hr1
  subst hr2
  have HL1 := Lib.hid (HH1.out HE.out)
  have HL2 := Lib.hid (HH2.out HE.out)
  have HKN := Lib.hid (HKN.out HE.out)
  clear hr1 HCUT HRO HSF HH1 HH2
  obtain ⟨IV, FV, hrw, _, hfls, hfn⟩ := HRA.out
  obtain ⟨A5, c5, news, rfl, hnl, hn1, hsrc, hncell⟩ := fls_news hfls hfn
  have HRW := Lib.hid hrw
  have HS1 := Lib.hid hsrc
  have HZ1 := Lib.hid (And.intro hnl hn1)
  have HNCELL := Lib.hid hncell
  have HLK : Hid (fs.length ≤ 100000) := Lib.hid (by omega)
  have HLK1 : Hid (fs.length + 1 ≤ 100000) := Lib.hid (by omega)
  clear hrw hfls hfn hsrc hncell
  generalize W.heap.size = gT at HT HGT ⊢
  go_wp2_with fail
  refine Reg.region_inv [[], [], [], [2], [3], [4], [1, 5], [], [7], [6, 8], [0, 1, 2, 3, 4, 5, 6, 7, 8, 9], [0, 1, 2, 3, 4, 5, 6, 7, 8, 9, 10], [0, 1, 2, 3, 4, 5, 6, 7, 8, 9, 11]] [[], [], [], [2], [2, 3], [2, 3, 4], [1, 2, 3, 4, 5], [], [7], [1, 2, 3, 4, 5, 6, 7, 8], [0, 1, 2, 3, 4, 5, 6, 7, 8, 9], [0, 1, 2, 3, 4, 5, 6, 7, 8, 9, 10], [0, 1, 2, 3, 4, 5, 6, 7, 8, 9, 10, 11]] (fun a0_ bb aa ww => ∃ (gE : Nat) (v1 : Value) (gX : Nat) (v2 : Value) (Wc : World), aa = Reg.fill bb [(0, 17, .pointer (some ⟨R, 0, none⟩)), (1, 18, .slice (some ⟨gE, 0, none⟩) 0 0), (2, 19, .pointer (some ⟨R, 0, none⟩)), (3, 20, .pointer (some ⟨R, 0, none⟩)), (4, 21, .pointer (some ⟨R, 1, none⟩)), (5, 22, .slice A5 fs.length c5), (6, 23, v1), (7, 24, .agg #[.string kd, .slice A1 ns.length c1, .slice A2 vs.length c2]), (8, 25, .slice (some ⟨gX, 0, none⟩) 1 1), (9, 26, v2), (10, 27, .pointer (some ⟨R, 0, none⟩)), (11, 28, .pointer (some ⟨R, 1, none⟩))] a0_ ∧ CH 39 3 w2 news (news ++ [.string kd, .slice A1 ns.length c1, .slice A2 vs.length c2]) [] fs.length (fs.length + 1) 0 #[.string kd, .slice A1 ns.length c1, .slice A2 vs.length c2] (bb 1) (bb 6) (bb 8) (bb 9) false gE v1 gX v2 .nilIface Wc ∧ ww = (if bb 12 = true then Wc.setCell ⟨R, 1, none⟩ v2 else Wc)) (by kernel_rfl) (by kernel_rfl) (by kernel_rfl) ?_ ?_ ?_
  · exact ⟨0, .nilIface, 0, .nilIface, w2.drew, Reg.fill_start.symm, CH.start, rfl⟩
  · refine Reg.steps_cons (i := 0) ?_ ?_
    · rintro bb aa ww ⟨gE, v1, gX, v2, Wc, ha, HW⟩ hb hd hn
      have e0 : aa.tmps[0]? = some (.pointer (some ⟨R, 0, none⟩)) := by rw [ha]; exact (Reg.fill_off rfl).trans rfl
      have HA := Lib.hid ha; clear ha; refine ⟨_, rfl, fun K hK => ?_⟩
      obtain rfl : ww = Wc := HW.2.trans (nxw (hn 12 (by decide))); have HC := Lib.hid HW.1; clear HW
      refine Reg.do_val rfl rfl (v := .pointer (some ⟨R, 0, none⟩)) (w1 := ww) (by simp only [List.getElem_toArray, List.getElem_cons_zero, execOp, Reg.eval_tmp e0]; rfl) ?_
      exact hK.out _ _ ⟨gE, v1, gX, v2, ww, by rw [HA.out]; exact Reg.fill_up 0 hb rfl rfl rfl, ⟨HC.out, (nxw (hn 12 (by decide))).symm⟩⟩
    refine Reg.steps_cons (i := 1) ?_ ?_
    · rintro bb aa ww ⟨gE, v1, gX, v2, Wc, ha, HW⟩ hb hd hn
      have HA := Lib.hid ha; clear ha; refine ⟨_, rfl, fun K hK => ?_⟩
      obtain rfl : ww = Wc := HW.2.trans (nxw (hn 12 (by decide))); have HC := Lib.hid HW.1; clear HW
      refine Reg.do_val rfl rfl (v := .slice (some ⟨ww.heap.size, 0, none⟩) 0 0) (w1 := ww.alloc (.cells #[] 39)) ?_ ?_
      · simp only [List.getElem_toArray, List.getElem_cons_succ, List.getElem_cons_zero, execOp]
        go_simp
      exact hK.out _ _ ⟨ww.heap.size, v1, gX, v2, (ww.alloc (.cells #[] 39)), by rw [HA.out]; exact Reg.fill_up 1 hb rfl rfl rfl, ⟨HC.out.aE (hn 6 (by decide)) (hn 9 (by decide)) rfl, (nxw (hn 12 (by decide))).symm⟩⟩
    refine Reg.steps_cons (i := 2) ?_ ?_
    · rintro bb aa ww ⟨gE, v1, gX, v2, Wc, ha, HW⟩ hb hd hn
      have e0 : aa.tmps[0]? = some (.pointer (some ⟨R, 0, none⟩)) := by rw [ha]; exact (Reg.fill_off rfl).trans rfl
      have HA := Lib.hid ha; clear ha; refine ⟨_, rfl, fun K hK => ?_⟩
      obtain rfl : ww = Wc := HW.2.trans (nxw (hn 12 (by decide))); have HC := Lib.hid HW.1; clear HW
      refine Reg.do_val rfl rfl (v := .pointer (some ⟨R, 0, none⟩)) (w1 := ww) (by simp only [List.getElem_toArray, List.getElem_cons_succ, List.getElem_cons_zero, execOp, Reg.eval_tmp e0]; rfl) ?_
      exact hK.out _ _ ⟨gE, v1, gX, v2, ww, by rw [HA.out]; exact Reg.fill_up 2 hb rfl rfl rfl, ⟨HC.out, (nxw (hn 12 (by decide))).symm⟩⟩
    refine Reg.steps_cons (i := 3) ?_ ?_
    · rintro bb aa ww ⟨gE, v1, gX, v2, Wc, ha, HW⟩ hb hd hn
      have e19 : aa.tmps[19]? = some (.pointer (some ⟨R, 0, none⟩)) := by rw [ha]; exact Reg.fill_on 2 rfl rfl (hd 2 (by decide)) rfl
      have HA := Lib.hid ha; clear ha; refine ⟨_, rfl, fun K hK => ?_⟩
      obtain rfl : ww = Wc := HW.2.trans (nxw (hn 12 (by decide))); have HC := Lib.hid HW.1; clear HW
      refine Reg.do_val rfl rfl (v := .pointer (some ⟨R, 0, none⟩)) (w1 := ww) ?_ ?_
      · simp only [List.getElem_toArray, List.getElem_cons_succ, List.getElem_cons_zero, execOp, Reg.eval_tmp e19]
        go_simp
      exact hK.out _ _ ⟨gE, v1, gX, v2, ww, by rw [HA.out]; exact Reg.fill_up 3 hb rfl rfl rfl, ⟨HC.out, (nxw (hn 12 (by decide))).symm⟩⟩
    refine Reg.steps_cons (i := 4) ?_ ?_
    · rintro bb aa ww ⟨gE, v1, gX, v2, Wc, ha, HW⟩ hb hd hn
      have e20 : aa.tmps[20]? = some (.pointer (some ⟨R, 0, none⟩)) := by rw [ha]; exact Reg.fill_on 3 rfl rfl (hd 3 (by decide)) rfl
      have HA := Lib.hid ha; clear ha; refine ⟨_, rfl, fun K hK => ?_⟩
      obtain rfl : ww = Wc := HW.2.trans (nxw (hn 12 (by decide))); have HC := Lib.hid HW.1; clear HW
      refine Reg.do_val rfl rfl (v := .pointer (some ⟨R, 1, none⟩)) (w1 := ww) ?_ ?_
      · simp only [List.getElem_toArray, List.getElem_cons_succ, List.getElem_cons_zero, execOp, Reg.eval_tmp e20]
        go_simp
      exact hK.out _ _ ⟨gE, v1, gX, v2, ww, by rw [HA.out]; exact Reg.fill_up 4 hb rfl rfl rfl, ⟨HC.out, (nxw (hn 12 (by decide))).symm⟩⟩
    refine Reg.steps_cons (i := 5) ?_ ?_
    · rintro bb aa ww ⟨gE, v1, gX, v2, Wc, ha, HW⟩ hb hd hn
      have e21 : aa.tmps[21]? = some (.pointer (some ⟨R, 1, none⟩)) := by rw [ha]; exact Reg.fill_on 4 rfl rfl (hd 4 (by decide)) rfl
      have HA := Lib.hid ha; clear ha; refine ⟨_, rfl, fun K hK => ?_⟩
      obtain rfl : ww = Wc := HW.2.trans (nxw (hn 12 (by decide))); have HC := Lib.hid HW.1; clear HW
      have y0 := (row_cells (row_after HC.out.be HRW.out)).1 1
      refine Reg.do_val rfl rfl (v := .slice A5 fs.length c5) (w1 := ww) ?_ ?_
      · simp only [List.getElem_toArray, List.getElem_cons_succ, List.getElem_cons_zero, execOp, Reg.eval_tmp e21]
        go_simp
      exact hK.out _ _ ⟨gE, v1, gX, v2, ww, by rw [HA.out]; exact Reg.fill_up 5 hb rfl rfl rfl, ⟨HC.out, (nxw (hn 12 (by decide))).symm⟩⟩
    refine Reg.steps_cons (i := 6) ?_ ?_
    · rintro bb aa ww ⟨gE, v1, gX, v2, Wc, ha, HW⟩ hb hd hn
      have e18 : aa.tmps[18]? = some (.slice (some ⟨gE, 0, none⟩) 0 0) := by rw [ha]; exact Reg.fill_on 1 rfl rfl (hd 1 (by decide)) rfl
      have e22 : aa.tmps[22]? = some (.slice A5 fs.length c5) := by rw [ha]; exact Reg.fill_on 5 rfl rfl (hd 5 (by decide)) rfl
      have HA := Lib.hid ha; clear ha; refine ⟨_, rfl, fun K hK => ?_⟩
      obtain rfl : ww = Wc := HW.2.trans (nxw (hn 12 (by decide))); have HC := Lib.hid HW.1; clear HW
      obtain ⟨v1', w3, hrun, hch⟩ := HC.out.ap1 elF (hd 1 (by decide)) hb (hn 9 (by decide)) rfl (HS1.out ww HC.out.be) HZ1.out HLK.out
      refine Reg.do_append rfl rfl rfl (Reg.eval_tmp e18) (Reg.eval_tmp e22) hrun ?_
      exact hK.out _ _ ⟨gE, v1', gX, v2, w3, by rw [HA.out]; exact Reg.fill_up 6 hb rfl rfl rfl, ⟨hch, (nxw (hn 12 (by decide))).symm⟩⟩
    refine Reg.steps_cons (i := 7) ?_ ?_
    · rintro bb aa ww ⟨gE, v1, gX, v2, Wc, ha, HW⟩ hb hd hn
      have e3 : aa.tmps[3]? = some (.pointer (some ⟨gT, 0, none⟩)) := by rw [ha]; exact (Reg.fill_off rfl).trans rfl
      have HA := Lib.hid ha; clear ha; refine ⟨_, rfl, fun K hK => ?_⟩
      obtain rfl : ww = Wc := HW.2.trans (nxw (hn 12 (by decide))); have HC := Lib.hid HW.1; clear HW
      refine Reg.do_load rfl rfl 39 _ rfl gT (Reg.eval_tmp e3) (row_after HC.out.be HT.out) Tryz.underlying39 rfl (by kernel_rfl) ?_
      exact hK.out _ _ ⟨gE, v1, gX, v2, ww, by rw [HA.out]; exact Reg.fill_up 7 hb rfl rfl rfl, ⟨HC.out, (nxw (hn 12 (by decide))).symm⟩⟩
    refine Reg.steps_cons (i := 8) ?_ ?_
    · rintro bb aa ww ⟨gE, v1, gX, v2, Wc, ha, HW⟩ hb hd hn
      have e24 : aa.tmps[24]? = some (.agg #[.string kd, .slice A1 ns.length c1, .slice A2 vs.length c2]) := by rw [ha]; exact Reg.fill_on 7 rfl rfl (hd 7 (by decide)) rfl
      have HA := Lib.hid ha; clear ha; refine ⟨_, rfl, fun K hK => ?_⟩
      obtain rfl : ww = Wc := HW.2.trans (nxw (hn 12 (by decide))); have HC := Lib.hid HW.1; clear HW
      refine Reg.do_val rfl rfl (v := .slice (some ⟨ww.heap.size, 0, none⟩) 1 1) (w1 := ww.alloc (.cells #[.string kd, .slice A1 ns.length c1, .slice A2 vs.length c2] 39)) ?_ ?_
      · simp only [List.getElem_toArray, List.getElem_cons_succ, List.getElem_cons_zero, execOp]
        go_simp
      exact hK.out _ _ ⟨gE, v1, ww.heap.size, v2, (ww.alloc (.cells #[.string kd, .slice A1 ns.length c1, .slice A2 vs.length c2] 39)), by rw [HA.out]; exact Reg.fill_up 8 hb rfl rfl rfl, ⟨HC.out.aX (hn 9 (by decide)) rfl, (nxw (hn 12 (by decide))).symm⟩⟩
    refine Reg.steps_cons (i := 9) ?_ ?_
    · rintro bb aa ww ⟨gE, v1, gX, v2, Wc, ha, HW⟩ hb hd hn
      have e23 : aa.tmps[23]? = some (v1) := by rw [ha]; exact Reg.fill_on 6 rfl rfl (hd 6 (by decide)) rfl
      have e25 : aa.tmps[25]? = some (.slice (some ⟨gX, 0, none⟩) 1 1) := by rw [ha]; exact Reg.fill_on 8 rfl rfl (hd 8 (by decide)) rfl
      have HA := Lib.hid ha; clear ha; refine ⟨_, rfl, fun K hK => ?_⟩
      obtain rfl : ww = Wc := HW.2.trans (nxw (hn 12 (by decide))); have HC := Lib.hid HW.1; clear HW
      obtain ⟨v2', w3, hrun, hch⟩ := HC.out.ap2 elF (hd 6 (by decide)) (hd 8 (by decide)) hb rfl one_fact ⟨rfl, rfl, rfl⟩ HLK1.out
      refine Reg.do_append rfl rfl rfl (Reg.eval_tmp e23) (Reg.eval_tmp e25) hrun ?_
      exact hK.out _ _ ⟨gE, v1, gX, v2', w3, by rw [HA.out]; exact Reg.fill_up 9 hb rfl rfl rfl, ⟨hch, (nxw (hn 12 (by decide))).symm⟩⟩
    refine Reg.steps_cons (i := 10) ?_ ?_
    · rintro bb aa ww ⟨gE, v1, gX, v2, Wc, ha, HW⟩ hb hd hn
      have e17 : aa.tmps[17]? = some (.pointer (some ⟨R, 0, none⟩)) := by rw [ha]; exact Reg.fill_on 0 rfl rfl (hd 0 (by decide)) rfl
      have HA := Lib.hid ha; clear ha; refine ⟨_, rfl, fun K hK => ?_⟩
      obtain rfl : ww = Wc := HW.2.trans (nxw (hn 12 (by decide))); have HC := Lib.hid HW.1; clear HW
      refine Reg.do_val rfl rfl (v := .pointer (some ⟨R, 0, none⟩)) (w1 := ww) ?_ ?_
      · simp only [List.getElem_toArray, List.getElem_cons_succ, List.getElem_cons_zero, execOp, Reg.eval_tmp e17]
        go_simp
      exact hK.out _ _ ⟨gE, v1, gX, v2, ww, by rw [HA.out]; exact Reg.fill_up 10 hb rfl rfl rfl, ⟨HC.out, (nxw (hn 12 (by decide))).symm⟩⟩
    refine Reg.steps_cons (i := 11) ?_ ?_
    · rintro bb aa ww ⟨gE, v1, gX, v2, Wc, ha, HW⟩ hb hd hn
      have e27 : aa.tmps[27]? = some (.pointer (some ⟨R, 0, none⟩)) := by rw [ha]; exact Reg.fill_on 10 rfl rfl (hd 10 (by decide)) rfl
      have HA := Lib.hid ha; clear ha; refine ⟨_, rfl, fun K hK => ?_⟩
      obtain rfl : ww = Wc := HW.2.trans (nxw (hn 12 (by decide))); have HC := Lib.hid HW.1; clear HW
      refine Reg.do_val rfl rfl (v := .pointer (some ⟨R, 1, none⟩)) (w1 := ww) ?_ ?_
      · simp only [List.getElem_toArray, List.getElem_cons_succ, List.getElem_cons_zero, execOp, Reg.eval_tmp e27]
        go_simp
      exact hK.out _ _ ⟨gE, v1, gX, v2, ww, by rw [HA.out]; exact Reg.fill_up 11 hb rfl rfl rfl, ⟨HC.out, (nxw (hn 12 (by decide))).symm⟩⟩
    refine Reg.steps_cons (i := 12) ?_ ?_
    · rintro bb aa ww ⟨gE, v1, gX, v2, Wc, ha, HW⟩ hb hd hn
      have e28 : aa.tmps[28]? = some (.pointer (some ⟨R, 1, none⟩)) := by rw [ha]; exact Reg.fill_on 11 rfl rfl (hd 11 (by decide)) rfl
      have e26 : aa.tmps[26]? = some (v2) := by rw [ha]; exact Reg.fill_on 9 rfl rfl (hd 9 (by decide)) rfl
      have HA := Lib.hid ha; clear ha; refine ⟨_, rfl, fun K hK => ?_⟩
      obtain rfl : ww = Wc := HW.2.trans (nxw hb); have HC := Lib.hid HW.1; clear HW
      have y0 := (row_cells (row_after HC.out.be HRW.out)).1 1
      have y0f := (row_cells (row_after HC.out.be HRW.out)).2 1
      refine Reg.do_skip rfl rfl (w1 := ww.setCell ⟨R, 1, none⟩ v2) ?_ ?_
      · simp only [List.getElem_toArray, List.getElem_cons_succ, List.getElem_cons_zero, execOp, Reg.eval_tmp e28, Reg.eval_tmp e26]
        obtain ⟨A3, c3, rfl⟩ := own_sliceR (HC.out.r2 (hd 9 (by decide)) rfl)
        go_simp
      exact hK.out _ _ ⟨gE, v1, gX, v2, ww, by rw [HA.out]; exact Reg.fill_none rfl, ⟨HC.out, (if_pos (show Reg.up bb 12 12 = true from rfl)).symm⟩⟩
    exact trivial
  rintro bb aa W8 hall ⟨gE, v1, gX, v2, Wc, ha, HW⟩
  have hbe := HW.1.be
  have hown := HW.1.r2 (hall 9 (by decide)) rfl
  have hw8 := HW.2
  rw [hall 12 (by decide), if_pos rfl] at hw8
  clear HW
  have hb0 := hall 0 (by decide)
  have hb1 := hall 1 (by decide)
  have hb2 := hall 2 (by decide)
  have hb3 := hall 3 (by decide)
  have hb4 := hall 4 (by decide)
  have hb5 := hall 5 (by decide)
  have hb6 := hall 6 (by decide)
  have hb7 := hall 7 (by decide)
  have hb8 := hall 8 (by decide)
  have hb9 := hall 9 (by decide)
  have hb10 := hall 10 (by decide)
  have hb11 := hall 11 (by decide)
  have hb12 := hall 12 (by decide)
  simp only [Reg.fill, hb0, hb1, hb2, hb3, hb4, hb5, hb6, hb7, hb8, hb9, hb10, hb11, if_true, Act.put, List.setIfInBounds_toArray, List.set_cons_zero, List.set_cons_succ] at ha
  clear hb0 hb1 hb2 hb3 hb4 hb5 hb6 hb7 hb8 hb9 hb10 hb11 hb12 hall
  subst ha
  have HST : Hid (Stay (fun i => i = R) W W8) := Lib.hid (by rw [hw8]; exact ((Stay.of_below HB.out).trans (Stay.of_below hbe)).trans (stay_cell _ _ _ _))
  have HT := Lib.hid (show W8.heap[gT]? = some (.cells #[.string kd, .slice A1 ns.length c1, .slice A2 vs.length c2] 39 (0, 0)) by rw [hw8]; exact ((stay_cell Wc R 1 v2).block gT (block_lt (row_after hbe HT.out)) HGT.out).trans (row_after hbe HT.out))
  have HRA := Lib.hid (show RAt W8 R s (fs ++ [⟨kd, ns, vs⟩]) by rw [hw8]; exact rat_fact (f := ⟨kd, ns, vs⟩) HRA.out hbe HXR.out (HNN.out.below HB.out) (HV0.out.below HB.out) hown hnl HNCELL.out)
  clear hbe hown hw8 HRW HS1 HZ1 HNCELL HLK HLK1 hnl hn1 HB HNN HV0
  have HSZ : Hid (W.heap.size ≤ W8.heap.size) := Lib.hid HST.out.size
  generalize W8 = wf at *
  cases hkn : Yp.kindNo kd with
  | none => exact absurd hkn HKN.out
  | some k =>
    clear HKN
    rcases kindNo_cases hkn with ⟨hkd, rfl⟩ | ⟨hkd, rfl⟩ | ⟨hkd, rfl⟩ | ⟨hkd, rfl⟩ | ⟨hkd, rfl⟩ | ⟨hkd, rfl⟩
    · obtain ⟨n0, rfl⟩ : ∃ n0 : ByteArray, ns = [n0] := list1 (HL1.out _ hkn)
      obtain ⟨v0, v1, v2, v3, v4, v5, rfl⟩ : ∃ v0 v1 v2 v3 v4 v5 : Int, vs = [v0, v1, v2, v3, v4, v5] := list6 (HL2.out _ hkn)
      rw [show [n0].length = 1 from rfl] at *
      rw [show ([v0, v1, v2, v3, v4, v5] : List Int).length = 6 from rfl] at *
      obtain ⟨b1, o1, rfl, hnc⟩ := HNA.out (by decide)
      have HNC := Lib.hid hnc
      clear hnc HNA HL1 HL2
      have p0 : (kd.toList == [102, 114, 101, 101]) = true := by rw [hkd]; kernel_rfl
      have p1 : (kd.toList == [99, 117, 116]) = false := by rw [hkd]; kernel_rfl
      have p2 : (kd.toList == [97, 115, 115, 105, 103, 110]) = false := by rw [hkd]; kernel_rfl
      have p3 : (kd.toList == [114, 101, 108, 101, 97, 115, 101]) = false := by rw [hkd]; kernel_rfl
      have p4 : (kd.toList == [115, 101, 116]) = false := by rw [hkd]; kernel_rfl
      have p5 : (kd.toList == [98, 114, 101, 97, 107]) = false := by rw [hkd]; kernel_rfl
      have HRI : Hid (rItems s ⟨kd, [n0], [v0, v1, v2, v3, v4, v5]⟩ = ins ⟨n0, Yp.es, ⟨v0, v1, v2, v3, v4, v5⟩, 1, Yp.es⟩ s) := Lib.hid (by unfold rItems; rw [hkn]; rfl)
      clear hkd hkn
      have KK : wf.cell? ⟨gT, 1, none⟩ = some (.slice (some ⟨b1, o1, none⟩) 1 c1) ∧ wf.cell? ⟨gT, 2, none⟩ = some (.slice A2 6 c2) ∧ wf.cell? ⟨b1, o1, none⟩ = some (.string n0) := ⟨(row_cells HT.out).1 1, (row_cells HT.out).1 2, HNC.out _ HST.out 0 _ rfl⟩
      have u0 := (row_cells HT.out).1 0
      go_wp2_with fail
      go_region_held3 (fun w' => w'.cell? ⟨gT, 1, none⟩ = some (.slice (some ⟨b1, o1, none⟩) 1 c1) ∧ w'.cell? ⟨gT, 2, none⟩ = some (.slice A2 6 c2) ∧ w'.cell? ⟨b1, o1, none⟩ = some (.string n0)) ((first | (simp only [*, and_self]; done) | (simp [*, go_sem]; done)))
        (first
          | (go_at_call 48; ((with_reducible refine (rboxOf_any _ _ v0 v1 v2 v3 v4 v5 _ (HVV.out _ (HST.out.trans (Stay.of_below (Below.refl _ _).drew)))).mono ?_); rintro e w6 ⟨rfl, hb⟩; have HRA := Lib.hid (HRA.out.below ((Below.refl _ _).drew.trans hb)); have HT := Lib.hid (row_after hb HT.out); have HST := Lib.hid (HST.out.trans (Stay.of_below ((Below.refl _ _).drew.trans hb))); clear hb; have KK : w6.cell? ⟨gT, 1, none⟩ = some (.slice (some ⟨b1, o1, none⟩) 1 c1) ∧ w6.cell? ⟨gT, 2, none⟩ = some (.slice A2 6 c2) ∧ w6.cell? ⟨b1, o1, none⟩ = some (.string n0) := ⟨(row_cells HT.out).1 1, (row_cells HT.out).1 2, HNC.out _ HST.out 0 _ rfl⟩))
          | (go_at_call 47; (have hput := rput2_any HRA.out (by omega) ⟨n0, ⟨#[]⟩, ⟨v0, v1, v2, v3, v4, v5⟩, 1, ⟨#[]⟩⟩; simp only [itC] at hput; (with_reducible refine hput.mono ?_); clear hput; rintro e w7 ⟨rfl, hra, hst⟩; have HT := Lib.hid ((hst.block gT (block_lt HT.out) HGT.out).trans HT.out); have HRA := Lib.hid hra; have HST := Lib.hid (HST.out.trans hst); clear hra hst; have KK : w7.cell? ⟨gT, 1, none⟩ = some (.slice (some ⟨b1, o1, none⟩) 1 c1) ∧ w7.cell? ⟨gT, 2, none⟩ = some (.slice A2 6 c2) ∧ w7.cell? ⟨b1, o1, none⟩ = some (.string n0) := ⟨(row_cells HT.out).1 1, (row_cells HT.out).1 2, HNC.out _ HST.out 0 _ rfl⟩)))
      clear KK
      go_wp2_with fail
      refine bodyPost_ret (v := .int .i64 0) (by simp [results, Tryz.results28, go_sem, *]) rfl ⟨rfl, by rw [← HS'.out, HRI.out]; exact HRA.out, HST.out⟩
    · obtain ⟨n0, n1, n2, rfl⟩ : ∃ n0 n1 n2 : ByteArray, ns = [n0, n1, n2] := list3 (HL1.out _ hkn)
      obtain ⟨v0, v1, v2, rfl⟩ : ∃ v0 v1 v2 : Int, vs = [v0, v1, v2] := list3 (HL2.out _ hkn)
      rw [show [n0, n1, n2].length = 3 from rfl] at *
      rw [show ([v0, v1, v2] : List Int).length = 3 from rfl] at *
      obtain ⟨b1, o1, rfl, hnc⟩ := HNA.out (by decide)
      have HNC := Lib.hid hnc
      clear hnc HNA HL1 HL2
      have p0 : (kd.toList == [102, 114, 101, 101]) = false := by rw [hkd]; kernel_rfl
      have p1 : (kd.toList == [99, 117, 116]) = true := by rw [hkd]; kernel_rfl
      have p2 : (kd.toList == [97, 115, 115, 105, 103, 110]) = false := by rw [hkd]; kernel_rfl
      have p3 : (kd.toList == [114, 101, 108, 101, 97, 115, 101]) = false := by rw [hkd]; kernel_rfl
      have p4 : (kd.toList == [115, 101, 116]) = false := by rw [hkd]; kernel_rfl
      have p5 : (kd.toList == [98, 114, 101, 97, 107]) = false := by rw [hkd]; kernel_rfl
      obtain ⟨x, hlk, hal, hcut⟩ := rcheck_zero HE.out hkn (by decide)
      have hlk : Yp.look s n0 = some x := hlk
      obtain ⟨hxm, hxid⟩ := Yp.look_some hlk
      obtain ⟨r, hr, hri, hrl, hrn⟩ := FI.of (·.id) s n0
      obtain ⟨i, rfl, hil, hix, _⟩ : ∃ i : Nat, r = i ∧ i < s.length ∧ (∀ z : It, s[i]? = some z → z.id = n0) ∧ True := by
        rcases hr with ⟨i, e, h1, h2, _⟩ | ⟨e, h1⟩
        · exact ⟨i, e, h1, h2, trivial⟩
        · exact absurd hxid (h1 _ x (List.getElem?_eq_getElem (List.getElem_of_mem hxm).choose_spec.choose |>.trans (by rw [(List.getElem_of_mem hxm).choose_spec.choose_spec])))
      have hsi : s[i]? = some x := by
        have h1 := hix _ (List.getElem?_eq_getElem hil)
        rw [List.getElem?_eq_getElem hil, Yp.uniq_eq HUQ.out (List.getElem_mem hil) hxm (by rw [h1, hxid])]
      have HL := Lib.hid hsi
      have HFI := Lib.hid hr
      have HXI := Lib.hid hxid
      have HLK := Lib.hid hlk
      have HAL := Lib.hid hal
      have HCUT := Lib.hid hcut
      have HSI : Hid (∀ st stone, Yp.change s n0 st stone = s.set i { x with st := st, stone := stone }) := Lib.hid fun st stone => by rw [← hxid]; exact change_at HUQ.out hsi st stone
      have HXM := Lib.hid hxm
      clear hlk hal hcut hxm hxid hr hri hrl hrn hix hsi hkd
      obtain ⟨IV, FV, hrw, ⟨A6, c6, rfl, hc6, _, _, hx6⟩, _⟩ := HRA.out
      obtain ⟨g6, rfl, hg6, hgR6, hcl6⟩ := hx6 (by omega)
      have hal6 := al_below wf (.cells #[] 68)
      obtain ⟨v', w', hrun, hown, hgrow, _⟩ := own_append (ty := 65) elI (World.ownsRow_lit (base := wf.heap.size) (size := 10) (e := 68) wf #[] 0 (Nat.le_refl _) (by decide) (by simp)) (u := .slice (some ⟨g6, 0, none⟩) s.length c6) (src_all (fun j u hj => (hal6.cell (p := ⟨g6, _, none⟩) hg6).trans (hcl6 j u hj))) (flat_lenR s) (flat_one s) (by omega) hal6.size
      have hbe : Below wf.heap.size wf w' := hal6.trans ((below_grown hgrow (fun g e => Nat.le_of_eq (Option.some.inj e)) hal6.size))
      rw [Nat.zero_add] at hown
      obtain ⟨g, cap, rfl, hgw, hrg⟩ := rg_copy HRA.out hbe hown (by omega)
      have HTG : Hid (gT ≠ g) := Lib.hid (by have := block_lt HT.out; omega)
      have y0 := (row_cells (row_after hal6 hrw)).1 0
      have y1 := (row_cells (row_after hbe hrw)).1 0
      have y1f := (row_cells (row_after hbe hrw)).2 0
      have u0 := (row_cells HT.out).1 0
      have HBE := Lib.hid hbe
      have HRG := Lib.hid hrg
      have HGW := Lib.hid hgw
      clear hrw hc6 hx6 hgR6 hcl6 hal6 hown hgrow hbe hrg hgw
      go_wp2_with (at_builtin; refine wpList_append_run rfl _ _ _ rfl rfl rfl hrun ?_)
      have HST := Lib.hid ((HST.out.trans (Stay.of_below HBE.out)).trans (stay_cell w' R 0 (.slice (some ⟨g, 0, none⟩) s.length cap)))
      have HT := Lib.hid (((stay_cell w' R 0 (.slice (some ⟨g, 0, none⟩) s.length cap)).block gT (block_lt (row_after HBE.out HT.out)) HGT.out).trans (row_after HBE.out HT.out))
      have HGB : Hid (W.heap.size ≤ g) := Lib.hid (by have := HGW.out; have := HSZ.out; omega)
      clear y0 y1 y1f u0 hrun HBE HGW hg6 HRA
      generalize w'.setCell ⟨R, 0, none⟩ (.slice (some ⟨g, 0, none⟩) s.length cap) = wg at *
      have KK : wg.cell? ⟨R, 0, none⟩ = some (.slice (some ⟨g, 0, none⟩) s.length cap) ∧ wg.cell? ⟨gT, 1, none⟩ = some (.slice (some ⟨b1, o1, none⟩) 3 c1) ∧ wg.cell? ⟨b1, o1, none⟩ = some (.string n0) := ⟨(HRG.out.cells HL.out).1, (row_cells HT.out).1 1, HNC.out _ HST.out 0 _ rfl⟩
      go_region_held3 (fun w' => w'.cell? ⟨R, 0, none⟩ = some (.slice (some ⟨g, 0, none⟩) s.length cap) ∧ w'.cell? ⟨gT, 1, none⟩ = some (.slice (some ⟨b1, o1, none⟩) 3 c1) ∧ w'.cell? ⟨b1, o1, none⟩ = some (.string n0)) ((first | (simp only [*, and_self]; done) | (simp [*, go_sem]; done)))
        (first
          | (go_at_call 49; ((with_reducible refine (rfind_any (HRG.out.below (Below.refl _ _).drew).rat (by omega) n0 HFI.out).mono ?_); rintro e w6 ⟨rfl, hb⟩; have HRG := Lib.hid (HRG.out.below ((Below.refl _ _).drew.trans hb)); have HT := Lib.hid (row_after hb HT.out); have HST := Lib.hid (HST.out.trans (Stay.of_below ((Below.refl _ _).drew.trans hb))); clear hb; have KK : w6.cell? ⟨R, 0, none⟩ = some (.slice (some ⟨g, 0, none⟩) s.length cap) ∧ w6.cell? ⟨gT, 1, none⟩ = some (.slice (some ⟨b1, o1, none⟩) 3 c1) ∧ w6.cell? ⟨b1, o1, none⟩ = some (.string n0) := ⟨(HRG.out.cells HL.out).1, (row_cells HT.out).1 1, HNC.out _ HST.out 0 _ rfl⟩)))
      clear KK
      have u0 := (row_cells HT.out).1 0
      obtain ⟨_, ⟨_, _, _, _, _, _, _, _, z8, z9⟩, zf⟩ := HRG.out.cells HL.out
      have zf8 := zf (i * 10 + 8)
      obtain ⟨hrg1, hst1⟩ := HRG.out.field HL.out (x' := { x with st := 2 }) (r := 8) (v := .int .i64 2) (by decide) rfl
      have hl1 : (s.set i { x with st := 2 })[i]? = some { x with st := 2 } := by rw [List.getElem?_set, if_pos rfl, if_pos hil]
      have HFIN := Lib.hid hrg1.rat
      have HSTF := Lib.hid (HST.out.far HGB.out hst1)
      have HCT := Lib.hid (cut_bounds (HCUT.out (by trivial)))
      have HSTO : Hid (x.stone = Yp.es) := Lib.hid (HSE.out x HXM.out (by have := HAL.out; simpa [Yp.allowed] using this))
      have HL1 := Lib.hid hl1
      have HRG1 := Lib.hid hrg1
      have HT1 := Lib.hid ((hst1.block gT (block_lt HT.out) HTG.out).trans HT.out)
      clear HFIN zf hst1 hl1 hrg1
      go_wp2_with fail
      have HRG := HRG1
      have HT := HT1
      have HST := HSTF
      clear z8 z9 zf8 u0 HRG1 HT1 HSTF
      generalize (w6.setCell ⟨g, i * 10 + 8, none⟩ (.int .i64 2)) = wa at *
      obtain ⟨ka1, ka2, kk1, kk2, kp1, kp2⟩ := HCT.out
      have HSPL := Lib.hid fun ww => rsplit_any x.bx v0 v1 v2 ⟨ka1, ka2⟩ ⟨kk1, kk2⟩ ⟨kp1, kp2⟩ ww
      have HRI : Hid (rItems s ⟨kd, [n0, n1, n2], [v0, v1, v2]⟩ = ins ⟨n2, x.id, Yp.setLo x.bx v0 (v1 + v2), 1, Yp.es⟩ (ins ⟨n1, x.id, Yp.setHi x.bx v0 v1, 1, Yp.es⟩ (s.set i { x with st := 2 }))) := Lib.hid (by
        unfold rItems
        rw [hkn]
        show rApply s ⟨kd, [n0, n1, n2], [v0, v1, v2]⟩ 1 = _
        have : rApply s ⟨kd, [n0, n1, n2], [v0, v1, v2]⟩ 1 = ins ⟨n2, n0, Yp.setLo x.bx v0 (v1 + v2), 1, Yp.es⟩ (ins ⟨n1, n0, Yp.setHi x.bx v0 v1, 1, Yp.es⟩ (Yp.change s n0 2 Yp.es)) := by
          show ins ⟨n2, n0, Yp.setLo ((Yp.look s n0).getD Yp.zIt).bx v0 (v1 + v2), 1, Yp.es⟩ (ins ⟨n1, n0, Yp.setHi ((Yp.look s n0).getD Yp.zIt).bx v0 v1, 1, Yp.es⟩ (Yp.change s n0 2 Yp.es)) = _
          rw [HLK.out]
          rfl
        rw [this, HSI.out, HXI.out, ← HSTO.out])
      generalize Yp.setHi x.bx v0 v1 = B1 at *
      generalize Yp.setLo x.bx v0 (v1 + v2) = B2 at *
      rw [show bxC x.bx = #[.int .i64 x.bx.x0, .int .i64 x.bx.y0, .int .i64 x.bx.z0, .int .i64 x.bx.x1, .int .i64 x.bx.y1, .int .i64 x.bx.z1] from rfl, show bxC B1 = #[.int .i64 B1.x0, .int .i64 B1.y0, .int .i64 B1.z0, .int .i64 B1.x1, .int .i64 B1.y1, .int .i64 B1.z1] from rfl, show bxC B2 = #[.int .i64 B2.x0, .int .i64 B2.y0, .int .i64 B2.z0, .int .i64 B2.x1, .int .i64 B2.y1, .int .i64 B2.z1] from rfl] at HSPL
      clear HCT ka1 ka2 kk1 kk2 kp1 kp2 hkn
      refine Reg.region_inv [[], [0], [1], [2], [], [4], [5], [3, 6], [7], [8], [8], [8], [], [], [], [0, 1, 2, 3, 4, 5, 6, 7, 8, 9, 12, 13, 14], [0, 1, 2, 3, 4, 5, 6, 7, 8, 9, 10, 12, 13, 14, 15], [0, 1, 2, 3, 4, 5, 6, 7, 8, 9, 10, 11, 12, 13, 14, 15, 16]] [[], [0], [0, 1], [0, 1, 2], [], [4], [4, 5], [0, 1, 2, 3, 4, 5, 6], [0, 1, 2, 3, 4, 5, 6, 7], [0, 1, 2, 3, 4, 5, 6, 7, 8], [0, 1, 2, 3, 4, 5, 6, 7, 8], [0, 1, 2, 3, 4, 5, 6, 7, 8], [], [], [], [0, 1, 2, 3, 4, 5, 6, 7, 8, 9, 12, 13, 14], [0, 1, 2, 3, 4, 5, 6, 7, 8, 9, 10, 12, 13, 14, 15], [0, 1, 2, 3, 4, 5, 6, 7, 8, 9, 10, 11, 12, 13, 14, 15, 16]] (fun a0_ bb aa ww => ∃ (p : Nat) (q : Nat) (r : Nat) (mm : Array Value), aa = Reg.fill bb [(0, 103, .pointer (some ⟨g, i * 10, none⟩)), (1, 104, .pointer (some ⟨g, i * 10, none⟩)), (2, 105, .pointer (some ⟨g, i * 10 + 2, none⟩)), (3, 106, .agg #[.int .i64 x.bx.x0, .int .i64 x.bx.y0, .int .i64 x.bx.z0, .int .i64 x.bx.x1, .int .i64 x.bx.y1, .int .i64 x.bx.z1]), (4, 107, .pointer (some ⟨gT, 2, none⟩)), (5, 108, .slice A2 3 c2), (6, 109, .agg #[.int .i64 v0, .int .i64 v1, .int .i64 v2]), (7, 110, .tuple #[.agg #[.int .i64 B1.x0, .int .i64 B1.y0, .int .i64 B1.z0, .int .i64 B1.x1, .int .i64 B1.y1, .int .i64 B1.z1], .agg mm, .agg #[.int .i64 B2.x0, .int .i64 B2.y0, .int .i64 B2.z0, .int .i64 B2.x1, .int .i64 B2.y1, .int .i64 B2.z1]]), (8, 102, .tuple #[.agg #[.int .i64 B1.x0, .int .i64 B1.y0, .int .i64 B1.z0, .int .i64 B1.x1, .int .i64 B1.y1, .int .i64 B1.z1], .agg mm, .agg #[.int .i64 B2.x0, .int .i64 B2.y0, .int .i64 B2.z0, .int .i64 B2.x1, .int .i64 B2.y1, .int .i64 B2.z1]]), (9, 111, .agg #[.int .i64 B1.x0, .int .i64 B1.y0, .int .i64 B1.z0, .int .i64 B1.x1, .int .i64 B1.y1, .int .i64 B1.z1]), (10, 112, .agg mm), (11, 113, .agg #[.int .i64 B2.x0, .int .i64 B2.y0, .int .i64 B2.z0, .int .i64 B2.x1, .int .i64 B2.y1, .int .i64 B2.z1]), (12, 7, .pointer (some ⟨p, 0, none⟩)), (13, 8, .pointer (some ⟨q, 0, none⟩)), (14, 9, .pointer (some ⟨r, 0, none⟩))] a0_ ∧ CutR wa #[.int .i64 0, .int .i64 0, .int .i64 0, .int .i64 0, .int .i64 0, .int .i64 0] #[.int .i64 B1.x0, .int .i64 B1.y0, .int .i64 B1.z0, .int .i64 B1.x1, .int .i64 B1.y1, .int .i64 B1.z1] mm #[.int .i64 B2.x0, .int .i64 B2.y0, .int .i64 B2.z0, .int .i64 B2.x1, .int .i64 B2.y1, .int .i64 B2.z1] 45 (fun j => bb (j + 3)) ww p q r ∧ (bb 7 = true → mm.size = 6 ∧ mm.all (·.oneCell') = true)) (by kernel_rfl) (by kernel_rfl) (by kernel_rfl) ?_ ?_ ?_
      · exact ⟨0, 0, 0, #[], Reg.fill_start.symm, CutR.start, fun h => (by cases h)⟩
      · refine Reg.steps_cons (i := 0) ?_ ?_
        · rintro bb aa ww ⟨p, q, r, mm, ha, HW⟩ hb hd hn
          have e6 : aa.tmps[6]? = some (.pointer (some ⟨g, i * 10, none⟩)) := by rw [ha]; exact (Reg.fill_off rfl).trans rfl
          have HA := Lib.hid ha; clear ha; refine ⟨_, rfl, fun K hK => ?_⟩
          refine Reg.do_val rfl rfl (v := .pointer (some ⟨g, i * 10, none⟩)) (w1 := ww) (by simp only [List.getElem_toArray, List.getElem_cons_zero, execOp, Reg.eval_tmp e6]; rfl) ?_
          exact hK.out _ _ ⟨p, q, r, mm, by rw [HA.out]; exact Reg.fill_up 0 hb rfl rfl rfl, HW⟩
        refine Reg.steps_cons (i := 1) ?_ ?_
        · rintro bb aa ww ⟨p, q, r, mm, ha, HW⟩ hb hd hn
          have e103 : aa.tmps[103]? = some (.pointer (some ⟨g, i * 10, none⟩)) := by rw [ha]; exact Reg.fill_on 0 rfl rfl (hd 0 (by decide)) rfl
          have HA := Lib.hid ha; clear ha; refine ⟨_, rfl, fun K hK => ?_⟩
          refine Reg.do_val rfl rfl (v := .pointer (some ⟨g, i * 10, none⟩)) (w1 := ww) ?_ ?_
          · simp only [List.getElem_toArray, List.getElem_cons_succ, List.getElem_cons_zero, execOp, Reg.eval_tmp e103]
            go_simp
          exact hK.out _ _ ⟨p, q, r, mm, by rw [HA.out]; exact Reg.fill_up 1 hb rfl rfl rfl, HW⟩
        refine Reg.steps_cons (i := 2) ?_ ?_
        · rintro bb aa ww ⟨p, q, r, mm, ha, HW⟩ hb hd hn
          have e104 : aa.tmps[104]? = some (.pointer (some ⟨g, i * 10, none⟩)) := by rw [ha]; exact Reg.fill_on 1 rfl rfl (hd 1 (by decide)) rfl
          have HA := Lib.hid ha; clear ha; refine ⟨_, rfl, fun K hK => ?_⟩
          refine Reg.do_val rfl rfl (v := .pointer (some ⟨g, i * 10 + 2, none⟩)) (w1 := ww) ?_ ?_
          · simp only [List.getElem_toArray, List.getElem_cons_succ, List.getElem_cons_zero, execOp, Reg.eval_tmp e104]
            go_simp
          exact hK.out _ _ ⟨p, q, r, mm, by rw [HA.out]; exact Reg.fill_up 2 hb rfl rfl rfl, HW⟩
        refine Reg.steps_cons (i := 3) ?_ ?_
        · rintro bb aa ww ⟨p, q, r, mm, ha, HW⟩ hb hd hn
          have e105 : aa.tmps[105]? = some (.pointer (some ⟨g, i * 10 + 2, none⟩)) := by rw [ha]; exact Reg.fill_on 2 rfl rfl (hd 2 (by decide)) rfl
          have HA := Lib.hid ha; clear ha; refine ⟨_, rfl, fun K hK => ?_⟩
          obtain ⟨_, ⟨_, _, z2, z3, z4, z5, z6, z7, _, _⟩, _⟩ := (HRG.out.below HW.1.1).cells HL1.out
          refine Reg.do_val rfl rfl (v := .agg #[.int .i64 x.bx.x0, .int .i64 x.bx.y0, .int .i64 x.bx.z0, .int .i64 x.bx.x1, .int .i64 x.bx.y1, .int .i64 x.bx.z1]) (w1 := ww) ?_ ?_
          · simp only [List.getElem_toArray, List.getElem_cons_succ, List.getElem_cons_zero, execOp, Reg.eval_tmp e105]
            go_simp
          exact hK.out _ _ ⟨p, q, r, mm, by rw [HA.out]; exact Reg.fill_up 3 hb rfl rfl rfl, HW⟩
        refine Reg.steps_cons (i := 4) ?_ ?_
        · rintro bb aa ww ⟨p, q, r, mm, ha, HW⟩ hb hd hn
          have e3 : aa.tmps[3]? = some (.pointer (some ⟨gT, 0, none⟩)) := by rw [ha]; exact (Reg.fill_off rfl).trans rfl
          have HA := Lib.hid ha; clear ha; refine ⟨_, rfl, fun K hK => ?_⟩
          refine Reg.do_val rfl rfl (v := .pointer (some ⟨gT, 2, none⟩)) (w1 := ww) ?_ ?_
          · simp only [List.getElem_toArray, List.getElem_cons_succ, List.getElem_cons_zero, execOp, Reg.eval_tmp e3]
            go_simp
          exact hK.out _ _ ⟨p, q, r, mm, by rw [HA.out]; exact Reg.fill_up 4 hb rfl rfl rfl, HW⟩
        refine Reg.steps_cons (i := 5) ?_ ?_
        · rintro bb aa ww ⟨p, q, r, mm, ha, HW⟩ hb hd hn
          have e107 : aa.tmps[107]? = some (.pointer (some ⟨gT, 2, none⟩)) := by rw [ha]; exact Reg.fill_on 4 rfl rfl (hd 4 (by decide)) rfl
          have HA := Lib.hid ha; clear ha; refine ⟨_, rfl, fun K hK => ?_⟩
          have u2 := (row_cells (row_after HW.1.1 HT.out)).1 2
          refine Reg.do_val rfl rfl (v := .slice A2 3 c2) (w1 := ww) ?_ ?_
          · simp only [List.getElem_toArray, List.getElem_cons_succ, List.getElem_cons_zero, execOp, Reg.eval_tmp e107]
            go_simp
          exact hK.out _ _ ⟨p, q, r, mm, by rw [HA.out]; exact Reg.fill_up 5 hb rfl rfl rfl, HW⟩
        refine Reg.steps_cons (i := 6) ?_ ?_
        · rintro bb aa ww ⟨p, q, r, mm, ha, HW⟩ hb hd hn
          have e108 : aa.tmps[108]? = some (.slice A2 3 c2) := by rw [ha]; exact Reg.fill_on 5 rfl rfl (hd 5 (by decide)) rfl
          have HA := Lib.hid ha; clear ha; refine ⟨_, rfl, fun K hK => ?_⟩
          refine Reg.do_call rfl rfl Tryz.func51 (by kernel_rfl) rfl #[.slice A2 3 c2] rfl (by simp [Reg.eval_tmp e108]) ?_
          refine (rcutOf_any X _ v0 v1 v2 ww (HVV.out _ (HST.out.trans (Stay.of_below HW.1.1)))).mono ?_; rintro e w3 ⟨rfl, hb3⟩; refine ⟨_, rfl, ?_⟩
          exact hK.out _ _ ⟨p, q, r, mm, by rw [HA.out]; exact Reg.fill_up 6 hb rfl rfl rfl, ⟨(HW.1.keep (i := 100) (by decide) hb3), HW.2⟩⟩
        refine Reg.steps_cons (i := 7) ?_ ?_
        · rintro bb aa ww ⟨p, q, r, mm, ha, HW⟩ hb hd hn
          have e106 : aa.tmps[106]? = some (.agg #[.int .i64 x.bx.x0, .int .i64 x.bx.y0, .int .i64 x.bx.z0, .int .i64 x.bx.x1, .int .i64 x.bx.y1, .int .i64 x.bx.z1]) := by rw [ha]; exact Reg.fill_on 3 rfl rfl (hd 3 (by decide)) rfl
          have e109 : aa.tmps[109]? = some (.agg #[.int .i64 v0, .int .i64 v1, .int .i64 v2]) := by rw [ha]; exact Reg.fill_on 6 rfl rfl (hd 6 (by decide)) rfl
          have HA := Lib.hid ha; clear ha; refine ⟨_, rfl, fun K hK => ?_⟩
          refine Reg.do_call rfl rfl Tryz.func50 (by kernel_rfl) rfl #[.agg #[.int .i64 x.bx.x0, .int .i64 x.bx.y0, .int .i64 x.bx.z0, .int .i64 x.bx.x1, .int .i64 x.bx.y1, .int .i64 x.bx.z1], .agg #[.int .i64 v0, .int .i64 v1, .int .i64 v2]] rfl (by simp [Reg.eval_tmp e106, Reg.eval_tmp e109]) ?_
          refine (HSPL.out ww).mono ?_; rintro e w3 ⟨⟨mm', hm1, hm2, rfl⟩, hb3⟩; refine ⟨_, rfl, ?_⟩
          exact hK.out _ _ ⟨p, q, r, mm', by rw [HA.out]; exact (Reg.fill_up 7 hb rfl rfl rfl).trans (Reg.fill_swap ⟨rfl, rfl, fun _ => rfl, ⟨rfl, rfl, fun _ => rfl, ⟨rfl, rfl, fun _ => rfl, ⟨rfl, rfl, fun _ => rfl, ⟨rfl, rfl, fun _ => rfl, ⟨rfl, rfl, fun _ => rfl, ⟨rfl, rfl, fun _ => rfl, ⟨rfl, rfl, fun _ => rfl, ⟨rfl, rfl, Reg.not_up (show (8 : Nat) ≠ 7 by decide) (hn 8 (by decide)), ⟨rfl, rfl, fun _ => rfl, ⟨rfl, rfl, Reg.not_up (show (10 : Nat) ≠ 7 by decide) (hn 10 (by decide)), ⟨rfl, rfl, fun _ => rfl, ⟨rfl, rfl, fun _ => rfl, ⟨rfl, rfl, fun _ => rfl, ⟨rfl, rfl, fun _ => rfl, trivial⟩⟩⟩⟩⟩⟩⟩⟩⟩⟩⟩⟩⟩⟩⟩), ⟨((HW.1.chg (hn 16 (by decide))).keep (i := 100) (by decide) hb3), fun _ => ⟨hm1, hm2⟩⟩⟩
        refine Reg.steps_cons (i := 8) ?_ ?_
        · rintro bb aa ww ⟨p, q, r, mm, ha, HW⟩ hb hd hn
          have e110 : aa.tmps[110]? = some (.tuple #[.agg #[.int .i64 B1.x0, .int .i64 B1.y0, .int .i64 B1.z0, .int .i64 B1.x1, .int .i64 B1.y1, .int .i64 B1.z1], .agg mm, .agg #[.int .i64 B2.x0, .int .i64 B2.y0, .int .i64 B2.z0, .int .i64 B2.x1, .int .i64 B2.y1, .int .i64 B2.z1]]) := by rw [ha]; exact Reg.fill_on 7 rfl rfl (hd 7 (by decide)) rfl
          have HA := Lib.hid ha; clear ha; refine ⟨_, rfl, fun K hK => ?_⟩
          refine Reg.do_val rfl rfl (v := .tuple #[.agg #[.int .i64 B1.x0, .int .i64 B1.y0, .int .i64 B1.z0, .int .i64 B1.x1, .int .i64 B1.y1, .int .i64 B1.z1], .agg mm, .agg #[.int .i64 B2.x0, .int .i64 B2.y0, .int .i64 B2.z0, .int .i64 B2.x1, .int .i64 B2.y1, .int .i64 B2.z1]]) (w1 := ww) (by simp only [List.getElem_toArray, List.getElem_cons_succ, List.getElem_cons_zero, execOp, Reg.eval_tmp e110]; rfl) ?_
          exact hK.out _ _ ⟨p, q, r, mm, by rw [HA.out]; exact Reg.fill_up 8 hb rfl rfl rfl, HW⟩
        refine Reg.steps_cons (i := 9) ?_ ?_
        · rintro bb aa ww ⟨p, q, r, mm, ha, HW⟩ hb hd hn
          have e102 : aa.tmps[102]? = some (.tuple #[.agg #[.int .i64 B1.x0, .int .i64 B1.y0, .int .i64 B1.z0, .int .i64 B1.x1, .int .i64 B1.y1, .int .i64 B1.z1], .agg mm, .agg #[.int .i64 B2.x0, .int .i64 B2.y0, .int .i64 B2.z0, .int .i64 B2.x1, .int .i64 B2.y1, .int .i64 B2.z1]]) := by rw [ha]; exact Reg.fill_on 8 rfl rfl (hd 8 (by decide)) rfl
          have HA := Lib.hid ha; clear ha; refine ⟨_, rfl, fun K hK => ?_⟩
          refine Reg.do_val rfl rfl (v := .agg #[.int .i64 B1.x0, .int .i64 B1.y0, .int .i64 B1.z0, .int .i64 B1.x1, .int .i64 B1.y1, .int .i64 B1.z1]) (w1 := ww) ?_ ?_
          · simp only [List.getElem_toArray, List.getElem_cons_succ, List.getElem_cons_zero, execOp, Reg.eval_tmp e102]
            go_simp
          exact hK.out _ _ ⟨p, q, r, mm, by rw [HA.out]; exact Reg.fill_up 9 hb rfl rfl rfl, HW⟩
        refine Reg.steps_cons (i := 10) ?_ ?_
        · rintro bb aa ww ⟨p, q, r, mm, ha, HW⟩ hb hd hn
          have e102 : aa.tmps[102]? = some (.tuple #[.agg #[.int .i64 B1.x0, .int .i64 B1.y0, .int .i64 B1.z0, .int .i64 B1.x1, .int .i64 B1.y1, .int .i64 B1.z1], .agg mm, .agg #[.int .i64 B2.x0, .int .i64 B2.y0, .int .i64 B2.z0, .int .i64 B2.x1, .int .i64 B2.y1, .int .i64 B2.z1]]) := by rw [ha]; exact Reg.fill_on 8 rfl rfl (hd 8 (by decide)) rfl
          have HA := Lib.hid ha; clear ha; refine ⟨_, rfl, fun K hK => ?_⟩
          refine Reg.do_val rfl rfl (v := .agg mm) (w1 := ww) ?_ ?_
          · simp only [List.getElem_toArray, List.getElem_cons_succ, List.getElem_cons_zero, execOp, Reg.eval_tmp e102]
            go_simp
          exact hK.out _ _ ⟨p, q, r, mm, by rw [HA.out]; exact Reg.fill_up 10 hb rfl rfl rfl, HW⟩
        refine Reg.steps_cons (i := 11) ?_ ?_
        · rintro bb aa ww ⟨p, q, r, mm, ha, HW⟩ hb hd hn
          have e102 : aa.tmps[102]? = some (.tuple #[.agg #[.int .i64 B1.x0, .int .i64 B1.y0, .int .i64 B1.z0, .int .i64 B1.x1, .int .i64 B1.y1, .int .i64 B1.z1], .agg mm, .agg #[.int .i64 B2.x0, .int .i64 B2.y0, .int .i64 B2.z0, .int .i64 B2.x1, .int .i64 B2.y1, .int .i64 B2.z1]]) := by rw [ha]; exact Reg.fill_on 8 rfl rfl (hd 8 (by decide)) rfl
          have HA := Lib.hid ha; clear ha; refine ⟨_, rfl, fun K hK => ?_⟩
          refine Reg.do_val rfl rfl (v := .agg #[.int .i64 B2.x0, .int .i64 B2.y0, .int .i64 B2.z0, .int .i64 B2.x1, .int .i64 B2.y1, .int .i64 B2.z1]) (w1 := ww) ?_ ?_
          · simp only [List.getElem_toArray, List.getElem_cons_succ, List.getElem_cons_zero, execOp, Reg.eval_tmp e102]
            go_simp
          exact hK.out _ _ ⟨p, q, r, mm, by rw [HA.out]; exact Reg.fill_up 11 hb rfl rfl rfl, HW⟩
        refine Reg.steps_cons (i := 12) ?_ ?_
        · rintro bb aa ww ⟨p, q, r, mm, ha, HW⟩ hb hd hn
          have HA := Lib.hid ha; clear ha; refine ⟨_, rfl, fun K hK => ?_⟩
          refine Reg.do_val rfl rfl (v := .pointer (some ⟨ww.heap.size, 0, none⟩)) (w1 := ww.alloc (.cells #[.int .i64 0, .int .i64 0, .int .i64 0, .int .i64 0, .int .i64 0, .int .i64 0] 45)) ?_ ?_
          · simp only [List.getElem_toArray, List.getElem_cons_succ, List.getElem_cons_zero, execOp]
            go_simp
          exact hK.out _ _ ⟨ww.heap.size, q, r, mm, by rw [HA.out]; exact Reg.fill_up 12 hb rfl rfl rfl, ⟨HW.1.al9 (hn 15 (by decide)), HW.2⟩⟩
        refine Reg.steps_cons (i := 13) ?_ ?_
        · rintro bb aa ww ⟨p, q, r, mm, ha, HW⟩ hb hd hn
          have HA := Lib.hid ha; clear ha; refine ⟨_, rfl, fun K hK => ?_⟩
          refine Reg.do_val rfl rfl (v := .pointer (some ⟨ww.heap.size, 0, none⟩)) (w1 := ww.alloc (.cells #[.int .i64 0, .int .i64 0, .int .i64 0, .int .i64 0, .int .i64 0, .int .i64 0] 45)) ?_ ?_
          · simp only [List.getElem_toArray, List.getElem_cons_succ, List.getElem_cons_zero, execOp]
            go_simp
          exact hK.out _ _ ⟨p, ww.heap.size, r, mm, by rw [HA.out]; exact Reg.fill_up 13 hb rfl rfl rfl, ⟨HW.1.al10 (hn 16 (by decide)), HW.2⟩⟩
        refine Reg.steps_cons (i := 14) ?_ ?_
        · rintro bb aa ww ⟨p, q, r, mm, ha, HW⟩ hb hd hn
          have HA := Lib.hid ha; clear ha; refine ⟨_, rfl, fun K hK => ?_⟩
          refine Reg.do_val rfl rfl (v := .pointer (some ⟨ww.heap.size, 0, none⟩)) (w1 := ww.alloc (.cells #[.int .i64 0, .int .i64 0, .int .i64 0, .int .i64 0, .int .i64 0, .int .i64 0] 45)) ?_ ?_
          · simp only [List.getElem_toArray, List.getElem_cons_succ, List.getElem_cons_zero, execOp]
            go_simp
          exact hK.out _ _ ⟨p, q, ww.heap.size, mm, by rw [HA.out]; exact Reg.fill_up 14 hb rfl rfl rfl, ⟨HW.1.al11 (hn 17 (by decide)), HW.2⟩⟩
        refine Reg.steps_cons (i := 15) ?_ ?_
        · rintro bb aa ww ⟨p, q, r, mm, ha, HW⟩ hb hd hn
          have e7 : aa.tmps[7]? = some (.pointer (some ⟨p, 0, none⟩)) := by rw [ha]; exact Reg.fill_on 12 rfl rfl (hd 12 (by decide)) rfl
          have e111 : aa.tmps[111]? = some (.agg #[.int .i64 B1.x0, .int .i64 B1.y0, .int .i64 B1.z0, .int .i64 B1.x1, .int .i64 B1.y1, .int .i64 B1.z1]) := by rw [ha]; exact Reg.fill_on 9 rfl rfl (hd 9 (by decide)) rfl
          have HA := Lib.hid ha; clear ha; refine ⟨_, rfl, fun K hK => ?_⟩
          refine Reg.do_store rfl rfl 45 _ _ rfl p #[.int .i64 B1.x0, .int .i64 B1.y0, .int .i64 B1.z0, .int .i64 B1.x1, .int .i64 B1.y1, .int .i64 B1.z1] (Reg.eval_tmp e7) (Reg.eval_tmp e111) (HW.1.blk12 (hd 12 (by decide)) hb) (by kernel_rfl) rfl (by simp [Value.oneCell']) ?_
          exact hK.out _ _ ⟨p, q, r, mm, by rw [HA.out]; exact Reg.fill_none rfl, ⟨HW.1.st12 (hd 12 (by decide)) (hd 13 (by decide)) (hd 14 (by decide)), HW.2⟩⟩
        refine Reg.steps_cons (i := 16) ?_ ?_
        · rintro bb aa ww ⟨p, q, r, mm, ha, HW⟩ hb hd hn
          have e8 : aa.tmps[8]? = some (.pointer (some ⟨q, 0, none⟩)) := by rw [ha]; exact Reg.fill_on 13 rfl rfl (hd 13 (by decide)) rfl
          have e112 : aa.tmps[112]? = some (.agg mm) := by rw [ha]; exact Reg.fill_on 10 rfl rfl (hd 10 (by decide)) rfl
          have HA := Lib.hid ha; clear ha; refine ⟨_, rfl, fun K hK => ?_⟩
          refine Reg.do_store rfl rfl 45 _ _ rfl q mm (Reg.eval_tmp e8) (Reg.eval_tmp e112) (HW.1.blk13 (hd 13 (by decide)) hb) (by rw [(HW.2 (hd 7 (by decide))).1]; kernel_rfl) (by rw [(HW.2 (hd 7 (by decide))).1]; rfl) (HW.2 (hd 7 (by decide))).2 ?_
          exact hK.out _ _ ⟨p, q, r, mm, by rw [HA.out]; exact Reg.fill_none rfl, ⟨HW.1.st13 (hd 12 (by decide)) (hd 13 (by decide)) (hd 14 (by decide)), HW.2⟩⟩
        refine Reg.steps_cons (i := 17) ?_ ?_
        · rintro bb aa ww ⟨p, q, r, mm, ha, HW⟩ hb hd hn
          have e9 : aa.tmps[9]? = some (.pointer (some ⟨r, 0, none⟩)) := by rw [ha]; exact Reg.fill_on 14 rfl rfl (hd 14 (by decide)) rfl
          have e113 : aa.tmps[113]? = some (.agg #[.int .i64 B2.x0, .int .i64 B2.y0, .int .i64 B2.z0, .int .i64 B2.x1, .int .i64 B2.y1, .int .i64 B2.z1]) := by rw [ha]; exact Reg.fill_on 11 rfl rfl (hd 11 (by decide)) rfl
          have HA := Lib.hid ha; clear ha; refine ⟨_, rfl, fun K hK => ?_⟩
          refine Reg.do_store rfl rfl 45 _ _ rfl r #[.int .i64 B2.x0, .int .i64 B2.y0, .int .i64 B2.z0, .int .i64 B2.x1, .int .i64 B2.y1, .int .i64 B2.z1] (Reg.eval_tmp e9) (Reg.eval_tmp e113) (HW.1.blk14 (hd 14 (by decide)) hb) (by kernel_rfl) rfl (by simp [Value.oneCell']) ?_
          exact hK.out _ _ ⟨p, q, r, mm, by rw [HA.out]; exact Reg.fill_none rfl, ⟨HW.1.st14 (hd 12 (by decide)) (hd 13 (by decide)) (hd 14 (by decide)), HW.2⟩⟩
        exact trivial
      rintro bb aa W9 hall ⟨p, q, r, mm, ha, HW⟩
      obtain ⟨⟨hb1, hp, hq, hr, hpq, hpr, hqr⟩, _⟩ := HW
      have hp := hp (hall 12 (by decide))
      have hr := hr (hall 14 (by decide))
      have hp : wa.heap.size ≤ p ∧ W9.heap[p]? = some (.cells #[.int .i64 B1.x0, .int .i64 B1.y0, .int .i64 B1.z0, .int .i64 B1.x1, .int .i64 B1.y1, .int .i64 B1.z1] 45 (0, 0)) := by have := hp; rw [show (fun j => bb (j + 3)) 12 = true from hall 15 (by decide)] at this; exact this
      have hr : wa.heap.size ≤ r ∧ W9.heap[r]? = some (.cells #[.int .i64 B2.x0, .int .i64 B2.y0, .int .i64 B2.z0, .int .i64 B2.x1, .int .i64 B2.y1, .int .i64 B2.z1] 45 (0, 0)) := by have := hr; rw [show (fun j => bb (j + 3)) 14 = true from hall 17 (by decide)] at this; exact this
      clear hq hpq hpr hqr
      have hb0 := hall 0 (by decide)
      have hb1 := hall 1 (by decide)
      have hb2 := hall 2 (by decide)
      have hb3 := hall 3 (by decide)
      have hb4 := hall 4 (by decide)
      have hb5 := hall 5 (by decide)
      have hb6 := hall 6 (by decide)
      have hb7 := hall 7 (by decide)
      have hb8 := hall 8 (by decide)
      have hb9 := hall 9 (by decide)
      have hb10 := hall 10 (by decide)
      have hb11 := hall 11 (by decide)
      have hb12 := hall 12 (by decide)
      have hb13 := hall 13 (by decide)
      have hb14 := hall 14 (by decide)
      have hb15 := hall 15 (by decide)
      have hb16 := hall 16 (by decide)
      have hb17 := hall 17 (by decide)
      simp only [Reg.fill, hb0, hb1, hb2, hb3, hb4, hb5, hb6, hb7, hb8, hb9, hb10, hb11, hb12, hb13, hb14, if_true, Act.put, List.setIfInBounds_toArray, List.set_cons_zero, List.set_cons_succ] at ha
      clear hb0 hb1 hb2 hb3 hb4 hb5 hb6 hb7 hb8 hb9 hb10 hb11 hb12 hb13 hb14 hb15 hb16 hb17 hall
      subst ha
      have HPR : Hid (p ≠ R ∧ r ≠ R) := Lib.hid (by have := HRG.out.rat.lt; omega)
      have HP := Lib.hid hp.2
      have HR := Lib.hid hr.2
      have HRG := Lib.hid (HRG.out.below hb1)
      have HT := Lib.hid (row_after hb1 HT.out)
      have HST := Lib.hid (HST.out.trans (Stay.of_below hb1))
      have HRAT := Lib.hid HRG.out.rat
      have HLEN : Hid ((s.set i { x with st := 2 }).length ≤ 4000) := Lib.hid (by rw [List.length_set]; omega)
      obtain ⟨_, ⟨z0, _⟩, _⟩ := HRG.out.cells HL1.out
      clear hb1 hp hr HRG
      go_wp2_with fail
      clear z0
      have KK : W9.cell? ⟨gT, 1, none⟩ = some (.slice (some ⟨b1, o1, none⟩) 3 c1) ∧ W9.cell? ⟨b1, o1 + 1, none⟩ = some (.string n1) ∧ W9.cell? ⟨p, 0, none⟩ = some (.int .i64 B1.x0) ∧ W9.cell? ⟨p, 1, none⟩ = some (.int .i64 B1.y0) ∧ W9.cell? ⟨p, 2, none⟩ = some (.int .i64 B1.z0) ∧ W9.cell? ⟨p, 3, none⟩ = some (.int .i64 B1.x1) ∧ W9.cell? ⟨p, 4, none⟩ = some (.int .i64 B1.y1) ∧ W9.cell? ⟨p, 5, none⟩ = some (.int .i64 B1.z1) := ⟨(row_cells HT.out).1 1, HNC.out _ HST.out 1 _ rfl, (row_cells HP.out).1 0, (row_cells HP.out).1 1, (row_cells HP.out).1 2, (row_cells HP.out).1 3, (row_cells HP.out).1 4, (row_cells HP.out).1 5⟩
      go_region_held3 (fun w' => w'.cell? ⟨gT, 1, none⟩ = some (.slice (some ⟨b1, o1, none⟩) 3 c1) ∧ w'.cell? ⟨b1, o1 + 1, none⟩ = some (.string n1) ∧ w'.cell? ⟨p, 0, none⟩ = some (.int .i64 B1.x0) ∧ w'.cell? ⟨p, 1, none⟩ = some (.int .i64 B1.y0) ∧ w'.cell? ⟨p, 2, none⟩ = some (.int .i64 B1.z0) ∧ w'.cell? ⟨p, 3, none⟩ = some (.int .i64 B1.x1) ∧ w'.cell? ⟨p, 4, none⟩ = some (.int .i64 B1.y1) ∧ w'.cell? ⟨p, 5, none⟩ = some (.int .i64 B1.z1)) ((first | (simp only [*, and_self]; done) | (simp [*, go_sem]; done)))
        (first
          | (go_at_call 47; (have hput := rput2_any (HRAT.out.below (Below.refl _ _).drew) (by have := HLEN.out; omega) ⟨n1, x.id, B1, 1, ⟨#[]⟩⟩; simp only [itC] at hput; (with_reducible refine hput.mono ?_); clear hput; rintro e w7 ⟨rfl, hra, hst⟩; have hst := (Stay.of_below (Below.refl _ _).drew).trans hst; have HT := Lib.hid ((hst.block gT (block_lt HT.out) HGT.out).trans HT.out); have HP := Lib.hid ((hst.block p (block_lt HP.out) HPR.out.1).trans HP.out); have HR := Lib.hid ((hst.block r (block_lt HR.out) HPR.out.2).trans HR.out); have HLEN := Lib.hid (ins_len_le ⟨n1, x.id, B1, 1, ⟨#[]⟩⟩ HLEN.out); have HRAT := Lib.hid hra; have HST := Lib.hid (HST.out.trans hst); clear hra hst; have KK : w7.cell? ⟨gT, 1, none⟩ = some (.slice (some ⟨b1, o1, none⟩) 3 c1) ∧ w7.cell? ⟨b1, o1 + 1, none⟩ = some (.string n1) ∧ w7.cell? ⟨p, 0, none⟩ = some (.int .i64 B1.x0) ∧ w7.cell? ⟨p, 1, none⟩ = some (.int .i64 B1.y0) ∧ w7.cell? ⟨p, 2, none⟩ = some (.int .i64 B1.z0) ∧ w7.cell? ⟨p, 3, none⟩ = some (.int .i64 B1.x1) ∧ w7.cell? ⟨p, 4, none⟩ = some (.int .i64 B1.y1) ∧ w7.cell? ⟨p, 5, none⟩ = some (.int .i64 B1.z1) := ⟨(row_cells HT.out).1 1, HNC.out _ HST.out 1 _ rfl, (row_cells HP.out).1 0, (row_cells HP.out).1 1, (row_cells HP.out).1 2, (row_cells HP.out).1 3, (row_cells HP.out).1 4, (row_cells HP.out).1 5⟩)))
      clear KK
      go_wp2_with fail
      have KK : w7.cell? ⟨gT, 1, none⟩ = some (.slice (some ⟨b1, o1, none⟩) 3 c1) ∧ w7.cell? ⟨b1, o1 + 2, none⟩ = some (.string n2) ∧ w7.cell? ⟨r, 0, none⟩ = some (.int .i64 B2.x0) ∧ w7.cell? ⟨r, 1, none⟩ = some (.int .i64 B2.y0) ∧ w7.cell? ⟨r, 2, none⟩ = some (.int .i64 B2.z0) ∧ w7.cell? ⟨r, 3, none⟩ = some (.int .i64 B2.x1) ∧ w7.cell? ⟨r, 4, none⟩ = some (.int .i64 B2.y1) ∧ w7.cell? ⟨r, 5, none⟩ = some (.int .i64 B2.z1) := ⟨(row_cells HT.out).1 1, HNC.out _ HST.out 2 _ rfl, (row_cells HR.out).1 0, (row_cells HR.out).1 1, (row_cells HR.out).1 2, (row_cells HR.out).1 3, (row_cells HR.out).1 4, (row_cells HR.out).1 5⟩
      go_region_held3 (fun w' => w'.cell? ⟨gT, 1, none⟩ = some (.slice (some ⟨b1, o1, none⟩) 3 c1) ∧ w'.cell? ⟨b1, o1 + 2, none⟩ = some (.string n2) ∧ w'.cell? ⟨r, 0, none⟩ = some (.int .i64 B2.x0) ∧ w'.cell? ⟨r, 1, none⟩ = some (.int .i64 B2.y0) ∧ w'.cell? ⟨r, 2, none⟩ = some (.int .i64 B2.z0) ∧ w'.cell? ⟨r, 3, none⟩ = some (.int .i64 B2.x1) ∧ w'.cell? ⟨r, 4, none⟩ = some (.int .i64 B2.y1) ∧ w'.cell? ⟨r, 5, none⟩ = some (.int .i64 B2.z1)) ((first | (simp only [*, and_self]; done) | (simp [*, go_sem]; done)))
        (first
          | (go_at_call 47; (have hput := rput2_any (HRAT.out.below (Below.refl _ _).drew) (by have := HLEN.out; omega) ⟨n2, x.id, B2, 1, ⟨#[]⟩⟩; simp only [itC] at hput; (with_reducible refine hput.mono ?_); clear hput; rintro e w7 ⟨rfl, hra, hst⟩; have hst := (Stay.of_below (Below.refl _ _).drew).trans hst; have HT := Lib.hid ((hst.block gT (block_lt HT.out) HGT.out).trans HT.out); have HP := Lib.hid ((hst.block p (block_lt HP.out) HPR.out.1).trans HP.out); have HR := Lib.hid ((hst.block r (block_lt HR.out) HPR.out.2).trans HR.out); have HLEN := Lib.hid (ins_len_le ⟨n2, x.id, B2, 1, ⟨#[]⟩⟩ HLEN.out); have HRAT := Lib.hid hra; have HST := Lib.hid (HST.out.trans hst); clear hra hst; have KK : w7.cell? ⟨gT, 1, none⟩ = some (.slice (some ⟨b1, o1, none⟩) 3 c1) ∧ w7.cell? ⟨b1, o1 + 2, none⟩ = some (.string n2) ∧ w7.cell? ⟨r, 0, none⟩ = some (.int .i64 B2.x0) ∧ w7.cell? ⟨r, 1, none⟩ = some (.int .i64 B2.y0) ∧ w7.cell? ⟨r, 2, none⟩ = some (.int .i64 B2.z0) ∧ w7.cell? ⟨r, 3, none⟩ = some (.int .i64 B2.x1) ∧ w7.cell? ⟨r, 4, none⟩ = some (.int .i64 B2.y1) ∧ w7.cell? ⟨r, 5, none⟩ = some (.int .i64 B2.z1) := ⟨(row_cells HT.out).1 1, HNC.out _ HST.out 2 _ rfl, (row_cells HR.out).1 0, (row_cells HR.out).1 1, (row_cells HR.out).1 2, (row_cells HR.out).1 3, (row_cells HR.out).1 4, (row_cells HR.out).1 5⟩)))
      clear KK
      go_wp2_with fail
      refine bodyPost_ret (v := .int .i64 0) (by simp [results, Tryz.results28, go_sem, *]) rfl ⟨rfl, by rw [← HS'.out, HRI.out]; exact HRAT.out, HST.out⟩
    · obtain ⟨n0, n1, rfl⟩ : ∃ n0 n1 : ByteArray, ns = [n0, n1] := list2 (HL1.out _ hkn)
      obtain rfl : vs = [] := List.length_eq_zero_iff.1 (HL2.out _ hkn)
      rw [show [n0, n1].length = 2 from rfl] at *
      rw [show ([] : List Int).length = 0 from rfl] at *
      obtain ⟨b1, o1, rfl, hnc⟩ := HNA.out (by decide)
      have HNC := Lib.hid hnc
      clear hnc HNA HL1 HL2
      have p0 : (kd.toList == [102, 114, 101, 101]) = false := by rw [hkd]; kernel_rfl
      have p1 : (kd.toList == [99, 117, 116]) = false := by rw [hkd]; kernel_rfl
      have p2 : (kd.toList == [97, 115, 115, 105, 103, 110]) = true := by rw [hkd]; kernel_rfl
      have p3 : (kd.toList == [114, 101, 108, 101, 97, 115, 101]) = false := by rw [hkd]; kernel_rfl
      have p4 : (kd.toList == [115, 101, 116]) = false := by rw [hkd]; kernel_rfl
      have p5 : (kd.toList == [98, 114, 101, 97, 107]) = false := by rw [hkd]; kernel_rfl
      obtain ⟨x, hlk, hal, hcut⟩ := rcheck_zero HE.out hkn (by decide)
      have hlk : Yp.look s n0 = some x := hlk
      obtain ⟨hxm, hxid⟩ := Yp.look_some hlk
      obtain ⟨r, hr, hri, hrl, hrn⟩ := FI.of (·.id) s n0
      obtain ⟨i, rfl, hil, hix, _⟩ : ∃ i : Nat, r = i ∧ i < s.length ∧ (∀ z : It, s[i]? = some z → z.id = n0) ∧ True := by
        rcases hr with ⟨i, e, h1, h2, _⟩ | ⟨e, h1⟩
        · exact ⟨i, e, h1, h2, trivial⟩
        · exact absurd hxid (h1 _ x (List.getElem?_eq_getElem (List.getElem_of_mem hxm).choose_spec.choose |>.trans (by rw [(List.getElem_of_mem hxm).choose_spec.choose_spec])))
      have hsi : s[i]? = some x := by
        have h1 := hix _ (List.getElem?_eq_getElem hil)
        rw [List.getElem?_eq_getElem hil, Yp.uniq_eq HUQ.out (List.getElem_mem hil) hxm (by rw [h1, hxid])]
      have HL := Lib.hid hsi
      have HFI := Lib.hid hr
      have HXI := Lib.hid hxid
      have HLK := Lib.hid hlk
      have HAL := Lib.hid hal
      have HCUT := Lib.hid hcut
      have HSI : Hid (∀ st stone, Yp.change s n0 st stone = s.set i { x with st := st, stone := stone }) := Lib.hid fun st stone => by rw [← hxid]; exact change_at HUQ.out hsi st stone
      have HXM := Lib.hid hxm
      clear hlk hal hcut hxm hxid hr hri hrl hrn hix hsi hkd
      obtain ⟨IV, FV, hrw, ⟨A6, c6, rfl, hc6, _, _, hx6⟩, _⟩ := HRA.out
      obtain ⟨g6, rfl, hg6, hgR6, hcl6⟩ := hx6 (by omega)
      have hal6 := al_below wf (.cells #[] 68)
      obtain ⟨v', w', hrun, hown, hgrow, _⟩ := own_append (ty := 65) elI (World.ownsRow_lit (base := wf.heap.size) (size := 10) (e := 68) wf #[] 0 (Nat.le_refl _) (by decide) (by simp)) (u := .slice (some ⟨g6, 0, none⟩) s.length c6) (src_all (fun j u hj => (hal6.cell (p := ⟨g6, _, none⟩) hg6).trans (hcl6 j u hj))) (flat_lenR s) (flat_one s) (by omega) hal6.size
      have hbe : Below wf.heap.size wf w' := hal6.trans ((below_grown hgrow (fun g e => Nat.le_of_eq (Option.some.inj e)) hal6.size))
      rw [Nat.zero_add] at hown
      obtain ⟨g, cap, rfl, hgw, hrg⟩ := rg_copy HRA.out hbe hown (by omega)
      have HTG : Hid (gT ≠ g) := Lib.hid (by have := block_lt HT.out; omega)
      have y0 := (row_cells (row_after hal6 hrw)).1 0
      have y1 := (row_cells (row_after hbe hrw)).1 0
      have y1f := (row_cells (row_after hbe hrw)).2 0
      have u0 := (row_cells HT.out).1 0
      have HBE := Lib.hid hbe
      have HRG := Lib.hid hrg
      have HGW := Lib.hid hgw
      clear hrw hc6 hx6 hgR6 hcl6 hal6 hown hgrow hbe hrg hgw
      go_wp2_with (at_builtin; refine wpList_append_run rfl _ _ _ rfl rfl rfl hrun ?_)
      have HST := Lib.hid ((HST.out.trans (Stay.of_below HBE.out)).trans (stay_cell w' R 0 (.slice (some ⟨g, 0, none⟩) s.length cap)))
      have HT := Lib.hid (((stay_cell w' R 0 (.slice (some ⟨g, 0, none⟩) s.length cap)).block gT (block_lt (row_after HBE.out HT.out)) HGT.out).trans (row_after HBE.out HT.out))
      have HGB : Hid (W.heap.size ≤ g) := Lib.hid (by have := HGW.out; have := HSZ.out; omega)
      clear y0 y1 y1f u0 hrun HBE HGW hg6 HRA
      generalize w'.setCell ⟨R, 0, none⟩ (.slice (some ⟨g, 0, none⟩) s.length cap) = wg at *
      have KK : wg.cell? ⟨R, 0, none⟩ = some (.slice (some ⟨g, 0, none⟩) s.length cap) ∧ wg.cell? ⟨gT, 1, none⟩ = some (.slice (some ⟨b1, o1, none⟩) 2 c1) ∧ wg.cell? ⟨b1, o1, none⟩ = some (.string n0) := ⟨(HRG.out.cells HL.out).1, (row_cells HT.out).1 1, HNC.out _ HST.out 0 _ rfl⟩
      go_region_held3 (fun w' => w'.cell? ⟨R, 0, none⟩ = some (.slice (some ⟨g, 0, none⟩) s.length cap) ∧ w'.cell? ⟨gT, 1, none⟩ = some (.slice (some ⟨b1, o1, none⟩) 2 c1) ∧ w'.cell? ⟨b1, o1, none⟩ = some (.string n0)) ((first | (simp only [*, and_self]; done) | (simp [*, go_sem]; done)))
        (first
          | (go_at_call 49; ((with_reducible refine (rfind_any (HRG.out.below (Below.refl _ _).drew).rat (by omega) n0 HFI.out).mono ?_); rintro e w6 ⟨rfl, hb⟩; have HRG := Lib.hid (HRG.out.below ((Below.refl _ _).drew.trans hb)); have HT := Lib.hid (row_after hb HT.out); have HST := Lib.hid (HST.out.trans (Stay.of_below ((Below.refl _ _).drew.trans hb))); clear hb; have KK : w6.cell? ⟨R, 0, none⟩ = some (.slice (some ⟨g, 0, none⟩) s.length cap) ∧ w6.cell? ⟨gT, 1, none⟩ = some (.slice (some ⟨b1, o1, none⟩) 2 c1) ∧ w6.cell? ⟨b1, o1, none⟩ = some (.string n0) := ⟨(HRG.out.cells HL.out).1, (row_cells HT.out).1 1, HNC.out _ HST.out 0 _ rfl⟩)))
      clear KK
      have u0 := (row_cells HT.out).1 0
      obtain ⟨_, ⟨_, _, _, _, _, _, _, _, z8, z9⟩, zf⟩ := HRG.out.cells HL.out
      have zf8 := zf (i * 10 + 8)
      obtain ⟨hrg1, hst1⟩ := HRG.out.field HL.out (x' := { x with st := 3 }) (r := 8) (v := .int .i64 3) (by decide) rfl
      have hl1 : (s.set i { x with st := 3 })[i]? = some { x with st := 3 } := by rw [List.getElem?_set, if_pos rfl, if_pos hil]
      obtain ⟨_, ⟨_, _, _, _, _, _, _, _, y8, y9⟩, yf⟩ := hrg1.cells hl1
      have yf9 := yf (i * 10 + 9)
      obtain ⟨hrg2, hst2⟩ := hrg1.field hl1 (x' := { x with st := 3, stone := n1 }) (r := 9) (v := .string n1) (by decide) rfl
      rw [List.set_set] at hrg2
      have HFIN := Lib.hid hrg2.rat
      have HSTF := Lib.hid ((HST.out.far HGB.out hst1).far HGB.out hst2)
      have u1 := (row_cells HT.out).1 1
      have m1 := HNC.out _ HST.out 1 _ rfl
      have HRI : Hid (rItems s ⟨kd, [n0, n1], []⟩ = s.set i { x with st := 3, stone := n1 }) := Lib.hid (by
        unfold rItems
        rw [hkn]
        show rApply s ⟨kd, [n0, n1], []⟩ 2 = _
        have : rApply s ⟨kd, [n0, n1], []⟩ 2 = Yp.change s n0 3 n1 := by rfl
        rw [this, HSI.out])
      clear zf hrg1 hst1 hl1 hkn yf hrg2 hst2
      go_wp2_with fail
      refine bodyPost_ret (v := .int .i64 0) (by simp [results, Tryz.results28, go_sem, *]) rfl ⟨rfl, by rw [← HS'.out, HRI.out]; exact HFIN.out, HSTF.out⟩
    · obtain ⟨n0, rfl⟩ : ∃ n0 : ByteArray, ns = [n0] := list1 (HL1.out _ hkn)
      obtain rfl : vs = [] := List.length_eq_zero_iff.1 (HL2.out _ hkn)
      rw [show [n0].length = 1 from rfl] at *
      rw [show ([] : List Int).length = 0 from rfl] at *
      obtain ⟨b1, o1, rfl, hnc⟩ := HNA.out (by decide)
      have HNC := Lib.hid hnc
      clear hnc HNA HL1 HL2
      have p0 : (kd.toList == [102, 114, 101, 101]) = false := by rw [hkd]; kernel_rfl
      have p1 : (kd.toList == [99, 117, 116]) = false := by rw [hkd]; kernel_rfl
      have p2 : (kd.toList == [97, 115, 115, 105, 103, 110]) = false := by rw [hkd]; kernel_rfl
      have p3 : (kd.toList == [114, 101, 108, 101, 97, 115, 101]) = true := by rw [hkd]; kernel_rfl
      have p4 : (kd.toList == [115, 101, 116]) = false := by rw [hkd]; kernel_rfl
      have p5 : (kd.toList == [98, 114, 101, 97, 107]) = false := by rw [hkd]; kernel_rfl
      obtain ⟨x, hlk, hal, hcut⟩ := rcheck_zero HE.out hkn (by decide)
      have hlk : Yp.look s n0 = some x := hlk
      obtain ⟨hxm, hxid⟩ := Yp.look_some hlk
      obtain ⟨r, hr, hri, hrl, hrn⟩ := FI.of (·.id) s n0
      obtain ⟨i, rfl, hil, hix, _⟩ : ∃ i : Nat, r = i ∧ i < s.length ∧ (∀ z : It, s[i]? = some z → z.id = n0) ∧ True := by
        rcases hr with ⟨i, e, h1, h2, _⟩ | ⟨e, h1⟩
        · exact ⟨i, e, h1, h2, trivial⟩
        · exact absurd hxid (h1 _ x (List.getElem?_eq_getElem (List.getElem_of_mem hxm).choose_spec.choose |>.trans (by rw [(List.getElem_of_mem hxm).choose_spec.choose_spec])))
      have hsi : s[i]? = some x := by
        have h1 := hix _ (List.getElem?_eq_getElem hil)
        rw [List.getElem?_eq_getElem hil, Yp.uniq_eq HUQ.out (List.getElem_mem hil) hxm (by rw [h1, hxid])]
      have HL := Lib.hid hsi
      have HFI := Lib.hid hr
      have HXI := Lib.hid hxid
      have HLK := Lib.hid hlk
      have HAL := Lib.hid hal
      have HCUT := Lib.hid hcut
      have HSI : Hid (∀ st stone, Yp.change s n0 st stone = s.set i { x with st := st, stone := stone }) := Lib.hid fun st stone => by rw [← hxid]; exact change_at HUQ.out hsi st stone
      have HXM := Lib.hid hxm
      clear hlk hal hcut hxm hxid hr hri hrl hrn hix hsi hkd
      obtain ⟨IV, FV, hrw, ⟨A6, c6, rfl, hc6, _, _, hx6⟩, _⟩ := HRA.out
      obtain ⟨g6, rfl, hg6, hgR6, hcl6⟩ := hx6 (by omega)
      have hal6 := al_below wf (.cells #[] 68)
      obtain ⟨v', w', hrun, hown, hgrow, _⟩ := own_append (ty := 65) elI (World.ownsRow_lit (base := wf.heap.size) (size := 10) (e := 68) wf #[] 0 (Nat.le_refl _) (by decide) (by simp)) (u := .slice (some ⟨g6, 0, none⟩) s.length c6) (src_all (fun j u hj => (hal6.cell (p := ⟨g6, _, none⟩) hg6).trans (hcl6 j u hj))) (flat_lenR s) (flat_one s) (by omega) hal6.size
      have hbe : Below wf.heap.size wf w' := hal6.trans ((below_grown hgrow (fun g e => Nat.le_of_eq (Option.some.inj e)) hal6.size))
      rw [Nat.zero_add] at hown
      obtain ⟨g, cap, rfl, hgw, hrg⟩ := rg_copy HRA.out hbe hown (by omega)
      have HTG : Hid (gT ≠ g) := Lib.hid (by have := block_lt HT.out; omega)
      have y0 := (row_cells (row_after hal6 hrw)).1 0
      have y1 := (row_cells (row_after hbe hrw)).1 0
      have y1f := (row_cells (row_after hbe hrw)).2 0
      have u0 := (row_cells HT.out).1 0
      have HBE := Lib.hid hbe
      have HRG := Lib.hid hrg
      have HGW := Lib.hid hgw
      clear hrw hc6 hx6 hgR6 hcl6 hal6 hown hgrow hbe hrg hgw
      go_wp2_with (at_builtin; refine wpList_append_run rfl _ _ _ rfl rfl rfl hrun ?_)
      have HST := Lib.hid ((HST.out.trans (Stay.of_below HBE.out)).trans (stay_cell w' R 0 (.slice (some ⟨g, 0, none⟩) s.length cap)))
      have HT := Lib.hid (((stay_cell w' R 0 (.slice (some ⟨g, 0, none⟩) s.length cap)).block gT (block_lt (row_after HBE.out HT.out)) HGT.out).trans (row_after HBE.out HT.out))
      have HGB : Hid (W.heap.size ≤ g) := Lib.hid (by have := HGW.out; have := HSZ.out; omega)
      clear y0 y1 y1f u0 hrun HBE HGW hg6 HRA
      generalize w'.setCell ⟨R, 0, none⟩ (.slice (some ⟨g, 0, none⟩) s.length cap) = wg at *
      have KK : wg.cell? ⟨R, 0, none⟩ = some (.slice (some ⟨g, 0, none⟩) s.length cap) ∧ wg.cell? ⟨gT, 1, none⟩ = some (.slice (some ⟨b1, o1, none⟩) 1 c1) ∧ wg.cell? ⟨b1, o1, none⟩ = some (.string n0) := ⟨(HRG.out.cells HL.out).1, (row_cells HT.out).1 1, HNC.out _ HST.out 0 _ rfl⟩
      go_region_held3 (fun w' => w'.cell? ⟨R, 0, none⟩ = some (.slice (some ⟨g, 0, none⟩) s.length cap) ∧ w'.cell? ⟨gT, 1, none⟩ = some (.slice (some ⟨b1, o1, none⟩) 1 c1) ∧ w'.cell? ⟨b1, o1, none⟩ = some (.string n0)) ((first | (simp only [*, and_self]; done) | (simp [*, go_sem]; done)))
        (first
          | (go_at_call 49; ((with_reducible refine (rfind_any (HRG.out.below (Below.refl _ _).drew).rat (by omega) n0 HFI.out).mono ?_); rintro e w6 ⟨rfl, hb⟩; have HRG := Lib.hid (HRG.out.below ((Below.refl _ _).drew.trans hb)); have HT := Lib.hid (row_after hb HT.out); have HST := Lib.hid (HST.out.trans (Stay.of_below ((Below.refl _ _).drew.trans hb))); clear hb; have KK : w6.cell? ⟨R, 0, none⟩ = some (.slice (some ⟨g, 0, none⟩) s.length cap) ∧ w6.cell? ⟨gT, 1, none⟩ = some (.slice (some ⟨b1, o1, none⟩) 1 c1) ∧ w6.cell? ⟨b1, o1, none⟩ = some (.string n0) := ⟨(HRG.out.cells HL.out).1, (row_cells HT.out).1 1, HNC.out _ HST.out 0 _ rfl⟩)))
      clear KK
      have u0 := (row_cells HT.out).1 0
      obtain ⟨_, ⟨_, _, _, _, _, _, _, _, z8, z9⟩, zf⟩ := HRG.out.cells HL.out
      have zf8 := zf (i * 10 + 8)
      obtain ⟨hrg1, hst1⟩ := HRG.out.field HL.out (x' := { x with st := 1 }) (r := 8) (v := .int .i64 1) (by decide) rfl
      have hl1 : (s.set i { x with st := 1 })[i]? = some { x with st := 1 } := by rw [List.getElem?_set, if_pos rfl, if_pos hil]
      obtain ⟨_, ⟨_, _, _, _, _, _, _, _, y8, y9⟩, yf⟩ := hrg1.cells hl1
      have yf9 := yf (i * 10 + 9)
      obtain ⟨hrg2, hst2⟩ := hrg1.field hl1 (x' := { x with st := 1, stone := (⟨#[]⟩ : ByteArray) }) (r := 9) (v := .string (⟨#[]⟩ : ByteArray)) (by decide) rfl
      rw [List.set_set] at hrg2
      have HFIN := Lib.hid hrg2.rat
      have HSTF := Lib.hid ((HST.out.far HGB.out hst1).far HGB.out hst2)
      have HRI : Hid (rItems s ⟨kd, [n0], []⟩ = s.set i { x with st := 1, stone := (⟨#[]⟩ : ByteArray) }) := Lib.hid (by
        unfold rItems
        rw [hkn]
        show rApply s ⟨kd, [n0], []⟩ 3 = _
        have : rApply s ⟨kd, [n0], []⟩ 3 = Yp.change s n0 1 Yp.es := by rfl
        rw [this, HSI.out]
        rfl)
      clear zf hrg1 hst1 hl1 hkn yf hrg2 hst2
      go_wp2_with fail
      refine bodyPost_ret (v := .int .i64 0) (by simp [results, Tryz.results28, go_sem, *]) rfl ⟨rfl, by rw [← HS'.out, HRI.out]; exact HFIN.out, HSTF.out⟩
    · obtain ⟨n0, rfl⟩ : ∃ n0 : ByteArray, ns = [n0] := list1 (HL1.out _ hkn)
      obtain rfl : vs = [] := List.length_eq_zero_iff.1 (HL2.out _ hkn)
      rw [show [n0].length = 1 from rfl] at *
      rw [show ([] : List Int).length = 0 from rfl] at *
      obtain ⟨b1, o1, rfl, hnc⟩ := HNA.out (by decide)
      have HNC := Lib.hid hnc
      clear hnc HNA HL1 HL2
      have p0 : (kd.toList == [102, 114, 101, 101]) = false := by rw [hkd]; kernel_rfl
      have p1 : (kd.toList == [99, 117, 116]) = false := by rw [hkd]; kernel_rfl
      have p2 : (kd.toList == [97, 115, 115, 105, 103, 110]) = false := by rw [hkd]; kernel_rfl
      have p3 : (kd.toList == [114, 101, 108, 101, 97, 115, 101]) = false := by rw [hkd]; kernel_rfl
      have p4 : (kd.toList == [115, 101, 116]) = true := by rw [hkd]; kernel_rfl
      have p5 : (kd.toList == [98, 114, 101, 97, 107]) = false := by rw [hkd]; kernel_rfl
      obtain ⟨x, hlk, hal, hcut⟩ := rcheck_zero HE.out hkn (by decide)
      have hlk : Yp.look s n0 = some x := hlk
      obtain ⟨hxm, hxid⟩ := Yp.look_some hlk
      obtain ⟨r, hr, hri, hrl, hrn⟩ := FI.of (·.id) s n0
      obtain ⟨i, rfl, hil, hix, _⟩ : ∃ i : Nat, r = i ∧ i < s.length ∧ (∀ z : It, s[i]? = some z → z.id = n0) ∧ True := by
        rcases hr with ⟨i, e, h1, h2, _⟩ | ⟨e, h1⟩
        · exact ⟨i, e, h1, h2, trivial⟩
        · exact absurd hxid (h1 _ x (List.getElem?_eq_getElem (List.getElem_of_mem hxm).choose_spec.choose |>.trans (by rw [(List.getElem_of_mem hxm).choose_spec.choose_spec])))
      have hsi : s[i]? = some x := by
        have h1 := hix _ (List.getElem?_eq_getElem hil)
        rw [List.getElem?_eq_getElem hil, Yp.uniq_eq HUQ.out (List.getElem_mem hil) hxm (by rw [h1, hxid])]
      have HL := Lib.hid hsi
      have HFI := Lib.hid hr
      have HXI := Lib.hid hxid
      have HLK := Lib.hid hlk
      have HAL := Lib.hid hal
      have HCUT := Lib.hid hcut
      have HSI : Hid (∀ st stone, Yp.change s n0 st stone = s.set i { x with st := st, stone := stone }) := Lib.hid fun st stone => by rw [← hxid]; exact change_at HUQ.out hsi st stone
      have HXM := Lib.hid hxm
      clear hlk hal hcut hxm hxid hr hri hrl hrn hix hsi hkd
      obtain ⟨IV, FV, hrw, ⟨A6, c6, rfl, hc6, _, _, hx6⟩, _⟩ := HRA.out
      obtain ⟨g6, rfl, hg6, hgR6, hcl6⟩ := hx6 (by omega)
      have hal6 := al_below wf (.cells #[] 68)
      obtain ⟨v', w', hrun, hown, hgrow, _⟩ := own_append (ty := 65) elI (World.ownsRow_lit (base := wf.heap.size) (size := 10) (e := 68) wf #[] 0 (Nat.le_refl _) (by decide) (by simp)) (u := .slice (some ⟨g6, 0, none⟩) s.length c6) (src_all (fun j u hj => (hal6.cell (p := ⟨g6, _, none⟩) hg6).trans (hcl6 j u hj))) (flat_lenR s) (flat_one s) (by omega) hal6.size
      have hbe : Below wf.heap.size wf w' := hal6.trans ((below_grown hgrow (fun g e => Nat.le_of_eq (Option.some.inj e)) hal6.size))
      rw [Nat.zero_add] at hown
      obtain ⟨g, cap, rfl, hgw, hrg⟩ := rg_copy HRA.out hbe hown (by omega)
      have HTG : Hid (gT ≠ g) := Lib.hid (by have := block_lt HT.out; omega)
      have y0 := (row_cells (row_after hal6 hrw)).1 0
      have y1 := (row_cells (row_after hbe hrw)).1 0
      have y1f := (row_cells (row_after hbe hrw)).2 0
      have u0 := (row_cells HT.out).1 0
      have HBE := Lib.hid hbe
      have HRG := Lib.hid hrg
      have HGW := Lib.hid hgw
      clear hrw hc6 hx6 hgR6 hcl6 hal6 hown hgrow hbe hrg hgw
      go_wp2_with (at_builtin; refine wpList_append_run rfl _ _ _ rfl rfl rfl hrun ?_)
      have HST := Lib.hid ((HST.out.trans (Stay.of_below HBE.out)).trans (stay_cell w' R 0 (.slice (some ⟨g, 0, none⟩) s.length cap)))
      have HT := Lib.hid (((stay_cell w' R 0 (.slice (some ⟨g, 0, none⟩) s.length cap)).block gT (block_lt (row_after HBE.out HT.out)) HGT.out).trans (row_after HBE.out HT.out))
      have HGB : Hid (W.heap.size ≤ g) := Lib.hid (by have := HGW.out; have := HSZ.out; omega)
      clear y0 y1 y1f u0 hrun HBE HGW hg6 HRA
      generalize w'.setCell ⟨R, 0, none⟩ (.slice (some ⟨g, 0, none⟩) s.length cap) = wg at *
      have KK : wg.cell? ⟨R, 0, none⟩ = some (.slice (some ⟨g, 0, none⟩) s.length cap) ∧ wg.cell? ⟨gT, 1, none⟩ = some (.slice (some ⟨b1, o1, none⟩) 1 c1) ∧ wg.cell? ⟨b1, o1, none⟩ = some (.string n0) := ⟨(HRG.out.cells HL.out).1, (row_cells HT.out).1 1, HNC.out _ HST.out 0 _ rfl⟩
      go_region_held3 (fun w' => w'.cell? ⟨R, 0, none⟩ = some (.slice (some ⟨g, 0, none⟩) s.length cap) ∧ w'.cell? ⟨gT, 1, none⟩ = some (.slice (some ⟨b1, o1, none⟩) 1 c1) ∧ w'.cell? ⟨b1, o1, none⟩ = some (.string n0)) ((first | (simp only [*, and_self]; done) | (simp [*, go_sem]; done)))
        (first
          | (go_at_call 49; ((with_reducible refine (rfind_any (HRG.out.below (Below.refl _ _).drew).rat (by omega) n0 HFI.out).mono ?_); rintro e w6 ⟨rfl, hb⟩; have HRG := Lib.hid (HRG.out.below ((Below.refl _ _).drew.trans hb)); have HT := Lib.hid (row_after hb HT.out); have HST := Lib.hid (HST.out.trans (Stay.of_below ((Below.refl _ _).drew.trans hb))); clear hb; have KK : w6.cell? ⟨R, 0, none⟩ = some (.slice (some ⟨g, 0, none⟩) s.length cap) ∧ w6.cell? ⟨gT, 1, none⟩ = some (.slice (some ⟨b1, o1, none⟩) 1 c1) ∧ w6.cell? ⟨b1, o1, none⟩ = some (.string n0) := ⟨(HRG.out.cells HL.out).1, (row_cells HT.out).1 1, HNC.out _ HST.out 0 _ rfl⟩)))
      clear KK
      have u0 := (row_cells HT.out).1 0
      obtain ⟨_, ⟨_, _, _, _, _, _, _, _, z8, z9⟩, zf⟩ := HRG.out.cells HL.out
      have zf8 := zf (i * 10 + 8)
      obtain ⟨hrg1, hst1⟩ := HRG.out.field HL.out (x' := { x with st := 4 }) (r := 8) (v := .int .i64 4) (by decide) rfl
      have hl1 : (s.set i { x with st := 4 })[i]? = some { x with st := 4 } := by rw [List.getElem?_set, if_pos rfl, if_pos hil]
      have HFIN := Lib.hid hrg1.rat
      have HSTF := Lib.hid (HST.out.far HGB.out hst1)
      have HRI : Hid (rItems s ⟨kd, [n0], []⟩ = s.set i { x with st := 4 }) := Lib.hid (by
        unfold rItems
        rw [hkn]
        show rApply s ⟨kd, [n0], []⟩ 4 = _
        have : rApply s ⟨kd, [n0], []⟩ 4 = Yp.change s n0 4 x.stone := by show Yp.change s n0 4 ((Yp.look s n0).getD Yp.zIt).stone = _; rw [HLK.out]; rfl
        rw [this, HSI.out])
      clear zf hrg1 hst1 hl1 hkn
      go_wp2_with fail
      refine bodyPost_ret (v := .int .i64 0) (by simp [results, Tryz.results28, go_sem, *]) rfl ⟨rfl, by rw [← HS'.out, HRI.out]; exact HFIN.out, HSTF.out⟩
    · obtain ⟨n0, rfl⟩ : ∃ n0 : ByteArray, ns = [n0] := list1 (HL1.out _ hkn)
      obtain rfl : vs = [] := List.length_eq_zero_iff.1 (HL2.out _ hkn)
      rw [show [n0].length = 1 from rfl] at *
      rw [show ([] : List Int).length = 0 from rfl] at *
      obtain ⟨b1, o1, rfl, hnc⟩ := HNA.out (by decide)
      have HNC := Lib.hid hnc
      clear hnc HNA HL1 HL2
      have p0 : (kd.toList == [102, 114, 101, 101]) = false := by rw [hkd]; kernel_rfl
      have p1 : (kd.toList == [99, 117, 116]) = false := by rw [hkd]; kernel_rfl
      have p2 : (kd.toList == [97, 115, 115, 105, 103, 110]) = false := by rw [hkd]; kernel_rfl
      have p3 : (kd.toList == [114, 101, 108, 101, 97, 115, 101]) = false := by rw [hkd]; kernel_rfl
      have p4 : (kd.toList == [115, 101, 116]) = false := by rw [hkd]; kernel_rfl
      have p5 : (kd.toList == [98, 114, 101, 97, 107]) = true := by rw [hkd]; kernel_rfl
      obtain ⟨x, hlk, hal, hcut⟩ := rcheck_zero HE.out hkn (by decide)
      have hlk : Yp.look s n0 = some x := hlk
      obtain ⟨hxm, hxid⟩ := Yp.look_some hlk
      obtain ⟨r, hr, hri, hrl, hrn⟩ := FI.of (·.id) s n0
      obtain ⟨i, rfl, hil, hix, _⟩ : ∃ i : Nat, r = i ∧ i < s.length ∧ (∀ z : It, s[i]? = some z → z.id = n0) ∧ True := by
        rcases hr with ⟨i, e, h1, h2, _⟩ | ⟨e, h1⟩
        · exact ⟨i, e, h1, h2, trivial⟩
        · exact absurd hxid (h1 _ x (List.getElem?_eq_getElem (List.getElem_of_mem hxm).choose_spec.choose |>.trans (by rw [(List.getElem_of_mem hxm).choose_spec.choose_spec])))
      have hsi : s[i]? = some x := by
        have h1 := hix _ (List.getElem?_eq_getElem hil)
        rw [List.getElem?_eq_getElem hil, Yp.uniq_eq HUQ.out (List.getElem_mem hil) hxm (by rw [h1, hxid])]
      have HL := Lib.hid hsi
      have HFI := Lib.hid hr
      have HXI := Lib.hid hxid
      have HLK := Lib.hid hlk
      have HAL := Lib.hid hal
      have HCUT := Lib.hid hcut
      have HSI : Hid (∀ st stone, Yp.change s n0 st stone = s.set i { x with st := st, stone := stone }) := Lib.hid fun st stone => by rw [← hxid]; exact change_at HUQ.out hsi st stone
      have HXM := Lib.hid hxm
      clear hlk hal hcut hxm hxid hr hri hrl hrn hix hsi hkd
      obtain ⟨IV, FV, hrw, ⟨A6, c6, rfl, hc6, _, _, hx6⟩, _⟩ := HRA.out
      obtain ⟨g6, rfl, hg6, hgR6, hcl6⟩ := hx6 (by omega)
      have hal6 := al_below wf (.cells #[] 68)
      obtain ⟨v', w', hrun, hown, hgrow, _⟩ := own_append (ty := 65) elI (World.ownsRow_lit (base := wf.heap.size) (size := 10) (e := 68) wf #[] 0 (Nat.le_refl _) (by decide) (by simp)) (u := .slice (some ⟨g6, 0, none⟩) s.length c6) (src_all (fun j u hj => (hal6.cell (p := ⟨g6, _, none⟩) hg6).trans (hcl6 j u hj))) (flat_lenR s) (flat_one s) (by omega) hal6.size
      have hbe : Below wf.heap.size wf w' := hal6.trans ((below_grown hgrow (fun g e => Nat.le_of_eq (Option.some.inj e)) hal6.size))
      rw [Nat.zero_add] at hown
      obtain ⟨g, cap, rfl, hgw, hrg⟩ := rg_copy HRA.out hbe hown (by omega)
      have HTG : Hid (gT ≠ g) := Lib.hid (by have := block_lt HT.out; omega)
      have y0 := (row_cells (row_after hal6 hrw)).1 0
      have y1 := (row_cells (row_after hbe hrw)).1 0
      have y1f := (row_cells (row_after hbe hrw)).2 0
      have u0 := (row_cells HT.out).1 0
      have HBE := Lib.hid hbe
      have HRG := Lib.hid hrg
      have HGW := Lib.hid hgw
      clear hrw hc6 hx6 hgR6 hcl6 hal6 hown hgrow hbe hrg hgw
      go_wp2_with (at_builtin; refine wpList_append_run rfl _ _ _ rfl rfl rfl hrun ?_)
      have HST := Lib.hid ((HST.out.trans (Stay.of_below HBE.out)).trans (stay_cell w' R 0 (.slice (some ⟨g, 0, none⟩) s.length cap)))
      have HT := Lib.hid (((stay_cell w' R 0 (.slice (some ⟨g, 0, none⟩) s.length cap)).block gT (block_lt (row_after HBE.out HT.out)) HGT.out).trans (row_after HBE.out HT.out))
      have HGB : Hid (W.heap.size ≤ g) := Lib.hid (by have := HGW.out; have := HSZ.out; omega)
      clear y0 y1 y1f u0 hrun HBE HGW hg6 HRA
      generalize w'.setCell ⟨R, 0, none⟩ (.slice (some ⟨g, 0, none⟩) s.length cap) = wg at *
      have KK : wg.cell? ⟨R, 0, none⟩ = some (.slice (some ⟨g, 0, none⟩) s.length cap) ∧ wg.cell? ⟨gT, 1, none⟩ = some (.slice (some ⟨b1, o1, none⟩) 1 c1) ∧ wg.cell? ⟨b1, o1, none⟩ = some (.string n0) := ⟨(HRG.out.cells HL.out).1, (row_cells HT.out).1 1, HNC.out _ HST.out 0 _ rfl⟩
      go_region_held3 (fun w' => w'.cell? ⟨R, 0, none⟩ = some (.slice (some ⟨g, 0, none⟩) s.length cap) ∧ w'.cell? ⟨gT, 1, none⟩ = some (.slice (some ⟨b1, o1, none⟩) 1 c1) ∧ w'.cell? ⟨b1, o1, none⟩ = some (.string n0)) ((first | (simp only [*, and_self]; done) | (simp [*, go_sem]; done)))
        (first
          | (go_at_call 49; ((with_reducible refine (rfind_any (HRG.out.below (Below.refl _ _).drew).rat (by omega) n0 HFI.out).mono ?_); rintro e w6 ⟨rfl, hb⟩; have HRG := Lib.hid (HRG.out.below ((Below.refl _ _).drew.trans hb)); have HT := Lib.hid (row_after hb HT.out); have HST := Lib.hid (HST.out.trans (Stay.of_below ((Below.refl _ _).drew.trans hb))); clear hb; have KK : w6.cell? ⟨R, 0, none⟩ = some (.slice (some ⟨g, 0, none⟩) s.length cap) ∧ w6.cell? ⟨gT, 1, none⟩ = some (.slice (some ⟨b1, o1, none⟩) 1 c1) ∧ w6.cell? ⟨b1, o1, none⟩ = some (.string n0) := ⟨(HRG.out.cells HL.out).1, (row_cells HT.out).1 1, HNC.out _ HST.out 0 _ rfl⟩)))
      clear KK
      have u0 := (row_cells HT.out).1 0
      obtain ⟨_, ⟨_, _, _, _, _, _, _, _, z8, z9⟩, zf⟩ := HRG.out.cells HL.out
      have zf8 := zf (i * 10 + 8)
      obtain ⟨hrg1, hst1⟩ := HRG.out.field HL.out (x' := { x with st := 5 }) (r := 8) (v := .int .i64 5) (by decide) rfl
      have hl1 : (s.set i { x with st := 5 })[i]? = some { x with st := 5 } := by rw [List.getElem?_set, if_pos rfl, if_pos hil]
      obtain ⟨_, ⟨_, _, _, _, _, _, _, _, y8, y9⟩, yf⟩ := hrg1.cells hl1
      have yf9 := yf (i * 10 + 9)
      obtain ⟨hrg2, hst2⟩ := hrg1.field hl1 (x' := { x with st := 5, stone := (⟨#[]⟩ : ByteArray) }) (r := 9) (v := .string (⟨#[]⟩ : ByteArray)) (by decide) rfl
      rw [List.set_set] at hrg2
      have HFIN := Lib.hid hrg2.rat
      have HSTF := Lib.hid ((HST.out.far HGB.out hst1).far HGB.out hst2)
      have HRI : Hid (rItems s ⟨kd, [n0], []⟩ = s.set i { x with st := 5, stone := (⟨#[]⟩ : ByteArray) }) := Lib.hid (by
        unfold rItems
        rw [hkn]
        show rApply s ⟨kd, [n0], []⟩ 5 = _
        have : rApply s ⟨kd, [n0], []⟩ 5 = Yp.change s n0 5 Yp.es := by rfl
        rw [this, HSI.out]
        rfl)
      clear zf hrg1 hst1 hl1 hkn yf hrg2 hst2
      go_wp2_with fail
      refine bodyPost_ret (v := .int .i64 0) (by simp [results, Tryz.results28, go_sem, *]) rfl ⟨rfl, by rw [← HS'.out, HRI.out]; exact HFIN.out, HSTF.out⟩
end Go.Proofs.YtejhcbbfdfnfdaaGreatDoor.Yard
