/- A list of facts that came in reads as a list of facts. -/
import Derived.Test.YtejhcbbfdfnfdaaGreatDoorR23
import Derived.Test.YtejhcbbfdfnfdaaGreatDoorR24
import Derived.Test.YtejhcbbfdfnfdaaGreatDoorR21
import Derived.Test.YtejhcbbfdfnfdaaGreatDoorR22
import Derived.Deep.Slices
import Derived.Deep.Strs
import Derived.WalkKit
import Derived.ProofKit
import Derived.OpenShut
import Derived.Deep.SlicePairs
/- What Decode calls, and where it stands after k pieces. -/
namespace Go.Proofs.YtejhcbbfdfnfdaaGreatDoor.Yard
open Go.RowKit Go.Proofs.YtejhcbbfdfnfdaaGreatDoor.Base Go.Proofs.YtejhcbbfdfnfdaaGreatDoor.Mp
open Yp (It Yd Fact Bx)
/-- What the calls into Go's library read of its variables. -/
structure Env (w : World) : Prop where
  tab : Tab w.heap.size w
  big : 4 ≤ w.heap.size
  mx : ∃ m, w.cell? ⟨3, 0, none⟩ = some (.int .i64 m)
  syn : ∃ tp p, w.var? Tryz.prog "strconv.ErrSyntax" = some #[.iface tp p]
  rng : ∃ tp p, w.var? Tryz.prog "strconv.ErrRange" = some #[.iface tp p]
theorem Env.on {w w' : World} (h : Env w) (hb : Below w.heap.size w w') : Env w' := by
  have hz := hb.size
  have h0 := h.big
  refine ⟨fun W hW => h.tab W (hb.trans (hW.mono hz)), by omega, ?_, ?_, ?_⟩
  · obtain ⟨m, hm⟩ := h.mx
    exact ⟨m, (hb.cell (p := ⟨3, 0, none⟩) (by show 3 < w.heap.size; omega)).trans hm⟩
  · obtain ⟨tp, p, hm⟩ := h.syn
    exact ⟨tp, p, Go.var?_below (g := 1) hb (by kernel_rfl) (by omega) hm⟩
  · obtain ⟨tp, p, hm⟩ := h.rng
    exact ⟨tp, p, Go.var?_below (g := 2) hb (by kernel_rfl) (by omega) hm⟩
theorem parse_any {w : World} (h : Env w) (s : ByteArray) (hs : s.size ≤ 281474976710656) :
    Calls Tryz.prog 42 #[.string s, .int .i64 10, .int .i64 64] w fun e w' => ∃ n ev, e = .returned (.tuple #[.int .i64 n, ev]) ∧ ((Yp.numOf s = some n ∧ ev = .nilIface) ∨ (Yp.numOf s = none ∧ ∃ N, ev = .iface 170 (.pointer (some ⟨N, 0, none⟩)))) ∧ Below w.heap.size w w' := by
  cases hp : Lib.parseIntB 64 s.data.toList with
  | ok v =>
    refine (Go.Proofs.Tryz.strconv_ParseInt_10_at64_ok s (by omega) v hp w).mono ?_
    rintro e w' ⟨rfl, hw⟩
    refine ⟨v, _, rfl, .inl ⟨by unfold Yp.numOf; rw [hp], rfl⟩, ?_⟩
    rcases hw with rfl | ⟨t, rfl⟩
    · exact Below.refl _ _
    · exact Lib.bytesWorld_below w _ t
  | range =>
    obtain ⟨tp, p, hv⟩ := h.rng
    refine (Go.Proofs.Tryz.strconv_ParseInt_10_at64_range_var s hs hp tp p w hv).mono ?_
    rintro e w' ⟨N, rfl, _, _, hb⟩
    exact ⟨_, _, rfl, .inr ⟨by unfold Yp.numOf; rw [hp], N, rfl⟩, hb⟩
  | _ =>
    obtain ⟨tp, p, hv⟩ := h.syn
    refine (Go.Proofs.Any.strconv_ParseInt_10_at64_syntax_var Go.Proofs.Tryz.laysC174 s hs hp tp p w hv).mono ?_
    rintro e w' ⟨N, rfl, _, _, hb⟩
    exact ⟨_, _, rfl, .inr ⟨by unfold Yp.numOf; rw [hp], N, rfl⟩, hb⟩
/-- Where Decode stands after k pieces. -/
structure DSt (w : World) (l : List ByteArray) (k : Nat) (nv vv : Value) (wr : World) : Prop where
  out : wr.heap[w.heap.size]? = some (.cells #[.string ⟨#[]⟩, .slice none 0 0, .slice none 0 0] 39 (0, 0))
  f : wr.heap[w.heap.size + 1]? = some (.cells #[.string (Yp.rawF (l.take k)).kind, nv, vv] 39 (0, 0))
  ps : wr.heap[w.heap.size + 2]? = some (.cells (strV l).toArray 9 (0, 0))
  nn : wr.ownsRow (w.heap.size + 3) 9 1 nv (Yp.rawF (l.take k)).names.length (strV (Yp.rawF (l.take k)).names)
  vs : wr.ownsRow (w.heap.size + 3) 2 1 vv (Yp.rawF (l.take k)).vals.length (intV (Yp.rawF (l.take k)).vals)
  ne : ∀ g, nv.ownBlock = some g → vv.ownBlock = some g → False
  below : Below w.heap.size w wr
  big : w.heap.size + 3 ≤ wr.heap.size
theorem none_or (o : Option Nat) : o = none ∨ o ≠ none := by cases o <;> simp
theorem DSt.on {w wr w' : World} {l : List ByteArray} {k : Nat} {nv vv : Value} (h : DSt w l k nv vv wr) (hb : Below wr.heap.size wr w') : DSt w l k nv vv w' := by
  have hz := h.big
  exact ⟨(hb.block _ (by omega)).trans h.out, (hb.block _ (by omega)).trans h.f, (hb.block _ (by omega)).trans h.ps, h.nn.kept (grown_of_below (row := none) hb) (none_or _), h.vs.kept (grown_of_below (row := none) hb) (none_or _), h.ne, h.below.trans (hb.mono (by omega)), Nat.le_trans hz hb.size⟩
theorem set_grown (w : World) (b i : Nat) (v : Value) : w.grownBy (w.setCell ⟨b, i, none⟩ v) (some b) :=
  have h : Below b w (w.setCell ⟨b, i, none⟩ v) := (Below.refl b w).setCell (Nat.le_refl b) v
  ⟨h.os, h.tape, h.output, h.size, fun _ _ hne => heap_setCell_other _ _ _ _ (fun e => hne (congrArg some e))⟩
theorem not_in {o : Option Nat} {j : Nat} (h : ∀ g, o = some g → g ≠ j) : o = none ∨ o ≠ some j := by
  cases o with
  | none => exact .inl rfl
  | some g => exact .inr fun e => h g rfl (Option.some.inj e)
theorem not_of {o r : Option Nat} (h : ∀ g, o = some g → r = some g → False) : o = none ∨ o ≠ r := by
  cases o with
  | none => exact .inl rfl
  | some g => exact .inr fun e => h g rfl e.symm
theorem app1 {P : Program} {wr : World} (B : Nat) (t e : TypeId) (i0 : TypeInfo) (z : Value) (bytes : Nat) (ht : P.underlying t = some (.slice e)) (hi : P.info? e = some i0) (hz : i0.zero = some z) (hs : i0.size = 1) (hby : i0.bytes = bytes) (hzs : z.cells.size = 1) (hb16 : bytes ≤ 16)
    {v u : Value} {n : Nat} {xs : List Value} (ho : wr.ownsRow B e 1 v n xs) (hu : u.oneCell' = true) (hB : B ≤ wr.heap.size) (hn : n ≤ 1000001) :
    ∃ g c w7, (Builtin.append_ #[t, t] t #[v, .slice (some ⟨wr.heap.size, 0, none⟩) 1 1]).run P (wr.alloc (.cells #[u] e)) = .ok (.slice (some ⟨g, 0, none⟩) (n + 1) c) w7 ∧ w7.ownsRow B e 1 (.slice (some ⟨g, 0, none⟩) (n + 1) c) (n + 1) (xs ++ [u]) ∧ wr.grownBy w7 v.ownBlock ∧ (v.ownBlock = some g ∨ wr.heap.size ≤ g) := by
  have hb1 := al_below wr (.cells #[u] e)
  have hbn : (n + 1) * bytes ≤ 140737488355328 := Nat.le_trans (Nat.mul_le_mul (Nat.add_le_add_right hn 1) hb16) (by decide)
  obtain ⟨v8, w8, hrun, hown, hgr, hat⟩ := append_rd (P := P) B t t e i0 z bytes ht hi hz hs hby hzs (ho.kept (grown_of_below (row := none) hb1) (none_or _)) (rd_own (own_one (u := u) (new_block wr _) (Nat.le_refl _))) (by intro x hx; simp at hx; subst hx; exact hu) (by unfold maxLen; simp only [List.length_singleton]; omega) (by simpa using hbn) (by have := hb1.size; omega)
  obtain ⟨g, c, rfl, hg, hgl⟩ := own_slice hown (by simp only [List.length_singleton]; omega)
  refine ⟨g, c, w8, hrun, hown, ⟨hgr.os.trans hb1.os, hgr.tape.trans hb1.tape, hgr.output.trans hb1.output, Nat.le_trans hb1.size hgr.size, fun i hi hne => (hgr.block i (Nat.lt_of_lt_of_le hi hb1.size) hne).trans (hb1.block i hi)⟩, ?_⟩
  rcases hat with h | h
  · exact .inl h.symm
  · refine .inr ?_
    have : g = (wr.alloc (.cells #[u] e)).heap.size := Option.some.inj h
    have := hb1.size
    omega
theorem DSt.kind {w wr : World} {l : List ByteArray} {nv vv : Value} (h : DSt w l 0 nv vv wr) (hl : 0 < l.length) : DSt w l 1 nv vv (wr.setCell ⟨w.heap.size + 1, 0, none⟩ (.string l[0])) := by
  have hg : wr.grownBy (wr.setCell ⟨w.heap.size + 1, 0, none⟩ (.string l[0])) (some (w.heap.size + 1)) := set_grown _ _ _ _
  have hn := h.nn
  have hv := h.vs
  have ex : Yp.rawF (l.take 1) = ⟨l[0], [], []⟩ := Yp.rawF_first l hl
  refine ⟨(heap_setCell_other _ _ _ _ (by show _ ≠ w.heap.size + 1; omega)).trans h.out, ?_, (heap_setCell_other _ _ _ _ (by show _ ≠ w.heap.size + 1; omega)).trans h.ps, ?_, ?_, h.ne, h.below.setCell (Nat.le_succ _) _, Nat.le_trans h.big (set_grown _ _ _ _).size⟩
  · have := heap_setCell_same wr (w.heap.size + 1) 0 _ _ (.string l[0]) h.f
    rw [this, ex]
    rfl
  · rw [ex]
    exact hn.kept hg (not_in fun g e => by have := (hn.lt _ e).1; omega)
  · rw [ex]
    exact hv.kept hg (not_in fun g e => by have := (hv.lt _ e).1; omega)
set_option maxRecDepth 100000 in
theorem DSt.num {w wr : World} {l : List ByteArray} {k : Nat} {nv vv : Value} (h : DSt w l k nv vv wr) (hk : 0 < k) (hlt : k < l.length) (hl : l.length ≤ 1000001) {n : Int} (hn : Yp.numOf l[k] = some n) :
    ∃ g c w7, (Builtin.append_ #[37, 37] 37 #[vv, .slice (some ⟨wr.heap.size, 0, none⟩) 1 1]).run Tryz.prog (wr.alloc (.cells #[.int .i64 n] 2)) = .ok (.slice (some ⟨g, 0, none⟩) ((Yp.rawF (l.take k)).vals.length + 1) c) w7 ∧
      w7.heap[w.heap.size + 1]? = some (.cells #[.string (Yp.rawF (l.take k)).kind, nv, vv] 39 (0, 0)) ∧ DSt w l (k + 1) nv (.slice (some ⟨g, 0, none⟩) ((Yp.rawF (l.take k)).vals.length + 1) c) (w7.setCell ⟨w.heap.size + 1, 2, none⟩ (.slice (some ⟨g, 0, none⟩) ((Yp.rawF (l.take k)).vals.length + 1) c)) := by
  have ex := Yp.rawF_num l k hk hlt n hn
  have hle : (Yp.rawF (l.take k)).vals.length ≤ 1000001 := by have := (Yp.rawF_len (l.take k)).2; have h2 : (l.take k).length ≤ l.length := List.length_take_le' _ _; omega
  obtain ⟨i0, hi0, hz0, hz1, hz2⟩ : ∃ i, Tryz.prog.info? 2 = some i ∧ i.zero = some (.int .i64 0) ∧ i.size = 1 ∧ i.bytes = 8 := ⟨_, rfl, rfl, rfl, rfl⟩
  obtain ⟨g, c, w7, hrun, hown, hgr, hat⟩ := app1 (P := Tryz.prog) (w.heap.size + 3) 37 2 i0 _ 8 Tryz.underlying37 hi0 hz0 hz1 hz2 rfl (by decide) h.vs (u := .int .i64 n) rfl h.big hle
  have hbig := h.big
  have hnb : ∀ j, j < w.heap.size + 3 → vv.ownBlock ≠ some j := fun j hj e => by have := (h.vs.lt _ e).1; omega
  have hlow : ∀ j, j < w.heap.size + 3 → w7.heap[j]? = wr.heap[j]? := fun j hj => hgr.block j (by omega) (fun e => hnb j hj e.symm)
  have hf : w7.heap[w.heap.size + 1]? = some (.cells #[.string (Yp.rawF (l.take k)).kind, nv, vv] 39 (0, 0)) := (hlow _ (by omega)).trans h.f
  have hg2 : w7.grownBy (w7.setCell ⟨w.heap.size + 1, 2, none⟩ (.slice (some ⟨g, 0, none⟩) ((Yp.rawF (l.take k)).vals.length + 1) c)) (some (w.heap.size + 1)) := set_grown _ _ _ _
  have hnn := h.nn.kept hgr (not_of fun g e1 e2 => h.ne g e1 e2)
  refine ⟨g, c, w7, hrun, hf, (heap_setCell_other _ _ _ _ (by show _ ≠ w.heap.size + 1; omega)).trans ((hlow _ (by omega)).trans h.out), ?_, (heap_setCell_other _ _ _ _ (by show _ ≠ w.heap.size + 1; omega)).trans ((hlow _ (by omega)).trans h.ps), ?_, ?_, ?_, ?_, ?_⟩
  · have := heap_setCell_same w7 (w.heap.size + 1) 2 _ _ (.slice (some ⟨g, 0, none⟩) ((Yp.rawF (l.take k)).vals.length + 1) c) hf
    rw [this, ex]
    rfl
  · rw [ex]
    exact hnn.kept hg2 (not_in fun g e => by have := (h.nn.lt _ e).1; omega)
  · rw [ex]
    have := hown.kept hg2 (.inr (by intro e; have e := Option.some.inj e; have := (hown.lt _ rfl).1; omega))
    simpa [intV] using this
  · intro j e1 e2
    have e2 : g = j := Option.some.inj e2
    subst e2
    rcases hat with e | e
    · exact h.ne _ e1 e
    · have := (h.nn.lt _ e1).2; omega
  · exact (h.below.grown hgr (by omega) (fun j e => by have := (h.vs.lt _ e).1; omega)).setCell (Nat.le_succ _) _
  · exact Nat.le_trans hbig (Nat.le_trans hgr.size (set_grown _ _ _ _).size)
set_option maxRecDepth 100000 in
theorem DSt.name {w wr : World} {l : List ByteArray} {k : Nat} {nv vv : Value} (h : DSt w l k nv vv wr) (hk : 0 < k) (hlt : k < l.length) (hl : l.length ≤ 1000001) (hn : Yp.numOf l[k] = none) :
    ∃ g c w7, (Builtin.append_ #[36, 36] 36 #[nv, .slice (some ⟨wr.heap.size, 0, none⟩) 1 1]).run Tryz.prog (wr.alloc (.cells #[.string l[k]] 9)) = .ok (.slice (some ⟨g, 0, none⟩) ((Yp.rawF (l.take k)).names.length + 1) c) w7 ∧
      w7.heap[w.heap.size + 1]? = some (.cells #[.string (Yp.rawF (l.take k)).kind, nv, vv] 39 (0, 0)) ∧ DSt w l (k + 1) (.slice (some ⟨g, 0, none⟩) ((Yp.rawF (l.take k)).names.length + 1) c) vv (w7.setCell ⟨w.heap.size + 1, 1, none⟩ (.slice (some ⟨g, 0, none⟩) ((Yp.rawF (l.take k)).names.length + 1) c)) := by
  have ex := Yp.rawF_name l k hk hlt hn
  have hle : (Yp.rawF (l.take k)).names.length ≤ 1000001 := by have := (Yp.rawF_len (l.take k)).1; have h2 : (l.take k).length ≤ l.length := List.length_take_le' _ _; omega
  obtain ⟨i0, hi0, hz0, hz1, hz2⟩ : ∃ i, Tryz.prog.info? 9 = some i ∧ i.zero = some (.string { data := #[] }) ∧ i.size = 1 ∧ i.bytes = 16 := ⟨_, rfl, rfl, rfl, rfl⟩
  obtain ⟨g, c, w7, hrun, hown, hgr, hat⟩ := app1 (P := Tryz.prog) (w.heap.size + 3) 36 9 i0 _ 16 Tryz.underlying36 hi0 hz0 hz1 hz2 rfl (by decide) h.nn (u := .string l[k]) rfl h.big hle
  have hbig := h.big
  have hnb : ∀ j, j < w.heap.size + 3 → nv.ownBlock ≠ some j := fun j hj e => by have := (h.nn.lt _ e).1; omega
  have hlow : ∀ j, j < w.heap.size + 3 → w7.heap[j]? = wr.heap[j]? := fun j hj => hgr.block j (by omega) (fun e => hnb j hj e.symm)
  have hf : w7.heap[w.heap.size + 1]? = some (.cells #[.string (Yp.rawF (l.take k)).kind, nv, vv] 39 (0, 0)) := (hlow _ (by omega)).trans h.f
  have hg2 : w7.grownBy (w7.setCell ⟨w.heap.size + 1, 1, none⟩ (.slice (some ⟨g, 0, none⟩) ((Yp.rawF (l.take k)).names.length + 1) c)) (some (w.heap.size + 1)) := set_grown _ _ _ _
  have hnn := h.vs.kept hgr (not_of fun g e1 e2 => h.ne g e2 e1)
  refine ⟨g, c, w7, hrun, hf, (heap_setCell_other _ _ _ _ (by show _ ≠ w.heap.size + 1; omega)).trans ((hlow _ (by omega)).trans h.out), ?_, (heap_setCell_other _ _ _ _ (by show _ ≠ w.heap.size + 1; omega)).trans ((hlow _ (by omega)).trans h.ps), ?_, ?_, ?_, ?_, ?_⟩
  · have := heap_setCell_same w7 (w.heap.size + 1) 1 _ _ (.slice (some ⟨g, 0, none⟩) ((Yp.rawF (l.take k)).names.length + 1) c) hf
    rw [this, ex]
    rfl
  · rw [ex]
    have := hown.kept hg2 (.inr (by intro e; have e := Option.some.inj e; have := (hown.lt _ rfl).1; omega))
    simpa [strV] using this
  · rw [ex]
    exact hnn.kept hg2 (not_in fun g e => by have := (h.vs.lt _ e).1; omega)
  · intro j e1 e2
    have e1 : g = j := Option.some.inj e1
    subst e1
    rcases hat with e | e
    · exact h.ne _ e e2
    · have := (h.vs.lt _ e2).2; omega
  · exact (h.below.grown hgr (by omega) (fun j e => by have := (h.nn.lt _ e).1; omega)).setCell (Nat.le_succ _) _
  · exact Nat.le_trans hbig (Nat.le_trans hgr.size (set_grown _ _ _ _).size)
end Go.Proofs.YtejhcbbfdfnfdaaGreatDoor.Yard

/- A list of facts that came in reads as a list of facts. -/
namespace Go.Proofs.YtejhcbbfdfnfdaaGreatDoor.Yard
open Go.ChangeShapes Go.WideShapes Go.ChangeAt Go.RowKit
open Yp (It Yd Fact Bx)
instance : Inhabited Fact := ⟨⟨⟨#[]⟩, [], []⟩⟩
section
variable {H : Type} {enc : TypeId × Value → H} {W : World} {base : Nat} {sp : Nat → Bool} {held : Bool}
theorem cell_plain {w : World} {a : Addr} {v : Value} (h : w.cell? (a.add 0) = some v) : ∃ b o, a = ⟨b, o, none⟩ ∧ b < w.heap.size := by
  rcases a with ⟨b, o, q⟩
  have h : w.cell? ⟨b, o, q⟩ = some v := h
  unfold World.cell? at h
  dsimp only at h
  cases hb : w.heap[b]? with
  | none => rw [hb] at h; cases h
  | some ob =>
    have hlt := (Array.getElem?_eq_some_iff.1 hb).1
    rw [hb] at h
    cases ob with
    | cells c e fz =>
      cases q with
      | none => exact ⟨b, o, rfl, hlt⟩
      | some q => simp at h
    | _ => cases h
theorem rd_of_cells {w : World} {a : Addr} {len cap : Nat} (hl : len ≤ cap) (V : Nat → Value) (hx : ∀ i, i < len → w.cell? (a.add i) = some (V i)) : Rd w (fun _ => True) (.slice (some a) len cap) ((List.range len).map V) := by
  refine ⟨some a, cap, by simp, by simpa using hl, fun h0 => ?_⟩
  have h0 : 0 < len := by simpa using h0
  obtain ⟨b, o, rfl, hb⟩ := cell_plain (hx 0 h0)
  refine ⟨b, o, rfl, hb, trivial, fun j u hj => ?_⟩
  obtain ⟨hj1, hj2⟩ := List.getElem?_eq_some_iff.1 hj
  have hjl : j < len := by simpa using hj1
  have := hx j hjl
  rw [add_lit] at this
  rw [this, ← hj2]
  simp
theorem strs_of_trod {fuel : Nat} {v : Value} {x : DataW H × List MemPlace} (h : DataW.trod enc Tryz.prog W base sp held fuel 36 [v] = some x) : ∃ l : List ByteArray, Rd W (fun _ => True) v (strV l) ∧ ∀ s ∈ l, s.size ≤ maxLen := by
  rcases Go.Deep.open_strs Tryz.underlying36 Tryz.underlying9 (by kernel_rfl) h with ⟨h1, _⟩ | ⟨a, len, cap, m, Sx, h1, _, hl, _, hm, _, hx⟩
  · injection h1 with h1
    subst h1
    exact ⟨[], ⟨none, 0, rfl, Nat.le_refl _, fun h => absurd h (by simp [strV])⟩, fun s hs => absurd hs List.not_mem_nil⟩
  · injection h1 with h1
    subst h1
    have hlm : len ≤ m := by rw [hm]; split <;> omega
    refine ⟨(List.range len).map Sx, ?_, ?_⟩
    · have := rd_of_cells hl (fun i => .string (Sx i)) fun i hi => (hx i (by omega)).1
      unfold strV
      rw [List.map_map]
      exact this
    · intro s hs
      obtain ⟨i, hi, rfl⟩ := List.mem_map.1 hs
      exact (hx i (by have := List.mem_range.1 hi; omega)).2
theorem ints_of_trod {fuel : Nat} {v : Value} {x : DataW H × List MemPlace} (h : DataW.trod enc Tryz.prog W base sp held fuel 37 [v] = some x) : ∃ l : List Int, Rd W (fun _ => True) v (intV l) ∧ ∀ n ∈ l, Yp.I64 n := by
  rcases open_ints Tryz.underlying37 Tryz.underlying2 (by kernel_rfl) h with ⟨h1, _⟩ | ⟨a, len, cap, zs, h1, _, hl, _, hm, _, hx, hw⟩
  · injection h1 with h1
    subst h1
    exact ⟨[], ⟨none, 0, rfl, Nat.le_refl _, fun h => absurd h (by simp [intV])⟩, fun s hs => absurd hs List.not_mem_nil⟩
  · injection h1 with h1
    subst h1
    have hlm : len ≤ zs.length := by rw [hm]; split <;> omega
    refine ⟨(List.range len).map fun i => zs.getD i 0, ?_, ?_⟩
    · have := rd_of_cells hl (fun i => .int .i64 (zs.getD i 0)) fun i hi => hx i (by omega)
      unfold intV
      rw [List.map_map]
      exact this
    · intro n hn
      obtain ⟨i, hi, rfl⟩ := List.mem_map.1 hn
      have hi := List.mem_range.1 hi
      have := hw (zs.getD i 0) (by rw [List.getD_eq_getElem?_getD, List.getElem?_eq_getElem (by omega)]; exact List.getElem_mem _)
      simp only [Lit.wf, IntKind.min, IntKind.max, IntKind.signed, IntKind.bits, if_true, Bool.and_eq_true, decide_eq_true_eq] at this
      exact ⟨by have := this.1; omega, by have := this.2; omega⟩
set_option maxRecDepth 100000 in
theorem fls_of_trod {fuel : Nat} {v : Value} {x : DataW H × List MemPlace} (h : DataW.trod enc Tryz.prog W base sp held fuel 22 [v] = some x) :
    ∃ l : List Fact, FLs W (fun _ => True) v l ∧ ∀ f ∈ l, f.kind.size ≤ maxLen ∧ (∀ s ∈ f.names, s.size ≤ maxLen) ∧ ∀ n ∈ f.vals, Yp.I64 n := by
  rcases Go.Deep.open_slice Tryz.underlying22 h with ⟨h1, _⟩ | ⟨a, len, cap, m, n, D, Pl, h1, _, hl, _, hm, _, hx⟩
  · injection h1 with h1
    subst h1
    exact ⟨[], ⟨none, 0, rfl, Nat.le_refl _, fun h => absurd h (by simp)⟩, fun s hs => absurd hs List.not_mem_nil⟩
  · injection h1 with h1
    subst h1
    have hlm : len ≤ m := by rw [hm]; split <;> omega
    have hce : Tryz.prog.cellsOf 39 = 3 := by kernel_rfl
    rw [hce] at hx
    have each : ∀ i, i < len → ∃ f : Fact, (∃ nv vv, W.cell? (a.add (i * 3)) = some (.string f.kind) ∧ W.cell? (a.add (i * 3 + 1)) = some nv ∧ W.cell? (a.add (i * 3 + 2)) = some vv ∧ Rd W (fun _ => True) nv (strV f.names) ∧ Rd W (fun _ => True) vv (intV f.vals)) ∧ f.kind.size ≤ maxLen ∧ (∀ s ∈ f.names, s.size ≤ maxLen) ∧ ∀ n ∈ f.vals, Yp.I64 n := by
      intro i hi
      obtain ⟨cs', h1, h2⟩ := hx i (by omega)
      obtain ⟨_, hlen, hcell⟩ := World.cells?_some h1
      obtain ⟨xs, k, _, _, _, hxl, hf⟩ := DataW.trod_struct Tryz.underlying39 h2
      match cs', hlen, xs, hxl with
      | [v0, v1, v2], _, [x0, x1, x2], _ =>
        have g0 : DataW.trod enc Tryz.prog W base sp held k 9 (([v0, v1, v2].drop 0).take (Tryz.prog.cellsOf 9)) = some x0 := hf 0 _ rfl
        have g1 : DataW.trod enc Tryz.prog W base sp held k 36 (([v0, v1, v2].drop 1).take (Tryz.prog.cellsOf 36)) = some x1 := hf 1 _ rfl
        have g2 : DataW.trod enc Tryz.prog W base sp held k 37 (([v0, v1, v2].drop 2).take (Tryz.prog.cellsOf 37)) = some x2 := hf 2 _ rfl
        rw [show Tryz.prog.cellsOf 9 = 1 by kernel_rfl] at g0
        rw [show Tryz.prog.cellsOf 36 = 1 by kernel_rfl] at g1
        rw [show Tryz.prog.cellsOf 37 = 1 by kernel_rfl] at g2
        have e0 := hcell 0 (by omega)
        have e1 := hcell 1 (by omega)
        have e2 := hcell 2 (by omega)
        rw [Go.Deep.add_add] at e0 e1 e2
        obtain ⟨s, hs, _, hsz⟩ := DataW.trod_string Tryz.underlying9 g0
        obtain ⟨ns, hns, hnz⟩ := strs_of_trod g1
        obtain ⟨vs, hvs, hvz⟩ := ints_of_trod g2
        have hv0 : v0 = .string s := (List.cons.inj hs).1
        subst hv0
        exact ⟨⟨s, ns, vs⟩, ⟨v1, v2, e0, e1, e2, hns, hvs⟩, hsz, hnz, hvz⟩
    obtain ⟨F, hF⟩ := Go.Deep.choose_lt each
    refine ⟨(List.range len).map F, ?_, fun f hf => ?_⟩
    · refine ⟨some a, cap, by simp, by simpa using hl, fun h0 => ?_⟩
      have h0 : 0 < len := by simpa using h0
      obtain ⟨⟨nv, vv, c0, _⟩, _⟩ := hF 0 h0
      obtain ⟨b, o, rfl, hb⟩ := cell_plain c0
      refine ⟨b, o, rfl, hb, trivial, fun j f hj => ?_⟩
      obtain ⟨hj1, hj2⟩ := List.getElem?_eq_some_iff.1 hj
      have hjl : j < len := by simpa using hj1
      obtain ⟨⟨nv, vv, c0, c1, c2, hn, hv⟩, _⟩ := hF j hjl
      have hf : F j = f := by rw [← hj2]; simp
      rw [hf] at c0 hn hv
      rw [add_lit] at c0 c1 c2
      exact ⟨nv, vv, c0, by rw [Nat.add_assoc]; exact c1, by rw [Nat.add_assoc]; exact c2, hn, hv⟩
    · obtain ⟨i, hi, rfl⟩ := List.mem_map.1 hf
      exact (hF i (List.mem_range.1 hi)).2
end
end Go.Proofs.YtejhcbbfdfnfdaaGreatDoor.Yard
