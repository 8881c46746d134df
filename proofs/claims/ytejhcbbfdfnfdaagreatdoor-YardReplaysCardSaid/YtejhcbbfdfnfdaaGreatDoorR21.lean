/- Facts: copies of the facts that were done. -/
import Derived.Test.YtejhcbbfdfnfdaaGreatDoorR20
/- A slice that reads as facts; what Replay computes. -/
namespace Go.Proofs.YtejhcbbfdfnfdaaGreatDoor.Yard
open Go.RowKit Go.Proofs.YtejhcbbfdfnfdaaGreatDoor.Base Go.Proofs.YtejhcbbfdfnfdaaGreatDoor.Mp
open Yp (It Yd Fact Bx)
/-- v is a slice whose elements read as the facts l, in blocks of X. -/
def FLs (w : World) (X : Nat → Prop) (v : Value) (l : List Fact) : Prop :=
  ∃ A c, v = .slice A l.length c ∧ l.length ≤ c ∧ (0 < l.length → ∃ b o, A = some ⟨b, o, none⟩ ∧ b < w.heap.size ∧ X b ∧ ∀ j f, l[j]? = some f → ∃ nv vv, w.cell? ⟨b, o + j * 3, none⟩ = some (.string f.kind) ∧ w.cell? ⟨b, o + j * 3 + 1, none⟩ = some nv ∧ w.cell? ⟨b, o + j * 3 + 2, none⟩ = some vv ∧ Rd w X nv (strV f.names) ∧ Rd w X vv (intV f.vals))
theorem FLs.after {w w' : World} {X : Nat → Prop} {v : Value} {l : List Fact} (h : FLs w X v l) (hs : w.heap.size ≤ w'.heap.size) (hb : ∀ b, b < w.heap.size → X b → w'.heap[b]? = w.heap[b]?) : FLs w' X v l := by
  obtain ⟨A, c, rfl, hc, h⟩ := h
  refine ⟨A, c, rfl, hc, fun h0 => ?_⟩
  obtain ⟨b, o, rfl, hl, hX, hcell⟩ := h h0
  refine ⟨b, o, rfl, by omega, hX, fun j f hj => ?_⟩
  obtain ⟨nv, vv, h1, h2, h3, h4, h5⟩ := hcell j f hj
  exact ⟨nv, vv, (World.cell?_of_block (a := ⟨b, _, none⟩) (hb b hl hX)).trans h1, (World.cell?_of_block (a := ⟨b, _, none⟩) (hb b hl hX)).trans h2, (World.cell?_of_block (a := ⟨b, _, none⟩) (hb b hl hX)).trans h3, h4.after hs hb, h5.after hs hb⟩
theorem FLs.below {w w' : World} {X : Nat → Prop} {v : Value} {l : List Fact} (h : FLs w X v l) (hb : Below w.heap.size w w') : FLs w' X v l := h.after hb.size fun b hl _ => hb.block b hl
/-- The yard behind the facts that are possible, and the number of the first that is not. -/
def rep (y : Yd) (i : Nat) : List Fact → Yd × Int
  | [] => (y, -1)
  | f :: l => if Yp.check y f = 0 then rep (Yp.step y f) (i + 1) l else (y, i)
theorem rep_drop {y : Yd} {l : List Fact} : ∀ {k : Nat}, k ≤ l.length → (∀ j f, j < k → l[j]? = some f → Yp.check (Yp.steps y (l.take j)) f = 0) → rep y 0 l = rep (Yp.steps y (l.take k)) k (l.drop k)
  | 0, _, _ => rfl
  | k + 1, hk, h => by
    rw [rep_drop (k := k) (by omega) fun j f hj => h j f (by omega)]
    have hlt : k < l.length := by omega
    rw [List.drop_eq_getElem_cons hlt, rep, if_pos (h k l[k] (by omega) (List.getElem?_eq_getElem hlt)), List.take_succ_eq_append_getElem hlt, Yp.steps_snoc]
theorem rep_ok {y : Yd} {l : List Fact} (h : ∀ j f, j < l.length → l[j]? = some f → Yp.check (Yp.steps y (l.take j)) f = 0) : rep y 0 l = (Yp.steps y l, -1) := by
  rw [rep_drop (Nat.le_refl _) h, List.take_length, List.drop_length]; rfl
theorem rep_bad {y : Yd} {l : List Fact} {k : Nat} (hk : k < l.length) (h : ∀ j f, j < k → l[j]? = some f → Yp.check (Yp.steps y (l.take j)) f = 0) (hb : Yp.check (Yp.steps y (l.take k)) l[k] ≠ 0) : rep y 0 l = (Yp.steps y (l.take k), (k : Int)) := by
  rw [rep_drop (Nat.le_of_lt hk) h, List.drop_eq_getElem_cons hk, rep, if_neg hb]
/-- The yard of the call's own. -/
structure YOwn (B : Nat) (w : World) (Y M : Nat) (y : Yd) : Prop where
  at_ : ∃ FS, YAt w Y M FS y ∧ ∀ g, FS.ownBlock = some g → B ≤ g
  hY : B ≤ Y
  hM : B ≤ M
theorem YOwn.below {B : Nat} {w w' : World} {Y M : Nat} {y : Yd} (h : YOwn B w Y M y) (hb : Below w.heap.size w w') : YOwn B w' Y M y :=
  ⟨h.at_.elim fun FS h => ⟨FS, h.1.below hb, h.2⟩, h.hY, h.hM⟩
theorem YOwn.mono {B B' : Nat} {w : World} {Y M : Nat} {y : Yd} (h : YOwn B w Y M y) (hB : B' ≤ B) : YOwn B' w Y M y :=
  ⟨h.at_.elim fun FS h => ⟨FS, h.1, fun g e => Nat.le_trans hB (h.2 g e)⟩, Nat.le_trans hB h.hY, Nat.le_trans hB h.hM⟩
theorem new_own (w : World) : Calls Tryz.prog 13 #[] w fun e w' => ∃ Y M : Nat, e = .returned (.pointer (some ⟨Y, 0, none⟩)) ∧ YOwn w.heap.size w' Y M Yp.yNew ∧ Below w.heap.size w w' :=
  (new_any w).mono fun e w' ⟨Y, M, he, hy, hb, h1, h2⟩ => ⟨Y, M, he, ⟨⟨_, hy, fun g e => by cases e⟩, h1, h2⟩, hb⟩
/-- Do, on a yard of the call's own, of a fact that lies elsewhere. -/
theorem do_own {B : Nat} {w : World} {Y M : Nat} {y : Yd} (hy : YOwn B w Y M y) (hi : Yp.Inv y) (hlen : y.items.length < 4000) (hfl : y.facts.length < 4096) (hB : B ≤ w.heap.size) (X : Nat → Prop) (hX : ∀ b, X b → b ≠ M ∧ b ≠ Y) (f : Fact) (nv vv : Value) (hn : Rd w X nv (strV f.names)) (hv : Rd w X vv (intV f.vals)) (hsz : ∀ s ∈ f.names, s.size ≤ 140737488351232) :
    Calls Tryz.prog 14 #[.pointer (some ⟨Y, 0, none⟩), .agg #[.string f.kind, nv, vv]] w fun e w' => e = .returned (.int .i64 (Yp.check y f)) ∧ YOwn B w' Y M (Yp.step y f) ∧ Below B w w' := by
  obtain ⟨⟨FS, h, hF⟩, hY, hM⟩ := hy
  by_cases hc : Yp.check y f = 0
  · refine (do_done h hi hlen hfl X hX f nv vv hn hv hsz hc).mono fun e w' ⟨he, gq, cq, hy', hs, hq⟩ => ⟨by rw [he, hc], ⟨⟨_, hy', fun g e => ?_⟩, hY, hM⟩, hs.below hB fun i hi => ?_⟩
    · have : gq = g := by simpa [Value.ownBlock] using e
      subst this
      rcases hq with h | h
      · exact hF _ h
      · omega
    · rcases hi with h | h | h
      · omega
      · omega
      · exact hF _ h
  · have hst : Yp.step y f = y := by unfold Yp.step; rw [if_neg hc]
    rw [hst]
    exact (do_refused h hi hlen hfl X f nv vv hn hv hsz hc).mono fun e w' ⟨he, hb⟩ => ⟨he, ⟨⟨FS, h.below hb, hF⟩, hY, hM⟩, hb.mono hB⟩
end Go.Proofs.YtejhcbbfdfnfdaaGreatDoor.Yard

/- Facts: copies of the facts that were done. -/
namespace Go.Proofs.YtejhcbbfdfnfdaaGreatDoor.Yard
open Go.RowKit Go.Proofs.YtejhcbbfdfnfdaaGreatDoor.Base Go.Proofs.YtejhcbbfdfnfdaaGreatDoor.Mp
open Yp (It Yd Fact Bx)
section
variable {P : Program} {ops : Array Oper} {rest : List Oper} {o : Oper} {a : Act} {w : World} {Q : Exit → Act → World → Prop}
/-- An append whose run is known. -/
theorem wpList_append_run (hg : o.guard = none) (s x : Operand) (t : TypeId) (ho : o.op = .call { callee := .builtin .append, args := #[s, x], argTypes := #[t, t] }) {v u v' : Value} {w' : World} (hs : a.eval s = v) (hx : a.eval x = u)
    (hr : (Builtin.append_ #[t, t] o.type #[v, u]).run P w = .ok v' w') (h : wpList P ops Q rest (a.put o.dst v') w') : wpList P ops Q (o :: rest) a w := by
  refine wpList_plain hg fun K hK => ?_
  unfold Oper.wp execOp
  simp only [ho, resolve, invoke, builtin, Sem.run_bind, Sem.run_pure, Result.andThen_ok, List.map_toArray, List.map_cons, List.map_nil, hs, hx, hr]
  exact hK _ _ h
end
theorem below_grown {B : Nat} {w w' : World} {row : Option Nat} (h : w.grownBy w' row) (hr : ∀ g, row = some g → B ≤ g) (hB : B ≤ w.heap.size) : Below B w w' :=
  ⟨h.os, h.tape, h.output, h.size, fun i hi => h.block i (by omega) fun e => by have := hr i e.symm; omega⟩
theorem flat3 : ∀ (cs : List FC) (k j : Nat), j < 3 → (cs.flatMap FC.cells)[k * 3 + j]? = (cs[k]?).bind fun c => c.cells[j]?
  | [], k, j, _ => by simp
  | c :: cs, 0, j, hj => by
    rw [List.flatMap_cons, List.getElem?_append_left (by simp [FC.cells]; omega)]
    simp
  | c :: cs, k + 1, j, hj => by
    rw [List.flatMap_cons, List.getElem?_append_right (by simp [FC.cells]; omega)]
    have : (k + 1) * 3 + j - c.cells.length = k * 3 + j := by simp [FC.cells]; omega
    rw [this, flat3 cs k j hj]
    rfl
/-- A row of facts reads as a slice of facts. -/
theorem FactsOwn.fls {w : World} {Y M : Nat} {v : Value} {l : List Fact} (h : FactsOwn w Y M v l) : FLs w (fun _ => True) v l := by
  obtain ⟨cs, h1, h2, h3⟩ := h
  rcases h2.2 with ⟨rfl, h0⟩ | ⟨g, cap, cur, rfl, hb, hg, hc, hrest⟩
  · refine ⟨none, 0, by rw [h0], by omega, fun h => by omega⟩
  · refine ⟨_, cap, rfl, hc, fun _ => ⟨g, 0, rfl, block_lt hg, trivial, fun j f hj => ?_⟩⟩
    have hcells := World.ownsRow.cells h2 (g := g) rfl
    rw [← h1, List.getElem?_map] at hj
    cases hcj : cs[j]? with
    | none => rw [hcj] at hj; cases hj
    | some c =>
      rw [hcj] at hj
      injection hj with hj
      subst hj
      have hm := List.mem_of_getElem? hcj
      have g0 := hcells (j * 3 + 0) (.string c.f.kind) (by rw [flat3 cs j 0 (by decide), hcj]; rfl)
      have g1 := hcells (j * 3 + 1) c.nv (by rw [flat3 cs j 1 (by decide), hcj]; rfl)
      have g2 := hcells (j * 3 + 2) c.vv (by rw [flat3 cs j 2 (by decide), hcj]; rfl)
      rw [add_lit] at g0 g1 g2
      exact ⟨c.nv, c.vv, g0, by rw [Nat.add_assoc]; exact g1, by rw [Nat.add_assoc]; exact g2, (h3 c hm).1.mono fun _ _ _ => trivial, (h3 c hm).2.mono fun _ _ _ => trivial⟩
set_option maxRecDepth 100000 in
set_option maxHeartbeats 8000000 in
theorem facts_any {w : World} {Y M : Nat} {FS : Value} {y : Yd} (hy : YAt w Y M FS y) (hl : y.facts.length < 4096) (hsh : ∀ f ∈ y.facts, f.names.length ≤ 1000000 ∧ f.vals.length ≤ 1000000) :
    Calls Tryz.prog 21 #[.pointer (some ⟨Y, 0, none⟩)] w fun e w' => ∃ v, e = .returned v ∧ FLs w' (fun _ => True) v y.facts ∧ Below w.heap.size w w' := by
  have hfl := hy.fct.fls
  have y1 := (row_cells hy.row).1 1
  have HYM := Lib.hid (And.intro hy.ltY hy.ltM)
  obtain ⟨A, c, rfl, hc, hcell⟩ := hfl
  generalize y.facts = l at *
  have HC := Lib.hid hcell
  have HSH := Lib.hid hsh
  clear hy hcell hsh
  go_enter Tryz.func21, Tryz.ntmps21
  go_wp2_with fail
  go_loopw [3, 11] (fun v i wr => ∃ k : Nat, k ≤ l.length ∧ i = .int .i64 k ∧ FactsOwn wr Y M v (l.take k) ∧ (∀ g, v.ownBlock = some g → w.heap.size ≤ g) ∧ Below w.heap.size w wr) (fun _ i _ => l.length - (intOf i).toNat)
  case atStart => exact ⟨0, by omega, rfl, ⟨[], rfl, World.ownsRow_nil _ _ _ _, fun c hc => absurd hc List.not_mem_nil⟩, fun g h => (by cases h), Below.refl _ _⟩
  case round =>
    obtain ⟨k, hk, rfl, ho, hg, hb⟩ := hrel
    have HO := Lib.hid ho
    have HG := Lib.hid hg
    have HBK := Lib.hid hb
    clear ho hg hb
    by_cases hlt : k < l.length
    · have hlk := List.getElem?_eq_getElem hlt
      obtain ⟨b, o, rfl, hbl, _, hx⟩ := HC.out (by omega)
      obtain ⟨nv, vv, d0, d1, d2, hnn, hvv⟩ := hx k _ hlk
      have e0 : wr.cell? ⟨b, o + k * 3, none⟩ = some (.string l[k].kind) := (HBK.out.cell (p := ⟨b, _, none⟩) hbl).trans d0
      have e1 : wr.cell? ⟨b, o + k * 3 + 1, none⟩ = some nv := (HBK.out.cell (p := ⟨b, _, none⟩) hbl).trans d1
      have e2 : wr.cell? ⟨b, o + k * 3 + 2, none⟩ = some vv := (HBK.out.cell (p := ⟨b, _, none⟩) hbl).trans d2
      have hsk := HSH.out _ (List.getElem_mem hlt)
      obtain ⟨A1, c1, rfl, _⟩ := id hnn
      obtain ⟨A2, c2, rfl, _⟩ := id hvv
      have HNV := Lib.hid (hnn.below HBK.out)
      have HVV := Lib.hid (hvv.below HBK.out)
      have HTK : Hid (l.take (k + 1) = l.take k ++ [l[k]]) := Lib.hid (by rw [List.take_succ_eq_append_getElem hlt])
      have HTL : Hid ((l.take k).length < 4096) := Lib.hid (by have : (l.take k).length ≤ l.length := List.length_take_le' _ _; omega)
      clear hx hlk d0 d1 d2 hnn hvv
      generalize l[k] = f at *
      have hcl := fun W (hW : Below wr.heap.size wr W) => clone_any (fun _ => True) f.kind _ _ f.names f.vals W (HNV.out.below hW) (HVV.out.below hW) hsk.1 hsk.2
      have HCL := Lib.hid hcl
      have HBA := Lib.hid ((Below.refl wr.heap.size wr).alloc (Nat.le_refl _) (.cells #[.string f.kind, .slice A1 (strV f.names).length c1, .slice A2 (intV f.vals).length c2] 39))
      clear hcl hsk
      go_wp2_with fail
      refine (HCL.out _ HBA.out).mono ?_; rintro e w2 ⟨nv', vv', rfl, hr1, hr2, hb2⟩
      have HB2 := Lib.hid (HBA.out.trans (hb2.mono HBA.out.size))
      have hB3 := al_below w2 (.cells #[.string f.kind, nv', vv'] 39)
      have hge : wr.heap.size ≤ (wr.alloc (.cells #[.string f.kind, .slice A1 (strV f.names).length c1, .slice A2 (intV f.vals).length c2] 39)).heap.size := by simp
      have hfo : FactsOwn (w2.alloc (.cells #[.string f.kind, nv', vv'] 39)) Y M u3 (l.take k) := HO.out.keep (Nat.le_trans HB2.out.size hB3.size) (fun i hi _ _ => (hB3.block i (Nat.lt_of_lt_of_le hi HB2.out.size)).trans (HB2.out.block i hi)) (fun e => by have := HG.out _ e; have := HYM.out; omega) (fun e => by have := HG.out _ e; have := HYM.out; omega)
      have hown : ∀ i, u3.ownBlock = some i → i < wr.heap.size := by
        intro i e
        obtain ⟨cs, _, h2, _⟩ := HO.out
        rcases h2.2 with ⟨rfl, _⟩ | ⟨g, cap, cur, rfl, _, hgg, _⟩
        · cases e
        · have : g = i := by simpa [Value.ownBlock] using e
          subst this
          exact block_lt hgg
      have hXX : ∀ i, i < (w2.alloc (.cells #[.string f.kind, nv', vv'] 39)).heap.size → (wr.alloc (.cells #[.string f.kind, .slice A1 (strV f.names).length c1, .slice A2 (intV f.vals).length c2] 39)).heap.size ≤ i → i ≠ Y ∧ i ≠ M ∧ u3.ownBlock ≠ some i := by
        intro i _ hi
        have := HYM.out
        have := HBK.out.size
        exact ⟨by omega, by omega, fun e => by have := hown i e; omega⟩
      obtain ⟨gq, cq, w4, hrun, hfo2, hgr, hat⟩ := hfo.snoc HTL.out f (fun i => (wr.alloc (.cells #[.string f.kind, .slice A1 (strV f.names).length c1, .slice A2 (intV f.vals).length c2] 39)).heap.size ≤ i) (hr1.below hB3) (hr2.below hB3) hXX (new_block w2 _) 22
      obtain ⟨A6, c6, rfl, _⟩ := id hr1
      obtain ⟨A7, c7, rfl, _⟩ := id hr2
      have HFO := Lib.hid hfo2
      have HGR := Lib.hid hgr
      have HAT := Lib.hid hat
      have HB3 := Lib.hid hB3
      clear hfo hfo2 hgr hat hB3 hr1 hr2 hb2 e0 e1 e2 hge hown hXX
      go_wp2_with (at_builtin; refine wpList_append_run rfl _ _ _ rfl rfl rfl hrun ?_)
      have hbw : Below w.heap.size w w4 := HBK.out.trans (((HB2.out.trans (HB3.out.mono HB2.out.size)).mono HBK.out.size).trans (below_grown HGR.out (fun g e => HG.out g e) (by have := HBK.out.size; have := HB2.out.size; have := HB3.out.size; omega)))
      have htl : (l.take k).length = k := by simp; omega
      have h1 := HFO.out
      rw [htl] at h1
      refine ⟨⟨k + 1, by omega, by go_num, ?_, ?_, hbw⟩, by simp [intOf]; omega⟩
      · rw [HTK.out]; exact h1
      · intro g e
        have : gq = g := by simpa [Value.ownBlock] using e
        subst this
        rcases HAT.out with h | h
        · exact HG.out _ h
        · rw [h]; have := HBK.out.size; have := HB2.out.size; have := HB3.out.size; omega
    · obtain rfl : k = l.length := by omega
      go_wp2_with fail
      go_ret
      refine ⟨_, rfl, ?_, HBK.out⟩
      have := HO.out.fls
      rwa [List.take_length] at this
end Go.Proofs.YtejhcbbfdfnfdaaGreatDoor.Yard
