/- The yard in memory; change. -/
import Derived.Test.YtejhcbbfdfnfdaaGreatDoorR6
import Derived.Deep.DeepCutAuto
/- clone: a copy of a fact. -/
namespace Go.Proofs.YtejhcbbfdfnfdaaGreatDoor.Yard
open Go.RowKit Go.Proofs.YtejhcbbfdfnfdaaGreatDoor.Base Go.Proofs.YtejhcbbfdfnfdaaGreatDoor.Mp Go.Proofs.YtejhcbbfdfnfdaaGreatDoor.Lex
theorem new_block2 (w : World) (o o' : Obj) : ((w.alloc o).alloc o').heap[w.heap.size + 1]? = some o' := by
  have := new_block (w.alloc o) o'
  rwa [show (w.alloc o).heap.size = w.heap.size + 1 by rw [heap_al, Array.size_push]] at this
/-- A store elsewhere. -/
theorem Rd.set {w : World} {X X' : Nat → Prop} {v : Value} {xs : List Value} (h : Rd w X v xs) (p : Addr) (u : Value) (hX : ∀ b, X b → X' b ∧ b ≠ p.block) : Rd (w.setCell p u) X' v xs :=
  (h.after (w' := w.setCell p u) (by simp) fun b _ hb => heap_setCell_other _ _ _ _ (hX b hb).2).mono fun b _ hb => (hX b hb).1
theorem ge_ne {n b : Nat} (h : n + 2 ≤ b) : b ≠ n + 1 := by omega
theorem ge_ge {n b : Nat} (h : n + 2 ≤ b) : n ≤ b := by omega
theorem Rd.set3 {w : World} {n i j k : Nat} {u u' u'' : Value} {v : Value} {xs : List Value} (h : Rd w (fun b => n + 2 ≤ b) v xs) : Rd (((w.setCell ⟨n + 1, i, none⟩ u).setCell ⟨n + 1, j, none⟩ u').setCell ⟨n + 1, k, none⟩ u'') (fun b => n ≤ b) v xs :=
  ((h.set (X' := fun b => n + 2 ≤ b) _ _ (fun _ hb => ⟨hb, ge_ne hb⟩)).set (X' := fun b => n + 2 ≤ b) _ _ (fun _ hb => ⟨hb, ge_ne hb⟩)).set _ _ (fun _ hb => ⟨ge_ge hb, ge_ne hb⟩)
set_option maxRecDepth 100000 in
set_option maxHeartbeats 2000000 in
theorem clone_any (X : Nat → Prop) (kd : ByteArray) (nv vv : Value) (ns : List ByteArray) (vs : List Int) (w : World) (hn : Rd w X nv (strV ns)) (hv : Rd w X vv (intV vs)) (ln : ns.length ≤ 1000000) (lv : vs.length ≤ 1000000) :
    Calls Tryz.prog 31 #[.agg #[.string kd, nv, vv]] w fun e w' => ∃ nv' vv', e = .returned (.agg #[.string kd, nv', vv']) ∧ Rd w' (fun b => w.heap.size ≤ b) nv' (strV ns) ∧ Rd w' (fun b => w.heap.size ≤ b) vv' (intV vs) ∧ Below w.heap.size w w' := by
  have hcs : ∀ W, Below w.heap.size w W → Calls Tryz.prog 62 #[nv] W fun e w' => ∃ v', e = .returned v' ∧ Rd w' (fun b => W.heap.size ≤ b) v' (strV ns) ∧ Below W.heap.size W w' := fun W hW => cloneS_any X nv ns W (hn.below hW) ln
  have hci : ∀ W, Below w.heap.size w W → Calls Tryz.prog 63 #[vv] W fun e w' => ∃ v', e = .returned v' ∧ Rd w' (fun b => W.heap.size ≤ b) v' (intV vs) ∧ Below W.heap.size W w' := fun W hW => cloneI_any X vv vs W (hv.below hW) lv
  obtain ⟨A, c, en, _, _⟩ := hn
  obtain ⟨A', c', ev, _, _⟩ := hv
  have hk1 : (Value.oneCell' (.string kd)) = true := rfl
  clear ln lv
  have B1 := ((Below.refl w.heap.size w).alloc (Nat.le_refl _) (.cells #[.string kd, nv, vv] 39)).alloc (by simp) (.cells #[.string ⟨#[]⟩, .slice none 0 0, .slice none 0 0] 39)
  have r0 := old_block (new_block w (.cells #[.string kd, nv, vv] 39)) (.cells #[.string ⟨#[]⟩, .slice none 0 0, .slice none 0 0] 39)
  have r := new_block2 w (.cells #[.string kd, nv, vv] 39) (.cells #[.string ⟨#[]⟩, .slice none 0 0, .slice none 0 0] 39)
  have HB := Lib.hid B1
  have R0 := Lib.hid r0
  have R1 := Lib.hid r
  have HEN := Lib.hid en
  have HEV := Lib.hid ev
  clear B1 r0 r
  subst en ev
  go_enter Tryz.func31, Tryz.ntmps31
  go_wp2_with fail
  have HW2 : Hid (w.heap.size + 2 ≤ ((w.alloc (.cells #[.string kd, .slice A (strV ns).length c, .slice A' (intV vs).length c'] 39)).alloc (.cells #[.string ⟨#[]⟩, .slice none 0 0, .slice none 0 0] 39)).heap.size) := Lib.hid (by simp)
  generalize (w.alloc _).alloc _ = W at *
  have K : W.cell? ⟨w.heap.size, 0, none⟩ = some (.string kd) ∧ W.cell? ⟨w.heap.size, 1, none⟩ = some (.slice A (strV ns).length c) ∧ W.cell? ⟨w.heap.size, 2, none⟩ = some (.slice A' (intV vs).length c') := ⟨(row_cells R0.out).1 0, (row_cells R0.out).1 1, (row_cells R0.out).1 2⟩
  go_region_held3 (fun w' => w'.cell? ⟨w.heap.size, 0, none⟩ = some (.string kd) ∧ w'.cell? ⟨w.heap.size, 1, none⟩ = some (.slice A (strV ns).length c) ∧ w'.cell? ⟨w.heap.size, 2, none⟩ = some (.slice A' (intV vs).length c')) ((first | (simp only [*, and_self]; done) | (simp [*, go_sem]; done)))
    (first
      | (go_at_call 62; ((with_reducible refine (hcs _ HB.out.drew).mono ?_); rintro e w6 ⟨nv', rfl, hr1, hb⟩; obtain ⟨A6, c6, e6, _⟩ := id hr1; subst e6; have HR1 := Lib.hid hr1; have R0 := Lib.hid (row_after hb R0.out); have R1 := Lib.hid (row_after hb R1.out); have HW3 := Lib.hid (Nat.le_trans HW2.out (show W.heap.size ≤ w6.heap.size from hb.size)); have HB := Lib.hid (HB.out.drew.trans (hb.mono HB.out.size)); clear hb hr1; have K : w6.cell? ⟨w.heap.size, 0, none⟩ = some (.string kd) ∧ w6.cell? ⟨w.heap.size, 1, none⟩ = some (.slice A (strV ns).length c) ∧ w6.cell? ⟨w.heap.size, 2, none⟩ = some (.slice A' (intV vs).length c') := ⟨(row_cells R0.out).1 0, (row_cells R0.out).1 1, (row_cells R0.out).1 2⟩))
      | (go_at_call 63; ((with_reducible refine (hci _ HB.out).mono ?_); rintro e w7 ⟨vv', rfl, hr2, hb⟩; obtain ⟨A7, c7, e7, _⟩ := id hr2; subst e7; have HR2 := Lib.hid hr2; have HR1 := Lib.hid (HR1.out.below hb); have HS := Lib.hid (HB.out.size); have R0 := Lib.hid (row_after hb R0.out); have R1 := Lib.hid (row_after hb R1.out); have HB := Lib.hid (HB.out.trans (hb.mono HB.out.size)); clear hb hr2; have K : w7.cell? ⟨w.heap.size, 0, none⟩ = some (.string kd) ∧ w7.cell? ⟨w.heap.size, 1, none⟩ = some (.slice A (strV ns).length c) ∧ w7.cell? ⟨w.heap.size, 2, none⟩ = some (.slice A' (intV vs).length c') := ⟨(row_cells R0.out).1 0, (row_cells R0.out).1 1, (row_cells R0.out).1 2⟩; have q0 := (row_cells R1.out).1 0; have q1 := (row_cells R1.out).1 1; have q2 := (row_cells R1.out).1 2; have f0 := (row_cells R1.out).2 0; have f1 := (row_cells R1.out).2 1; have f2 := (row_cells R1.out).2 2)))
  go_wp2_with fail
  refine bodyPost_ret (v := .agg #[.string kd, .slice A6 (strV ns).length c6, .slice A7 (intV vs).length c7]) ?_ rfl ⟨_, _, rfl, ?_, ?_, ?_⟩
  · simp [results, Tryz.results31, go_sem, *]
  · exact (HR1.out.mono (X' := fun b => w.heap.size + 2 ≤ b) (fun b _ hb => Nat.le_trans HW2.out hb)).set3
  · exact (HR2.out.mono (X' := fun b => w.heap.size + 2 ≤ b) (fun b _ hb => Nat.le_trans HW3.out hb)).set3
  · exact ((HB.out.setCell (Nat.le_succ _) _).setCell (Nat.le_succ _) _).setCell (Nat.le_succ _) _
end Go.Proofs.YtejhcbbfdfnfdaaGreatDoor.Yard

/- The yard in memory; change. -/
namespace Go.Proofs.YtejhcbbfdfnfdaaGreatDoor.Yard
open Go.RowKit Go.Proofs.YtejhcbbfdfnfdaaGreatDoor.Base Go.Proofs.YtejhcbbfdfnfdaaGreatDoor.Mp Go.Proofs.YtejhcbbfdfnfdaaGreatDoor.Lex
open Yp (It Yd Fact)
def itC (x : It) : Array Value := #[.string x.id, .string x.par, .int .i64 x.bx.x0, .int .i64 x.bx.y0, .int .i64 x.bx.z0, .int .i64 x.bx.x1, .int .i64 x.bx.y1, .int .i64 x.bx.z1, .int .i64 x.st, .string x.stone]
def itP (x : It) : ByteArray × Value := (x.id, .agg (itC x))
structure FC where
  f : Fact
  nv : Value
  vv : Value
def FC.cells (c : FC) : List Value := [.string c.f.kind, c.nv, c.vv]
/-- The facts in the row that the yard owns. -/
def FactsOwn (w : World) (Y M : Nat) (FS : Value) (l : List Fact) : Prop :=
  ∃ cs : List FC, cs.map (·.f) = l ∧ w.ownsRow 0 39 3 FS l.length (cs.flatMap FC.cells) ∧ ∀ c ∈ cs, Rd w (fun b => b ≠ Y ∧ b ≠ M ∧ FS.ownBlock ≠ some b) c.nv (strV c.f.names) ∧ Rd w (fun b => b ≠ Y ∧ b ≠ M ∧ FS.ownBlock ≠ some b) c.vv (intV c.f.vals)
structure YAt (w : World) (Y M : Nat) (FS : Value) (y : Yd) : Prop where
  row : w.heap[Y]? = some (.cells #[.map (some M), FS, .int .i64 y.kerfs] 72 (0, 0))
  map : IsMap w M (y.items.map itP)
  fct : FactsOwn w Y M FS y.facts
/-- Nothing but the blocks of S has turned. -/
structure Stay (S : Nat → Prop) (w w' : World) : Prop where
  os : w'.os = w.os
  tape : w'.tape = w.tape
  output : w'.output = w.output
  size : w.heap.size ≤ w'.heap.size
  block : ∀ i, i < w.heap.size → ¬ S i → w'.heap[i]? = w.heap[i]?
theorem Stay.refl (S : Nat → Prop) (w : World) : Stay S w w := ⟨rfl, rfl, rfl, Nat.le_refl _, fun _ _ _ => rfl⟩
theorem Stay.trans {S : Nat → Prop} {a b c : World} (h : Stay S a b) (k : Stay S b c) : Stay S a c :=
  ⟨k.os.trans h.os, k.tape.trans h.tape, k.output.trans h.output, Nat.le_trans h.size k.size, fun i hi hs => (k.block i (Nat.lt_of_lt_of_le hi h.size) hs).trans (h.block i hi hs)⟩
theorem Stay.of_below {S : Nat → Prop} {w w' : World} (h : Below w.heap.size w w') : Stay S w w' := ⟨h.os, h.tape, h.output, h.size, fun i hi _ => h.block i hi⟩
theorem Stay.of_but {S : Nat → Prop} {b : Nat} {w w' : World} (h : But b w w') (hb : S b) : Stay S w w' := ⟨h.os, h.tape, h.output, by rw [h.size]; exact Nat.le_refl _, fun i _ hs => h.block i (fun e => hs (e ▸ hb))⟩
theorem Stay.mono {S S' : Nat → Prop} {w w' : World} (h : Stay S w w') (hs : ∀ i, S i → S' i) : Stay S' w w' := ⟨h.os, h.tape, h.output, h.size, fun i hi hn => h.block i hi fun e => hn (hs i e)⟩
theorem Stay.below {S : Nat → Prop} {B : Nat} {w w' : World} (h : Stay S w w') (hB : B ≤ w.heap.size) (hs : ∀ i, S i → B ≤ i) : Below B w w' := ⟨h.os, h.tape, h.output, h.size, fun i hi => h.block i (by omega) fun e => by have := hs i e; omega⟩
theorem YAt.ltY {w : World} {Y M : Nat} {FS : Value} {y : Yd} (h : YAt w Y M FS y) : Y < w.heap.size := block_lt h.row
theorem YAt.ltM {w : World} {Y M : Nat} {FS : Value} {y : Yd} (h : YAt w Y M FS y) : M < w.heap.size := h.map.lt
theorem YAt.ne {w : World} {Y M : Nat} {FS : Value} {y : Yd} (h : YAt w Y M FS y) : Y ≠ M := by
  obtain ⟨es, clock, hb, _⟩ := h.map
  rintro rfl
  have := h.row
  rw [hb] at this
  cases this
theorem FactsOwn.keep {w w' : World} {Y M : Nat} {FS : Value} {l : List Fact} (h : FactsOwn w Y M FS l) (hs : w.heap.size ≤ w'.heap.size) (hb : ∀ b, b < w.heap.size → b ≠ Y → b ≠ M → w'.heap[b]? = w.heap[b]?) (hY : FS.ownBlock ≠ some Y) (hM : FS.ownBlock ≠ some M) : FactsOwn w' Y M FS l := by
  obtain ⟨cs, h1, h2, h3⟩ := h
  refine ⟨cs, h1, ⟨h2.1, ?_⟩, fun c hc => ⟨(h3 c hc).1.after hs fun b hl hX => hb b hl hX.1 hX.2.1, (h3 c hc).2.after hs fun b hl hX => hb b hl hX.1 hX.2.1⟩⟩
  rcases h2.2 with hn | ⟨g, cap, cur, rfl, h4, hg, h5⟩
  · exact .inl hn
  · refine .inr ⟨g, cap, cur, rfl, h4, (hb g (block_lt hg) ?_ ?_).trans hg, h5⟩
    · rintro rfl; exact hY rfl
    · rintro rfl; exact hM rfl
theorem YAt.fneM {w : World} {Y M : Nat} {FS : Value} {y : Yd} (h : YAt w Y M FS y) : FS.ownBlock ≠ some M := by
  obtain ⟨es, clock, hb, _⟩ := h.map
  obtain ⟨cs, _, h2, _⟩ := h.fct
  rcases h2.2 with ⟨rfl, _⟩ | ⟨g, cap, cur, rfl, h4, hg, h5⟩
  · simp [Value.ownBlock]
  · intro e
    have : g = M := by simpa [Value.ownBlock] using e
    subst this
    rw [hb] at hg
    cases hg
theorem YAt.fneY {w : World} {Y M : Nat} {FS : Value} {y : Yd} (h : YAt w Y M FS y) : FS.ownBlock ≠ some Y := by
  have hb := h.row
  obtain ⟨cs, _, h2, _⟩ := h.fct
  rcases h2.2 with ⟨rfl, _⟩ | ⟨g, cap, cur, rfl, h4, hg, h5⟩
  · simp [Value.ownBlock]
  · intro e
    have : g = Y := by simpa [Value.ownBlock] using e
    subst this
    rw [hb] at hg
    injection hg with hg
    injection hg with _ ht
    exact absurd ht (by decide)
/-- Behind a step that leaves the yard's blocks alone. -/
theorem YAt.below {w w' : World} {Y M : Nat} {FS : Value} {y : Yd} (h : YAt w Y M FS y) (hb : Below w.heap.size w w') : YAt w' Y M FS y :=
  ⟨(hb.block Y h.ltY).trans h.row, h.map.after hb, h.fct.keep hb.size (fun b hl _ _ => hb.block b hl) h.fneY h.fneM⟩
/-- Behind a step that turns the map alone. -/
theorem YAt.turn {w w' : World} {Y M : Nat} {FS : Value} {y : Yd} {l : List It} (h : YAt w Y M FS y) (hb : But M w w') (hm : IsMap w' M (l.map itP)) : YAt w' Y M FS ⟨l, y.facts, y.kerfs⟩ :=
  ⟨(hb.block Y h.ne).trans h.row, hm, h.fct.keep (by rw [hb.size]; exact Nat.le_refl _) (fun b _ _ hM => hb.block b hM) h.fneY h.fneM⟩
/-! ### the lists -/
theorem fnd_items {l : List It} (id : ByteArray) : (fnd id (l.map itP) 0).map (·.2) = (Yp.look l id).map (fun x => Value.agg (itC x)) := by
  suffices h : ∀ (l : List It) (i : Nat), (fnd id (l.map itP) i).map (·.2) = (Yp.look l id).map (fun x => Value.agg (itC x)) from h l 0
  intro l
  induction l with
  | nil => intro i; rfl
  | cons x l ih =>
    intro i
    simp only [List.map_cons, itP, fnd, Yp.look, List.find?_cons]
    by_cases h : id = x.id
    · subst h; simp
    · rw [if_neg h, decide_eq_false (fun e : x.id = id => h e.symm)]
      exact ih (i + 1)
theorem split_items {l : List It} {id : ByteArray} {x : It} (h : Yp.look l id = some x) : ∃ A B, l = A ++ x :: B ∧ fnd id (l.map itP) 0 = some (A.length, .agg (itC x)) ∧ x.id = id ∧ ∀ z ∈ A, z.id ≠ id := by
  suffices h' : ∀ (l : List It) (i : Nat), Yp.look l id = some x → ∃ A B, l = A ++ x :: B ∧ fnd id (l.map itP) i = some (i + A.length, .agg (itC x)) ∧ x.id = id ∧ ∀ z ∈ A, z.id ≠ id by
    obtain ⟨A, B, h1, h2, h3, h4⟩ := h' l 0 h
    exact ⟨A, B, h1, by simpa using h2, h3, h4⟩
  intro l
  induction l with
  | nil => intro i h; cases h
  | cons z l ih =>
    intro i h
    simp only [Yp.look, List.find?_cons] at h
    by_cases hz : z.id = id
    · simp [hz] at h
      subst h
      exact ⟨[], l, rfl, by simp [itP, fnd, hz], hz, by simp⟩
    · rw [decide_eq_false hz] at h
      obtain ⟨A, B, h1, h2, h3, h4⟩ := ih (i + 1) h
      refine ⟨z :: A, B, by rw [h1]; rfl, ?_, h3, ?_⟩
      · simp only [List.map_cons, itP, fnd, if_neg (fun e => hz e.symm : ¬ id = z.id)]
        refine h2.trans ?_
        simp; omega
      · intro u hu
        rcases List.mem_cons.1 hu with rfl | hu
        · exact hz
        · exact h4 u hu
theorem change_split {A B : List It} {x : It} {id : ByteArray} (hx : x.id = id) (hA : ∀ z ∈ A, z.id ≠ id) (hB : ∀ z ∈ B, z.id ≠ id) (st : Int) (stone : ByteArray) : Yp.change (A ++ x :: B) id st stone = A ++ { x with st := st, stone := stone } :: B := by
  unfold Yp.change
  rw [List.map_append, List.map_cons, if_pos hx]
  congr 1
  · conv => rhs; rw [← List.map_id A]
    exact List.map_congr_left fun z hz => by rw [if_neg (hA z hz)]; rfl
  · congr 1
    conv => rhs; rw [← List.map_id B]
    exact List.map_congr_left fun z hz => by rw [if_neg (hB z hz)]; rfl
set_option maxRecDepth 100000 in
theorem zero_item (w : World) : (zeroValue 47).run Tryz.prog w = .ok (.agg #[.string ⟨#[]⟩, .string ⟨#[]⟩, .int .i64 0, .int .i64 0, .int .i64 0, .int .i64 0, .int .i64 0, .int .i64 0, .int .i64 0, .string ⟨#[]⟩]) w := by rfl
theorem look_found {w : World} {M : Nat} {l : List It} (h : IsMap w M (l.map itP)) {id : ByteArray} {x : It} (hx : Yp.look l id = some x) (c : Bool) : (Instr.lookup 70 (.map (some M)) (.string id) c).run Tryz.prog w = .ok (if c then .tuple #[.agg (itC x), .bool true] else .agg (itC x)) w := by
  obtain ⟨A, B, _, hf, _⟩ := split_items hx
  have := h.look (P := Tryz.prog) Tryz.underlying70 Tryz.underlying9 (zero_item w) id c
  rw [hf] at this
  exact this
theorem look_missed {w : World} {M : Nat} {l : List It} (h : IsMap w M (l.map itP)) {id : ByteArray} (hx : Yp.look l id = none) (c : Bool) : (Instr.lookup 70 (.map (some M)) (.string id) c).run Tryz.prog w = .ok (if c then .tuple #[.agg #[.string ⟨#[]⟩, .string ⟨#[]⟩, .int .i64 0, .int .i64 0, .int .i64 0, .int .i64 0, .int .i64 0, .int .i64 0, .int .i64 0, .string ⟨#[]⟩], .bool false] else .agg #[.string ⟨#[]⟩, .string ⟨#[]⟩, .int .i64 0, .int .i64 0, .int .i64 0, .int .i64 0, .int .i64 0, .int .i64 0, .int .i64 0, .string ⟨#[]⟩]) w := by
  have := h.look (P := Tryz.prog) Tryz.underlying70 Tryz.underlying9 (zero_item w) id c
  have hf : fnd id (l.map itP) 0 = none := by
    have h1 := fnd_items (l := l) id
    rw [hx] at h1
    simpa using h1
  rw [hf] at this
  exact this
end Go.Proofs.YtejhcbbfdfnfdaaGreatDoor.Yard
