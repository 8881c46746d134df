/- New and Find. -/
import Derived.Test.YtejhcbbfdfnfdaaGreatDoorR19
import Derived.Test.YtejhcbbfdfnfdaaGreatDoorR15
/- Do: a possible fact is done and laid behind the others. -/
namespace Go.Proofs.YtejhcbbfdfnfdaaGreatDoor.Yard
open Go.RowKit Go.Proofs.YtejhcbbfdfnfdaaGreatDoor.Base Go.Proofs.YtejhcbbfdfnfdaaGreatDoor.Mp
open Yp (It Yd Fact Bx)
theorem do_fn (k : Nat) : ∃ fn : Func, Tryz.prog.funcs[doN k]? = some fn ∧ (fn.name == "runtime.NumGoroutine") = false ∧ fn.body.isSome = true := by
  rcases k with _ | _ | _ | _ | _ | k
  · exact ⟨_, Tryz.func53, by kernel_rfl, rfl⟩
  · exact ⟨_, Tryz.func55, by kernel_rfl, rfl⟩
  · exact ⟨_, Tryz.func57, by kernel_rfl, rfl⟩
  · exact ⟨_, Tryz.func59, by kernel_rfl, rfl⟩
  · exact ⟨_, Tryz.func60, by kernel_rfl, rfl⟩
  · exact ⟨_, Tryz.func61, by kernel_rfl, rfl⟩
set_option maxRecDepth 100000 in
theorem field_do (k : Nat) (sl : Value) (w : World) : (Instr.field 77 (.agg #[.int .i64 (Yp.nNames k), .int .i64 (Yp.nVals k), sl, wrV k, doV k]) 4).run Tryz.prog w = .ok (.func (.func (doN k)) #[] #[]) w := by
  rw [← doV_eq]; rfl
theorem own_lt {w : World} {Y M : Nat} {FS : Value} {y : Yd} (h : YAt w Y M FS y) {i : Nat} (e : FS.ownBlock = some i) : i < w.heap.size := by
  obtain ⟨cs, _, h2, _⟩ := h.fct
  rcases h2.2 with ⟨rfl, _⟩ | ⟨g, cap, cur, rfl, _, hg, _⟩
  · cases e
  · have : g = i := by simpa [Value.ownBlock] using e
    subst this
    exact block_lt hg
section
open Go.Proofs.YtejhcbbfdfnfdaaGreatDoor.Reg
variable {kd : ByteArray} {k : Nat} {Y M : Nat} {FS : Value} {w0 W W' : World} {y1 : Yd} {b : Nat → Bool} {m m' : Nat} {sl sl' : Value} {f : Fact}
/-- While the kind is looked up and what it says is done. -/
def D4 (kd : ByteArray) (k Y M : Nat) (FS : Value) (w0 : World) (y1 : Yd) (b : Nat → Bool) (W : World) (m : Nat) (sl : Value) : Prop :=
  (b 7 = false → Below w0.heap.size w0 W) ∧ (b 0 = true → b 7 = false → ∃ N, KAt kd k N W m sl) ∧ (b 7 = true → YAt W Y M FS y1 ∧ Stay (fun i => i = M ∨ i = Y) w0 W)
theorem D4.start : D4 kd k Y M FS W y1 (fun _ => false) W.drew m sl := ⟨fun _ => (Below.refl _ _).drew, fun h => (by cases h), fun h => (by cases h)⟩
theorem D4.keep {i : Nat} (h : D4 kd k Y M FS w0 y1 b W m sl) (hi : i ∉ [0, 7]) (_ : Below W.heap.size W W) : D4 kd k Y M FS w0 y1 (up b i) W m sl := by
  simp only [List.mem_cons, List.not_mem_nil, or_false, not_or] at hi
  unfold D4
  rw [up_ne (Ne.symm hi.1), up_ne (Ne.symm hi.2)]
  exact h
theorem D4.call (h : D4 kd k Y M FS w0 y1 b W m sl) (hk : KAt kd k W.heap.size W' m' sl') (hb : Below W.heap.size W W') (h7 : b 7 = false) : D4 kd k Y M FS w0 y1 (up b 0) W' m' sl' := by
  unfold D4
  rw [up_self, up_ne (show (7 : Nat) ≠ 0 by decide), h7]
  exact ⟨fun _ => (h.1 h7).trans (hb.mono (h.1 h7).size), fun _ _ => ⟨_, hk⟩, fun h => (by cases h)⟩
theorem D4.done (h : D4 kd k Y M FS w0 y1 b W m sl) (h7 : b 7 = false) (hy : YAt W' Y M FS y1) (hs : Stay (fun i => i = M ∨ i = Y) W W') : D4 kd k Y M FS w0 y1 (up b 7) W' m sl := by
  unfold D4
  rw [up_self]
  exact ⟨fun h => (by cases h), fun _ h => (by cases h), fun _ => ⟨hy, (Stay.of_below (h.1 h7)).trans hs⟩⟩
/-- While the fact is copied and laid behind the others. -/
structure D5 (f : Fact) (Y M : Nat) (FS : Value) (w0 : World) (y1 : Yd) (b : Nat → Bool) (W : World) (A6 : Option Addr) (c6 : Nat) (A7 : Option Addr) (c7 gb gq cq : Nat) : Prop where
  pre : b 8 = false → Below w0.heap.size w0 W
  cl : b 6 = true → b 8 = false → Rd W (fun i => w0.heap.size ≤ i) (.slice A6 f.names.length c6) (strV f.names) ∧ Rd W (fun i => w0.heap.size ≤ i) (.slice A7 f.vals.length c7) (intV f.vals)
  bs : b 7 = true → b 8 = false → W.heap[gb]? = some (.cells #[.string f.kind, .slice A6 f.names.length c6, .slice A7 f.vals.length c7] 39 (0, 0))
  ap : b 8 = true → b 11 = false → FactsOwn W Y M (.slice (some ⟨gq, 0, none⟩) (y1.facts.length + 1) cq) (y1.facts ++ [f]) ∧ Stay (fun i => FS.ownBlock = some i) w0 W ∧ (FS.ownBlock = some gq ∨ w0.heap.size ≤ gq)
  st : b 11 = true → YAt W Y M (.slice (some ⟨gq, 0, none⟩) (y1.facts.length + 1) cq) ⟨y1.items, y1.facts ++ [f], y1.kerfs⟩ ∧ Stay (fun i => i = Y ∨ FS.ownBlock = some i) w0 W ∧ (FS.ownBlock = some gq ∨ w0.heap.size ≤ gq)
variable {A6 A6' A7 A7' : Option Addr} {c6 c6' c7 c7' gb gq gq' cq cq' : Nat}
theorem D5.start : D5 f Y M FS W y1 (fun _ => false) W.drew A6 c6 A7 c7 gb gq cq := ⟨fun _ => (Below.refl _ _).drew, fun h => (by cases h), fun h => (by cases h), fun h => (by cases h), fun h => (by cases h)⟩
theorem D5.keep {i : Nat} (h : D5 f Y M FS w0 y1 b W A6 c6 A7 c7 gb gq cq) (hi : i ∉ [6, 7, 8, 11]) : D5 f Y M FS w0 y1 (up b i) W A6 c6 A7 c7 gb gq cq := by
  simp only [List.mem_cons, List.not_mem_nil, or_false, not_or] at hi
  obtain ⟨h1, h2, h3, h4, h5⟩ := h
  constructor <;> simp only [up_ne (Ne.symm hi.1), up_ne (Ne.symm hi.2.1), up_ne (Ne.symm hi.2.2.1), up_ne (Ne.symm hi.2.2.2)] <;> assumption
theorem D5.clone (h : D5 f Y M FS w0 y1 b W A6 c6 A7 c7 gb gq cq) (h7 : b 7 = false) (h8 : b 8 = false) (h11 : b 11 = false) (hr1 : Rd W' (fun i => W.heap.size ≤ i) (.slice A6' f.names.length c6') (strV f.names)) (hr2 : Rd W' (fun i => W.heap.size ≤ i) (.slice A7' f.vals.length c7') (intV f.vals)) (hb : Below W.heap.size W W') :
    D5 f Y M FS w0 y1 (up b 6) W' A6' c6' A7' c7' gb gq cq := by
  have h0 := (h.pre h8).size
  constructor
  · exact fun _ => (h.pre h8).trans (hb.mono h0)
  · exact fun _ _ => ⟨hr1.mono fun i _ hi => Nat.le_trans h0 hi, hr2.mono fun i _ hi => Nat.le_trans h0 hi⟩
  · rw [up_ne (show (7 : Nat) ≠ 6 by decide), h7]; exact fun h => (by cases h)
  · rw [up_ne (show (8 : Nat) ≠ 6 by decide), h8]; exact fun h => (by cases h)
  · rw [up_ne (show (11 : Nat) ≠ 6 by decide), h11]; exact fun h => (by cases h)
theorem D5.build (h : D5 f Y M FS w0 y1 b W A6 c6 A7 c7 gb gq cq) (h8 : b 8 = false) (h11 : b 11 = false) : D5 f Y M FS w0 y1 (up b 7) (W.alloc (.cells #[.string f.kind, .slice A6 f.names.length c6, .slice A7 f.vals.length c7] 39)) A6 c6 A7 c7 W.heap.size gq cq := by
  have hB := al_below W (.cells #[.string f.kind, .slice A6 f.names.length c6, .slice A7 f.vals.length c7] 39)
  constructor
  · exact fun _ => (h.pre h8).trans (hB.mono (h.pre h8).size)
  · rw [up_ne (show (6 : Nat) ≠ 7 by decide)]
    exact fun h6 _ => ⟨(h.cl h6 h8).1.below hB, (h.cl h6 h8).2.below hB⟩
  · exact fun _ _ => new_block _ _
  · rw [up_ne (show (8 : Nat) ≠ 7 by decide), h8]; exact fun h => (by cases h)
  · rw [up_ne (show (11 : Nat) ≠ 7 by decide), h11]; exact fun h => (by cases h)
theorem D5.append (h : D5 f Y M FS w0 y1 b W A6 c6 A7 c7 gb gq cq) (hy : YAt w0 Y M FS y1) (hl : y1.facts.length < 4096) (h6 : b 6 = true) (h7 : b 7 = true) (h8 : b 8 = false) {ty : TypeId} :
    ∃ gq cq w', (Builtin.append_ #[22, 22] ty #[FS, .slice (some ⟨gb, 0, none⟩) 1 1]).run Tryz.prog W = .ok (.slice (some ⟨gq, 0, none⟩) (y1.facts.length + 1) cq) w' ∧ FactsOwn w' Y M (.slice (some ⟨gq, 0, none⟩) (y1.facts.length + 1) cq) (y1.facts ++ [f]) ∧ W.grownBy w' FS.ownBlock ∧ (FS.ownBlock = some gq ∨ gq = W.heap.size) := by
  have hfo := hy.fct.keep (h.pre h8).size (fun i hi _ _ => (h.pre h8).block i hi) hy.fneY hy.fneM
  refine hfo.snoc hl f (fun i => w0.heap.size ≤ i) (h.cl h6 h8).1 (h.cl h6 h8).2 (fun i _ hi => ⟨Nat.ne_of_gt (Nat.lt_of_lt_of_le hy.ltY hi), Nat.ne_of_gt (Nat.lt_of_lt_of_le hy.ltM hi), fun e => ?_⟩) (h.bs h7 h8) ty
  have := own_lt hy e
  omega
theorem D5.app (h : D5 f Y M FS w0 y1 b W A6 c6 A7 c7 gb gq cq) (h8 : b 8 = false) (h11 : b 11 = false) (hfo : FactsOwn W' Y M (.slice (some ⟨gq', 0, none⟩) (y1.facts.length + 1) cq') (y1.facts ++ [f])) (hg : W.grownBy W' FS.ownBlock) (hat : FS.ownBlock = some gq' ∨ gq' = W.heap.size) :
    D5 f Y M FS w0 y1 (up b 8) W' A6 c6 A7 c7 gb gq' cq' := by
  have h0 := h.pre h8
  constructor
  · rw [up_self]; exact fun h => (by cases h)
  · rw [up_self]; exact fun _ h => (by cases h)
  · rw [up_self]; exact fun _ h => (by cases h)
  · exact fun _ _ => ⟨hfo, ⟨hg.os.trans h0.os, hg.tape.trans h0.tape, hg.output.trans h0.output, Nat.le_trans h0.size hg.size, fun i hi hs => (hg.block i (Nat.lt_of_lt_of_le hi h0.size) (fun e => hs e.symm)).trans (h0.block i hi)⟩, hat.imp id fun e => by rw [e]; exact h0.size⟩
  · rw [up_ne (show (11 : Nat) ≠ 8 by decide), h11]; exact fun h => (by cases h)
theorem D5.row (h : D5 f Y M FS w0 y1 b W A6 c6 A7 c7 gb gq cq) (hy : YAt w0 Y M FS y1) (h8 : b 8 = true) (h11 : b 11 = false) : W.heap[Y]? = some (.cells #[.map (some M), FS, .int .i64 y1.kerfs] 72 (0, 0)) :=
  ((h.ap h8 h11).2.1.block Y hy.ltY hy.fneY).trans hy.row
theorem D5.store (h : D5 f Y M FS w0 y1 b W A6 c6 A7 c7 gb gq cq) (hy : YAt w0 Y M FS y1) (h8 : b 8 = true) (h11 : b 11 = false) : D5 f Y M FS w0 y1 (up b 11) (W.setCell ⟨Y, 1, none⟩ (.slice (some ⟨gq, 0, none⟩) (y1.facts.length + 1) cq)) A6 c6 A7 c7 gb gq cq := by
  obtain ⟨hfo, hs, hat⟩ := h.ap h8 h11
  have hrow := h.row hy h8 h11
  have hq : gq ≠ Y := by
    rintro rfl
    rcases hat with e | e
    · exact hy.fneY e
    · have := hy.ltY; omega
  have hqm : gq ≠ M := by
    rintro rfl
    rcases hat with e | e
    · exact hy.fneM e
    · have := hy.ltM; omega
  constructor
  · rw [up_ne (show (8 : Nat) ≠ 11 by decide), h8]; exact fun h => (by cases h)
  · rw [up_ne (show (8 : Nat) ≠ 11 by decide), h8]; exact fun _ h => (by cases h)
  · rw [up_ne (show (8 : Nat) ≠ 11 by decide), h8]; exact fun _ h => (by cases h)
  · rw [up_self]; exact fun _ h => (by cases h)
  · refine fun _ => ⟨⟨heap_setCell_same W Y 1 _ _ _ hrow, (hy.map.same ((hs.block M hy.ltM hy.fneM))).same (heap_setCell_other _ _ _ _ (Ne.symm hy.ne)), ?_⟩, ?_, hat⟩
    · exact hfo.keep (by simp) (fun i _ hi _ => heap_setCell_other _ _ _ _ hi) (by simp [Value.ownBlock, hq]) (by simp [Value.ownBlock, hqm])
    · exact (hs.mono fun i hi => .inr hi).trans ((stay_set W ⟨Y, 1, none⟩ _).mono fun i hi => .inl hi)
end
set_option maxRecDepth 100000 in
set_option maxHeartbeats 8000000 in
theorem do_refused {w : World} {Y M : Nat} {FS : Value} {y : Yd} (hy : YAt w Y M FS y) (hi : Yp.Inv y) (hlen : y.items.length < 4000) (hfl : y.facts.length < 4096) (X : Nat → Prop) (f : Fact) (nv vv : Value) (hn : Rd w X nv (strV f.names)) (hv : Rd w X vv (intV f.vals)) (hsz : ∀ s ∈ f.names, s.size ≤ 140737488351232) (hc : Yp.check y f ≠ 0) :
    Calls Tryz.prog 14 #[.pointer (some ⟨Y, 0, none⟩), .agg #[.string f.kind, nv, vv]] w fun e w' => e = .returned (.int .i64 (Yp.check y f)) ∧ Below w.heap.size w w' := by
  have hcheck := fun W (hW : Below w.heap.size w W) => check_any (hy.below hW) hi hlen hfl X f nv vv (hn.below hW) (hv.below hW) hsz
  obtain ⟨A, c, en, _⟩ := id hn
  obtain ⟨A', c', ev, _⟩ := id hv
  subst en ev
  generalize Yp.check y f = n at *
  have hnb : ((n : Int) != 0) = true := by rw [bne_iff_ne]; exact hc
  have HC := Lib.hid hcheck
  have HB := Lib.hid ((Below.refl w.heap.size w).alloc (Nat.le_refl _) (.cells #[.string f.kind, .slice A (strV f.names).length c, .slice A' (intV f.vals).length c'] 39))
  have hrow := row_cells (new_block w (.cells #[.string f.kind, .slice A (strV f.names).length c, .slice A' (intV f.vals).length c'] 39))
  have k0 := hrow.1 0
  have k1 := hrow.1 1
  have k2 := hrow.1 2
  clear hcheck hy hi hn hv hsz hc hfl hlen hrow
  go_enter Tryz.func14, Tryz.ntmps14
  go_wp2_with fail
  refine (HC.out _ HB.out).mono ?_; rintro e w1 ⟨rfl, hb1⟩
  have HB1 := Lib.hid (HB.out.trans (hb1.mono HB.out.size))
  clear hb1 k0 k1 k2
  go_wp2_with fail
  go_ret
  exact ⟨rfl, HB1.out⟩
set_option maxRecDepth 100000 in
set_option maxHeartbeats 8000000 in
theorem do_done {w : World} {Y M : Nat} {FS : Value} {y : Yd} (hy : YAt w Y M FS y) (hi : Yp.Inv y) (hlen : y.items.length < 4000) (hfl : y.facts.length < 4096) (X : Nat → Prop) (hX : ∀ b, X b → b ≠ M ∧ b ≠ Y) (f : Fact) (nv vv : Value) (hn : Rd w X nv (strV f.names)) (hv : Rd w X vv (intV f.vals)) (hsz : ∀ s ∈ f.names, s.size ≤ 140737488351232) (hc : Yp.check y f = 0) :
    Calls Tryz.prog 14 #[.pointer (some ⟨Y, 0, none⟩), .agg #[.string f.kind, nv, vv]] w fun e w' => e = .returned (.int .i64 0) ∧ ∃ gq cq, YAt w' Y M (.slice (some ⟨gq, 0, none⟩) (y.facts.length + 1) cq) (Yp.step y f) ∧ Stay (fun i => i = M ∨ i = Y ∨ FS.ownBlock = some i) w w' ∧ (FS.ownBlock = some gq ∨ w.heap.size ≤ gq) := by
  have hcheck := fun W (hW : Below w.heap.size w W) => check_any (hy.below hW) hi hlen hfl X f nv vv (hn.below hW) (hv.below hW) hsz
  rw [hc] at hcheck
  obtain ⟨k, hk, h1, h2, _⟩ := check_zero hc
  have hstep : Yp.step y f = ⟨Yp.applyItems y.items f k, y.facts ++ [f], Yp.applyKerfs y f k⟩ := by
    unfold Yp.step
    rw [if_pos hc]
    unfold Yp.apply
    rw [hk]
  rw [hstep]
  have hdo := fun W (hW : Below w.heap.size w W) => do_all (hy.below hW) hi X hX f nv vv (hn.below hW) (hv.below hW) hc hk
  have hclone := fun W (hW : Stay (fun i => i = M ∨ i = Y) w W) => clone_any X f.kind nv vv f.names f.vals W (hn.after hW.size fun i hi hx => hW.block i hi (fun e => e.elim (hX i hx).1 (hX i hx).2)) (hv.after hW.size fun i hi hx => hW.block i hi (fun e => e.elim (hX i hx).1 (hX i hx).2)) (by have : Yp.nNames k ≤ 3 := (by unfold Yp.nNames; split <;> omega); omega) (by have : Yp.nVals k ≤ 6 := (by unfold Yp.nVals; split <;> omega); omega)
  obtain ⟨Af, cf, rfl⟩ := yat_facts hy
  obtain ⟨A, c, en, _⟩ := id hn
  obtain ⟨A', c', ev, _⟩ := id hv
  have lns : (strV f.names).length = f.names.length := by simp [strV]
  have lvs : (intV f.vals).length = f.vals.length := by simp [intV]
  rw [lns] at en
  rw [lvs] at ev
  subst en ev
  have HLN := Lib.hid (And.intro lns lvs)
  have HK := Lib.hid hk
  have HC := Lib.hid hcheck
  have HDO := Lib.hid hdo
  have HCLN := Lib.hid hclone
  have HNM := Lib.hid (And.intro hy.ltM hy.ltY)
  have HY0 := Lib.hid hy
  have HFL := Lib.hid hfl
  have HB := Lib.hid ((Below.refl w.heap.size w).alloc (Nat.le_refl _) (.cells #[.string f.kind, .slice A f.names.length c, .slice A' f.vals.length c'] 39))
  have RF0 := Lib.hid (new_block w (.cells #[.string f.kind, .slice A f.names.length c, .slice A' f.vals.length c'] 39))
  have k0 := (row_cells RF0.out).1 0
  have k1 := (row_cells RF0.out).1 1
  have k2 := (row_cells RF0.out).1 2
  clear hcheck hy hi hn hv hsz hc hfl hlen hk hdo hclone lns lvs h1 h2 hstep
  go_enter Tryz.func14, Tryz.ntmps14
  go_wp2_with fail
  refine (HC.out _ HB.out).mono ?_; rintro e W1 ⟨rfl, hb1⟩
  have HB1 := Lib.hid (HB.out.trans (hb1.mono HB.out.size))
  have RF := Lib.hid (row_after hb1 RF0.out)
  clear hb1 k0 k1 k2 RF0 HB HC
  go_wp2_with fail
  refine Reg.region_inv [[], [], [1], [0, 2], [3], [], [], [0, 4, 5, 6]] [[], [], [1], [0, 1, 2], [0, 1, 2, 3], [], [], [0, 1, 2, 3, 4, 5, 6]] (fun a0_ bb aa ww => ∃ (m : Nat) (sl : Value), aa = Reg.fill bb [(0, 12, .map (some m)), (1, 13, .pointer (some ⟨w.heap.size, 0, none⟩)), (2, 14, .string f.kind), (3, 15, .agg #[.int .i64 (Yp.nNames k), .int .i64 (Yp.nVals k), sl, wrV k, doV k]), (4, 16, .func (.func (doN k)) #[] #[]), (5, 17, .pointer (some ⟨Y, 0, none⟩)), (6, 18, .agg #[.string f.kind, .slice A f.names.length c, .slice A' f.vals.length c']), (7, 19, .tuple #[])] a0_ ∧ D4 f.kind k Y M (.slice Af y.facts.length cf) W1 (⟨Yp.applyItems y.items f k, y.facts, Yp.applyKerfs y f k⟩ : Yd) bb ww m sl) (by kernel_rfl) (by kernel_rfl) (by kernel_rfl) ?_ ?_ ?_
  · exact ⟨0, .slice none 0 0, Reg.fill_start.symm, D4.start⟩
  · refine Reg.steps_cons (i := 0) ?_ ?_
    · rintro bb aa ww ⟨m, sl, ha, HW⟩ hb hd hn
      have HA := Lib.hid ha
      clear ha
      refine ⟨_, rfl, fun K hK => ?_⟩
      refine Reg.do_call rfl rfl Tryz.func30 (by kernel_rfl) rfl #[] rfl (by simp) ?_
      refine (kinds_any ww).mono ?_; rintro e w3 ⟨m', g1, g2, g3, g4, g5, rfl, hka, hb3, hN⟩; obtain ⟨sl', hka⟩ := kinds_at hka hN HK.out; refine ⟨_, rfl, ?_⟩
      exact hK.out _ _ ⟨m', sl', by rw [HA.out]; exact (Reg.fill_up 0 hb rfl rfl rfl).trans (Reg.fill_swap ⟨rfl, rfl, fun _ => rfl, ⟨rfl, rfl, fun _ => rfl, ⟨rfl, rfl, fun _ => rfl, ⟨rfl, rfl, Reg.not_up (show (3 : Nat) ≠ 0 by decide) (hn 3 (by decide)), ⟨rfl, rfl, fun _ => rfl, ⟨rfl, rfl, fun _ => rfl, ⟨rfl, rfl, fun _ => rfl, ⟨rfl, rfl, fun _ => rfl, trivial⟩⟩⟩⟩⟩⟩⟩⟩), HW.call hka hb3 (hn 7 (by decide))⟩
    refine Reg.steps_cons (i := 1) ?_ ?_
    · rintro bb aa ww ⟨m, sl, ha, HW⟩ hb hd hn
      have e3 : aa.tmps[3]? = some (.pointer (some ⟨w.heap.size, 0, none⟩)) := by rw [ha]; exact (Reg.fill_off rfl).trans rfl
      have HA := Lib.hid ha
      clear ha
      refine ⟨_, rfl, fun K hK => ?_⟩
      refine Reg.do_val rfl rfl (v := .pointer (some ⟨w.heap.size, 0, none⟩)) (w1 := ww) ?_ ?_
      · simp only [List.getElem_toArray, List.getElem_cons_succ, List.getElem_cons_zero, execOp, Reg.eval_tmp e3]
        go_simp
      exact hK.out _ _ ⟨m, sl, by rw [HA.out]; exact Reg.fill_up 1 hb rfl rfl rfl, HW.keep (show 1 ∉ [0, 7] by decide) (Below.refl _ _)⟩
    refine Reg.steps_cons (i := 2) ?_ ?_
    · rintro bb aa ww ⟨m, sl, ha, HW⟩ hb hd hn
      have e13 : aa.tmps[13]? = some (.pointer (some ⟨w.heap.size, 0, none⟩)) := by rw [ha]; exact Reg.fill_on 1 rfl rfl (hd 1 (by decide)) rfl
      have HA := Lib.hid ha
      clear ha
      refine ⟨_, rfl, fun K hK => ?_⟩
      have k0 := (row_cells (row_after (HW.1 (hn 7 (by decide))) RF.out)).1 0
      refine Reg.do_val rfl rfl (v := .string f.kind) (w1 := ww) ?_ ?_
      · simp only [List.getElem_toArray, List.getElem_cons_succ, List.getElem_cons_zero, execOp, Reg.eval_tmp e13]
        go_simp
      exact hK.out _ _ ⟨m, sl, by rw [HA.out]; exact Reg.fill_up 2 hb rfl rfl rfl, HW.keep (show 2 ∉ [0, 7] by decide) (Below.refl _ _)⟩
    refine Reg.steps_cons (i := 3) ?_ ?_
    · rintro bb aa ww ⟨m, sl, ha, HW⟩ hb hd hn
      have e12 : aa.tmps[12]? = some (.map (some m)) := by rw [ha]; exact Reg.fill_on 0 rfl rfl (hd 0 (by decide)) rfl
      have e14 : aa.tmps[14]? = some (.string f.kind) := by rw [ha]; exact Reg.fill_on 2 rfl rfl (hd 2 (by decide)) rfl
      have HA := Lib.hid ha
      clear ha
      refine ⟨_, rfl, fun K hK => ?_⟩
      obtain ⟨NN, hka⟩ := HW.2.1 (hd 0 (by decide)) (hn 7 (by decide))
      have hl := hka.look ww false rfl
      clear hka
      simp only [Bool.false_eq_true, if_false] at hl
      refine Reg.do_val rfl rfl (v := .agg #[.int .i64 (Yp.nNames k), .int .i64 (Yp.nVals k), sl, wrV k, doV k]) (w1 := ww) ?_ ?_
      · simp only [List.getElem_toArray, List.getElem_cons_succ, List.getElem_cons_zero, execOp, Reg.eval_tmp e12, Reg.eval_tmp e14]
        go_simp
      exact hK.out _ _ ⟨m, sl, by rw [HA.out]; exact Reg.fill_up 3 hb rfl rfl rfl, HW.keep (show 3 ∉ [0, 7] by decide) (Below.refl _ _)⟩
    refine Reg.steps_cons (i := 4) ?_ ?_
    · rintro bb aa ww ⟨m, sl, ha, HW⟩ hb hd hn
      have e15 : aa.tmps[15]? = some (.agg #[.int .i64 (Yp.nNames k), .int .i64 (Yp.nVals k), sl, wrV k, doV k]) := by rw [ha]; exact Reg.fill_on 3 rfl rfl (hd 3 (by decide)) rfl
      have HA := Lib.hid ha
      clear ha
      refine ⟨_, rfl, fun K hK => ?_⟩
      have hfd := field_do k sl ww
      refine Reg.do_val rfl rfl (v := .func (.func (doN k)) #[] #[]) (w1 := ww) ?_ ?_
      · simp only [List.getElem_toArray, List.getElem_cons_succ, List.getElem_cons_zero, execOp, Reg.eval_tmp e15]
        go_simp
      exact hK.out _ _ ⟨m, sl, by rw [HA.out]; exact Reg.fill_up 4 hb rfl rfl rfl, HW.keep (show 4 ∉ [0, 7] by decide) (Below.refl _ _)⟩
    refine Reg.steps_cons (i := 5) ?_ ?_
    · rintro bb aa ww ⟨m, sl, ha, HW⟩ hb hd hn
      have e0 : aa.tmps[0]? = some (.pointer (some ⟨Y, 0, none⟩)) := by rw [ha]; exact (Reg.fill_off rfl).trans rfl
      have HA := Lib.hid ha
      clear ha
      refine ⟨_, rfl, fun K hK => ?_⟩
      refine Reg.do_val rfl rfl (v := .pointer (some ⟨Y, 0, none⟩)) (w1 := ww) (by simp only [List.getElem_toArray, List.getElem_cons_succ, List.getElem_cons_zero, execOp, Reg.eval_tmp e0]; rfl) ?_
      exact hK.out _ _ ⟨m, sl, by rw [HA.out]; exact Reg.fill_up 5 hb rfl rfl rfl, HW.keep (show 5 ∉ [0, 7] by decide) (Below.refl _ _)⟩
    refine Reg.steps_cons (i := 6) ?_ ?_
    · rintro bb aa ww ⟨m, sl, ha, HW⟩ hb hd hn
      have e3 : aa.tmps[3]? = some (.pointer (some ⟨w.heap.size, 0, none⟩)) := by rw [ha]; exact (Reg.fill_off rfl).trans rfl
      have HA := Lib.hid ha
      clear ha
      refine ⟨_, rfl, fun K hK => ?_⟩
      refine Reg.do_load rfl rfl 39 _ rfl w.heap.size (Reg.eval_tmp e3) (row_after (HW.1 (hn 7 (by decide))) RF.out) Tryz.underlying39 rfl (by kernel_rfl) ?_
      exact hK.out _ _ ⟨m, sl, by rw [HA.out]; exact Reg.fill_up 6 hb rfl rfl rfl, HW.keep (show 6 ∉ [0, 7] by decide) (Below.refl _ _)⟩
    refine Reg.steps_cons (i := 7) ?_ ?_
    · rintro bb aa ww ⟨m, sl, ha, HW⟩ hb hd hn
      have e16 : aa.tmps[16]? = some (.func (.func (doN k)) #[] #[]) := by rw [ha]; exact Reg.fill_on 4 rfl rfl (hd 4 (by decide)) rfl
      have e17 : aa.tmps[17]? = some (.pointer (some ⟨Y, 0, none⟩)) := by rw [ha]; exact Reg.fill_on 5 rfl rfl (hd 5 (by decide)) rfl
      have e18 : aa.tmps[18]? = some (.agg #[.string f.kind, .slice A f.names.length c, .slice A' f.vals.length c']) := by rw [ha]; exact Reg.fill_on 6 rfl rfl (hd 6 (by decide)) rfl
      have HA := Lib.hid ha
      clear ha
      refine ⟨_, rfl, fun K hK => ?_⟩
      obtain ⟨fn, hf1, hf2, hf3⟩ := do_fn k
      refine Reg.do_callv rfl rfl hf1 hf2 hf3 #[.pointer (some ⟨Y, 0, none⟩), .agg #[.string f.kind, .slice A f.names.length c, .slice A' f.vals.length c']] rfl (Reg.eval_tmp e16) (by simp [Reg.eval_tmp e17, Reg.eval_tmp e18]) ?_
      refine (HDO.out ww (HB1.out.trans ((HW.1 hb).mono HB1.out.size))).mono ?_; rintro e w3 ⟨rfl, hy3, hs3⟩; refine ⟨_, rfl, ?_⟩
      exact hK.out _ _ ⟨m, sl, by rw [HA.out]; exact Reg.fill_up 7 hb rfl rfl rfl, HW.done hb hy3 hs3⟩
    exact trivial
  rintro bb aa W2 hall ⟨m, sl, ha, HW⟩
  have HY2 := Lib.hid (HW.2.2 (hall 7 (by decide))).1
  have HS12 := Lib.hid (HW.2.2 (hall 7 (by decide))).2
  have HS2 := Lib.hid ((Stay.of_below HB1.out).trans HS12.out)
  have RF2 := Lib.hid ((HS12.out.block w.heap.size (block_lt RF.out) (fun e => by have := HNM.out; omega)).trans RF.out)
  clear HW RF HS12 HDO
  have hb0 := hall 0 (by decide)
  have hb1 := hall 1 (by decide)
  have hb2 := hall 2 (by decide)
  have hb3 := hall 3 (by decide)
  have hb4 := hall 4 (by decide)
  have hb5 := hall 5 (by decide)
  have hb6 := hall 6 (by decide)
  have hb7 := hall 7 (by decide)
  simp only [Reg.fill, hb0, hb1, hb2, hb3, hb4, hb5, hb6, hb7, if_true, Act.put, List.setIfInBounds_toArray, List.set_cons_zero, List.set_cons_succ] at ha
  clear hb0 hb1 hb2 hb3 hb4 hb5 hb6 hb7 hall
  subst ha
  obtain ⟨y1, hy1⟩ : ∃ y1 : Yd, y1 = ⟨Yp.applyItems y.items f k, y.facts, Yp.applyKerfs y f k⟩ := ⟨_, rfl⟩
  rw [← hy1] at HY2
  have hl1 : y.facts.length = y1.facts.length := by rw [hy1]
  have hs1 : (⟨Yp.applyItems y.items f k, y.facts ++ [f], Yp.applyKerfs y f k⟩ : Yd) = ⟨y1.items, y1.facts ++ [f], y1.kerfs⟩ := by rw [hy1]
  have HS1 := Lib.hid hs1
  have HL1 := Lib.hid hl1
  rw [hl1] at HY2 HFL
  have HCL : Hid (∀ W, Below W2.heap.size W2 W → Calls Tryz.prog 31 #[.agg #[.string f.kind, .slice A f.names.length c, .slice A' f.vals.length c']] W fun e w' => ∃ nv' vv', e = .returned (.agg #[.string f.kind, nv', vv']) ∧ Rd w' (fun b => W.heap.size ≤ b) nv' (strV f.names) ∧ Rd w' (fun b => W.heap.size ≤ b) vv' (intV f.vals) ∧ Below W.heap.size W w') := Lib.hid fun W hW => HCLN.out W (HS2.out.trans (Stay.of_below hW))
  clear hy1 hl1 hs1 HCLN
  go_wp2_with fail
  refine Reg.region_inv [[], [], [1], [2], [3], [], [5], [6], [4, 6, 7], [0, 1, 2, 3, 4, 5, 6, 7, 8], [0, 1, 2, 3, 4, 5, 6, 7, 8, 9], [0, 1, 2, 3, 4, 5, 6, 7, 8, 10]] [[], [], [1], [1, 2], [1, 2, 3], [], [5], [5, 6], [1, 2, 3, 4, 5, 6, 7], [0, 1, 2, 3, 4, 5, 6, 7, 8], [0, 1, 2, 3, 4, 5, 6, 7, 8, 9], [0, 1, 2, 3, 4, 5, 6, 7, 8, 9, 10]] (fun a0_ bb aa ww => ∃ (A6 : Option Addr) (c6 : Nat) (A7 : Option Addr) (c7 : Nat) (gb : Nat) (gq : Nat) (cq : Nat), aa = Reg.fill bb [(0, 20, .pointer (some ⟨Y, 0, none⟩)), (1, 21, .pointer (some ⟨Y, 0, none⟩)), (2, 22, .pointer (some ⟨Y, 0, none⟩)), (3, 23, .pointer (some ⟨Y, 1, none⟩)), (4, 24, .slice Af y1.facts.length cf), (5, 25, .agg #[.string f.kind, .slice A f.names.length c, .slice A' f.vals.length c']), (6, 26, .agg #[.string f.kind, .slice A6 f.names.length c6, .slice A7 f.vals.length c7]), (7, 27, .slice (some ⟨gb, 0, none⟩) 1 1), (8, 28, .slice (some ⟨gq, 0, none⟩) (y1.facts.length + 1) cq), (9, 29, .pointer (some ⟨Y, 0, none⟩)), (10, 30, .pointer (some ⟨Y, 1, none⟩))] a0_ ∧ D5 f Y M (.slice Af y1.facts.length cf) W2 y1 bb ww A6 c6 A7 c7 gb gq cq) (by kernel_rfl) (by kernel_rfl) (by kernel_rfl) ?_ ?_ ?_
  · exact ⟨none, 0, none, 0, 0, 0, 0, Reg.fill_start.symm, D5.start⟩
  · refine Reg.steps_cons (i := 0) ?_ ?_
    · rintro bb aa ww ⟨A6, c6, A7, c7, gb, gq, cq, ha, HW⟩ hb hd hn
      have e0 : aa.tmps[0]? = some (.pointer (some ⟨Y, 0, none⟩)) := by rw [ha]; exact (Reg.fill_off rfl).trans rfl
      have HA := Lib.hid ha
      clear ha
      refine ⟨_, rfl, fun K hK => ?_⟩
      refine Reg.do_val rfl rfl (v := .pointer (some ⟨Y, 0, none⟩)) (w1 := ww) (by simp only [List.getElem_toArray, List.getElem_cons_zero, execOp, Reg.eval_tmp e0]; rfl) ?_
      exact hK.out _ _ ⟨A6, c6, A7, c7, gb, gq, cq, by rw [HA.out]; exact Reg.fill_up 0 hb rfl rfl rfl, HW.keep (show 0 ∉ [6, 7, 8, 11] by decide)⟩
    refine Reg.steps_cons (i := 1) ?_ ?_
    · rintro bb aa ww ⟨A6, c6, A7, c7, gb, gq, cq, ha, HW⟩ hb hd hn
      have e0 : aa.tmps[0]? = some (.pointer (some ⟨Y, 0, none⟩)) := by rw [ha]; exact (Reg.fill_off rfl).trans rfl
      have HA := Lib.hid ha
      clear ha
      refine ⟨_, rfl, fun K hK => ?_⟩
      refine Reg.do_val rfl rfl (v := .pointer (some ⟨Y, 0, none⟩)) (w1 := ww) (by simp only [List.getElem_toArray, List.getElem_cons_succ, List.getElem_cons_zero, execOp, Reg.eval_tmp e0]; rfl) ?_
      exact hK.out _ _ ⟨A6, c6, A7, c7, gb, gq, cq, by rw [HA.out]; exact Reg.fill_up 1 hb rfl rfl rfl, HW.keep (show 1 ∉ [6, 7, 8, 11] by decide)⟩
    refine Reg.steps_cons (i := 2) ?_ ?_
    · rintro bb aa ww ⟨A6, c6, A7, c7, gb, gq, cq, ha, HW⟩ hb hd hn
      have e21 : aa.tmps[21]? = some (.pointer (some ⟨Y, 0, none⟩)) := by rw [ha]; exact Reg.fill_on 1 rfl rfl (hd 1 (by decide)) rfl
      have HA := Lib.hid ha
      clear ha
      refine ⟨_, rfl, fun K hK => ?_⟩
      refine Reg.do_val rfl rfl (v := .pointer (some ⟨Y, 0, none⟩)) (w1 := ww) ?_ ?_
      · simp only [List.getElem_toArray, List.getElem_cons_succ, List.getElem_cons_zero, execOp, Reg.eval_tmp e21]
        go_simp
      exact hK.out _ _ ⟨A6, c6, A7, c7, gb, gq, cq, by rw [HA.out]; exact Reg.fill_up 2 hb rfl rfl rfl, HW.keep (show 2 ∉ [6, 7, 8, 11] by decide)⟩
    refine Reg.steps_cons (i := 3) ?_ ?_
    · rintro bb aa ww ⟨A6, c6, A7, c7, gb, gq, cq, ha, HW⟩ hb hd hn
      have e22 : aa.tmps[22]? = some (.pointer (some ⟨Y, 0, none⟩)) := by rw [ha]; exact Reg.fill_on 2 rfl rfl (hd 2 (by decide)) rfl
      have HA := Lib.hid ha
      clear ha
      refine ⟨_, rfl, fun K hK => ?_⟩
      refine Reg.do_val rfl rfl (v := .pointer (some ⟨Y, 1, none⟩)) (w1 := ww) ?_ ?_
      · simp only [List.getElem_toArray, List.getElem_cons_succ, List.getElem_cons_zero, execOp, Reg.eval_tmp e22]
        go_simp
      exact hK.out _ _ ⟨A6, c6, A7, c7, gb, gq, cq, by rw [HA.out]; exact Reg.fill_up 3 hb rfl rfl rfl, HW.keep (show 3 ∉ [6, 7, 8, 11] by decide)⟩
    refine Reg.steps_cons (i := 4) ?_ ?_
    · rintro bb aa ww ⟨A6, c6, A7, c7, gb, gq, cq, ha, HW⟩ hb hd hn
      have e23 : aa.tmps[23]? = some (.pointer (some ⟨Y, 1, none⟩)) := by rw [ha]; exact Reg.fill_on 3 rfl rfl (hd 3 (by decide)) rfl
      have HA := Lib.hid ha
      clear ha
      refine ⟨_, rfl, fun K hK => ?_⟩
      have y1c := (row_cells ((HY2.out.below (HW.pre (hn 8 (by decide)))).row)).1 1
      refine Reg.do_val rfl rfl (v := .slice Af y1.facts.length cf) (w1 := ww) ?_ ?_
      · simp only [List.getElem_toArray, List.getElem_cons_succ, List.getElem_cons_zero, execOp, Reg.eval_tmp e23]
        go_simp
      exact hK.out _ _ ⟨A6, c6, A7, c7, gb, gq, cq, by rw [HA.out]; exact Reg.fill_up 4 hb rfl rfl rfl, HW.keep (show 4 ∉ [6, 7, 8, 11] by decide)⟩
    refine Reg.steps_cons (i := 5) ?_ ?_
    · rintro bb aa ww ⟨A6, c6, A7, c7, gb, gq, cq, ha, HW⟩ hb hd hn
      have e3 : aa.tmps[3]? = some (.pointer (some ⟨w.heap.size, 0, none⟩)) := by rw [ha]; exact (Reg.fill_off rfl).trans rfl
      have HA := Lib.hid ha
      clear ha
      refine ⟨_, rfl, fun K hK => ?_⟩
      refine Reg.do_load rfl rfl 39 _ rfl w.heap.size (Reg.eval_tmp e3) (row_after (HW.pre (hn 8 (by decide))) RF2.out) Tryz.underlying39 rfl (by kernel_rfl) ?_
      exact hK.out _ _ ⟨A6, c6, A7, c7, gb, gq, cq, by rw [HA.out]; exact Reg.fill_up 5 hb rfl rfl rfl, HW.keep (show 5 ∉ [6, 7, 8, 11] by decide)⟩
    refine Reg.steps_cons (i := 6) ?_ ?_
    · rintro bb aa ww ⟨A6, c6, A7, c7, gb, gq, cq, ha, HW⟩ hb hd hn
      have e25 : aa.tmps[25]? = some (.agg #[.string f.kind, .slice A f.names.length c, .slice A' f.vals.length c']) := by rw [ha]; exact Reg.fill_on 5 rfl rfl (hd 5 (by decide)) rfl
      have HA := Lib.hid ha
      clear ha
      refine ⟨_, rfl, fun K hK => ?_⟩
      refine Reg.do_call rfl rfl Tryz.func31 (by kernel_rfl) rfl #[.agg #[.string f.kind, .slice A f.names.length c, .slice A' f.vals.length c']] rfl (by simp [Reg.eval_tmp e25]) ?_
      refine (HCL.out ww (HW.pre (hn 8 (by decide)))).mono ?_; rintro e w3 ⟨nv', vv', rfl, hr1, hr2, hb3⟩; obtain ⟨A6', c6', e6, _⟩ := id hr1; obtain ⟨A7', c7', e7, _⟩ := id hr2; rw [HLN.out.1] at e6; rw [HLN.out.2] at e7; subst e6 e7; refine ⟨_, rfl, ?_⟩
      exact hK.out _ _ ⟨A6', c6', A7', c7', gb, gq, cq, by rw [HA.out]; exact Reg.fill_up 6 hb rfl rfl rfl, HW.clone (hn 7 (by decide)) (hn 8 (by decide)) (hn 11 (by decide)) hr1 hr2 hb3⟩
    refine Reg.steps_cons (i := 7) ?_ ?_
    · rintro bb aa ww ⟨A6, c6, A7, c7, gb, gq, cq, ha, HW⟩ hb hd hn
      have e26 : aa.tmps[26]? = some (.agg #[.string f.kind, .slice A6 f.names.length c6, .slice A7 f.vals.length c7]) := by rw [ha]; exact Reg.fill_on 6 rfl rfl (hd 6 (by decide)) rfl
      have HA := Lib.hid ha
      clear ha
      refine ⟨_, rfl, fun K hK => ?_⟩
      refine Reg.do_val rfl rfl (v := .slice (some ⟨ww.heap.size, 0, none⟩) 1 1) (w1 := ww.alloc (.cells #[.string f.kind, .slice A6 f.names.length c6, .slice A7 f.vals.length c7] 39)) ?_ ?_
      · simp only [List.getElem_toArray, List.getElem_cons_succ, List.getElem_cons_zero, execOp]
        go_simp
      exact hK.out _ _ ⟨A6, c6, A7, c7, ww.heap.size, gq, cq, by rw [HA.out]; exact Reg.fill_up 7 hb rfl rfl rfl, HW.build (hn 8 (by decide)) (hn 11 (by decide))⟩
    refine Reg.steps_cons (i := 8) ?_ ?_
    · rintro bb aa ww ⟨A6, c6, A7, c7, gb, gq, cq, ha, HW⟩ hb hd hn
      have e24 : aa.tmps[24]? = some (.slice Af y1.facts.length cf) := by rw [ha]; exact Reg.fill_on 4 rfl rfl (hd 4 (by decide)) rfl
      have e27 : aa.tmps[27]? = some (.slice (some ⟨gb, 0, none⟩) 1 1) := by rw [ha]; exact Reg.fill_on 7 rfl rfl (hd 7 (by decide)) rfl
      have HA := Lib.hid ha
      clear ha
      refine ⟨_, rfl, fun K hK => ?_⟩
      obtain ⟨gq', cq', w3, hrun, hfo, hgr, hat⟩ := HW.append HY2.out HFL.out (hd 6 (by decide)) (hd 7 (by decide)) hb
      refine Reg.do_append rfl rfl rfl (Reg.eval_tmp e24) (Reg.eval_tmp e27) hrun ?_
      exact hK.out _ _ ⟨A6, c6, A7, c7, gb, gq', cq', by rw [HA.out]; exact Reg.fill_up 8 hb rfl rfl rfl, HW.app hb (hn 11 (by decide)) hfo hgr hat⟩
    refine Reg.steps_cons (i := 9) ?_ ?_
    · rintro bb aa ww ⟨A6, c6, A7, c7, gb, gq, cq, ha, HW⟩ hb hd hn
      have e20 : aa.tmps[20]? = some (.pointer (some ⟨Y, 0, none⟩)) := by rw [ha]; exact Reg.fill_on 0 rfl rfl (hd 0 (by decide)) rfl
      have HA := Lib.hid ha
      clear ha
      refine ⟨_, rfl, fun K hK => ?_⟩
      refine Reg.do_val rfl rfl (v := .pointer (some ⟨Y, 0, none⟩)) (w1 := ww) ?_ ?_
      · simp only [List.getElem_toArray, List.getElem_cons_succ, List.getElem_cons_zero, execOp, Reg.eval_tmp e20]
        go_simp
      exact hK.out _ _ ⟨A6, c6, A7, c7, gb, gq, cq, by rw [HA.out]; exact Reg.fill_up 9 hb rfl rfl rfl, HW.keep (show 9 ∉ [6, 7, 8, 11] by decide)⟩
    refine Reg.steps_cons (i := 10) ?_ ?_
    · rintro bb aa ww ⟨A6, c6, A7, c7, gb, gq, cq, ha, HW⟩ hb hd hn
      have e29 : aa.tmps[29]? = some (.pointer (some ⟨Y, 0, none⟩)) := by rw [ha]; exact Reg.fill_on 9 rfl rfl (hd 9 (by decide)) rfl
      have HA := Lib.hid ha
      clear ha
      refine ⟨_, rfl, fun K hK => ?_⟩
      refine Reg.do_val rfl rfl (v := .pointer (some ⟨Y, 1, none⟩)) (w1 := ww) ?_ ?_
      · simp only [List.getElem_toArray, List.getElem_cons_succ, List.getElem_cons_zero, execOp, Reg.eval_tmp e29]
        go_simp
      exact hK.out _ _ ⟨A6, c6, A7, c7, gb, gq, cq, by rw [HA.out]; exact Reg.fill_up 10 hb rfl rfl rfl, HW.keep (show 10 ∉ [6, 7, 8, 11] by decide)⟩
    refine Reg.steps_cons (i := 11) ?_ ?_
    · rintro bb aa ww ⟨A6, c6, A7, c7, gb, gq, cq, ha, HW⟩ hb hd hn
      have e30 : aa.tmps[30]? = some (.pointer (some ⟨Y, 1, none⟩)) := by rw [ha]; exact Reg.fill_on 10 rfl rfl (hd 10 (by decide)) rfl
      have e28 : aa.tmps[28]? = some (.slice (some ⟨gq, 0, none⟩) (y1.facts.length + 1) cq) := by rw [ha]; exact Reg.fill_on 8 rfl rfl (hd 8 (by decide)) rfl
      have HA := Lib.hid ha
      clear ha
      refine ⟨_, rfl, fun K hK => ?_⟩
      have HR := HW.row HY2.out (hd 8 (by decide)) hb
      have y1c := (row_cells HR).1 1
      have y1f := (row_cells HR).2 1
      refine Reg.do_skip rfl rfl (w1 := ww.setCell ⟨Y, 1, none⟩ (.slice (some ⟨gq, 0, none⟩) (y1.facts.length + 1) cq)) ?_ ?_
      · simp only [List.getElem_toArray, List.getElem_cons_succ, List.getElem_cons_zero, execOp, Reg.eval_tmp e30, Reg.eval_tmp e28]
        go_simp
      exact hK.out _ _ ⟨A6, c6, A7, c7, gb, gq, cq, by rw [HA.out]; exact Reg.fill_none rfl, HW.store HY2.out (hd 8 (by decide)) hb⟩
    exact trivial
  rintro bb aa W5 hall ⟨A6, c6, A7, c7, gb, gq, cq, ha, HW⟩
  have HST := Lib.hid (HW.st (hall 11 (by decide)))
  clear HW RF2
  have hb0 := hall 0 (by decide)
  have hb1 := hall 1 (by decide)
  have hb2 := hall 2 (by decide)
  have hb3 := hall 3 (by decide)
  have hb4 := hall 4 (by decide)
  have hb5 := hall 5 (by decide)
  have hb6 := hall 6 (by decide)
  have hb7 := hall 7 (by decide)
  have hb8 := hall 8 (by decide)
  have hb9 := hall 9 (by decide)
  have hb10 := hall 10 (by decide)
  have hb11 := hall 11 (by decide)
  simp only [Reg.fill, hb0, hb1, hb2, hb3, hb4, hb5, hb6, hb7, hb8, hb9, hb10, if_true, Act.put, List.setIfInBounds_toArray, List.set_cons_zero, List.set_cons_succ] at ha
  clear hb0 hb1 hb2 hb3 hb4 hb5 hb6 hb7 hb8 hb9 hb10 hb11 hall
  subst ha
  go_wp2_with fail
  go_ret
  refine ⟨rfl, gq, cq, ?_, ?_, ?_⟩
  · rw [HS1.out, HL1.out]
    exact HST.out.1
  · refine (HS2.out.mono fun i hi => hi.elim .inl fun h => .inr (.inl h)).trans (HST.out.2.1.mono fun i hi => .inr (hi.imp id fun h => ?_))
    rw [HL1.out]
    exact h
  · rw [HL1.out]
    exact HST.out.2.2.imp id fun h => Nat.le_trans HS2.out.size h
end Go.Proofs.YtejhcbbfdfnfdaaGreatDoor.Yard

/- New and Find. -/
namespace Go.Proofs.YtejhcbbfdfnfdaaGreatDoor.Yard
open Go.RowKit Go.Proofs.YtejhcbbfdfnfdaaGreatDoor.Base Go.Proofs.YtejhcbbfdfnfdaaGreatDoor.Mp
open Yp (It Yd Fact Bx)
set_option maxRecDepth 100000 in
theorem new_any (w : World) : Calls Tryz.prog 13 #[] w fun e w' => ∃ Y M : Nat, e = .returned (.pointer (some ⟨Y, 0, none⟩)) ∧ YAt w' Y M (.slice none 0 0) Yp.yNew ∧ Below w.heap.size w w' ∧ w.heap.size ≤ Y ∧ w.heap.size ≤ M := by
  have hmk : (Instr.makeMap 70 none).run Tryz.prog w = .ok (.map (some w.heap.size)) (w.alloc (.map #[] 0)) := by rfl
  go_enter Tryz.func13, Tryz.ntmps13
  go_wp2_with fail
  go_ret
  refine ⟨_, w.heap.size, rfl, ⟨?_, ?_, ?_⟩, ?_, by simp, Nat.le_refl _⟩
  · exact new_block2 _ _ _
  · exact IsMap.alloc (isMap_new w) _
  · exact ⟨[], rfl, World.ownsRow_nil _ _ _ _, fun c hc => absurd hc List.not_mem_nil⟩
  · exact ((Below.refl _ _).alloc (Nat.le_refl _) _).alloc (by simp) _
set_option maxRecDepth 100000 in
set_option maxHeartbeats 2000000 in
theorem find_found {w : World} {Y M : Nat} {FS : Value} {y : Yd} (hy : YAt w Y M FS y) {id : ByteArray} {x : It} (hx : Yp.look y.items id = some x) :
    Calls Tryz.prog 16 #[.pointer (some ⟨Y, 0, none⟩), .string id] w fun e w' => e = .returned (.tuple #[.agg (itC x), .int .i64 0]) ∧ Below w.heap.size w w' := by
  have hl := look_found (w := w.alloc (.cells #[.string ⟨#[]⟩, .string ⟨#[]⟩, .int .i64 0, .int .i64 0, .int .i64 0, .int .i64 0, .int .i64 0, .int .i64 0, .int .i64 0, .string ⟨#[]⟩] 47)) (hy.below ((Below.refl _ _).alloc (Nat.le_refl _) _)).map hx true
  have y0 := (row_cells (hy.below ((Below.refl _ _).alloc (Nat.le_refl _) (.cells #[.string ⟨#[]⟩, .string ⟨#[]⟩, .int .i64 0, .int .i64 0, .int .i64 0, .int .i64 0, .int .i64 0, .int .i64 0, .int .i64 0, .string ⟨#[]⟩] 47))).row).1 0
  obtain ⟨x1, x2, ⟨b0, b1, b2, b3, b4, b5⟩, x3, x4⟩ := x
  simp only [itC, if_true] at hl ⊢
  clear hy hx
  go_enter Tryz.func16, Tryz.ntmps16
  go_wp2_with fail
  refine bodyPost_ret (v := .tuple #[.agg #[.string x1, .string x2, .int .i64 b0, .int .i64 b1, .int .i64 b2, .int .i64 b3, .int .i64 b4, .int .i64 b5, .int .i64 x3, .string x4], .int .i64 0]) ?_ rfl ⟨rfl, ?_⟩
  · simp [results, Tryz.results16, go_sem, *]
  · (repeat' (first | (with_reducible exact Below.refl _ _) | (with_reducible refine Below.drew ?_) | (with_reducible refine Below.setCell ?_ ?_ _) | (with_reducible refine Below.alloc ?_ ?_ _) | (simp; done) | (simp; omega)))
set_option maxRecDepth 100000 in
set_option maxHeartbeats 2000000 in
theorem find_missed {w : World} {Y M : Nat} {FS : Value} {y : Yd} (hy : YAt w Y M FS y) {id : ByteArray} (hx : Yp.look y.items id = none) :
    Calls Tryz.prog 16 #[.pointer (some ⟨Y, 0, none⟩), .string id] w fun e w' => e = .returned (.tuple #[.agg #[.string ⟨#[]⟩, .string ⟨#[]⟩, .int .i64 0, .int .i64 0, .int .i64 0, .int .i64 0, .int .i64 0, .int .i64 0, .int .i64 0, .string ⟨#[]⟩], .int .i64 3]) ∧ Below w.heap.size w w' := by
  have hl := look_missed (w := w.alloc (.cells #[.string ⟨#[]⟩, .string ⟨#[]⟩, .int .i64 0, .int .i64 0, .int .i64 0, .int .i64 0, .int .i64 0, .int .i64 0, .int .i64 0, .string ⟨#[]⟩] 47)) (hy.below ((Below.refl _ _).alloc (Nat.le_refl _) _)).map hx true
  have y0 := (row_cells (hy.below ((Below.refl _ _).alloc (Nat.le_refl _) (.cells #[.string ⟨#[]⟩, .string ⟨#[]⟩, .int .i64 0, .int .i64 0, .int .i64 0, .int .i64 0, .int .i64 0, .int .i64 0, .int .i64 0, .string ⟨#[]⟩] 47))).row).1 0
  simp only [if_true] at hl
  clear hy hx
  go_enter Tryz.func16, Tryz.ntmps16
  go_wp2_with fail
  refine bodyPost_ret (v := .tuple #[.agg #[.string ⟨#[]⟩, .string ⟨#[]⟩, .int .i64 0, .int .i64 0, .int .i64 0, .int .i64 0, .int .i64 0, .int .i64 0, .int .i64 0, .string ⟨#[]⟩], .int .i64 3]) ?_ rfl ⟨rfl, ?_⟩
  · simp [results, Tryz.results16, go_sem, *]
  · (repeat' (first | (with_reducible exact Below.refl _ _) | (with_reducible refine Below.drew ?_) | (with_reducible refine Below.setCell ?_ ?_ _) | (with_reducible refine Below.alloc ?_ ?_ _) | (simp; done) | (simp; omega)))
end Go.Proofs.YtejhcbbfdfnfdaaGreatDoor.Yard
