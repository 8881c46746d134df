/- A fact is laid behind the others. -/
import Derived.Test.YtejhcbbfdfnfdaaGreatDoorR18
import Derived.Maps.AppendAt
/- What a possible fact does, kind by kind. -/
namespace Go.Proofs.YtejhcbbfdfnfdaaGreatDoor.Yard
open Go.RowKit Go.Proofs.YtejhcbbfdfnfdaaGreatDoor.Base Go.Proofs.YtejhcbbfdfnfdaaGreatDoor.Mp
open Yp (It Yd Fact Bx)
def doN : Nat → Nat
  | 0 => 53
  | 1 => 55
  | 2 => 57
  | 3 => 59
  | 4 => 60
  | _ => 61
theorem doV_eq (k : Nat) : doV k = .func (.func (doN k)) #[] #[] := by rcases k with _ | _ | _ | _ | _ | k <;> rfl
theorem check_zero {y : Yd} {f : Fact} (h : Yp.check y f = 0) : ∃ k, Yp.kindNo f.kind = some k ∧ f.names.length = Yp.nNames k ∧ f.vals.length = Yp.nVals k ∧ (f.names.any fun s => !Yp.isName s) = false := by
  obtain ⟨kd, ns, vs⟩ := f
  cases hk : Yp.kindNo kd with
  | none => rw [Yp.check_out hk] at h; cases h
  | some k =>
    refine ⟨k, rfl, ?_⟩
    by_cases h1 : ns.length = Yp.nNames k
    · by_cases h2 : vs.length = Yp.nVals k
      · refine ⟨h1, h2, ?_⟩
        cases hb : (ns.any fun s => !Yp.isName s) with
        | false => rfl
        | true => rw [Yp.check_bad hk h1 h2 hb] at h; cases h
      · rw [Yp.check_shape hk (.inr h2)] at h; cases h
    · rw [Yp.check_shape hk (.inl h1)] at h; cases h
theorem free_zero {y : Yd} {kd : ByteArray} {ns : List ByteArray} {vs : List Int} (h : Yp.check y ⟨kd, ns, vs⟩ = 0) (hk : Yp.kindNo kd = some 0) : Yp.look y.items (ns.getD 0 Yp.es) = none := by
  obtain ⟨k, h0, h1, h2, h3⟩ := check_zero h
  simp only at h0 h1 h2 h3
  rw [hk] at h0
  injection h0 with h0
  subst h0
  rw [Yp.check_free hk h1 h2 h3] at h
  unfold Yp.freeErr at h
  cases hl : Yp.look y.items (ns.getD 0 Yp.es) with
  | none => rfl
  | some x => rw [hl] at h; simp at h
theorem found_zero {y : Yd} {kd : ByteArray} {ns : List ByteArray} {vs : List Int} {k : Nat} (h : Yp.check y ⟨kd, ns, vs⟩ = 0) (hk : Yp.kindNo kd = some k) (h0 : k ≠ 0) :
    ∃ x, Yp.look y.items (ns.getD 0 Yp.es) = some x ∧ (k = 1 → Yp.cutErr y.items x ⟨kd, ns, vs⟩ = 0) := by
  obtain ⟨k', hk', h1, h2, h3⟩ := check_zero h
  simp only at hk' h1 h2 h3
  rw [hk] at hk'
  injection hk' with e
  subst e
  cases hl : Yp.look y.items (ns.getD 0 Yp.es) with
  | none => rw [Yp.check_miss hk h1 h2 h3 h0 hl] at h; cases h
  | some x =>
    refine ⟨x, rfl, fun e => ?_⟩
    rw [Yp.check_found hk h1 h2 h3 h0 hl] at h
    subst e
    by_cases ha : Yp.allowed 1 x.st = false
    · rw [if_pos ha] at h; cases h
    · rw [if_neg ha, if_pos rfl] at h; exact h
theorem es_eq : (⟨#[]⟩ : ByteArray) = Yp.es := rfl
theorem do_all {w : World} {Y M : Nat} {FS : Value} {y : Yd} (hy : YAt w Y M FS y) (hi : Yp.Inv y) (X : Nat → Prop) (hX : ∀ b, X b → b ≠ M ∧ b ≠ Y) (f : Fact) (nv vv : Value) (hn : Rd w X nv (strV f.names)) (hv : Rd w X vv (intV f.vals)) (hc : Yp.check y f = 0) {k : Nat} (hk : Yp.kindNo f.kind = some k) :
    Calls Tryz.prog (doN k) #[.pointer (some ⟨Y, 0, none⟩), .agg #[.string f.kind, nv, vv]] w fun e w' => e = .returned (.tuple #[]) ∧ YAt w' Y M FS ⟨Yp.applyItems y.items f k, y.facts, Yp.applyKerfs y f k⟩ ∧ Stay (fun i => i = M ∨ i = Y) w w' := by
  have hinv := Yp.inv_step hi f
  obtain ⟨kd, ns, vs⟩ := f
  obtain ⟨k', hk', h1, h2, h3⟩ := check_zero hc
  simp only at hk hk' h1 h2 h3 hn hv
  rw [hk] at hk'
  injection hk' with e
  subst e
  have hu : Uniq y := hi.uniq
  rcases kindNo_cases hk with ⟨_, rfl⟩ | ⟨_, rfl⟩ | ⟨_, rfl⟩ | ⟨_, rfl⟩ | ⟨_, rfl⟩ | ⟨_, rfl⟩
  · have hl := free_zero hc hk
    obtain ⟨n0, rfl⟩ := len1 h1
    obtain ⟨v0, v1, v2, v3, v4, v5, rfl⟩ := len6 h2
    exact (free_any hy X kd n0 v0 v1 v2 v3 v4 v5 nv vv hn hv hl fun b hb => (hX b hb).1).mono fun e w' h => ⟨h.1, h.2.1, h.2.2.mono fun i hi => .inl hi⟩
  · obtain ⟨x, hl, hce⟩ := found_zero hc hk (by decide)
    replace hce := hce rfl
    obtain ⟨n0, n1, n2, rfl⟩ := len3 h1
    obtain ⟨v0, v1, v2, rfl⟩ := len3 h2
    replace hce : (if (Yp.look y.items n1).isSome ∨ (Yp.look y.items n2).isSome ∨ n1 = n2 then (5 : Int) else Yp.kerfCheck x.bx v0 v1 v2) = 0 := hce
    have hdup : ¬ ((Yp.look y.items n1).isSome ∨ (Yp.look y.items n2).isSome ∨ n1 = n2) := by
      intro g
      rw [if_pos g] at hce
      cases hce
    have hkc : Yp.kerfCheck x.bx v0 v1 v2 = 0 := by
      rw [if_neg hdup] at hce
      exact hce
    simp only [not_or] at hdup
    obtain ⟨d1, d2, d12⟩ := hdup
    have hcuts := Yp.kerfCheck_cuts hkc
    obtain ⟨n, rfl, hn3⟩ : ∃ n : Nat, v0 = n ∧ n < 3 := by
      rcases hcuts.ax with h | h | h
      · exact ⟨0, h, by decide⟩
      · exact ⟨1, h, by decide⟩
      · exact ⟨2, h, by decide⟩
    have hkc' : Kerf.kcE x.bx.x0 x.bx.y0 x.bx.z0 x.bx.x1 x.bx.y1 x.bx.z1 n v1 v2 = 0 := by rw [Bridge.kerf_eq]; exact hkc
    have hg := Bridge.gone_eq x.bx n hn3 v1 v2
    obtain ⟨g0, g1, g2, g3, g4, g5, hg', hr⟩ := Kerf.gn_rng hkc'
    have hr : Kerf.Rng (Yp.gone x.bx n v1 v2).x0 (Yp.gone x.bx n v1 v2).y0 (Yp.gone x.bx n v1 v2).z0 (Yp.gone x.bx n v1 v2).x1 (Yp.gone x.bx n v1 v2).y1 (Yp.gone x.bx n v1 v2).z1 := by
      rw [hg] at hg'
      simp only [Array.mk.injEq, List.cons.injEq, Value.int.injEq, true_and, and_true] at hg'
      obtain ⟨e0, e1, e2, e3, e4, e5⟩ := hg'
      rw [e0, e1, e2, e3, e4, e5]
      exact hr
    have hstep : Yp.step y ⟨kd, [n0, n1, n2], [(n : Int), v1, v2]⟩ = Yp.apply y ⟨kd, [n0, n1, n2], [(n : Int), v1, v2]⟩ := by unfold Yp.step; rw [if_pos hc]
    have hkf : (Yp.step y ⟨kd, [n0, n1, n2], [(n : Int), v1, v2]⟩).kerfs = y.kerfs + (Yp.gone x.bx n v1 v2).vol := by
      rw [hstep]
      unfold Yp.apply
      simp only [hk]
      unfold Yp.applyKerfs
      rw [if_pos rfl, show Yp.nm (⟨kd, [n0, n1, n2], [(n : Int), v1, v2]⟩ : Fact) 0 = n0 from rfl, show Yp.look y.items n0 = some x from hl]
      rfl
    have hle := Yp.kerfs_le hinv
    have hpos := hinv.pos
    rw [hkf] at hle hpos
    refine (cut_any hy hu X hX kd n0 n1 n2 n v1 v2 nv vv hn hv hl (by simpa using d1) (by simpa using d2) d12 rfl hkc' (Bridge.set_lo x.bx n hn3 v1) (Bridge.set_hi x.bx n hn3 (v1 + v2)) hg hr ⟨hpos, by omega⟩ rfl).mono fun e w' h => ⟨h.1, ?_, h.2.2⟩
    have h' := h.2.1
    unfold Yp.applyItems Yp.applyKerfs
    rw [if_pos rfl, show Yp.nm (⟨kd, [n0, n1, n2], [(n : Int), v1, v2]⟩ : Fact) 0 = n0 from rfl, show Yp.look y.items n0 = some x from hl]
    exact h'
  · obtain ⟨x, hl, _⟩ := found_zero hc hk (by decide)
    obtain ⟨n0, n1, rfl⟩ := len2 h1
    exact (k1_any hy hu X kd n0 n1 nv vv hn hl).mono fun e w' h => ⟨h.1, h.2.1, h.2.2.mono fun i hi => .inl hi⟩
  · obtain ⟨x, hl, _⟩ := found_zero hc hk (by decide)
    obtain ⟨n0, rfl⟩ := len1 h1
    exact (k2_any hy hu X kd n0 nv vv hn hl).mono fun e w' h => ⟨h.1, h.2.1, h.2.2.mono fun i hi => .inl hi⟩
  · obtain ⟨x, hl, _⟩ := found_zero hc hk (by decide)
    obtain ⟨n0, rfl⟩ := len1 h1
    refine (k3_any hy hu X kd n0 nv vv hn hl).mono fun e w' h => ⟨h.1, ?_, h.2.2.mono fun i hi => .inl hi⟩
    have h' := h.2.1
    unfold Yp.applyItems
    rw [show Yp.nm (⟨kd, [n0], vs⟩ : Fact) 0 = n0 from rfl, show Yp.look y.items n0 = some x from hl]
    exact h'
  · obtain ⟨x, hl, _⟩ := found_zero hc hk (by decide)
    obtain ⟨n0, rfl⟩ := len1 h1
    exact (k4_any hy hu X kd n0 nv vv hn hl).mono fun e w' h => ⟨h.1, h.2.1, h.2.2.mono fun i hi => .inl hi⟩
end Go.Proofs.YtejhcbbfdfnfdaaGreatDoor.Yard

/- A fact is laid behind the others. -/
namespace Go.Proofs.YtejhcbbfdfnfdaaGreatDoor.Yard
open Go.RowKit Go.Proofs.YtejhcbbfdfnfdaaGreatDoor.Base Go.Proofs.YtejhcbbfdfnfdaaGreatDoor.Mp
open Yp (It Yd Fact Bx)
set_option maxRecDepth 100000 in
theorem FactsOwn.snoc {W : World} {Y M : Nat} {FS : Value} {l : List Fact} (h : FactsOwn W Y M FS l) (hl : l.length < 4096) (f : Fact) (X : Nat → Prop) {nv vv : Value} (hn : Rd W X nv (strV f.names)) (hv : Rd W X vv (intV f.vals))
    (hX : ∀ b, b < W.heap.size → X b → b ≠ Y ∧ b ≠ M ∧ FS.ownBlock ≠ some b) {g : Nat} (hg : W.heap[g]? = some (.cells #[.string f.kind, nv, vv] 39 (0, 0))) (ty : TypeId) :
    ∃ gq cq w', (Builtin.append_ #[22, 22] ty #[FS, .slice (some ⟨g, 0, none⟩) 1 1]).run Tryz.prog W = .ok (.slice (some ⟨gq, 0, none⟩) (l.length + 1) cq) w' ∧ FactsOwn w' Y M (.slice (some ⟨gq, 0, none⟩) (l.length + 1) cq) (l ++ [f]) ∧ W.grownBy w' FS.ownBlock ∧ (FS.ownBlock = some gq ∨ gq = W.heap.size) := by
  obtain ⟨cs, h1, h2, h3⟩ := h
  obtain ⟨i0, hi, hz0, hz1, hz2⟩ : ∃ i, Tryz.prog.info? 39 = some i ∧ i.zero = some (.agg #[.string { data := #[] }, .slice none 0 0, .slice none 0 0]) ∧ i.size = 3 ∧ i.bytes = 64 := ⟨_, rfl, rfl, rfl, rfl⟩
  have o1 : nv.oneCell' = true := by obtain ⟨A, c, e, _⟩ := hn; rw [e]; rfl
  have o2 : vv.oneCell' = true := by obtain ⟨A, c, e, _⟩ := hv; rw [e]; rfl
  obtain ⟨v', w', hrun, hown, hgrow, _, hat⟩ := run_append_own_at (P := Tryz.prog) (w := W) 0 22 ty 39 i0 _ 3 64 Tryz.underlying22 hi hz0 hz1 hz2 rfl (by decide) FS l.length (cs.flatMap FC.cells) h2 ⟨g, 0, none⟩ 1 1 [.string f.kind, nv, vv] rfl
    (by
      intro j u hj
      rw [add_lit, Nat.zero_add, (row_cells hg).1 j]
      simpa using hj)
    (by
      intro u hu
      simp only [List.mem_cons, List.not_mem_nil, or_false] at hu
      rcases hu with rfl | rfl | rfl
      · rfl
      · exact o1
      · exact o2)
    (by unfold maxLen; omega) (by omega) (Nat.zero_le _)
  have hform : ∃ gq cq, v' = .slice (some ⟨gq, 0, none⟩) (l.length + 1) cq := by
    rcases hown.2 with ⟨_, h⟩ | ⟨gq, cq, _, e, _⟩
    · omega
    · exact ⟨gq, cq, e⟩
  obtain ⟨gq, cq, rfl⟩ := hform
  have hat' : FS.ownBlock = some gq ∨ gq = W.heap.size := by
    rcases hat with h | h
    · exact .inl h.symm
    · exact .inr (by simpa [Value.ownBlock] using h)
  have keep : ∀ {v : Value} {xs : List Value} {Z : Nat → Prop}, Rd W Z v xs → (∀ b, b < W.heap.size → Z b → b ≠ Y ∧ b ≠ M ∧ FS.ownBlock ≠ some b) → Rd w' (fun b => b ≠ Y ∧ b ≠ M ∧ (Value.slice (some ⟨gq, 0, none⟩) (l.length + 1) cq).ownBlock ≠ some b) v xs := by
    intro v xs Z hr hZ
    have hr' : Rd W (fun b => (b ≠ Y ∧ b ≠ M ∧ (Value.slice (some ⟨gq, 0, none⟩) (l.length + 1) cq).ownBlock ≠ some b) ∧ FS.ownBlock ≠ some b) v xs := hr.mono fun b hb hz => by
      obtain ⟨a1, a2, a3⟩ := hZ b hb hz
      refine ⟨⟨a1, a2, ?_⟩, a3⟩
      intro e
      have e : gq = b := by simpa [Value.ownBlock] using e
      rcases hat' with h | h
      · exact a3 (by rw [h, e])
      · omega
    exact (hr'.after hgrow.size fun b hb hz => hgrow.block b hb (fun e => hz.2 e.symm)).mono fun b _ hz => hz.1
  refine ⟨gq, cq, w', hrun, ⟨cs ++ [⟨f, nv, vv⟩], by rw [List.map_append, h1]; rfl, ?_, ?_⟩, hgrow, hat'⟩
  · rw [List.flatMap_append, List.length_append]
    exact hown
  · intro c hc
    rcases List.mem_append.1 hc with hc | hc
    · exact ⟨keep (h3 c hc).1 fun b _ hz => hz, keep (h3 c hc).2 fun b _ hz => hz⟩
    · rw [List.mem_singleton] at hc
      subst hc
      exact ⟨keep hn hX, keep hv hX⟩
end Go.Proofs.YtejhcbbfdfnfdaaGreatDoor.Yard
