/- What YardKeeps rests on: a sorted list of items is one, the facts of a state are possible. -/
import Derived.Test.YtejhcbbfdfnfdaaGreatDoorR38
/- What the laws share: one more fact is done, and what was laid before stays. -/
namespace Go.Proofs.YtejhcbbfdfnfdaaGreatDoor.Yard
open Go.RowKit Go.Proofs.YtejhcbbfdfnfdaaGreatDoor.Base Go.Proofs.YtejhcbbfdfnfdaaGreatDoor.Mp
open Yp (It Yd Fact Bx)
theorem irow_rem {w W4 W5 : World} {Y M : Nat} {FS v : Value} {y : Yd} {l : List It} (h : IRow W5 W4.heap.size v l) (hy : AS w Y M FS y W4) :
    ∃ A c, v = .slice A l.length c ∧ (0 < l.length → ∃ (g : Nat) (cur : Array Value), A = some ⟨g, 0, none⟩ ∧ Rem W5 Y M FS g (.cells cur 47 (0, 0)) ∧ ∀ W : World, W.heap[g]? = some (.cells cur 47 (0, 0)) → ∀ (j : Nat) (x : It), l[j]? = some x → ItAt W g j x) := by
  rcases Go.Joins.ownsRow_forms h with ⟨rfl, h0⟩ | ⟨g, c, rfl⟩
  · exact ⟨none, 0, by rw [h0], fun h => by omega⟩
  · refine ⟨_, c, rfl, fun h0 => ?_⟩
    have hl := irow_lt h g rfl
    have hY := hy.yat.ltY
    have hM := hy.yat.ltM
    rcases id h.2 with ⟨e, _⟩ | ⟨g', cap, cur, hv, _, hg, _⟩
    · cases e
    · injection hv with e1 _ _
      injection e1 with e1
      injection e1 with e1
      subst e1
      refine ⟨g, cur, rfl, ⟨hg, by omega, by omega, fun e => by have := own_lt hy.yat e; omega⟩, fun W hW j x hj => ?_⟩
      have hc : ∀ i u, i < 10 → (itL x)[i]? = some u → W.cell? ⟨g, j * 10 + i, none⟩ = some u := fun i u hi hu => by
        have := World.ownsRow.cells h (g := g) rfl (j * 10 + i) u (by rw [flat10 l j i hi, hj]; exact hu)
        rw [add_lit, Nat.zero_add] at this
        rw [← this]
        exact World.cell?_of_block (a := ⟨g, _, none⟩) (hW.trans hg.symm)
      exact ⟨hc 0 _ (by decide) rfl, hc 1 _ (by decide) rfl, hc 2 _ (by decide) rfl, hc 3 _ (by decide) rfl, hc 4 _ (by decide) rfl, hc 5 _ (by decide) rfl, hc 6 _ (by decide) rfl, hc 7 _ (by decide) rfl, hc 8 _ (by decide) rfl, hc 9 _ (by decide) rfl⟩
theorem as_new {w w2 w3 : World} {Y M : Nat} {y : Yd} (hb : Below w.heap.size w w2) (hy : YOwn w2.heap.size w3 Y M y) (hb3 : Below w2.heap.size w2 w3) : ∃ FS, AS w Y M FS y w3 := by
  obtain ⟨⟨FS, h, hF⟩, hY, hM⟩ := hy
  exact ⟨FS, h, Nat.le_trans hb.size hY, Nat.le_trans hb.size hM, fun g e => Nat.le_trans hb.size (hF g e), hb.trans (hb3.mono hb.size)⟩
theorem do_step2 {w wr : World} {X : Nat → Prop} {v : Value} {l : List Fact} (hv : FLs w X v l) (hl : l.length ≤ 1000) (hsz : shortNames l) {k : Nat} (hlt : k < l.length) {Y M : Nat} {FS : Value} (hy : AS w Y M FS (Yp.steps Yp.yNew (l.take k)) wr) :
    ∃ (b o c : Nat) (nv vv : Value), v = .slice (some ⟨b, o, none⟩) l.length c ∧ (∀ W, Below w.heap.size w W → W.cell? ⟨b, o + k * 3, none⟩ = some (.string l[k].kind) ∧ W.cell? ⟨b, o + k * 3 + 1, none⟩ = some nv ∧ W.cell? ⟨b, o + k * 3 + 2, none⟩ = some vv ∧ Rd W (fun i => i < w.heap.size) nv (strV l[k].names) ∧ Rd W (fun i => i < w.heap.size) vv (intV l[k].vals)) ∧
      Calls Tryz.prog 14 #[.pointer (some ⟨Y, 0, none⟩), .agg #[.string l[k].kind, nv, vv]] wr fun e w' => e = .returned (.int .i64 (Yp.check (Yp.steps Yp.yNew (l.take k)) l[k])) ∧ ∃ FS', AS w Y M FS' (Yp.steps Yp.yNew (l.take (k + 1))) w' ∧ ∀ b o, Rem wr Y M FS b o → Rem w' Y M FS' b o := by
  obtain ⟨A, c, rfl, _, hcell⟩ := hv
  obtain ⟨b, o, rfl, hbl, _, hx⟩ := hcell (by omega)
  obtain ⟨nv, vv, d0, d1, d2, hnn, hvv⟩ := hx k _ (List.getElem?_eq_getElem hlt)
  have hnn := hnn.mono (X' := fun i => i < w.heap.size) fun i hi _ => hi
  have hvv := hvv.mono (X' := fun i => i < w.heap.size) fun i hi _ => hi
  have hbd := yd_bound l k hl
  have hinv : Yp.Inv (Yp.steps Yp.yNew (l.take k)) := Yp.inv_steps _ Yp.inv_new
  have hst : Yp.steps Yp.yNew (l.take (k + 1)) = Yp.step (Yp.steps Yp.yNew (l.take k)) l[k] := by rw [List.take_succ_eq_append_getElem hlt, Yp.steps_snoc]
  have hX : ∀ i, i < w.heap.size → i ≠ M ∧ i ≠ Y := fun i hi => ⟨by have := hy.hM; omega, by have := hy.hY; omega⟩
  refine ⟨b, o, c, nv, vv, rfl, fun W hb => ⟨(hb.cell (p := ⟨b, _, none⟩) hbl).trans d0, (hb.cell (p := ⟨b, _, none⟩) hbl).trans d1, (hb.cell (p := ⟨b, _, none⟩) hbl).trans d2, hnn.below hb, hvv.below hb⟩, ?_⟩
  rw [hst]
  by_cases hc : Yp.check (Yp.steps Yp.yNew (l.take k)) l[k] = 0
  · rw [hc]
    exact do_aw hy hinv hbd.1 hbd.2 l[k] nv vv ((hnn.below hy.be).mono fun i _ hi => hX i hi) ((hvv.below hy.be).mono fun i _ hi => hX i hi) (hsz _ (List.getElem_mem hlt)) hc
  · refine (do_refused hy.yat hinv hbd.1 hbd.2 _ l[k] nv vv (hnn.below hy.be) (hvv.below hy.be) (hsz _ (List.getElem_mem hlt)) hc).mono ?_
    rintro e w' ⟨rfl, hb'⟩
    have hs : Yp.step (Yp.steps Yp.yNew (l.take k)) l[k] = Yp.steps Yp.yNew (l.take k) := by unfold Yp.step; rw [if_neg hc]
    rw [hs]
    exact ⟨rfl, FS, hy.below hb', fun b o h => h.below hb'⟩
end Go.Proofs.YtejhcbbfdfnfdaaGreatDoor.Yard

/- What YardKeeps rests on: a sorted list of items is one, the facts of a state are possible. -/
namespace Go.Proofs.YtejhcbbfdfnfdaaGreatDoor.Yard
open Yp (It Yd Fact Bx)
theorem sorted_eq {l m k : List It} (h1 : l.Perm k) (h2 : m.Perm k) (s1 : l.Pairwise fun a b => lessI b a = false) (s2 : m.Pairwise fun a b => lessI b a = false) (hu : k.Pairwise fun a b => a.id ≠ b.id) : l = m := by
  refine List.Perm.eq_of_pairwise (le := fun a b => lessI b a = false) (fun a b ha hb e1 e2 => ?_) s1 s2 (h1.trans h2.symm)
  rw [lessI_eq] at e1 e2
  have e1 := of_decide_eq_false e1
  have e2 := of_decide_eq_false e2
  have e : a.id.toList = b.id.toList := List.le_antisymm (List.not_lt.1 e1) (List.not_lt.1 e2)
  have hid : a.id = b.id := by
    have := tl_beq a.id b.id
    rw [e] at this
    simpa using this
  exact Yp.uniq_eq hu (h1.mem_iff.1 ha) (h2.mem_iff.1 hb) hid
theorem rep_allOk : ∀ (l : List Fact) (y : Yd) (i : Nat), Yp.AllOk y l → rep y i l = (Yp.steps y l, -1)
  | [], _, _, _ => rfl
  | f :: l, y, i, h => by
    rw [rep, if_pos h.1, rep_allOk l _ _ h.2]
    rfl
theorem rep_own (l : List Fact) : rep Yp.yNew 0 (Yp.steps Yp.yNew l).facts = (Yp.steps Yp.yNew l, -1) := by
  have h := Yp.own_steps l Yp.own_new
  rw [rep_allOk _ _ _ h.1, h.2]
theorem facts_sub (l : List Fact) : ∀ (y : Yd), ∀ f ∈ (Yp.steps y l).facts, f ∈ y.facts ∨ f ∈ l := by
  induction l with
  | nil => intro y f hf; exact .inl hf
  | cons g l ih =>
    intro y f hf
    rcases ih (Yp.step y g) f hf with h | h
    · by_cases hc : Yp.check y g = 0
      · rw [Yp.step_facts hc] at h
        rcases List.mem_append.1 h with h | h
        · exact .inl h
        · rw [List.mem_singleton.1 h]; exact .inr List.mem_cons_self
      · unfold Yp.step at h
        rw [if_neg hc] at h
        exact .inl h
    · exact .inr (List.mem_cons_of_mem _ h)
theorem small_lens {l : List Fact} {n : Nat} (h : smallL l n = true) : ∀ f ∈ l, f.names.length ≤ 1000000 ∧ f.vals.length ≤ 1000000 := by
  unfold smallL at h
  rw [Bool.and_eq_true] at h
  intro f hf
  have h1 := List.all_eq_true.1 h.2 f hf
  unfold smallF at h1
  simp only [Bool.and_eq_true, decide_eq_true_eq] at h1
  omega
theorem kept_look {y : Yd} (h : Yp.Inv y) (f : Fact) {z : It} (hz : z ∈ y.items) : ∃ u, Yp.look (Yp.step y f).items z.id = some u ∧ (z.st = 4 → u = z) := by
  obtain ⟨u, hu, hid, hst⟩ := Yp.kept_step h f hz
  exact ⟨u, by rw [← hid]; exact Yp.look_mem (Yp.inv_step h f).uniq hu, hst⟩
/-- Stone, of the stone of an item. -/
theorem stone_of {w : World} {Y M : Nat} {FS : Value} {y : Yd} (hy : YAt w Y M FS y) (hi : Yp.Inv y) {z : It} (hz : z ∈ y.items) (hs : z.stone ≠ Yp.es) :
    Calls Tryz.prog 20 #[.pointer (some ⟨Y, 0, none⟩), .string z.stone] w fun e w' => e = .returned (.tuple #[.agg (itC z), .int .i64 0]) ∧ RowKit.Below w.heap.size w w' := by
  refine (stone_any hy z.stone).mono fun e w' ⟨h, hb⟩ => ⟨?_, hb⟩
  rcases h with ⟨x, hx, _, e1, e2⟩ | ⟨h | h, _⟩
  · rw [e2, Yp.stone_uniq hi.ston hx hz e1 (by rw [e1]; exact hs)]
  · exact absurd h hs
  · exact absurd rfl (h z hz)
end Go.Proofs.YtejhcbbfdfnfdaaGreatDoor.Yard
