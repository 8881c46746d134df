/- The kerfs of a cut. No program. -/
import Derived.Test.YtejhcbbfdfnfdaaGreatDoorA35
import Derived.Test.YtejhcbbfdfnfdaaGreatDoorA18
import Derived.Test.YtejhcbbfdfnfdaaGreatDoorA19
/- What the laws share: one more fact is done, and what was laid before stays. -/
namespace Go.Proofs.YtejhcbbfdfnfdaaGreatDoor.Yard
open Go.RowKit Go.Proofs.YtejhcbbfdfnfdaaGreatDoor.Base Go.Proofs.YtejhcbbfdfnfdaaGreatDoor.Mp
open Yp (It Yd Fact Bx)
theorem irow_rem {w W4 W5 : World} {Y M : Nat} {FS v : Value} {y : Yd} {l : List It} (h : IRow W5 W4.heap.size v l) (hy : AS w Y M FS y W4) :
    ∃ A c, v = .slice A l.length c ∧ (0 < l.length → ∃ (g : Nat) (cur : Array Value), A = some ⟨g, 0, none⟩ ∧ Rem W5 Y M FS g (.cells cur 47 (0, 0)) ∧ ∀ W : World, W.heap[g]? = some (.cells cur 47 (0, 0)) → ∀ (j : Nat) (x : It), l[j]? = some x → ItAt W g j x) := by
  rcases Go.Joins.ownsRow_forms h with ⟨rfl, h0⟩ | ⟨g, c, rfl⟩
  · exact ⟨none, 0, by rw [h0], fun h => by omega⟩
  · refine ⟨_, c, rfl, fun h0 => ?_⟩
    have hl := irow_lt h g rfl
    have hY := hy.yat.ltY
    have hM := hy.yat.ltM
    rcases id h.2 with ⟨e, _⟩ | ⟨g', cap, cur, hv, _, hg, _⟩
    · cases e
    · injection hv with e1 _ _
      injection e1 with e1
      injection e1 with e1
      subst e1
      refine ⟨g, cur, rfl, ⟨hg, by omega, by omega, fun e => by have := own_lt hy.yat e; omega⟩, fun W hW j x hj => ?_⟩
      have hc : ∀ i u, i < 10 → (itL x)[i]? = some u → W.cell? ⟨g, j * 10 + i, none⟩ = some u := fun i u hi hu => by
        have := World.ownsRow.cells h (g := g) rfl (j * 10 + i) u (by rw [flat10 l j i hi, hj]; exact hu)
        rw [add_lit, Nat.zero_add] at this
        rw [← this]
        exact World.cell?_of_block (a := ⟨g, _, none⟩) (hW.trans hg.symm)
      exact ⟨hc 0 _ (by decide) rfl, hc 1 _ (by decide) rfl, hc 2 _ (by decide) rfl, hc 3 _ (by decide) rfl, hc 4 _ (by decide) rfl, hc 5 _ (by decide) rfl, hc 6 _ (by decide) rfl, hc 7 _ (by decide) rfl, hc 8 _ (by decide) rfl, hc 9 _ (by decide) rfl⟩
theorem as_new {w w2 w3 : World} {Y M : Nat} {y : Yd} (hb : Below w.heap.size w w2) (hy : YOwn w2.heap.size w3 Y M y) (hb3 : Below w2.heap.size w2 w3) : ∃ FS, AS w Y M FS y w3 := by
  obtain ⟨⟨FS, h, hF⟩, hY, hM⟩ := hy
  exact ⟨FS, h, Nat.le_trans hb.size hY, Nat.le_trans hb.size hM, fun g e => Nat.le_trans hb.size (hF g e), hb.trans (hb3.mono hb.size)⟩
theorem do_step2 {w wr : World} {X : Nat → Prop} {v : Value} {l : List Fact} (hv : FLs w X v l) (hl : l.length ≤ 1000) (hsz : shortNames l) {k : Nat} (hlt : k < l.length) {Y M : Nat} {FS : Value} (hy : AS w Y M FS (Yp.steps Yp.yNew (l.take k)) wr) :
    ∃ (b o c : Nat) (nv vv : Value), v = .slice (some ⟨b, o, none⟩) l.length c ∧ (∀ W, Below w.heap.size w W → W.cell? ⟨b, o + k * 3, none⟩ = some (.string l[k].kind) ∧ W.cell? ⟨b, o + k * 3 + 1, none⟩ = some nv ∧ W.cell? ⟨b, o + k * 3 + 2, none⟩ = some vv ∧ Rd W (fun i => i < w.heap.size) nv (strV l[k].names) ∧ Rd W (fun i => i < w.heap.size) vv (intV l[k].vals)) ∧
      Calls Tryz.prog 14 #[.pointer (some ⟨Y, 0, none⟩), .agg #[.string l[k].kind, nv, vv]] wr fun e w' => e = .returned (.int .i64 (Yp.check (Yp.steps Yp.yNew (l.take k)) l[k])) ∧ ∃ FS', AS w Y M FS' (Yp.steps Yp.yNew (l.take (k + 1))) w' ∧ ∀ b o, Rem wr Y M FS b o → Rem w' Y M FS' b o := by
  obtain ⟨A, c, rfl, _, hcell⟩ := hv
  obtain ⟨b, o, rfl, hbl, _, hx⟩ := hcell (by omega)
  obtain ⟨nv, vv, d0, d1, d2, hnn, hvv⟩ := hx k _ (List.getElem?_eq_getElem hlt)
  have hnn := hnn.mono (X' := fun i => i < w.heap.size) fun i hi _ => hi
  have hvv := hvv.mono (X' := fun i => i < w.heap.size) fun i hi _ => hi
  have hbd := yd_bound l k hl
  have hinv : Yp.Inv (Yp.steps Yp.yNew (l.take k)) := Yp.inv_steps _ Yp.inv_new
  have hst : Yp.steps Yp.yNew (l.take (k + 1)) = Yp.step (Yp.steps Yp.yNew (l.take k)) l[k] := by rw [List.take_succ_eq_append_getElem hlt, Yp.steps_snoc]
  have hX : ∀ i, i < w.heap.size → i ≠ M ∧ i ≠ Y := fun i hi => ⟨by have := hy.hM; omega, by have := hy.hY; omega⟩
  refine ⟨b, o, c, nv, vv, rfl, fun W hb => ⟨(hb.cell (p := ⟨b, _, none⟩) hbl).trans d0, (hb.cell (p := ⟨b, _, none⟩) hbl).trans d1, (hb.cell (p := ⟨b, _, none⟩) hbl).trans d2, hnn.below hb, hvv.below hb⟩, ?_⟩
  rw [hst]
  by_cases hc : Yp.check (Yp.steps Yp.yNew (l.take k)) l[k] = 0
  · rw [hc]
    exact do_aw hy hinv hbd.1 hbd.2 l[k] nv vv ((hnn.below hy.be).mono fun i _ hi => hX i hi) ((hvv.below hy.be).mono fun i _ hi => hX i hi) (hsz _ (List.getElem_mem hlt)) hc
  · refine (do_refused hy.yat hinv hbd.1 hbd.2 _ l[k] nv vv (hnn.below hy.be) (hvv.below hy.be) (hsz _ (List.getElem_mem hlt)) hc).mono ?_
    rintro e w' ⟨rfl, hb'⟩
    have hs : Yp.step (Yp.steps Yp.yNew (l.take k)) l[k] = Yp.steps Yp.yNew (l.take k) := by unfold Yp.step; rw [if_neg hc]
    rw [hs]
    exact ⟨rfl, FS, hy.below hb', fun b o h => h.below hb'⟩
end Go.Proofs.YtejhcbbfdfnfdaaGreatDoor.Yard

/- The kerfs of a cut. No program. -/
namespace Go.Proofs.YtejhcbbfdfnfdaaGreatDoor.Yp
open Go
def sideOf (b : Bx) (c : Nat) : Int := match c with | 0 => b.x1 - b.x0 | 1 => b.y1 - b.y0 | _ => b.z1 - b.z0
/-- A kerf times the sides along the other axes, up to axis c. -/
def prodTo (b : Bx) (a k : Int) : Nat → Int
  | 0 => k
  | c + 1 => if (c : Int) ≠ a then prodTo b a k c * sideOf b c else prodTo b a k c
theorem prod_lost (b : Bx) (a p k : Int) (ha : 0 ≤ a ∧ a ≤ 2) (hk : 0 ≤ k) : prodTo b a k 3 = lost b a p k := by
  have h3 : a = 0 ∨ a = 1 ∨ a = 2 := by omega
  unfold lost gone
  by_cases h0 : 0 < k
  · rw [if_pos h0]
    rcases h3 with rfl | rfl | rfl <;> simp [prodTo, sideOf, setHi, setLo, Bx.vol]
    · have e : p + k - p = k := by omega
      rw [e]
    · have e : p + k - p = k := by omega
      rw [e, Int.mul_comm k]
    · have e : p + k - p = k := by omega
      rw [e, Int.mul_assoc, Int.mul_comm k]
  · have e : k = 0 := by omega
    rw [if_neg h0, e]
    rcases h3 with rfl | rfl | rfl <;> simp [prodTo, sideOf, bZero, Bx.vol]
theorem cut_facts {y : Yd} {f : Fact} (h : check y f = 0) (hk : f.kind = kCut) : ∃ (x : It) (n0 n1 n2 : ByteArray) (a p k : Int), f.names = [n0, n1, n2] ∧ f.vals = [a, p, k] ∧ look y.items n0 = some x ∧ (0 ≤ a ∧ a ≤ 2) ∧ (0 ≤ k ∧ k ≤ 1000) ∧ (step y f).kerfs = y.kerfs + lost x.bx a p k := by
  have h0 := h
  unfold check at h
  have hn : kindNo f.kind = some 1 := by rw [hk]; decide
  rw [hn] at h
  dsimp only at h
  split at h
  · omega
  · rename_i hl
    have l1 : f.names.length = 3 := Classical.byContradiction fun e => hl (.inl e)
    have l2 : f.vals.length = 3 := Classical.byContradiction fun e => hl (.inr e)
    split at h
    · omega
    · rw [if_neg (by decide)] at h
      obtain ⟨n0, n1, n2, e1⟩ : ∃ n0 n1 n2, f.names = [n0, n1, n2] := by
        match hf : f.names, l1 with
        | [n0, n1, n2], _ => exact ⟨_, _, _, rfl⟩
      obtain ⟨a, p, k, e2⟩ : ∃ a p k, f.vals = [a, p, k] := by
        match hf : f.vals, l2 with
        | [a, p, k], _ => exact ⟨_, _, _, rfl⟩
      have hm : nm f 0 = n0 := by unfold nm; rw [e1]; rfl
      have v0 : vl f 0 = a := by unfold vl; rw [e2]; rfl
      have v1 : vl f 1 = p := by unfold vl; rw [e2]; rfl
      have v2 : vl f 2 = k := by unfold vl; rw [e2]; rfl
      rw [hm] at h
      cases hx : look y.items n0 with
      | none => rw [hx] at h; dsimp only at h; omega
      | some x =>
        rw [hx] at h
        dsimp only at h
        split at h
        · omega
        · rw [if_pos rfl] at h
          unfold cutErr at h
          split at h
          · omega
          · rw [v0, v1, v2] at h
            unfold kerfCheck at h
            split at h
            · contradiction
            · split at h
              · omega
              · split at h
                · omega
                · refine ⟨x, n0, n1, n2, a, p, k, e1, e2, hx, by omega, by omega, ?_⟩
                  unfold step
                  rw [if_pos h0]
                  unfold apply
                  rw [hn]
                  show applyKerfs y f 1 = _
                  unfold applyKerfs
                  rw [if_pos rfl, hm, hx, v0, v1, v2]
                  rfl
theorem rootVol_nonneg {y : Yd} (h : Inv y) : 0 ≤ rootVol y.items := by
  refine sumL_nonneg fun v hv => ?_
  obtain ⟨x, hx, rfl⟩ := List.mem_map.1 hv
  split
  · exact vol_nonneg _ (h.ok x hx)
  · exact Int.le_refl 0
theorem other_kerfs {y : Yd} {f : Fact} (hk : f.kind ≠ kCut) : (step y f).kerfs = y.kerfs := by
  unfold step
  split
  · unfold apply
    split
    · rfl
    · rename_i k hn
      show applyKerfs y f k = _
      unfold applyKerfs
      rw [if_neg]
      rintro rfl
      unfold kindNo at hn
      rw [if_neg (c := f.kind = kCut) hk] at hn
      repeat' (split at hn <;> try cases hn)
  · rfl
theorem side_bounds {b : Bx} (h : b.ok) (c : Nat) : 1 ≤ sideOf b c ∧ sideOf b c ≤ 2000000 := by
  unfold Bx.ok at h
  match c with
  | 0 => simp only [sideOf]; omega
  | 1 => simp only [sideOf]; omega
  | c + 2 => simp only [sideOf]; omega
theorem mul_le' {a b A B : Int} (h0 : 0 ≤ a) (h1 : a ≤ A) (h2 : 0 ≤ b) (h3 : b ≤ B) : 0 ≤ a * b ∧ a * b ≤ A * B :=
  ⟨Int.mul_nonneg h0 h2, Int.mul_le_mul h1 h3 h2 (by omega)⟩
theorem prod_bounds {b : Bx} {a k : Int} (h : b.ok) (ha : 0 ≤ a ∧ a ≤ 2) (hk : 0 ≤ k ∧ k ≤ 1000) (c : Nat) (hc : c ≤ 3) : 0 ≤ prodTo b a k c ∧ prodTo b a k c ≤ 4000000000000000 := by
  have s0 := side_bounds h 0
  have s1 := side_bounds h 1
  have s2 := side_bounds h 2
  have p0 := mul_le' hk.1 hk.2 (by omega) s0.2
  have p1 := mul_le' hk.1 hk.2 (by omega) s1.2
  have q01 := mul_le' p0.1 p0.2 (by omega) s1.2
  have q02 := mul_le' p0.1 p0.2 (by omega) s2.2
  have q12 := mul_le' p1.1 p1.2 (by omega) s2.2
  have h3 : a = 0 ∨ a = 1 ∨ a = 2 := by omega
  obtain rfl | rfl | rfl | rfl : c = 0 ∨ c = 1 ∨ c = 2 ∨ c = 3 := by omega
  all_goals
    rcases h3 with rfl | rfl | rfl
    all_goals
      simp [prodTo]
      constructor <;> omega
theorem prod_mul_bounds {b : Bx} {a k : Int} (h : b.ok) (ha : 0 ≤ a ∧ a ≤ 2) (hk : 0 ≤ k ∧ k ≤ 1000) (c : Nat) (hc : c < 3) (hca : (c : Int) ≠ a) : 0 ≤ prodTo b a k c * sideOf b c ∧ prodTo b a k c * sideOf b c ≤ 4000000000000000 := by
  have := prod_bounds h ha hk (c + 1) (by omega)
  rw [prodTo, if_pos hca] at this
  exact this
theorem kerfs_low {y : Yd} (h : Inv y) : -8000000000000000000 ≤ y.kerfs := by
  have h1 := h.sum
  have h2 := rootVol_nonneg h
  have h3 := liveVol_le h
  omega
end Go.Proofs.YtejhcbbfdfnfdaaGreatDoor.Yp
