/- What the laws share: one more fact is done. -/
import Derived.Test.YtejhcbbfdfnfdaaGreatDoorR21
import Derived.Test.YtejhcbbfdfnfdaaGreatDoorR26
/- Replay: facts are done up to the first that is not possible. -/
namespace Go.Proofs.YtejhcbbfdfnfdaaGreatDoor.Yard
open Go.RowKit Go.Proofs.YtejhcbbfdfnfdaaGreatDoor.Base Go.Proofs.YtejhcbbfdfnfdaaGreatDoor.Mp
open Yp (It Yd Fact Bx)
def shortNames (l : List Fact) : Prop := ∀ f ∈ l, ∀ s ∈ f.names, s.size ≤ 140737488351232
set_option maxRecDepth 100000 in
set_option maxHeartbeats 8000000 in
theorem replay_any {w : World} {X : Nat → Prop} {v : Value} {l : List Fact} (hv : FLs w X v l) (hl : l.length ≤ 1000) (hsz : shortNames l) :
    Calls Tryz.prog 10 #[v] w fun e w' => ∃ Y M : Nat, e = .returned (.tuple #[.pointer (some ⟨Y, 0, none⟩), .int .i64 (rep Yp.yNew 0 l).2]) ∧ YOwn w.heap.size w' Y M (rep Yp.yNew 0 l).1 ∧ Below w.heap.size w w' := by
  have hn := new_own w
  obtain ⟨A, c, rfl, hc, hcell⟩ := hv
  have HC := Lib.hid hcell
  have HSZ := Lib.hid hsz
  clear hcell hsz
  go_enter Tryz.func10, Tryz.ntmps10
  go_wp2_with fail
  refine hn.mono ?_; rintro e w1 ⟨Y, M, rfl, hy, hb⟩
  have HY := Lib.hid hy
  have HB := Lib.hid hb
  clear hn hy hb
  go_wp2_with fail
  go_loopw [10] (fun i wr => ∃ k : Nat, k ≤ l.length ∧ i = .int .i64 k ∧ (∀ j f, j < k → l[j]? = some f → Yp.check (Yp.steps Yp.yNew (l.take j)) f = 0) ∧ YOwn w.heap.size wr Y M (Yp.steps Yp.yNew (l.take k)) ∧ Below w.heap.size w wr) (fun i _ => l.length - (intOf i).toNat)
  case atStart => exact ⟨0, by omega, rfl, fun j f h => by omega, HY.out, HB.out⟩
  case round =>
    obtain ⟨k, hk, rfl, hok, hy, hb⟩ := hrel
    have HOK := Lib.hid hok
    have HYK := Lib.hid hy
    have HBK := Lib.hid hb
    clear hok hy hb
    by_cases hlt : k < l.length
    · have hlk := List.getElem?_eq_getElem hlt
      obtain ⟨b, o, rfl, hbl, hX, hx⟩ := HC.out (by omega)
      obtain ⟨nv, vv, d0, d1, d2, hnn, hvv⟩ := hx k _ hlk
      replace hnn := hnn.mono (X' := fun i => i < w.heap.size) fun i hi _ => hi
      replace hvv := hvv.mono (X' := fun i => i < w.heap.size) fun i hi _ => hi
      have e0 : wr.cell? ⟨b, o + k * 3, none⟩ = some (.string l[k].kind) := (HBK.out.cell (p := ⟨b, _, none⟩) hbl).trans d0
      have e1 : wr.cell? ⟨b, o + k * 3 + 1, none⟩ = some nv := (HBK.out.cell (p := ⟨b, _, none⟩) hbl).trans d1
      have e2 : wr.cell? ⟨b, o + k * 3 + 2, none⟩ = some vv := (HBK.out.cell (p := ⟨b, _, none⟩) hbl).trans d2
      obtain ⟨A1, c1, rfl, _⟩ := id hnn
      obtain ⟨A2, c2, rfl, _⟩ := id hvv
      have hnn' := hnn.below HBK.out
      have hvv' := hvv.below HBK.out
      have HINV : Hid (Yp.Inv (Yp.steps Yp.yNew (l.take k))) := Lib.hid (Yp.inv_steps _ Yp.inv_new)
      have HIT : Hid ((Yp.steps Yp.yNew (l.take k)).items.length < 4000 ∧ (Yp.steps Yp.yNew (l.take k)).facts.length < 4096) := Lib.hid (by
        have h1 := Yp.items_le (l.take k) Yp.yNew
        have h2 := Yp.facts_le (l.take k) Yp.yNew
        have h3 : (l.take k).length ≤ l.length := List.length_take_le' _ _
        have h4 : Yp.yNew.items.length = 0 := rfl
        have h5 : Yp.yNew.facts.length = 0 := rfl
        omega)
      have HSK : Hid (∀ s ∈ l[k].names, s.size ≤ 140737488351232) := Lib.hid (HSZ.out _ (List.getElem_mem hlt))
      have HLK := Lib.hid hlk
      have HSN : Hid (Yp.steps Yp.yNew (l.take (k + 1)) = Yp.step (Yp.steps Yp.yNew (l.take k)) l[k]) := Lib.hid (by rw [List.take_succ_eq_append_getElem hlt, Yp.steps_snoc])
      have HBAD : Hid (Yp.check (Yp.steps Yp.yNew (l.take k)) l[k] ≠ 0 → rep Yp.yNew 0 l = (Yp.steps Yp.yNew (l.take k), (k : Int))) := Lib.hid (rep_bad hlt HOK.out)
      clear hx hlk d0 d1 d2 hnn hvv hX
      have HNV := Lib.hid hnn'
      have HVV := Lib.hid hvv'
      clear hnn' hvv'
      generalize hf : l[k] = f at *
      have HF := Lib.hid hf
      clear hf
      generalize hyk : Yp.steps Yp.yNew (l.take k) = y at *
      have HYE := Lib.hid hyk
      clear hyk
      have hdo := fun W (hW : Below wr.heap.size wr W) => do_own (HYK.out.below hW) HINV.out HIT.out.1 HIT.out.2 (Nat.le_trans HBK.out.size hW.size) (fun i => i < w.heap.size) (fun i hi => ⟨by have := HYK.out.hM; omega, by have := HYK.out.hY; omega⟩) f _ _ (HNV.out.below hW) (HVV.out.below hW) HSK.out
      have HDO := Lib.hid hdo
      clear hdo
      have HBA := Lib.hid ((Below.refl wr.heap.size wr).alloc (Nat.le_refl _) (.cells #[.string f.kind, .slice A1 (strV f.names).length c1, .slice A2 (intV f.vals).length c2] 39))
      by_cases hck : Yp.check y f = 0
      · have HCK := Lib.hid hck
        clear hck
        go_wp2_with fail
        refine (HDO.out _ HBA.out).mono ?_; rintro e w2 ⟨rfl, hy2, hb2⟩
        have HY2 := Lib.hid hy2
        have HB2 := Lib.hid ((HBK.out.trans (HBA.out.mono HBK.out.size)).trans hb2)
        rw [HCK.out]
        clear hy2 hb2 e0 e1 e2
        go_wp2_with fail
        go_roundw
        case rel =>
          refine ⟨k + 1, by omega, by go_num, fun j g hj hg => ?_, by rw [HSN.out]; exact HY2.out, HB2.out⟩
          rcases Nat.lt_or_ge j k with h | h
          · exact HOK.out j g h hg
          · obtain rfl : j = k := by omega
            rw [HLK.out] at hg
            injection hg with hg
            rw [← hg, HYE.out]
            exact HCK.out
        case measure => simp [intOf]; omega
      · have HCK := Lib.hid hck
        have hckb : ((Yp.check y f : Int) != 0) = true := by rw [bne_iff_ne]; exact hck
        clear hck
        go_wp2_with fail
        refine (HDO.out _ HBA.out).mono ?_; rintro e w2 ⟨rfl, hy2, hb2⟩
        have HY2 := Lib.hid hy2
        have HB2 := Lib.hid ((HBK.out.trans (HBA.out.mono HBK.out.size)).trans hb2)
        clear hy2 hb2 e0 e1 e2
        go_wp2_with fail
        go_ret2
        rw [HBAD.out HCK.out]
        have hst : Yp.step y f = y := by unfold Yp.step; rw [if_neg HCK.out]
        rw [hst] at HY2
        exact ⟨Y, M, rfl, HY2.out, HB2.out⟩
    · obtain rfl : k = l.length := by omega
      go_wp2_with fail
      go_ret2
      refine ⟨Y, M, ?_, ?_, HBK.out⟩
      · rw [rep_ok fun j f _ hj => HOK.out j f (by have := (List.getElem?_eq_some_iff.1 hj).1; omega) hj]
        rfl
      · rw [rep_ok fun j f _ hj => HOK.out j f (by have := (List.getElem?_eq_some_iff.1 hj).1; omega) hj]
        have := HYK.out
        rwa [List.take_length] at this
end Go.Proofs.YtejhcbbfdfnfdaaGreatDoor.Yard

/- What the laws share: one more fact is done. -/
namespace Go.Proofs.YtejhcbbfdfnfdaaGreatDoor.Yard
open Go.RowKit Go.Proofs.YtejhcbbfdfnfdaaGreatDoor.Base Go.Proofs.YtejhcbbfdfnfdaaGreatDoor.Mp
open Yp (It Yd Fact Bx)
theorem small_short {l : List Fact} {n : Nat} (h : smallL l n = true) : shortNames l ∧ l.length ≤ n := by
  unfold smallL at h
  rw [Bool.and_eq_true] at h
  refine ⟨fun f hf s hs => ?_, by simpa using h.1⟩
  have h1 := List.all_eq_true.1 h.2 f hf
  unfold smallF at h1
  rw [Bool.and_eq_true] at h1
  have := List.all_eq_true.1 h1.2 s hs
  simp at this
  omega
theorem yd_bound (l : List Fact) (k : Nat) (hl : l.length ≤ 1000) : (Yp.steps Yp.yNew (l.take k)).items.length < 4000 ∧ (Yp.steps Yp.yNew (l.take k)).facts.length < 4096 := by
  have h1 := Yp.items_le (l.take k) Yp.yNew
  have h2 := Yp.facts_le (l.take k) Yp.yNew
  have h3 : (l.take k).length ≤ l.length := List.length_take_le' _ _
  have h4 : Yp.yNew.items.length = 0 := rfl
  have h5 : Yp.yNew.facts.length = 0 := rfl
  omega
theorem do_step {w wr : World} {X : Nat → Prop} {v : Value} {l : List Fact} (hv : FLs w X v l) (hl : l.length ≤ 1000) (hsz : shortNames l) {k : Nat} (hlt : k < l.length) {Y M : Nat} (hy : YOwn w.heap.size wr Y M (Yp.steps Yp.yNew (l.take k))) (hb : Below w.heap.size w wr) :
    ∃ (b o c : Nat) (nv vv : Value), v = .slice (some ⟨b, o, none⟩) l.length c ∧ wr.cell? ⟨b, o + k * 3, none⟩ = some (.string l[k].kind) ∧ wr.cell? ⟨b, o + k * 3 + 1, none⟩ = some nv ∧ wr.cell? ⟨b, o + k * 3 + 2, none⟩ = some vv ∧
      Calls Tryz.prog 14 #[.pointer (some ⟨Y, 0, none⟩), .agg #[.string l[k].kind, nv, vv]] wr fun e w' => e = .returned (.int .i64 (Yp.check (Yp.steps Yp.yNew (l.take k)) l[k])) ∧ YOwn w.heap.size w' Y M (Yp.steps Yp.yNew (l.take (k + 1))) ∧ Below w.heap.size w w' := by
  obtain ⟨A, c, rfl, _, hcell⟩ := hv
  obtain ⟨b, o, rfl, hbl, _, hx⟩ := hcell (by omega)
  obtain ⟨nv, vv, d0, d1, d2, hnn, hvv⟩ := hx k _ (List.getElem?_eq_getElem hlt)
  have hnn := hnn.mono (X' := fun i => i < w.heap.size) fun i hi _ => hi
  have hvv := hvv.mono (X' := fun i => i < w.heap.size) fun i hi _ => hi
  refine ⟨b, o, c, nv, vv, rfl, (hb.cell (p := ⟨b, _, none⟩) hbl).trans d0, (hb.cell (p := ⟨b, _, none⟩) hbl).trans d1, (hb.cell (p := ⟨b, _, none⟩) hbl).trans d2, ?_⟩
  have hbd := yd_bound l k hl
  refine (do_own hy (Yp.inv_steps _ Yp.inv_new) hbd.1 hbd.2 hb.size (fun i => i < w.heap.size) (fun i hi => ⟨by have := hy.hM; omega, by have := hy.hY; omega⟩) l[k] nv vv (hnn.below hb) (hvv.below hb) (hsz _ (List.getElem_mem hlt))).mono ?_
  rintro e w' ⟨rfl, hy', hb'⟩
  exact ⟨rfl, by rw [List.take_succ_eq_append_getElem hlt, Yp.steps_snoc]; exact hy', hb.trans hb'⟩
end Go.Proofs.YtejhcbbfdfnfdaaGreatDoor.Yard
