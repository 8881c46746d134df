/- Path: the ids from the block to an item. -/
import Derived.Test.YtejhcbbfdfnfdaaGreatDoorK21
import Derived.Test.YtejhcbbfdfnfdaaGreatDoorK25
import Derived.Test.YtejhcbbfdfnfdaaGreatDoorK20
import Derived.Lib.OwnBridge
import Derived.Lib.SmallJoins
/- Replay: facts are done up to the first that is not possible. -/
namespace Go.Proofs.YtejhcbbfdfnfdaaGreatDoor.Yard
open Go.RowKit Go.Proofs.YtejhcbbfdfnfdaaGreatDoor.Base Go.Proofs.YtejhcbbfdfnfdaaGreatDoor.Mp
open Yp (It Yd Fact Bx)
def shortNames (l : List Fact) : Prop := ∀ f ∈ l, ∀ s ∈ f.names, s.size ≤ 140737488351232
set_option maxRecDepth 100000 in
set_option maxHeartbeats 8000000 in
theorem replay_any {w : World} {X : Nat → Prop} {v : Value} {l : List Fact} (hv : FLs w X v l) (hl : l.length ≤ 1000) (hsz : shortNames l) :
    Calls Tryz.prog 10 #[v] w fun e w' => ∃ Y M : Nat, e = .returned (.tuple #[.pointer (some ⟨Y, 0, none⟩), .int .i64 (rep Yp.yNew 0 l).2]) ∧ YOwn w.heap.size w' Y M (rep Yp.yNew 0 l).1 ∧ Below w.heap.size w w' := by
  have hn := new_own w
  obtain ⟨A, c, rfl, hc, hcell⟩ := hv
  have HC := Lib.hid hcell
  have HSZ := Lib.hid hsz
  clear hcell hsz
  go_enter Tryz.func10, Tryz.ntmps10
  go_wp2_with fail
  refine hn.mono ?_; rintro e w1 ⟨Y, M, rfl, hy, hb⟩
  have HY := Lib.hid hy
  have HB := Lib.hid hb
  clear hn hy hb
  go_wp2_with fail
  go_loopw [10] (fun i wr => ∃ k : Nat, k ≤ l.length ∧ i = .int .i64 k ∧ (∀ j f, j < k → l[j]? = some f → Yp.check (Yp.steps Yp.yNew (l.take j)) f = 0) ∧ YOwn w.heap.size wr Y M (Yp.steps Yp.yNew (l.take k)) ∧ Below w.heap.size w wr) (fun i _ => l.length - (intOf i).toNat)
  case atStart => exact ⟨0, by omega, rfl, fun j f h => by omega, HY.out, HB.out⟩
  case round =>
    obtain ⟨k, hk, rfl, hok, hy, hb⟩ := hrel
    have HOK := Lib.hid hok
    have HYK := Lib.hid hy
    have HBK := Lib.hid hb
    clear hok hy hb
    by_cases hlt : k < l.length
    · have hlk := List.getElem?_eq_getElem hlt
      obtain ⟨b, o, rfl, hbl, hX, hx⟩ := HC.out (by omega)
      obtain ⟨nv, vv, d0, d1, d2, hnn, hvv⟩ := hx k _ hlk
      replace hnn := hnn.mono (X' := fun i => i < w.heap.size) fun i hi _ => hi
      replace hvv := hvv.mono (X' := fun i => i < w.heap.size) fun i hi _ => hi
      have e0 : wr.cell? ⟨b, o + k * 3, none⟩ = some (.string l[k].kind) := (HBK.out.cell (p := ⟨b, _, none⟩) hbl).trans d0
      have e1 : wr.cell? ⟨b, o + k * 3 + 1, none⟩ = some nv := (HBK.out.cell (p := ⟨b, _, none⟩) hbl).trans d1
      have e2 : wr.cell? ⟨b, o + k * 3 + 2, none⟩ = some vv := (HBK.out.cell (p := ⟨b, _, none⟩) hbl).trans d2
      obtain ⟨A1, c1, rfl, _⟩ := id hnn
      obtain ⟨A2, c2, rfl, _⟩ := id hvv
      have hnn' := hnn.below HBK.out
      have hvv' := hvv.below HBK.out
      have HINV : Hid (Yp.Inv (Yp.steps Yp.yNew (l.take k))) := Lib.hid (Yp.inv_steps _ Yp.inv_new)
      have HIT : Hid ((Yp.steps Yp.yNew (l.take k)).items.length < 4000 ∧ (Yp.steps Yp.yNew (l.take k)).facts.length < 4096) := Lib.hid (by
        have h1 := Yp.items_le (l.take k) Yp.yNew
        have h2 := Yp.facts_le (l.take k) Yp.yNew
        have h3 : (l.take k).length ≤ l.length := List.length_take_le' _ _
        have h4 : Yp.yNew.items.length = 0 := rfl
        have h5 : Yp.yNew.facts.length = 0 := rfl
        omega)
      have HSK : Hid (∀ s ∈ l[k].names, s.size ≤ 140737488351232) := Lib.hid (HSZ.out _ (List.getElem_mem hlt))
      have HLK := Lib.hid hlk
      have HSN : Hid (Yp.steps Yp.yNew (l.take (k + 1)) = Yp.step (Yp.steps Yp.yNew (l.take k)) l[k]) := Lib.hid (by rw [List.take_succ_eq_append_getElem hlt, Yp.steps_snoc])
      have HBAD : Hid (Yp.check (Yp.steps Yp.yNew (l.take k)) l[k] ≠ 0 → rep Yp.yNew 0 l = (Yp.steps Yp.yNew (l.take k), (k : Int))) := Lib.hid (rep_bad hlt HOK.out)
      clear hx hlk d0 d1 d2 hnn hvv hX
      have HNV := Lib.hid hnn'
      have HVV := Lib.hid hvv'
      clear hnn' hvv'
      generalize hf : l[k] = f at *
      have HF := Lib.hid hf
      clear hf
      generalize hyk : Yp.steps Yp.yNew (l.take k) = y at *
      have HYE := Lib.hid hyk
      clear hyk
      have hdo := fun W (hW : Below wr.heap.size wr W) => do_own (HYK.out.below hW) HINV.out HIT.out.1 HIT.out.2 (Nat.le_trans HBK.out.size hW.size) (fun i => i < w.heap.size) (fun i hi => ⟨by have := HYK.out.hM; omega, by have := HYK.out.hY; omega⟩) f _ _ (HNV.out.below hW) (HVV.out.below hW) HSK.out
      have HDO := Lib.hid hdo
      clear hdo
      have HBA := Lib.hid ((Below.refl wr.heap.size wr).alloc (Nat.le_refl _) (.cells #[.string f.kind, .slice A1 (strV f.names).length c1, .slice A2 (intV f.vals).length c2] 39))
      by_cases hck : Yp.check y f = 0
      · have HCK := Lib.hid hck
        clear hck
        go_wp2_with fail
        refine (HDO.out _ HBA.out).mono ?_; rintro e w2 ⟨rfl, hy2, hb2⟩
        have HY2 := Lib.hid hy2
        have HB2 := Lib.hid ((HBK.out.trans (HBA.out.mono HBK.out.size)).trans hb2)
        rw [HCK.out]
        clear hy2 hb2 e0 e1 e2
        go_wp2_with fail
        go_roundw
        case rel =>
          refine ⟨k + 1, by omega, by go_num, fun j g hj hg => ?_, by rw [HSN.out]; exact HY2.out, HB2.out⟩
          rcases Nat.lt_or_ge j k with h | h
          · exact HOK.out j g h hg
          · obtain rfl : j = k := by omega
            rw [HLK.out] at hg
            injection hg with hg
            rw [← hg, HYE.out]
            exact HCK.out
        case measure => simp [intOf]; omega
      · have HCK := Lib.hid hck
        have hckb : ((Yp.check y f : Int) != 0) = true := by rw [bne_iff_ne]; exact hck
        clear hck
        go_wp2_with fail
        refine (HDO.out _ HBA.out).mono ?_; rintro e w2 ⟨rfl, hy2, hb2⟩
        have HY2 := Lib.hid hy2
        have HB2 := Lib.hid ((HBK.out.trans (HBA.out.mono HBK.out.size)).trans hb2)
        clear hy2 hb2 e0 e1 e2
        go_wp2_with fail
        go_ret2
        rw [HBAD.out HCK.out]
        have hst : Yp.step y f = y := by unfold Yp.step; rw [if_neg HCK.out]
        rw [hst] at HY2
        exact ⟨Y, M, rfl, HY2.out, HB2.out⟩
    · obtain rfl : k = l.length := by omega
      go_wp2_with fail
      go_ret2
      refine ⟨Y, M, ?_, ?_, HBK.out⟩
      · rw [rep_ok fun j f _ hj => HOK.out j f (by have := (List.getElem?_eq_some_iff.1 hj).1; omega) hj]
        rfl
      · rw [rep_ok fun j f _ hj => HOK.out j f (by have := (List.getElem?_eq_some_iff.1 hj).1; omega) hj]
        have := HYK.out
        rwa [List.take_length] at this
end Go.Proofs.YtejhcbbfdfnfdaaGreatDoor.Yard

/- Path: the ids from the block to an item. -/
namespace Go.Proofs.YtejhcbbfdfnfdaaGreatDoor.Yard
open Go.RowKit Go.Proofs.YtejhcbbfdfnfdaaGreatDoor.Base Go.Proofs.YtejhcbbfdfnfdaaGreatDoor.Mp
open Yp (It Yd Fact Bx)
/-- The parents of an item, up to its block. -/
inductive Up (items : List It) : It → List ByteArray → Prop
  | top (x : It) (h : x.par = Yp.es) : Up items x []
  | step (x z : It) (l : List ByteArray) (h : x.par ≠ Yp.es) (hz : Yp.look items x.par = some z) (h2 : Up items z l) : Up items x (x.par :: l)
def lenV : Value → Nat
  | .slice _ n _ => n
  | _ => 0
theorem setRow_grown (w : World) (b : Nat) (cs : Array Value) : w.grownBy (w.drew.setRow b cs) (some b) :=
  have h : Below b w (w.drew.setRow b cs) := below_setRow (Below.refl b w).drew (Nat.le_refl b) cs
  ⟨h.os, h.tape, h.output, h.size, fun _ _ hne => setRow_other _ _ _ _ (fun e => hne (congrArg some e))⟩
set_option maxRecDepth 100000 in
set_option maxHeartbeats 8000000 in
theorem path_any {w : World} {Y M : Nat} {FS : Value} {y : Yd} (hy : YAt w Y M FS y) {id : ByteArray} {x : It} (hx : Yp.look y.items id = some x) {l : List ByteArray} (hu : Up y.items x l) (hl : l.length ≤ 100000) :
    Calls Tryz.prog 26 #[.pointer (some ⟨Y, 0, none⟩), .string id] w fun e w' => ∃ v, e = .returned (.tuple #[v, .int .i64 0]) ∧ w'.ownsRow w.heap.size 9 1 v (l.length + 1) (strV (id :: l).reverse) ∧ Below w.heap.size w w' := by
  have hf := find_found hy hx
  have HY := Lib.hid hy
  have HU := Lib.hid hu
  have HL := Lib.hid hl
  clear hy hx hu hl
  go_enter Tryz.func26, Tryz.ntmps26
  go_wp2_with fail
  refine hf.mono ?_; rintro e w1 ⟨rfl, hb1⟩
  have HB1 := Lib.hid hb1
  have hxc : itC x = #[.string x.id, .string x.par, .int .i64 x.bx.x0, .int .i64 x.bx.y0, .int .i64 x.bx.z0, .int .i64 x.bx.x1, .int .i64 x.bx.y1, .int .i64 x.bx.z1, .int .i64 x.st, .string x.stone] := rfl
  rw [hxc]
  clear hf hb1 hxc
  go_wp2_with fail
  go_loopw [8] (fun v wr => ∃ (cur : It) (done rest : List ByteArray), Up y.items cur rest ∧ done ++ rest = id :: l ∧ 1 ≤ done.length ∧ (∃ g c, v = .slice (some ⟨g, 0, none⟩) done.length c ∧ w1.heap.size + 1 ≤ g ∧ g < wr.heap.size) ∧ wr.ownsRow (w1.heap.size + 1) 9 1 v done.length (strV done) ∧ wr.heap[w1.heap.size]? = some (.cells #[.string cur.id, .string cur.par, .int .i64 cur.bx.x0, .int .i64 cur.bx.y0, .int .i64 cur.bx.z0, .int .i64 cur.bx.x1, .int .i64 cur.bx.y1, .int .i64 cur.bx.z1, .int .i64 cur.st, .string cur.stone] 47 (0, 0)) ∧ YAt wr Y M FS y ∧ Below w1.heap.size w1 wr) (fun v _ => l.length + 1 - lenV v)
  case atStart =>
    have hb := (al_below w1 (.cells #[.string x.id, .string x.par, .int .i64 x.bx.x0, .int .i64 x.bx.y0, .int .i64 x.bx.z0, .int .i64 x.bx.x1, .int .i64 x.bx.y1, .int .i64 x.bx.z1, .int .i64 x.st, .string x.stone] 47))
    have hb2 := hb.trans ((al_below (w1.alloc (.cells #[.string x.id, .string x.par, .int .i64 x.bx.x0, .int .i64 x.bx.y0, .int .i64 x.bx.z0, .int .i64 x.bx.x1, .int .i64 x.bx.y1, .int .i64 x.bx.z1, .int .i64 x.st, .string x.stone] 47)) (.cells #[.string id] 9)).mono hb.size)
    have hn := new_block2 w1 (.cells #[.string x.id, .string x.par, .int .i64 x.bx.x0, .int .i64 x.bx.y0, .int .i64 x.bx.z0, .int .i64 x.bx.x1, .int .i64 x.bx.y1, .int .i64 x.bx.z1, .int .i64 x.st, .string x.stone] 47) (.cells #[.string id] 9)
    exact ⟨x, [id], l, HU.out, rfl, by simp, ⟨_, _, rfl, Nat.le_refl _, by simp⟩, own_one hn (Nat.le_refl _), row_after (al_below _ _) (new_block w1 _), (HY.out.below HB1.out).below hb2, hb2⟩
  case round =>
    obtain ⟨cur, done, rest, hup, hdr, hd1, ⟨g, cq, rfl, hg, hgl⟩, ho, hrow, hyr, hb⟩ := hrel
    have HO := Lib.hid ho
    have HROW := Lib.hid hrow
    have HYR := Lib.hid hyr
    have HBR := Lib.hid hb
    have y1 := (row_cells hrow).1 1
    clear ho hrow hyr hb
    have hdl : done.length ≤ 100001 := by have h1 := congrArg List.length hdr; rw [List.length_append, List.length_cons] at h1; have := HL.out; omega
    cases hup with
    | top _ h =>
      have hne : cur.par.toList.isEmpty = true := by rw [(tl_nil _).2 h]; rfl
      have hdone : done = id :: l := by simpa using hdr
      obtain ⟨q, hq⟩ : ∃ q : List (List UInt8), q = done.map (·.data.toList) := ⟨_, rfl⟩
      have henc : strV done = q.map Proofs.encStr := by rw [hq]; exact (Lib.map_encStr done).symm
      have ho := HO.out
      rw [henc] at ho
      obtain ⟨g', cap', e1, _, _, _, _, hql, hH⟩ := Lib.holds_of_ownsRow ho (by intro e; cases e)
      injection e1 with e1 _ e3
      injection e1 with e1
      injection e1 with e1
      subst e1 e3
      have hrev := Go.Proofs.Tryz.slices_Reverse_string g 0 cq q wr hH (by omega)
      rw [hql] at hrev
      have hput := fun n => Lib.ownsRow_putRow (q := n) (k := done.length) (ys := q.reverse) ho (by rw [List.length_reverse, hql]) (Nat.le_refl _)
      have HPUT := Lib.hid hput
      have HREV := Lib.hid hrev
      have HQ := Lib.hid hq
      have HDN := Lib.hid hdone
      have HQL := Lib.hid hql
      clear h hdr hput hrev ho hH hq henc hdone hql
      go_wp2_with fail
      refine HREV.out.mono ?_; rintro e w9 ⟨rfl, n, hw9⟩
      have HO9 := Lib.hid (hw9 ▸ HPUT.out n)
      have HB9 : Hid (Below w.heap.size w w9) := Lib.hid (hw9 ▸ Lib.below_putRow (HB1.out.trans (HBR.out.mono HB1.out.size)) (by have := HB1.out.size; omega))
      clear hw9 HPUT HREV
      go_wp2_with fail
      go_ret2
      refine ⟨_, rfl, ?_, HB9.out⟩
      have h9 := HO9.out
      have hql := HQL.out
      rw [List.take_of_length_le (Nat.le_of_eq (by rw [List.length_reverse, hql])), HQ.out, ← List.map_reverse, Lib.map_encStr] at h9
      have hl9 : done.length = l.length + 1 := by rw [HDN.out]; rfl
      rw [← hl9, ← HDN.out]
      exact Go.Joins.ownsRow_le h9 (by have := HB1.out.size; omega)
    | step _ z rl h hz h2 =>
      have hne : cur.par.toList.isEmpty = false := by
        have := fun e => h ((tl_nil _).1 e)
        simpa using this
      obtain ⟨i0, hi0, hz0, hz1, hz2⟩ : ∃ i, Tryz.prog.info? 9 = some i ∧ i.zero = some (.string { data := #[] }) ∧ i.size = 1 ∧ i.bytes = 16 := ⟨_, rfl, rfl, rfl, rfl⟩
      obtain ⟨g7, c7, w7, hrun, hown7, hgr, hat⟩ := app1 (P := Tryz.prog) (w1.heap.size + 1) 36 9 i0 _ 16 Tryz.underlying36 hi0 hz0 hz1 hz2 rfl (by decide) HO.out (u := .string cur.par) rfl (by have := HBR.out.size; omega) (by omega)
      have hb7 : Below (w1.heap.size + 1) wr w7 := (Below.refl (w1.heap.size + 1) wr).grown hgr (by omega) (fun j e => by have : g = j := Option.some.inj e; omega)
      have hy7 : YAt w7 Y M FS y := by
        have hyw := (HY.out.below HB1.out)
        exact hyw.below (HBR.out.trans (hb7.mono (Nat.le_succ _)))
      have hr7 := (hb7.block w1.heap.size (Nat.lt_succ_self _)).trans HROW.out
      have y7 := (row_cells hr7).1 1
      have m7 := (row_cells hy7.row).1 0
      have hlk := look_found (w := w7.drew) (M := M) hy7.drew.map hz false
      simp only [itC, if_false, Bool.false_eq_true] at hlk
      have hrd : w7.drew.heap[w1.heap.size]? = some (.cells #[.string cur.id, .string cur.par, .int .i64 cur.bx.x0, .int .i64 cur.bx.y0, .int .i64 cur.bx.z0, .int .i64 cur.bx.x1, .int .i64 cur.bx.y1, .int .i64 cur.bx.z1, .int .i64 cur.st, .string cur.stone] 47 (0, 0)) := hr7
      have HOWN7 := Lib.hid hown7
      have HAT := Lib.hid hat
      have HY7 := Lib.hid hy7
      have HB7 := Lib.hid hb7
      have HG7 := Lib.hid (And.intro (own_slice hown7 (by omega)) hgr.size)
      have HUP := Lib.hid h2
      have HDR := Lib.hid hdr
      clear h hz h2 hdr hi0 hz0 hz1 hz2 hown7 hgr hat hb7 hy7 hr7
      go_wp2_with (at_builtin; refine wpList_append_run rfl _ _ _ rfl rfl rfl hrun ?_)
      go_still_tail 6, (by kernel_rfl)
      go_wp2_with (refine wpList_store_row rfl 47 (.tmp 6) (.tmp 34) rfl w1.heap.size #[.string z.id, .string z.par, .int .i64 z.bx.x0, .int .i64 z.bx.y0, .int .i64 z.bx.z0, .int .i64 z.bx.x1, .int .i64 z.bx.y1, .int .i64 z.bx.z1, .int .i64 z.st, .string z.stone] rfl rfl 47 _ hrd ?_ ?_ ?_ ?_; (kernel_rfl); (kernel_rfl); (kernel_rfl))
      have hbz : Below w1.heap.size w1 (w7.drew.setRow w1.heap.size #[.string z.id, .string z.par, .int .i64 z.bx.x0, .int .i64 z.bx.y0, .int .i64 z.bx.z0, .int .i64 z.bx.x1, .int .i64 z.bx.y1, .int .i64 z.bx.z1, .int .i64 z.st, .string z.stone]) := below_setRow ((HBR.out.trans (HB7.out.mono (Nat.le_succ _))).drew) (Nat.le_refl _) _
      have hgz : w7.grownBy (w7.drew.setRow w1.heap.size #[.string z.id, .string z.par, .int .i64 z.bx.x0, .int .i64 z.bx.y0, .int .i64 z.bx.z0, .int .i64 z.bx.x1, .int .i64 z.bx.y1, .int .i64 z.bx.z1, .int .i64 z.st, .string z.stone]) (some w1.heap.size) := setRow_grown _ _ _
      obtain ⟨⟨g8, c8, e8, hg8, hl8⟩, hsz8⟩ := HG7.out
      injection e8 with e8 _ e9
      injection e8 with e8
      injection e8 with e8
      subst e8 e9
      have hown8 := HOWN7.out.kept hgz (.inr (by intro e; have e : g7 = w1.heap.size := Option.some.inj e; omega))
      refine ⟨⟨_, _, _, _, _, _, _, _, _, _, _, _, _, _, _, _, ⟨z, done ++ [cur.par], rl, HUP.out, by simpa using HDR.out, by simp, ⟨g7, c7, by simp, hg8, Nat.lt_of_lt_of_le hl8 hgz.size⟩, ?_, setRow_heap _ _ _ _ _ _ hrd, (HY.out.below HB1.out).below hbz, hbz⟩, rfl⟩, ?_⟩
      · have : (done ++ [cur.par]).length = done.length + 1 := by simp
        rw [this]
        unfold strV at hown8 ⊢
        rw [List.map_append]
        exact hown8
      · show l.length + 1 - (done.length + 1) < l.length + 1 - done.length
        have := congrArg List.length HDR.out
        rw [List.length_append, List.length_cons, List.length_cons] at this
        omega
end Go.Proofs.YtejhcbbfdfnfdaaGreatDoor.Yard
