/- Path: the ids from the block to an item. -/
import Derived.Test.YtejhcbbfdfnfdaaGreatDoorR21
import Derived.Test.YtejhcbbfdfnfdaaGreatDoorR24
import Derived.Test.YtejhcbbfdfnfdaaGreatDoorR25
import Derived.Test.YtejhcbbfdfnfdaaGreatDoorR20
import Derived.Lib.OwnBridge
import Derived.Lib.SmallJoins
/- The examples of the chapter. No program. -/
namespace Go.Proofs.YtejhcbbfdfnfdaaGreatDoor.Yp
open Go
def sB : ByteArray := ⟨#[98]⟩
def sL : ByteArray := ⟨#[108]⟩
def sR : ByteArray := ⟨#[114]⟩
def sS : ByteArray := ⟨#[115]⟩
def sCut : ByteArray := ⟨#[99, 117, 116, 32, 98, 32, 108, 32, 114, 32, 48, 32, 52, 48, 32, 56]⟩
def freeF : Fact := ⟨⟨#[102, 114, 101, 101]⟩, [sB], [0, 0, 0, 100, 10, 10]⟩
def cutF : Fact := ⟨⟨#[99, 117, 116]⟩, [sB, sL, sR], [0, 40, 8]⟩
def asgF : Fact := ⟨⟨#[97, 115, 115, 105, 103, 110]⟩, [sL, sS], []⟩
def setF : Fact := ⟨⟨#[115, 101, 116]⟩, [sL], []⟩
def asg2F : Fact := ⟨⟨#[97, 115, 115, 105, 103, 110]⟩, [sR, sS], []⟩
def relF : Fact := ⟨⟨#[114, 101, 108, 101, 97, 115, 101]⟩, [sL], []⟩
def itB : It := ⟨sB, es, ⟨0, 0, 0, 100, 10, 10⟩, 2, es⟩
def itL (st : Int) (s : ByteArray) : It := ⟨sL, sB, ⟨0, 0, 0, 40, 10, 10⟩, st, s⟩
def itR : It := ⟨sR, sB, ⟨48, 0, 0, 100, 10, 10⟩, 1, es⟩
def aw1 : Yd := ⟨[itB, itL 1 es, itR], [freeF, cutF], 800⟩
def aw2 : Yd := ⟨[itB, itL 3 sS, itR], [freeF, cutF, asgF], 800⟩
def aw3 : Yd := ⟨[itB, itL 4 sS, itR], [freeF, cutF, asgF, setF], 800⟩
set_option maxRecDepth 100000 in
theorem aw_rep : Yard.rep yNew 0 [freeF, cutF] = (aw1, -1) := by kernel_rfl
theorem aw_asg : check aw1 asgF = 0 := by kernel_rfl
theorem aw_asg2 : step aw1 asgF = aw2 := by kernel_rfl
theorem aw_set : check aw2 setF = 0 := by kernel_rfl
theorem aw_set2 : step aw2 setF = aw3 := by kernel_rfl
theorem aw_dup : check aw3 asg2F = 5 := by kernel_rfl
theorem aw_rel : check aw3 relF = 8 := by kernel_rfl
theorem aw_rel2 : step aw3 relF = aw3 := by kernel_rfl
theorem aw_enc : encE cutF = (sCut, 0) := by kernel_rfl
theorem aw_dec : decE sCut = (cutF, 0) := by kernel_rfl
theorem aw_inv1 : Inv aw1 := by
  have h : step (step yNew freeF) cutF = aw1 := by kernel_rfl
  rw [← h]
  exact inv_step (inv_step inv_new _) _
theorem aw_inv2 : Inv aw2 := by
  rw [← aw_asg2]
  exact inv_step aw_inv1 _
theorem aw_inv3 : Inv aw3 := by
  rw [← aw_set2]
  exact inv_step aw_inv2 _
theorem aw_s2 : ∀ s ∈ asgF.names, s.size ≤ 140737488351232 := by
  intro s hs
  simp only [asgF, List.mem_cons, List.not_mem_nil, or_false] at hs
  rcases hs with rfl | rfl <;> decide
theorem aw_s3 : ∀ s ∈ setF.names, s.size ≤ 140737488351232 := by
  intro s hs
  simp only [setF, List.mem_cons, List.not_mem_nil, or_false] at hs
  subst hs; decide
theorem aw_s4 : ∀ s ∈ asg2F.names, s.size ≤ 140737488351232 := by
  intro s hs
  simp only [asg2F, List.mem_cons, List.not_mem_nil, or_false] at hs
  rcases hs with rfl | rfl <;> decide
theorem aw_s5 : ∀ s ∈ relF.names, s.size ≤ 140737488351232 := by
  intro s hs
  simp only [relF, List.mem_cons, List.not_mem_nil, or_false] at hs
  subst hs; decide
theorem aw_s6 : ∀ s ∈ cutF.kind :: cutF.names, s.size ≤ 140737488351232 := by
  intro s hs
  simp only [cutF, List.mem_cons, List.not_mem_nil, or_false] at hs
  rcases hs with rfl | rfl | rfl | rfl <;> decide
theorem aw_i6 : ∀ n ∈ cutF.vals, I64 n := by
  intro n hn
  simp only [cutF, List.mem_cons, List.not_mem_nil, or_false] at hn
  rcases hn with rfl | rfl | rfl <;> exact ⟨by decide, by decide⟩
theorem aw_fs : ∀ f ∈ aw3.facts, f.names.length ≤ 1000000 ∧ f.vals.length ≤ 1000000 := by
  intro f hf
  simp only [aw3, List.mem_cons, List.not_mem_nil, or_false] at hf
  rcases hf with rfl | rfl | rfl | rfl <;> exact ⟨by decide, by decide⟩
end Go.Proofs.YtejhcbbfdfnfdaaGreatDoor.Yp

/- Path: the ids from the block to an item. -/
namespace Go.Proofs.YtejhcbbfdfnfdaaGreatDoor.Yard
open Go.RowKit Go.Proofs.YtejhcbbfdfnfdaaGreatDoor.Base Go.Proofs.YtejhcbbfdfnfdaaGreatDoor.Mp
open Yp (It Yd Fact Bx)
/-- The parents of an item, up to its block. -/
inductive Up (items : List It) : It → List ByteArray → Prop
  | top (x : It) (h : x.par = Yp.es) : Up items x []
  | step (x z : It) (l : List ByteArray) (h : x.par ≠ Yp.es) (hz : Yp.look items x.par = some z) (h2 : Up items z l) : Up items x (x.par :: l)
def lenV : Value → Nat
  | .slice _ n _ => n
  | _ => 0
theorem setRow_grown (w : World) (b : Nat) (cs : Array Value) : w.grownBy (w.drew.setRow b cs) (some b) :=
  have h : Below b w (w.drew.setRow b cs) := below_setRow (Below.refl b w).drew (Nat.le_refl b) cs
  ⟨h.os, h.tape, h.output, h.size, fun _ _ hne => setRow_other _ _ _ _ (fun e => hne (congrArg some e))⟩
set_option maxRecDepth 100000 in
set_option maxHeartbeats 8000000 in
theorem path_any {w : World} {Y M : Nat} {FS : Value} {y : Yd} (hy : YAt w Y M FS y) {id : ByteArray} {x : It} (hx : Yp.look y.items id = some x) {l : List ByteArray} (hu : Up y.items x l) (hl : l.length ≤ 100000) :
    Calls Tryz.prog 26 #[.pointer (some ⟨Y, 0, none⟩), .string id] w fun e w' => ∃ v, e = .returned (.tuple #[v, .int .i64 0]) ∧ w'.ownsRow w.heap.size 9 1 v (l.length + 1) (strV (id :: l).reverse) ∧ Below w.heap.size w w' := by
  have hf := find_found hy hx
  have HY := Lib.hid hy
  have HU := Lib.hid hu
  have HL := Lib.hid hl
  clear hy hx hu hl
  go_enter Tryz.func26, Tryz.ntmps26
  go_wp2_with fail
  refine hf.mono ?_; rintro e w1 ⟨rfl, hb1⟩
  have HB1 := Lib.hid hb1
  have hxc : itC x = #[.string x.id, .string x.par, .int .i64 x.bx.x0, .int .i64 x.bx.y0, .int .i64 x.bx.z0, .int .i64 x.bx.x1, .int .i64 x.bx.y1, .int .i64 x.bx.z1, .int .i64 x.st, .string x.stone] := rfl
  rw [hxc]
  clear hf hb1 hxc
  go_wp2_with fail
  go_loopw [8] (fun v wr => ∃ (cur : It) (done rest : List ByteArray), Up y.items cur rest ∧ done ++ rest = id :: l ∧ 1 ≤ done.length ∧ (∃ g c, v = .slice (some ⟨g, 0, none⟩) done.length c ∧ w1.heap.size + 1 ≤ g ∧ g < wr.heap.size) ∧ wr.ownsRow (w1.heap.size + 1) 9 1 v done.length (strV done) ∧ wr.heap[w1.heap.size]? = some (.cells #[.string cur.id, .string cur.par, .int .i64 cur.bx.x0, .int .i64 cur.bx.y0, .int .i64 cur.bx.z0, .int .i64 cur.bx.x1, .int .i64 cur.bx.y1, .int .i64 cur.bx.z1, .int .i64 cur.st, .string cur.stone] 47 (0, 0)) ∧ YAt wr Y M FS y ∧ Below w1.heap.size w1 wr) (fun v _ => l.length + 1 - lenV v)
  case atStart =>
    have hb := (al_below w1 (.cells #[.string x.id, .string x.par, .int .i64 x.bx.x0, .int .i64 x.bx.y0, .int .i64 x.bx.z0, .int .i64 x.bx.x1, .int .i64 x.bx.y1, .int .i64 x.bx.z1, .int .i64 x.st, .string x.stone] 47))
    have hb2 := hb.trans ((al_below (w1.alloc (.cells #[.string x.id, .string x.par, .int .i64 x.bx.x0, .int .i64 x.bx.y0, .int .i64 x.bx.z0, .int .i64 x.bx.x1, .int .i64 x.bx.y1, .int .i64 x.bx.z1, .int .i64 x.st, .string x.stone] 47)) (.cells #[.string id] 9)).mono hb.size)
    have hn := new_block2 w1 (.cells #[.string x.id, .string x.par, .int .i64 x.bx.x0, .int .i64 x.bx.y0, .int .i64 x.bx.z0, .int .i64 x.bx.x1, .int .i64 x.bx.y1, .int .i64 x.bx.z1, .int .i64 x.st, .string x.stone] 47) (.cells #[.string id] 9)
    exact ⟨x, [id], l, HU.out, rfl, by simp, ⟨_, _, rfl, Nat.le_refl _, by simp⟩, own_one hn (Nat.le_refl _), row_after (al_below _ _) (new_block w1 _), (HY.out.below HB1.out).below hb2, hb2⟩
  case round =>
    obtain ⟨cur, done, rest, hup, hdr, hd1, ⟨g, cq, rfl, hg, hgl⟩, ho, hrow, hyr, hb⟩ := hrel
    have HO := Lib.hid ho
    have HROW := Lib.hid hrow
    have HYR := Lib.hid hyr
    have HBR := Lib.hid hb
    have y1 := (row_cells hrow).1 1
    clear ho hrow hyr hb
    have hdl : done.length ≤ 100001 := by have h1 := congrArg List.length hdr; rw [List.length_append, List.length_cons] at h1; have := HL.out; omega
    cases hup with
    | top _ h =>
      have hne : cur.par.toList.isEmpty = true := by rw [(tl_nil _).2 h]; rfl
      have hdone : done = id :: l := by simpa using hdr
      obtain ⟨q, hq⟩ : ∃ q : List (List UInt8), q = done.map (·.data.toList) := ⟨_, rfl⟩
      have henc : strV done = q.map Proofs.encStr := by rw [hq]; exact (Lib.map_encStr done).symm
      have ho := HO.out
      rw [henc] at ho
      obtain ⟨g', cap', e1, _, _, _, _, hql, hH⟩ := Lib.holds_of_ownsRow ho (by intro e; cases e)
      injection e1 with e1 _ e3
      injection e1 with e1
      injection e1 with e1
      subst e1 e3
      have hrev := Go.Proofs.Tryz.slices_Reverse_string g 0 cq q wr hH (by omega)
      rw [hql] at hrev
      have hput := fun n => Lib.ownsRow_putRow (q := n) (k := done.length) (ys := q.reverse) ho (by rw [List.length_reverse, hql]) (Nat.le_refl _)
      have HPUT := Lib.hid hput
      have HREV := Lib.hid hrev
      have HQ := Lib.hid hq
      have HDN := Lib.hid hdone
      have HQL := Lib.hid hql
      clear h hdr hput hrev ho hH hq henc hdone hql
      go_wp2_with fail
      refine HREV.out.mono ?_; rintro e w9 ⟨rfl, n, hw9⟩
      have HO9 := Lib.hid (hw9 ▸ HPUT.out n)
      have HB9 : Hid (Below w.heap.size w w9) := Lib.hid (hw9 ▸ Lib.below_putRow (HB1.out.trans (HBR.out.mono HB1.out.size)) (by have := HB1.out.size; omega))
      clear hw9 HPUT HREV
      go_wp2_with fail
      go_ret2
      refine ⟨_, rfl, ?_, HB9.out⟩
      have h9 := HO9.out
      have hql := HQL.out
      rw [List.take_of_length_le (Nat.le_of_eq (by rw [List.length_reverse, hql])), HQ.out, ← List.map_reverse, Lib.map_encStr] at h9
      have hl9 : done.length = l.length + 1 := by rw [HDN.out]; rfl
      rw [← hl9, ← HDN.out]
      exact Go.Joins.ownsRow_le h9 (by have := HB1.out.size; omega)
    | step _ z rl h hz h2 =>
      have hne : cur.par.toList.isEmpty = false := by
        have := fun e => h ((tl_nil _).1 e)
        simpa using this
      obtain ⟨i0, hi0, hz0, hz1, hz2⟩ : ∃ i, Tryz.prog.info? 9 = some i ∧ i.zero = some (.string { data := #[] }) ∧ i.size = 1 ∧ i.bytes = 16 := ⟨_, rfl, rfl, rfl, rfl⟩
      obtain ⟨g7, c7, w7, hrun, hown7, hgr, hat⟩ := app1 (P := Tryz.prog) (w1.heap.size + 1) 36 9 i0 _ 16 Tryz.underlying36 hi0 hz0 hz1 hz2 rfl (by decide) HO.out (u := .string cur.par) rfl (by have := HBR.out.size; omega) (by omega)
      have hb7 : Below (w1.heap.size + 1) wr w7 := (Below.refl (w1.heap.size + 1) wr).grown hgr (by omega) (fun j e => by have : g = j := Option.some.inj e; omega)
      have hy7 : YAt w7 Y M FS y := by
        have hyw := (HY.out.below HB1.out)
        exact hyw.below (HBR.out.trans (hb7.mono (Nat.le_succ _)))
      have hr7 := (hb7.block w1.heap.size (Nat.lt_succ_self _)).trans HROW.out
      have y7 := (row_cells hr7).1 1
      have m7 := (row_cells hy7.row).1 0
      have hlk := look_found (w := w7.drew) (M := M) hy7.drew.map hz false
      simp only [itC, if_false, Bool.false_eq_true] at hlk
      have hrd : w7.drew.heap[w1.heap.size]? = some (.cells #[.string cur.id, .string cur.par, .int .i64 cur.bx.x0, .int .i64 cur.bx.y0, .int .i64 cur.bx.z0, .int .i64 cur.bx.x1, .int .i64 cur.bx.y1, .int .i64 cur.bx.z1, .int .i64 cur.st, .string cur.stone] 47 (0, 0)) := hr7
      have HOWN7 := Lib.hid hown7
      have HAT := Lib.hid hat
      have HY7 := Lib.hid hy7
      have HB7 := Lib.hid hb7
      have HG7 := Lib.hid (And.intro (own_slice hown7 (by omega)) hgr.size)
      have HUP := Lib.hid h2
      have HDR := Lib.hid hdr
      clear h hz h2 hdr hi0 hz0 hz1 hz2 hown7 hgr hat hb7 hy7 hr7
      go_wp2_with (at_builtin; refine wpList_append_run rfl _ _ _ rfl rfl rfl hrun ?_)
      go_still_tail 6, (by kernel_rfl)
      go_wp2_with (refine wpList_store_row rfl 47 (.tmp 6) (.tmp 34) rfl w1.heap.size #[.string z.id, .string z.par, .int .i64 z.bx.x0, .int .i64 z.bx.y0, .int .i64 z.bx.z0, .int .i64 z.bx.x1, .int .i64 z.bx.y1, .int .i64 z.bx.z1, .int .i64 z.st, .string z.stone] rfl rfl 47 _ hrd ?_ ?_ ?_ ?_; (kernel_rfl); (kernel_rfl); (kernel_rfl))
      have hbz : Below w1.heap.size w1 (w7.drew.setRow w1.heap.size #[.string z.id, .string z.par, .int .i64 z.bx.x0, .int .i64 z.bx.y0, .int .i64 z.bx.z0, .int .i64 z.bx.x1, .int .i64 z.bx.y1, .int .i64 z.bx.z1, .int .i64 z.st, .string z.stone]) := below_setRow ((HBR.out.trans (HB7.out.mono (Nat.le_succ _))).drew) (Nat.le_refl _) _
      have hgz : w7.grownBy (w7.drew.setRow w1.heap.size #[.string z.id, .string z.par, .int .i64 z.bx.x0, .int .i64 z.bx.y0, .int .i64 z.bx.z0, .int .i64 z.bx.x1, .int .i64 z.bx.y1, .int .i64 z.bx.z1, .int .i64 z.st, .string z.stone]) (some w1.heap.size) := setRow_grown _ _ _
      obtain ⟨⟨g8, c8, e8, hg8, hl8⟩, hsz8⟩ := HG7.out
      injection e8 with e8 _ e9
      injection e8 with e8
      injection e8 with e8
      subst e8 e9
      have hown8 := HOWN7.out.kept hgz (.inr (by intro e; have e : g7 = w1.heap.size := Option.some.inj e; omega))
      refine ⟨⟨_, _, _, _, _, _, _, _, _, _, _, _, _, _, _, _, ⟨z, done ++ [cur.par], rl, HUP.out, by simpa using HDR.out, by simp, ⟨g7, c7, by simp, hg8, Nat.lt_of_lt_of_le hl8 hgz.size⟩, ?_, setRow_heap _ _ _ _ _ _ hrd, (HY.out.below HB1.out).below hbz, hbz⟩, rfl⟩, ?_⟩
      · have : (done ++ [cur.par]).length = done.length + 1 := by simp
        rw [this]
        unfold strV at hown8 ⊢
        rw [List.map_append]
        exact hown8
      · show l.length + 1 - (done.length + 1) < l.length + 1 - done.length
        have := congrArg List.length HDR.out
        rw [List.length_append, List.length_cons, List.length_cons] at this
        omega
end Go.Proofs.YtejhcbbfdfnfdaaGreatDoor.Yard
