/- The reference's Replay, and the law's item. -/
import Derived.Test.YtejhcbbfdfnfdaaGreatDoorR41
import Derived.Test.YtejhcbbfdfnfdaaGreatDoorR42
import Derived.Test.YtejhcbbfdfnfdaaGreatDoorR27
/- The reference's state and the yard's: the same items, sorted. -/
namespace Go.Proofs.YtejhcbbfdfnfdaaGreatDoor.Yard
open Yp (It Yd Fact Bx)
theorem uniq_perm {s t : List It} (hp : s.Perm t) (hu : t.Pairwise fun a b => a.id ≠ b.id) : s.Pairwise fun a b => a.id ≠ b.id := (hp.pairwise_iff (fun h e => h e.symm)).2 hu
theorem look_perm {s t : List It} (hp : s.Perm t) (hu : t.Pairwise fun a b => a.id ≠ b.id) (id : ByteArray) : Yp.look s id = Yp.look t id := by
  cases e : Yp.look t id with
  | none =>
    cases e2 : Yp.look s id with
    | none => rfl
    | some x =>
      obtain ⟨h1, h2⟩ := Yp.look_some e2
      exact absurd h2 (Yp.look_none (by rw [e]; rfl) x (hp.mem_iff.1 h1))
  | some x =>
    obtain ⟨h1, h2⟩ := Yp.look_some e
    rw [← h2]
    exact Yp.look_mem (uniq_perm hp hu) (hp.mem_iff.2 h1)
theorem any_perm {s t : List It} (hp : s.Perm t) (p : It → Bool) : s.any p = t.any p := by
  rw [Bool.eq_iff_iff, List.any_eq_true, List.any_eq_true]
  exact ⟨fun ⟨x, h1, h2⟩ => ⟨x, hp.mem_iff.1 h1, h2⟩, fun ⟨x, h1, h2⟩ => ⟨x, hp.mem_iff.2 h1, h2⟩⟩
theorem check_perm {s : List It} {y : Yd} (hp : s.Perm y.items) (hu : y.items.Pairwise fun a b => a.id ≠ b.id) (fs : List Fact) (k : Int) (f : Fact) : Yp.check ⟨s, fs, k⟩ f = Yp.check y f := by
  have h1 : ∀ id, Yp.look s id = Yp.look y.items id := look_perm hp hu
  unfold Yp.check Yp.freeErr Yp.cutErr Yp.assignErr
  simp only [h1, any_perm hp]
theorem ins_cons (x a : It) (s : List It) : ins x (a :: s) = if lessI a x = true then a :: ins x s else x :: a :: s := by
  unfold ins
  cases h : lessI a x <;> simp [h]
theorem ins_perm (x : It) (s : List It) : (ins x s).Perm (s ++ [x]) := by
  unfold ins
  have h := List.takeWhile_append_dropWhile (p := fun y => lessI y x) (l := s)
  conv => rhs; rw [← h]
  rw [List.append_assoc, List.append_assoc]
  exact List.Perm.append_left _ (List.perm_append_comm)
theorem less_asymm {a b : It} (h : lessI a b = true) : lessI b a = false := by
  rw [lessI_eq] at h ⊢
  exact decide_eq_false fun g => absurd (List.lt_trans (of_decide_eq_true h) g) (List.lt_irrefl _)
theorem less_trans' {a b c : It} (h1 : lessI b a = false) (h2 : lessI a c = false) : lessI b c = false := by
  rw [lessI_eq] at *
  exact decide_eq_false fun g => of_decide_eq_false h2 (List.lt_of_le_of_lt (List.not_lt.1 (of_decide_eq_false h1)) g)
theorem ins_sorted (x : It) : ∀ {s : List It}, (s.Pairwise fun a b => lessI b a = false) → (ins x s).Pairwise fun a b => lessI b a = false
  | [], _ => by simp [ins]
  | a :: s, h => by
    obtain ⟨h1, h2⟩ := List.pairwise_cons.1 h
    rw [ins_cons]
    split
    · rename_i hl
      refine List.pairwise_cons.2 ⟨fun b hb => ?_, ins_sorted x h2⟩
      rcases List.mem_append.1 ((ins_perm x s).mem_iff.1 hb) with hb | hb
      · exact h1 b hb
      · rw [List.mem_singleton.1 hb]
        exact less_asymm hl
    · rename_i hl
      have hl : lessI a x = false := by simpa using hl
      refine List.pairwise_cons.2 ⟨fun b hb => ?_, h⟩
      rcases List.mem_cons.1 hb with rfl | hb
      · exact hl
      · exact less_trans' (h1 b hb) hl
theorem change_sorted {s : List It} (h : s.Pairwise fun a b => lessI b a = false) (id : ByteArray) (st : Int) (stone : ByteArray) : (Yp.change s id st stone).Pairwise fun a b => lessI b a = false := by
  rw [Yp.change_eq, List.pairwise_map]
  refine h.imp fun {a b} hab => ?_
  unfold lessI at *
  rw [Yp.upd_id, Yp.upd_id]
  exact hab
theorem change_perm {s t : List It} (hp : s.Perm t) (id : ByteArray) (st : Int) (stone : ByteArray) : (Yp.change s id st stone).Perm (Yp.change t id st stone) := hp.map _
theorem apply_perm {s t : List It} (hp : s.Perm t) (hu : t.Pairwise fun a b => a.id ≠ b.id) (f : Fact) (k : Nat) : (rApply s f k).Perm (Yp.applyItems t f k) := by
  have hl := look_perm hp hu (Yp.nm f 0)
  unfold rApply Yp.applyItems
  rw [hl]
  match k with
  | 0 => exact (ins_perm _ _).trans (hp.append_right _)
  | 1 => exact (ins_perm _ _).trans (((ins_perm _ _).trans ((change_perm hp _ _ _).append_right _)).append_right _)
  | 2 => exact change_perm hp _ _ _
  | 3 => exact change_perm hp _ _ _
  | 4 => exact change_perm hp _ _ _
  | k + 5 => exact change_perm hp _ _ _
theorem apply_sorted {s : List It} (h : s.Pairwise fun a b => lessI b a = false) (f : Fact) (k : Nat) : (rApply s f k).Pairwise fun a b => lessI b a = false := by
  unfold rApply
  match k with
  | 0 => exact ins_sorted _ h
  | 1 => exact ins_sorted _ (ins_sorted _ (change_sorted h _ _ _))
  | 2 => exact change_sorted h _ _ _
  | 3 => exact change_sorted h _ _ _
  | 4 => exact change_sorted h _ _ _
  | k + 5 => exact change_sorted h _ _ _
/-- The reference's state is the yard's. -/
def Sim (y : Yd) (s : List It) (fs : List Fact) : Prop := s.Perm y.items ∧ (s.Pairwise fun a b => lessI b a = false) ∧ fs = y.facts
theorem sim_new : Sim Yp.yNew [] [] := ⟨.refl _, List.Pairwise.nil, rfl⟩
theorem sim_step {y : Yd} {s : List It} {fs : List Fact} (h : Sim y s fs) (hi : Yp.Inv y) (f : Fact) : Yp.check ⟨s, fs, 0⟩ f = Yp.check y f ∧ Sim (Yp.step y f) (rOut s fs f).1 (rOut s fs f).2 := by
  obtain ⟨h1, h2, h3⟩ := h
  have hc := check_perm h1 hi.uniq fs 0 f
  refine ⟨hc, ?_⟩
  unfold rOut Yp.step
  rw [hc]
  split
  · rename_i h0
    unfold rItems Yp.apply
    cases hk : Yp.kindNo f.kind with
    | none => rw [Yp.check_out hk (kd := f.kind) (ns := f.names) (vs := f.vals)] at h0; exact absurd h0 (by decide)
    | some k => exact ⟨apply_perm h1 hi.uniq f k, apply_sorted h2 f k, by rw [h3]⟩
  · exact ⟨h1, h2, h3⟩
theorem sim_uniq {y : Yd} {s : List It} {fs : List Fact} (h : Sim y s fs) (hi : Yp.Inv y) : s.Pairwise fun a b => a.id ≠ b.id := uniq_perm h.1 hi.uniq
theorem sim_es {y : Yd} {s : List It} {fs : List Fact} (h : Sim y s fs) (hi : Yp.Inv y) : ∀ x ∈ s, x.st = 1 → x.stone = Yp.es := fun x hx hst => Classical.byContradiction fun hne => by
  have := hi.free x (h.1.mem_iff.1 hx) hne
  omega
end Go.Proofs.YtejhcbbfdfnfdaaGreatDoor.Yard

/- The reference's Replay, and the law's item. -/
namespace Go.Proofs.YtejhcbbfdfnfdaaGreatDoor.Yard
open Go.RowKit Go.Proofs.YtejhcbbfdfnfdaaGreatDoor.Base Go.Proofs.YtejhcbbfdfnfdaaGreatDoor.Mp
open Yp (It Yd Fact Bx)
theorem rat_new (w : World) : RAt (w.alloc (.cells #[.slice none 0 0, .slice none 0 0] 67)) w.heap.size [] [] :=
  ⟨.slice none 0 0, .slice none 0 0, new_block w _, ⟨none, 0, rfl, Nat.le_refl _, by decide, fun _ => ⟨rfl, rfl⟩, fun h => absurd h (by simp)⟩, ⟨none, 0, rfl, Nat.le_refl _, fun h => absurd h (by simp)⟩, fun _ => rfl⟩
set_option maxRecDepth 100000 in
set_option maxHeartbeats 8000000 in
theorem rreplay_any {w : World} {X : Nat → Prop} {v : Value} {l : List Fact} (hv : FLs w X v l) (hl : l.length ≤ 1000) :
    Calls Tryz.prog 11 #[v] w fun e w' => ∃ s fs, e = .returned (.tuple #[.pointer (some ⟨w.heap.size, 0, none⟩), .int .i64 (rep Yp.yNew 0 l).2]) ∧ RAt w' w.heap.size s fs ∧ Sim (rep Yp.yNew 0 l).1 s fs ∧ Below w.heap.size w w' := by
  obtain ⟨A, c, rfl, hc, hcell⟩ := hv
  have HC := Lib.hid hcell
  have HR0 := Lib.hid (rat_new w)
  have HB0 := Lib.hid (al_below w (.cells #[.slice none 0 0, .slice none 0 0] 67))
  clear hcell
  go_enter Tryz.func11, Tryz.ntmps11
  go_wp2_with fail
  generalize w.alloc (.cells #[.slice none 0 0, .slice none 0 0] 67) = w1 at *
  go_loopw [5] (fun i wr => ∃ (k : Nat) (s : List It) (fs : List Fact), k ≤ l.length ∧ i = .int .i64 k ∧ (∀ j f, j < k → l[j]? = some f → Yp.check (Yp.steps Yp.yNew (l.take j)) f = 0) ∧ RAt wr w.heap.size s fs ∧ Sim (Yp.steps Yp.yNew (l.take k)) s fs ∧ Below w.heap.size w wr) (fun i _ => l.length - (intOf i).toNat)
  case atStart => exact ⟨0, [], [], by omega, rfl, fun j f h => by omega, HR0.out, sim_new, HB0.out⟩
  case round =>
    obtain ⟨k, s, fs, hk, rfl, hok, hr, hsim, hb⟩ := hrel
    have HOK := Lib.hid hok
    have HRK := Lib.hid hr
    have HSIM := Lib.hid hsim
    have HBK := Lib.hid hb
    clear hok hr hsim hb
    by_cases hlt : k < l.length
    · have hlk := List.getElem?_eq_getElem hlt
      obtain ⟨b, o, rfl, hbl, hX, hx⟩ := HC.out (by omega)
      obtain ⟨nv, vv, d0, d1, d2, hnn, hvv⟩ := hx k _ hlk
      replace hnn := hnn.mono (X' := fun i => i < w.heap.size) fun i hi _ => hi
      replace hvv := hvv.mono (X' := fun i => i < w.heap.size) fun i hi _ => hi
      have e0 : wr.cell? ⟨b, o + k * 3, none⟩ = some (.string l[k].kind) := (HBK.out.cell (p := ⟨b, _, none⟩) hbl).trans d0
      have e1 : wr.cell? ⟨b, o + k * 3 + 1, none⟩ = some nv := (HBK.out.cell (p := ⟨b, _, none⟩) hbl).trans d1
      have e2 : wr.cell? ⟨b, o + k * 3 + 2, none⟩ = some vv := (HBK.out.cell (p := ⟨b, _, none⟩) hbl).trans d2
      obtain ⟨A1, c1, rfl, _⟩ := id hnn
      obtain ⟨A2, c2, rfl, _⟩ := id hvv
      have hnn' := hnn.below HBK.out
      have hvv' := hvv.below HBK.out
      have hinv : Yp.Inv (Yp.steps Yp.yNew (l.take k)) := Yp.inv_steps _ Yp.inv_new
      have hbd := yd_bound l k hl
      have hsl : s.length < 4000 := by rw [HSIM.out.1.length_eq]; exact hbd.1
      have hfl : fs.length < 4096 := by rw [HSIM.out.2.2]; exact hbd.2
      have hst := sim_step HSIM.out hinv l[k]
      have hdo := rdo_any HRK.out (sim_uniq HSIM.out hinv) hsl hfl (sim_es HSIM.out hinv) (X := fun i => i < w.heap.size) (fun i hi => by omega) l[k].kind l[k].names l[k].vals _ _ hnn' hvv'
      rw [show (⟨l[k].kind, l[k].names, l[k].vals⟩ : Fact) = l[k] from rfl, hst.1] at hdo
      have HST := Lib.hid hst.2
      have HSN : Hid (Yp.steps Yp.yNew (l.take (k + 1)) = Yp.step (Yp.steps Yp.yNew (l.take k)) l[k]) := Lib.hid (by rw [List.take_succ_eq_append_getElem hlt, Yp.steps_snoc])
      have HBAD : Hid (Yp.check (Yp.steps Yp.yNew (l.take k)) l[k] ≠ 0 → rep Yp.yNew 0 l = (Yp.steps Yp.yNew (l.take k), (k : Int))) := Lib.hid (rep_bad hlt HOK.out)
      have HLK := Lib.hid hlk
      have HRES : Hid (Yp.check (Yp.steps Yp.yNew (l.take k)) l[k] ≠ 0 → rOut s fs l[k] = (s, fs)) := Lib.hid fun hne => by unfold rOut; rw [hst.1, if_neg hne]
      clear hx hlk d0 d1 d2 hnn hvv hX hnn' hvv' hbd hst hinv
      generalize hf : l[k] = f at *
      have HF := Lib.hid hf
      clear hf
      generalize hyk : Yp.steps Yp.yNew (l.take k) = y at *
      have HYE := Lib.hid hyk
      clear hyk
      generalize hso : rOut s fs f = so at *
      have HSO := Lib.hid hso
      clear hso
      obtain ⟨s2, fs2⟩ := so
      by_cases hck : Yp.check y f = 0
      · rw [hck] at hdo
        have HCK := Lib.hid hck
        clear hck
        go_wp2_with fail
        refine hdo.mono ?_; rintro e w2 ⟨rfl, hr2, hst2⟩
        have HR2 := Lib.hid hr2
        have HB2 := Lib.hid (HBK.out.trans (hst2.below (B := w.heap.size) HBK.out.size (fun i e => Nat.le_of_eq e.symm)))
        clear hdo hr2 hst2 e0 e1 e2
        go_wp2_with fail
        refine ⟨⟨k + 1, s2, fs2, hlt, by go_num, fun j g hj hg => ?_, HR2.out, by rw [HSN.out]; exact HST.out, HB2.out⟩, by simp [intOf]; omega⟩
        rcases Nat.lt_or_ge j k with h | h
        · exact HOK.out j g h hg
        · obtain rfl : j = k := by omega
          obtain rfl : f = g := Option.some.inj (HLK.out.symm.trans hg)
          rw [HYE.out]
          exact HCK.out
      · have hce : (Yp.check y f != 0) = true := by simpa using hck
        have HREP := Lib.hid (HBAD.out hck)
        have hso := HRES.out hck
        injection hso with h1 h2
        subst h1 h2
        clear hck
        generalize Yp.check y f = E at *
        go_wp2_with fail
        refine hdo.mono ?_; rintro e w2 ⟨rfl, hr2, hst2⟩
        have HR2 := Lib.hid hr2
        have HB2 := Lib.hid (HBK.out.trans (hst2.below (B := w.heap.size) HBK.out.size (fun i e => Nat.le_of_eq e.symm)))
        clear hdo hr2 hst2 e0 e1 e2
        go_wp2_with fail
        refine bodyPost_ret (v := .tuple #[.pointer (some ⟨w.heap.size, 0, none⟩), .int .i64 k]) (by simp [results, Tryz.results11, go_sem, *]) rfl ⟨s2, fs2, by rw [HREP.out], HR2.out, by rw [HREP.out]; exact HSIM.out, HB2.out⟩
    · obtain rfl : k = l.length := by omega
      have HREP : Hid (rep Yp.yNew 0 l = (Yp.steps Yp.yNew l, -1)) := Lib.hid (rep_ok HOK.out)
      have HSIM2 : Hid (Sim (Yp.steps Yp.yNew l) s fs) := Lib.hid (by have := HSIM.out; rw [List.take_length] at this; exact this)
      go_wp2_with fail
      refine bodyPost_ret (v := .tuple #[.pointer (some ⟨w.heap.size, 0, none⟩), .int .i64 (-1)]) (by simp [results, Tryz.results11, go_sem, *]) rfl ⟨s, fs, by rw [HREP.out], HRK.out, by rw [HREP.out]; exact HSIM2.out, HBK.out⟩
set_option maxRecDepth 100000 in
set_option maxHeartbeats 4000000 in
theorem item_any (x : It) (w : World) : Calls Tryz.prog 29 #[.agg (itC x)] w fun e w' => e = .returned (.agg (itC x)) ∧ Below w.heap.size w w' := by
  rw [show itC x = #[.string x.id, .string x.par, .int .i64 x.bx.x0, .int .i64 x.bx.y0, .int .i64 x.bx.z0, .int .i64 x.bx.x1, .int .i64 x.bx.y1, .int .i64 x.bx.z1, .int .i64 x.st, .string x.stone] from rfl]
  have r := (row_cells (old_block (new_block w (.cells #[.string x.id, .string x.par, .int .i64 x.bx.x0, .int .i64 x.bx.y0, .int .i64 x.bx.z0, .int .i64 x.bx.x1, .int .i64 x.bx.y1, .int .i64 x.bx.z1, .int .i64 x.st, .string x.stone] 47)) (.cells #[.string { data := #[] }, .string { data := #[] }, .int .i64 0, .int .i64 0, .int .i64 0, .int .i64 0, .int .i64 0, .int .i64 0, .int .i64 0, .string { data := #[] }] 68))).1
  have r0 := r 0
  have r1 := r 1
  have r2 := r 2
  have r3 := r 3
  have r4 := r 4
  have r5 := r 5
  have r6 := r 6
  have r7 := r 7
  have r8 := r 8
  have r9 := r 9
  clear r
  go_enter Tryz.func29, Tryz.ntmps29
  go_wp2_with fail
  refine bodyPost_ret (v := .agg #[.string x.id, .string x.par, .int .i64 x.bx.x0, .int .i64 x.bx.y0, .int .i64 x.bx.z0, .int .i64 x.bx.x1, .int .i64 x.bx.y1, .int .i64 x.bx.z1, .int .i64 x.st, .string x.stone]) (by simp [results, Tryz.results29, go_sem, *]) rfl ⟨rfl, ?_⟩
  (repeat' (first | (with_reducible exact Below.refl _ _) | (with_reducible refine Below.drew ?_) | (with_reducible refine Below.setCell ?_ ?_ _) | (with_reducible refine Below.alloc ?_ ?_ _) | (simp; done) | (simp; omega)))
end Go.Proofs.YtejhcbbfdfnfdaaGreatDoor.Yard
