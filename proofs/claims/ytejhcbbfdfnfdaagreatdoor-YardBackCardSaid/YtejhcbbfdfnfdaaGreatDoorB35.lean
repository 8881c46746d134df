/-
  YardBack: the record of a fact decodes to the fact, and the fact of a record encodes to the record: the law returns true for every fact and every string, and the fact and the string read afterwards as they read before. Conditions: the row's own (the listed variables of Go's library hold what the program's text lays).
-/
import Derived.Test.YtejhcbbfdfnfdaaGreatDoorB33
import Derived.Test.YtejhcbbfdfnfdaaGreatDoorB34
import Derived.Test.YtejhcbbfdfnfdaaGreatDoorB26
import Derived.Deep.DeepHandedRow
import Derived.Lay
import Derived.SevenTiedAt
/- YardBack. -/
namespace Go.Proofs.YtejhcbbfdfnfdaaGreatDoor.Yard
open Go.RowKit Go.Proofs.YtejhcbbfdfnfdaaGreatDoor.Base Go.Proofs.YtejhcbbfdfnfdaaGreatDoor.Mp
open Yp (It Yd Fact Bx)
theorem fls_one {w : World} {X : Nat → Prop} {f : Fact} {nv vv : Value} {t : TypeId} (hn : Rd w X nv (strV f.names)) (hv : Rd w X vv (intV f.vals)) :
    FLs (w.alloc (.cells #[.string f.kind, nv, vv] t)) (fun _ => True) (.slice (some ⟨w.heap.size, 0, none⟩) 1 1) [f] := by
  have hb := al_below w (.cells #[.string f.kind, nv, vv] t)
  have hr := (row_cells (new_block w (.cells #[.string f.kind, nv, vv] t))).1
  refine ⟨some ⟨w.heap.size, 0, none⟩, 1, rfl, Nat.le_refl _, fun _ => ⟨w.heap.size, 0, rfl, ?_, trivial, fun j g hj => ?_⟩⟩
  · exact (Array.getElem?_eq_some_iff.1 (new_block w (.cells #[.string f.kind, nv, vv] t))).1
  · cases j with
    | zero =>
      injection hj with hj
      subst hj
      exact ⟨nv, vv, hr 0, hr 1, hr 2, (hn.below hb).mono fun _ _ _ => trivial, (hv.below hb).mono fun _ _ _ => trivial⟩
    | succ j => cases hj
theorem small_one {f : Fact} (h : smallL [f] 1 = true) : (∀ s ∈ f.kind :: f.names, s.size ≤ 140737488351232) ∧ f.names.length ≤ 1000000 ∧ f.vals.length ≤ 1000000 := by
  unfold smallL smallF at h
  simp only [List.all_cons, List.all_nil, Bool.and_true, Bool.and_eq_true, decide_eq_true_eq, List.all_eq_true] at h
  obtain ⟨_, ⟨⟨h1, h2⟩, h3⟩, h4⟩ := h
  refine ⟨fun s hs => ?_, by omega, by omega⟩
  rcases List.mem_cons.1 hs with rfl | hs
  · omega
  · have := h4 s hs; omega
theorem enc_len {f : Fact} (hi : ∀ n ∈ f.vals, Yp.I64 n) (h : (Yp.encE f).2 = 0) : (Yp.encE f).1.size ≤ 1000000 := by
  unfold Yp.encE at h ⊢
  split at h
  · exact absurd h (by decide)
  · rename_i h1
    split at h
    · exact absurd h (by decide)
    · rename_i h2
      rw [if_neg h1, if_neg h2]
      have := (Yp.parts_len (f := f) (by omega) (by omega) (by simpa using h2) hi).1
      show (Lib.join ((Yp.partsOf f).map (·.data.toList)) [32]).toArray.size ≤ 1000000
      simp only [List.size_toArray]
      omega
theorem dec_sizes (s : ByteArray) : (s.size ≤ 1000000 → ∀ x ∈ (Yp.decE s).1.kind :: (Yp.decE s).1.names, x.size ≤ 140737488351232) ∧ ∀ n ∈ (Yp.decE s).1.vals, Yp.I64 n := by
  unfold Yp.decE
  split
  · refine ⟨fun h x hx => ?_, Yp.rawF_i64 _⟩
    rcases Yp.rawF_mem _ x hx with h1 | rfl
    · have := Yp.pieces_size s x h1; omega
    · exact Nat.zero_le _
  · refine ⟨fun h x hx => ?_, fun n hn => absurd hn List.not_mem_nil⟩
    obtain rfl := List.mem_singleton.1 hx
    exact Nat.zero_le _
theorem zero_same : sameF Yp.zeroF ⟨Yp.es, [], []⟩ = true := (sameF_iff _ _).2 rfl
set_option maxRecDepth 100000 in
set_option maxHeartbeats 16000000 in
theorem back_any {w : World} (hE : Env w) {X : Nat → Prop} (f : Fact) (nv vv : Value) (hn : Rd w X nv (strV f.names)) (hv : Rd w X vv (intV f.vals)) (hi : ∀ n ∈ f.vals, Yp.I64 n) (s : ByteArray) :
    Calls Tryz.prog 7 #[.agg #[.string f.kind, nv, vv], .string s] w fun e w' => e = .returned (.bool true) ∧ Below w.heap.size w w' := by
  obtain ⟨A1, c1, rfl, _, _⟩ := id hn
  obtain ⟨A2, c2, rfl, _, _⟩ := id hv
  have HN := Lib.hid hn
  have HV := Lib.hid hv
  have HI := Lib.hid hi
  generalize (strV f.names).length = N1 at *
  generalize (intV f.vals).length = N2 at *
  have hb0 := al_below w (.cells #[.string f.kind, .slice A1 N1 c1, .slice A2 N2 c2] 39)
  have haw := awake_any (hE.on hb0)
  have HE := Lib.hid hE
  have HR0 := Lib.hid (new_block w (.cells #[.string f.kind, .slice A1 N1 c1, .slice A2 N2 c2] 39))
  have HB0 := Lib.hid hb0
  clear hE hn hv hi hb0
  go_enter Tryz.func7, Tryz.ntmps7
  go_wp2_with fail
  refine haw.mono ?_; rintro e w1 ⟨rfl, hb1⟩
  have HR1 := Lib.hid (row_after hb1 HR0.out)
  have HB1 := Lib.hid (HB0.out.trans (hb1.mono HB0.out.size))
  clear haw hb1 HR0 HB0
  have r0 := (row_cells HR1.out).1 0
  have r1 := (row_cells HR1.out).1 1
  have r2 := (row_cells HR1.out).1 2
  have hsm := small_any (fls_one (t := 39) (HN.out.below HB1.out) (HV.out.below HB1.out)) 1 (by decide)
  have hb2 := al_below w1 (.cells #[.string f.kind, .slice A1 N1 c1, .slice A2 N2 c2] 39)
  have HB2 := Lib.hid (HB1.out.trans (hb2.mono HB1.out.size))
  have HR2 := Lib.hid (row_after hb2 HR1.out)
  clear hb2
  cases hs : smallL [f] 1 with
  | false =>
    rw [hs] at hsm
    clear hs
    go_wp2_with fail
    refine hsm.mono ?_; rintro e w2 ⟨rfl, rfl⟩
    clear hsm
    go_wp2_with fail
    go_ret
    exact ⟨rfl, HB2.out⟩
  | true =>
    rw [hs] at hsm
    have HS := Lib.hid (small_one hs)
    clear hs
    go_wp2_with fail
    refine hsm.mono ?_; rintro e w2 ⟨rfl, rfl⟩
    clear hsm
    generalize w1.alloc (.cells #[.string f.kind, .slice A1 N1 c1, .slice A2 N2 c2] 39) = W2 at *
    clear r0 r1 r2 HR1 HB1
    by_cases hz : s.size ≤ 500
    · have hq : decide (500 < s.size) = false := by simp; omega
      have r0 := (row_cells HR2.out).1 0
      have r1 := (row_cells HR2.out).1 1
      have r2 := (row_cells HR2.out).1 2
      have henc := enc_any f _ _ (HN.out.below HB2.out) (HV.out.below HB2.out) HS.out.1 HI.out (HE.out.on HB2.out).tab
      go_wp2_with fail
      refine henc.mono ?_; rintro e w3 ⟨rfl, hb3⟩
      have HB3 := Lib.hid (HB2.out.trans (hb3.mono HB2.out.size))
      have HR3 := Lib.hid (row_after hb3 HR2.out)
      clear henc hb3 r0 r1 r2 HR2 HB2
      have HDE : Hid ((Yp.encE f).2 = 0 → Yp.decE (Yp.encE f).1 = (f, 0)) := Lib.hid (Yp.dec_enc HI.out)
      have HLEN : Hid ((Yp.encE f).2 = 0 → (Yp.encE f).1.size ≤ 1000000) := Lib.hid (enc_len HI.out)
      by_cases he0 : (Yp.encE f).2 = 0
      · have hde := HDE.out he0
        have hlen := HLEN.out he0
        have hdec := dec_any (HE.out.on HB3.out) (Yp.encE f).1 hlen
        rw [hde] at hdec
        rw [he0]
        clear he0 hde hlen HDE HLEN
        generalize (Yp.encE f).1 = a at *
        go_wp2_with fail
        refine hdec.mono ?_; rintro e w4 ⟨nv, vv, rfl, hn4, hv4, hb4⟩
        obtain ⟨A3, c3, rfl, _, _⟩ := id hn4
        obtain ⟨A4, c4, rfl, _, _⟩ := id hv4
        have HB4 := Lib.hid (HB3.out.trans (hb4.mono HB3.out.size))
        have HR4 := Lib.hid (row_after hb4 HR3.out)
        generalize (strV f.names).length = N3 at hn4 ⊢
        generalize (intV f.vals).length = N4 at hv4 ⊢
        have hb5 := al_below w4 (.cells #[.string f.kind, .slice A3 N3 c3, .slice A4 N4 c4] 39)
        have hsame := same_any f f _ _ _ _ (HN.out.below (HB4.out.trans (hb5.mono HB4.out.size))) (HV.out.below (HB4.out.trans (hb5.mono HB4.out.size))) (hn4.below hb5) (hv4.below hb5) HS.out.2
        rw [show sameF f f = true from (sameF_iff f f).2 rfl] at hsame
        have HB5 := Lib.hid (HB4.out.trans (hb5.mono HB4.out.size))
        have HR5 := Lib.hid (row_after hb5 HR4.out)
        have r0 := (row_cells HR5.out).1 0
        have r1 := (row_cells HR5.out).1 1
        have r2 := (row_cells HR5.out).1 2
        have q0 := (row_cells (new_block w4 (.cells #[.string f.kind, .slice A3 N3 c3, .slice A4 N4 c4] 39))).1 0
        have q1 := (row_cells (new_block w4 (.cells #[.string f.kind, .slice A3 N3 c3, .slice A4 N4 c4] 39))).1 1
        have q2 := (row_cells (new_block w4 (.cells #[.string f.kind, .slice A3 N3 c3, .slice A4 N4 c4] 39))).1 2
        clear hdec hb4 hn4 hv4 HR3 HB3 HR4 HB4 hb5
        go_wp2_with fail
        refine hsame.mono ?_; rintro e w6 ⟨rfl, hb6⟩
        have HBX := Lib.hid (HB5.out.trans (hb6.mono HB5.out.size))
        clear hsame hb6 r0 r1 r2 q0 q1 q2 HR5 HB5
        have hdec2 := dec_any (HE.out.on HBX.out) s (by omega)
        have HDS := Lib.hid (dec_sizes s)
        have hed := Yp.enc_dec s
        by_cases hd0 : (Yp.decE s).2 = 0
        · have hen := hed.1 hd0
          have HEN := Lib.hid hen
          rw [hd0] at hdec2
          clear hed hd0 hen
          generalize (Yp.decE s).1 = g at *
          go_wp2_with fail
          refine hdec2.mono ?_; rintro e w7 ⟨nv, vv, rfl, hn7, hv7, hb7⟩
          obtain ⟨A5, c5, rfl, _, _⟩ := id hn7
          obtain ⟨A6, c6, rfl, _, _⟩ := id hv7
          generalize (strV g.names).length = N5 at hn7 ⊢
          generalize (intV g.vals).length = N6 at hv7 ⊢
          have hb8 := al_below w7 (.cells #[.string g.kind, .slice A5 N5 c5, .slice A6 N6 c6] 39)
          have HB7 := Lib.hid (HBX.out.trans (hb7.mono HBX.out.size))
          have HB8 := Lib.hid (HB7.out.trans (hb8.mono HB7.out.size))
          have henc2 := enc_any g _ _ (hn7.below hb8) (hv7.below hb8) (HDS.out.1 (by omega)) HDS.out.2 (HE.out.on HB8.out).tab
          rw [HEN.out] at henc2
          have q0 := (row_cells (new_block w7 (.cells #[.string g.kind, .slice A5 N5 c5, .slice A6 N6 c6] 39))).1 0
          have q1 := (row_cells (new_block w7 (.cells #[.string g.kind, .slice A5 N5 c5, .slice A6 N6 c6] 39))).1 1
          have q2 := (row_cells (new_block w7 (.cells #[.string g.kind, .slice A5 N5 c5, .slice A6 N6 c6] 39))).1 2
          clear hdec2 hb7 hn7 hv7 hb8
          go_wp2_with fail
          refine henc2.mono ?_; rintro e w9 ⟨rfl, hb9⟩
          have HB9 := Lib.hid (HB8.out.trans (hb9.mono HB8.out.size))
          clear henc2 hb9 q0 q1 q2
          have hss : (s.toList == s.toList) = true := by simp
          go_wp2_with fail
          go_ret
          exact ⟨rfl, HB9.out⟩
        · have hez := hed.2 hd0
          have hce : ((Yp.decE s).2 != 0) = true := by simpa using hd0
          rw [hez] at hdec2
          clear hed hd0 hez
          generalize (Yp.decE s).2 = d at *
          go_wp2_with fail
          refine hdec2.mono ?_; rintro e w7 ⟨nv, vv, rfl, hn7, hv7, hb7⟩
          obtain ⟨A5, c5, rfl, _, _⟩ := id hn7
          obtain ⟨A6, c6, rfl, _, _⟩ := id hv7
          generalize (strV Yp.zeroF.names).length = N5 at hn7 ⊢
          generalize (intV Yp.zeroF.vals).length = N6 at hv7 ⊢
          have hb8 := al_below w7 (.cells #[.string Yp.zeroF.kind, .slice A5 N5 c5, .slice A6 N6 c6] 39)
          have HB7 := Lib.hid (HBX.out.trans (hb7.mono HBX.out.size))
          have HB8 := Lib.hid (HB7.out.trans (hb8.mono HB7.out.size))
          have hsame2 := same_any Yp.zeroF ⟨⟨#[]⟩, [], []⟩ _ _ (.slice none 0 0) (.slice none 0 0) (hn7.below hb8) (hv7.below hb8) (Y := fun _ => True) ⟨none, 0, rfl, Nat.le_refl _, fun h => absurd h (by simp [strV])⟩ ⟨none, 0, rfl, Nat.le_refl _, fun h => absurd h (by simp [intV])⟩ ⟨Nat.zero_le _, Nat.zero_le _⟩
          rw [show sameF Yp.zeroF ⟨⟨#[]⟩, [], []⟩ = true from (sameF_iff _ _).2 rfl] at hsame2
          have q0 := (row_cells (new_block w7 (.cells #[.string Yp.zeroF.kind, .slice A5 N5 c5, .slice A6 N6 c6] 39))).1 0
          have q1 := (row_cells (new_block w7 (.cells #[.string Yp.zeroF.kind, .slice A5 N5 c5, .slice A6 N6 c6] 39))).1 1
          have q2 := (row_cells (new_block w7 (.cells #[.string Yp.zeroF.kind, .slice A5 N5 c5, .slice A6 N6 c6] 39))).1 2
          clear hdec2 hb7 hn7 hv7 hb8
          go_wp2_with fail
          refine hsame2.mono ?_; rintro e w9 ⟨rfl, hb9⟩
          have HB9 := Lib.hid (HB8.out.trans (hb9.mono HB8.out.size))
          clear hsame2 hb9 q0 q1 q2
          go_wp2_with fail
          go_ret
          exact ⟨rfl, HB9.out⟩
      · have hce0 : ((Yp.encE f).2 == 0) = false := by simpa using he0
        have HBX := HB3
        clear he0 HDE HLEN HR3
        generalize (Yp.encE f).2 = d0 at *
        have hdec2 := dec_any (HE.out.on HBX.out) s (by omega)
        have HDS := Lib.hid (dec_sizes s)
        have hed := Yp.enc_dec s
        by_cases hd0 : (Yp.decE s).2 = 0
        · have hen := hed.1 hd0
          have HEN := Lib.hid hen
          rw [hd0] at hdec2
          clear hed hd0 hen
          generalize (Yp.decE s).1 = g at *
          go_wp2_with fail
          refine hdec2.mono ?_; rintro e w7 ⟨nv, vv, rfl, hn7, hv7, hb7⟩
          obtain ⟨A5, c5, rfl, _, _⟩ := id hn7
          obtain ⟨A6, c6, rfl, _, _⟩ := id hv7
          generalize (strV g.names).length = N5 at hn7 ⊢
          generalize (intV g.vals).length = N6 at hv7 ⊢
          have hb8 := al_below w7 (.cells #[.string g.kind, .slice A5 N5 c5, .slice A6 N6 c6] 39)
          have HB7 := Lib.hid (HBX.out.trans (hb7.mono HBX.out.size))
          have HB8 := Lib.hid (HB7.out.trans (hb8.mono HB7.out.size))
          have henc2 := enc_any g _ _ (hn7.below hb8) (hv7.below hb8) (HDS.out.1 (by omega)) HDS.out.2 (HE.out.on HB8.out).tab
          rw [HEN.out] at henc2
          have q0 := (row_cells (new_block w7 (.cells #[.string g.kind, .slice A5 N5 c5, .slice A6 N6 c6] 39))).1 0
          have q1 := (row_cells (new_block w7 (.cells #[.string g.kind, .slice A5 N5 c5, .slice A6 N6 c6] 39))).1 1
          have q2 := (row_cells (new_block w7 (.cells #[.string g.kind, .slice A5 N5 c5, .slice A6 N6 c6] 39))).1 2
          clear hdec2 hb7 hn7 hv7 hb8
          go_wp2_with fail
          refine henc2.mono ?_; rintro e w9 ⟨rfl, hb9⟩
          have HB9 := Lib.hid (HB8.out.trans (hb9.mono HB8.out.size))
          clear henc2 hb9 q0 q1 q2
          have hss : (s.toList == s.toList) = true := by simp
          go_wp2_with fail
          go_ret
          exact ⟨rfl, HB9.out⟩
        · have hez := hed.2 hd0
          have hce : ((Yp.decE s).2 != 0) = true := by simpa using hd0
          rw [hez] at hdec2
          clear hed hd0 hez
          generalize (Yp.decE s).2 = d at *
          go_wp2_with fail
          refine hdec2.mono ?_; rintro e w7 ⟨nv, vv, rfl, hn7, hv7, hb7⟩
          obtain ⟨A5, c5, rfl, _, _⟩ := id hn7
          obtain ⟨A6, c6, rfl, _, _⟩ := id hv7
          generalize (strV Yp.zeroF.names).length = N5 at hn7 ⊢
          generalize (intV Yp.zeroF.vals).length = N6 at hv7 ⊢
          have hb8 := al_below w7 (.cells #[.string Yp.zeroF.kind, .slice A5 N5 c5, .slice A6 N6 c6] 39)
          have HB7 := Lib.hid (HBX.out.trans (hb7.mono HBX.out.size))
          have HB8 := Lib.hid (HB7.out.trans (hb8.mono HB7.out.size))
          have hsame2 := same_any Yp.zeroF ⟨⟨#[]⟩, [], []⟩ _ _ (.slice none 0 0) (.slice none 0 0) (hn7.below hb8) (hv7.below hb8) (Y := fun _ => True) ⟨none, 0, rfl, Nat.le_refl _, fun h => absurd h (by simp [strV])⟩ ⟨none, 0, rfl, Nat.le_refl _, fun h => absurd h (by simp [intV])⟩ ⟨Nat.zero_le _, Nat.zero_le _⟩
          rw [show sameF Yp.zeroF ⟨⟨#[]⟩, [], []⟩ = true from (sameF_iff _ _).2 rfl] at hsame2
          have q0 := (row_cells (new_block w7 (.cells #[.string Yp.zeroF.kind, .slice A5 N5 c5, .slice A6 N6 c6] 39))).1 0
          have q1 := (row_cells (new_block w7 (.cells #[.string Yp.zeroF.kind, .slice A5 N5 c5, .slice A6 N6 c6] 39))).1 1
          have q2 := (row_cells (new_block w7 (.cells #[.string Yp.zeroF.kind, .slice A5 N5 c5, .slice A6 N6 c6] 39))).1 2
          clear hdec2 hb7 hn7 hv7 hb8
          go_wp2_with fail
          refine hsame2.mono ?_; rintro e w9 ⟨rfl, hb9⟩
          have HB9 := Lib.hid (HB8.out.trans (hb9.mono HB8.out.size))
          clear hsame2 hb9 q0 q1 q2
          go_wp2_with fail
          go_ret
          exact ⟨rfl, HB9.out⟩
    · have hq : decide (500 < s.size) = true := by simp; omega
      go_wp2_with fail
      go_ret
      exact ⟨rfl, HB2.out⟩
end Go.Proofs.YtejhcbbfdfnfdaaGreatDoor.Yard

/-
  YardBack: the record of a fact decodes to the fact, and the fact of a record encodes to the record: the law returns true for every fact and every string, and the fact and the string read afterwards as they read before. Conditions: the row's own (the listed variables of Go's library hold what the program's text lays).
-/
namespace Go.Proofs.YtejhcbbfdfnfdaaGreatDoor.BackRow
open Go.ChangeShapes Go.WideShapes Go.ChangeAt Go.RowKit Go.Proofs.YtejhcbbfdfnfdaaGreatDoor.Yard
set_option maxRecDepth 100000 in
theorem fact_of_trod {H : Type} {enc : TypeId × Value → H} {W : World} {base : Nat} {sp : Nat → Bool} {held : Bool} {fuel : Nat} {cs : Array Value} {x : DataW H × List MemPlace} (h : DataW.trod enc Tryz.prog W base sp held fuel 39 (Value.agg cs).cells.toList = some x) :
    ∃ (f : Yp.Fact) (nv vv : Value), cs = #[.string f.kind, nv, vv] ∧ Rd W (fun _ => True) nv (strV f.names) ∧ Rd W (fun _ => True) vv (intV f.vals) ∧ ∀ n ∈ f.vals, Yp.I64 n := by
  obtain ⟨xs, k, _, _, hlen, hxl, hf⟩ := DataW.trod_struct Tryz.underlying39 h
  have hce : Tryz.prog.cellsOf 39 = 3 := by kernel_rfl
  rw [hce] at hlen
  have hlen : cs.toList.length = 3 := hlen
  obtain ⟨l⟩ := cs
  match l, hlen, xs, hxl with
  | [v0, v1, v2], _, [x0, x1, x2], _ =>
    have g0 : DataW.trod enc Tryz.prog W base sp held k 9 (([v0, v1, v2].drop 0).take (Tryz.prog.cellsOf 9)) = some x0 := hf 0 _ rfl
    have g1 : DataW.trod enc Tryz.prog W base sp held k 36 (([v0, v1, v2].drop 1).take (Tryz.prog.cellsOf 36)) = some x1 := hf 1 _ rfl
    have g2 : DataW.trod enc Tryz.prog W base sp held k 37 (([v0, v1, v2].drop 2).take (Tryz.prog.cellsOf 37)) = some x2 := hf 2 _ rfl
    rw [show Tryz.prog.cellsOf 9 = 1 by kernel_rfl] at g0
    rw [show Tryz.prog.cellsOf 36 = 1 by kernel_rfl] at g1
    rw [show Tryz.prog.cellsOf 37 = 1 by kernel_rfl] at g2
    obtain ⟨s, hs, _, _⟩ := DataW.trod_string Tryz.underlying9 g0
    obtain ⟨ns, hns, _⟩ := strs_of_trod g1
    obtain ⟨vs, hvs, hvz⟩ := ints_of_trod g2
    have hv0 : v0 = .string s := (List.cons.inj hs).1
    subst hv0
    exact ⟨⟨s, ns, vs⟩, v1, v2, rfl, hns, hvs, hvz⟩
set_option maxRecDepth 100000 in
theorem contract (H : Type) (enc : TypeId × Value → H) (W : World) (base : Nat) (args : Array Value) (ds gs : List (DataW H)) (before : List MemPlace)
    (hval : ∀ (j : Nat) t v, Tryz.f7.params[j]? = some t → args[j]? = some v → Value.okWide Tryz.prog W .any base t v)
    (hW : DataW.Whole enc Tryz.prog Tryz.f7.params.toList Rows.yardBackSpec.vars false W args.toList ds gs before) (hL : laidMetH Tryz.prog Rows.yardBackRow.laid W) (hsh : W.ShapedOpen Tryz.prog) :
    Calls Tryz.prog 7 args W fun e W' => ∃ v, e = .returned v ∧ Rows.yardBackSpec.post enc Tryz.prog Tryz.f7 false true false false W args v W' := by
  have hW' := hW
  obtain ⟨p, q, hA0, hV, rfl, hfz, hnd⟩ := hW
  have hA : DataW.TrodAll enc Tryz.prog W 0 (fun _ => true) true Tryz.f7.params.toList args.toList ds p := hA0
  rw [Tryz.params7] at hA hval
  obtain ⟨v0, v1, d0, d1, p0, p1, rfl, rfl, rfl, h0, h1⟩ := trodAll_two hA
  obtain ⟨rfl, rfl⟩ := trodVars_none hV
  obtain ⟨cs, rfl, hcs⟩ := okWide_struct Tryz.underlying39 (hval 0 39 v0 rfl rfl)
  obtain ⟨s, rfl⟩ := okWide_string Tryz.underlying9 (hval 1 9 v1 rfl rfl)
  have k0 := h0
  have lt0 : ∀ x ∈ p0, x.block < W.heap.size := by obtain ⟨m, hm⟩ := k0; exact DataW.trod_lt m _ _ _ hm
  have lt1 : ∀ x ∈ p1, x.block < W.heap.size := by obtain ⟨m, hm⟩ := h1; exact DataW.trod_lt m _ _ _ hm
  obtain ⟨fuel, hf⟩ := h0
  obtain ⟨f, nv, vv, rfl, hn, hv, hi⟩ := fact_of_trod hf
  refine (back_any (env_of hL hsh) f nv vv hn hv hi s).mono fun e W' ⟨he, bel⟩ => ?_
  subst he
  simp only [List.append_nil] at hW'
  exact ⟨_, rfl, _, _, _, [], _, [], hW', trodAll_mk1 (shut_bool Tryz.underlying4 _), trodAll_mk2 (Below.trod laidOut (by kernel_rfl) (of_decide_eq_true (by kernel_rfl)) k0 bel lt0) (Below.trod laidOut (by kernel_rfl) (of_decide_eq_true (by kernel_rfl)) h1 bel lt1), rfl, bel.frame _, fun h => by cases h⟩
theorem laid_met (os : Os) (args : Array Value) : laidMetH Tryz.prog Rows.yardBackRow.laid ((World.laidAll Tryz.prog os Rows.yardBackRow.laid).forCall (fun _ _ => 0) ⟨#[], args, []⟩).memory := by
  rw [MakeChecks.laidMetH_plain _ _ _ (by kernel_rfl)]
  exact laidMet_laidAll _ (by kernel_rfl) (by kernel_rfl)
theorem reads (os : Os) {H : Type} (enc : TypeId × Value → H) : ∃ places, DataW.whole enc Tryz.prog ((World.laidAll Tryz.prog os Rows.yardBackRow.laid).forCall (fun _ _ => 0) ⟨#[], #[.agg #[.string ⟨#[]⟩, .slice none 0 0, .slice none 0 0], .string ⟨#[]⟩], []⟩).memory Tryz.f7.params.toList Rows.yardBackSpec.vars false #[Value.agg #[.string ⟨#[]⟩, .slice none 0 0, .slice none 0 0], .string ⟨#[]⟩].toList 8 = some ([.agg [.lit (.string []), .nil, .nil], .lit (.string [])], [], places) :=
  ⟨[], by kernel_rfl⟩
set_option maxRecDepth 100000 in
theorem lifted (os : Os) (started : os.Started) (H : Type) (enc : TypeId × Value → H) (F : Stop.Interp) :
    ReturnsInHanded {} Tryz.checked os 7 .any ((OpenSpec.ofChange Rows.yardBackSpec).preRow enc Tryz.prog Tryz.f7 Rows.yardBackRow.domain false Rows.yardBackRow.laid) (((OpenSpec.ofChange Rows.yardBackSpec).at F).post enc Tryz.prog Tryz.f7 false true false false) := by
  obtain ⟨places, hx⟩ := reads os enc
  refine returnsInHanded_of_row (C := Tryz.checked) (s := OpenSpec.ofChange Rows.yardBackSpec) own started (by kernel_rfl) Tryz.func7
    (witness_row_at (enc := enc) (C := Tryz.checked) false (World.laidAll Tryz.prog os Rows.yardBackRow.laid) #[.agg #[.string ⟨#[]⟩, .slice none 0 0, .slice none 0 0], .string ⟨#[]⟩] (World.laidAll_os _ _ _) (by kernel_rfl) (by kernel_rfl) (by kernel_rfl)
      (OpenSpec.preRow_of_cond 8 hx (by kernel_rfl) (fun k hk => by cases hk) (by kernel_rfl) (laid_met os _))) ?_
  intro W base args ds gs before hval hW _ _ _ hL hsh _
  exact contract H enc W base args ds gs before hval hW hL hsh
theorem said : Rows.YardBackSaid :=
  OpenClaim.holds_of_cond 7 Tryz.f7 rfl rfl rfl rfl rfl rfl rfl ⟨rfl, rfl, rfl, rfl, rfl⟩ rfl rfl rfl rfl rfl (by kernel_rfl) Tryz.func7 (by kernel_rfl)
    (of_decide_eq_true (by kernel_rfl)) (by unfold Func.isWrapper; first | (rw [if_pos (by decide +kernel)]; kernel_rfl) | (rw [if_neg (by decide +kernel)]; exact ⟨rfl, rfl⟩))
    (fun os started H enc _ F => by rw [OpenClaim.pre_eq_preRow]; exact lifted os started H enc F)
theorem plain (f : FuncId) (fn : Func) (hf : Tryz.pinned.checked.prog.funcNamed "gangsaw/gangsawlaw59.YardBack" = some f) (hfn : Tryz.pinned.checked.prog.funcs[f]? = some fn) :
    true = Tryz.pinned.checked.prog.looks [] ∧ ∀ (j : Nat) t, fn.params[j]? = some t → Tryz.pinned.checked.prog.wantsStandIn t = false := by
  obtain rfl : f = 7 := Option.some.inj ((show Tryz.prog.funcNamed "gangsaw/gangsawlaw59.YardBack" = some 7 by kernel_rfl).symm.trans hf) |>.symm
  obtain rfl : fn = Tryz.f7 := (Option.some.inj (Tryz.func7.symm.trans hfn)).symm
  refine ⟨by kernel_rfl, fun j t ht => ?_⟩
  rw [Tryz.params7] at ht
  have hm : t = 39 ∨ t = 9 := by simpa using Array.mem_of_getElem? ht
  rcases hm with rfl | rfl
  · exact (show Tryz.prog.wantsStandIn 39 = false by kernel_rfl)
  · exact (show Tryz.prog.wantsStandIn 9 = false by kernel_rfl)
end Go.Proofs.YtejhcbbfdfnfdaaGreatDoor.BackRow
namespace Go.Proofs.YtejhcbbfdfnfdaaGreatDoor
open Go
theorem yardBack_holds : Rows.YardBackCardSaid :=
  Claim7.holds_tied_plain_at .later [] _ _ _ _ BackRow.said (fun _ h => by cases h) (by kernel_rfl) (fun _ h => by cases h) yardBack_row_tie rfl ⟨rfl, rfl⟩ (by kernel_rfl) rfl BackRow.plain (by kernel_rfl)
end Go.Proofs.YtejhcbbfdfnfdaaGreatDoor
