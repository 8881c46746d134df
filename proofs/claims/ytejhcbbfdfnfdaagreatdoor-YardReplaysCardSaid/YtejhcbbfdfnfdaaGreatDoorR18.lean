/- Check: whether a fact is possible. -/
import Derived.Test.YtejhcbbfdfnfdaaGreatDoorR5
import Derived.Test.YtejhcbbfdfnfdaaGreatDoorR17
import Derived.Test.YtejhcbbfdfnfdaaGreatDoorR14
/- Check's answers, case by case. No program. -/
namespace Go.Proofs.YtejhcbbfdfnfdaaGreatDoor.Yp
section
variable {y : Yd} {kd : ByteArray} {ns : List ByteArray} {vs : List Int} {k : Nat}
theorem check_out (hk : kindNo kd = none) : check y ⟨kd, ns, vs⟩ = 3 := by unfold check; simp only [hk]
theorem check_shape (hk : kindNo kd = some k) (h : ns.length ≠ nNames k ∨ vs.length ≠ nVals k) : check y ⟨kd, ns, vs⟩ = 1 := by
  unfold check
  simp only [hk]
  rw [if_pos h]
theorem check_bad (hk : kindNo kd = some k) (h1 : ns.length = nNames k) (h2 : vs.length = nVals k) (h : (ns.any fun s => !isName s) = true) : check y ⟨kd, ns, vs⟩ = 4 := by
  unfold check
  simp only [hk]
  rw [if_neg (by omega), if_pos h]
theorem check_free (hk : kindNo kd = some 0) (h1 : ns.length = nNames 0) (h2 : vs.length = nVals 0) (h : (ns.any fun s => !isName s) = false) : check y ⟨kd, ns, vs⟩ = freeErr y.items (ns.getD 0 es) (boxOf vs) := by
  unfold check
  simp only [hk]
  rw [if_neg (by omega), if_neg (by rw [h]; decide), if_pos trivial]
  rfl
theorem check_miss (hk : kindNo kd = some k) (h1 : ns.length = nNames k) (h2 : vs.length = nVals k) (h : (ns.any fun s => !isName s) = false) (h0 : k ≠ 0) (hl : look y.items (ns.getD 0 es) = none) : check y ⟨kd, ns, vs⟩ = 3 := by
  unfold check
  simp only [hk]
  rw [if_neg (by omega), if_neg (by rw [h]; decide), if_neg h0]
  rw [show nm (⟨kd, ns, vs⟩ : Fact) 0 = ns.getD 0 es from rfl, hl]
theorem check_found (hk : kindNo kd = some k) (h1 : ns.length = nNames k) (h2 : vs.length = nVals k) (h : (ns.any fun s => !isName s) = false) (h0 : k ≠ 0) {x : It} (hl : look y.items (ns.getD 0 es) = some x) :
    check y ⟨kd, ns, vs⟩ = if allowed k x.st = false then 8 else if k = 1 then cutErr y.items x ⟨kd, ns, vs⟩ else if k = 2 then assignErr y.items (ns.getD 1 es) else 0 := by
  unfold check
  simp only [hk]
  rw [if_neg (by omega), if_neg (by rw [h]; decide), if_neg h0]
  rw [show nm (⟨kd, ns, vs⟩ : Fact) 0 = ns.getD 0 es from rfl, hl]
  rfl
end
end Go.Proofs.YtejhcbbfdfnfdaaGreatDoor.Yp

/- Check: whether a fact is possible. -/
namespace Go.Proofs.YtejhcbbfdfnfdaaGreatDoor.Yard
open Go.RowKit Go.Proofs.YtejhcbbfdfnfdaaGreatDoor.Base Go.Proofs.YtejhcbbfdfnfdaaGreatDoor.Mp
open Go.Proofs.YtejhcbbfdfnfdaaGreatDoor.Lex (nameB)
open Yp (It Yd Fact Bx)
section
open Go.Proofs.YtejhcbbfdfnfdaaGreatDoor.Reg
def CheckR (kd : ByteArray) (k : Nat) (w0 : World) (Z : Array Value) (b : Nat → Bool) (W : World) (m : Nat) (sl : Value) (p : Nat) : Prop :=
  Below w0.heap.size w0 W ∧ (b 0 = true → b 8 = false → ∃ N, KAt kd k N W m sl) ∧ (b 0 = true → Rd W (fun g => b 7 = true → g ≠ p) sl (intV (stL k)) ∧ (k = 0 → sl = .slice none 0 0) ∧ (k ≠ 0 → ∃ g, sl = .slice (some ⟨g, 0, none⟩) (stL k).length (stL k).length)) ∧ Al W w0.heap.size (b 7) p (if b 8 = true then #[.int .i64 (Yp.nNames k), .int .i64 (Yp.nVals k), sl, wrV k, doV k] else Z) 77
def CheckN (w0 : World) (Z : Array Value) (b : Nat → Bool) (W : World) (m : Nat) (p : Nat) : Prop :=
  Below w0.heap.size w0 W ∧ (b 0 = true → b 8 = false → ∃ g1 g2 g3 g4 g5, KindsAt W m g1 g2 g3 g4 g5) ∧ Al W w0.heap.size (b 7) p Z 77
variable {kd : ByteArray} {k : Nat} {w0 W W' : World} {Z : Array Value} {b : Nat → Bool} {m m' p : Nat} {sl sl' : Value}
theorem KindsAt.below {g1 g2 g3 g4 g5 : Nat} (h : KindsAt W m g1 g2 g3 g4 g5) (hb : Below W.heap.size W W') : KindsAt W' m g1 g2 g3 g4 g5 :=
  ⟨h.1.after hb, row_after hb h.2.1, row_after hb h.2.2.1, row_after hb h.2.2.2.1, row_after hb h.2.2.2.2.1, row_after hb h.2.2.2.2.2⟩
theorem CheckR.start : CheckR kd k W Z (fun _ => false) W.drew m sl p := ⟨(Below.refl _ _).drew, fun h => (by cases h), fun h => (by cases h), Al.off⟩
theorem CheckN.start : CheckN W Z (fun _ => false) W.drew m p := ⟨(Below.refl _ _).drew, fun h => (by cases h), Al.off⟩
theorem CheckR.keep {i : Nat} (h : CheckR kd k w0 Z b W m sl p) (hi : i ∉ [0, 7, 8]) (hb : Below W.heap.size W W') : CheckR kd k w0 Z (up b i) W' m sl p := by
  obtain ⟨h0, h1, h2, h3⟩ := h
  simp only [List.mem_cons, List.not_mem_nil, or_false, not_or] at hi
  unfold CheckR
  rw [up_ne (Ne.symm hi.1), up_ne (Ne.symm hi.2.1), up_ne (Ne.symm hi.2.2)]
  exact ⟨h0.trans (hb.mono h0.size), fun g g8 => (h1 g g8).elim fun N h => ⟨N, h.below hb⟩, fun g => ⟨(h2 g).1.below hb, (h2 g).2⟩, h3.below hb⟩
theorem CheckN.keep {i : Nat} (h : CheckN w0 Z b W m p) (hi : i ∉ [0, 7, 8]) (hb : Below W.heap.size W W') : CheckN w0 Z (up b i) W' m p := by
  obtain ⟨h0, h1, h2⟩ := h
  simp only [List.mem_cons, List.not_mem_nil, or_false, not_or] at hi
  unfold CheckN
  rw [up_ne (Ne.symm hi.1), up_ne (Ne.symm hi.2.1), up_ne (Ne.symm hi.2.2)]
  exact ⟨h0.trans (hb.mono h0.size), fun g g8 => (h1 g g8).elim fun g1 h => h.elim fun g2 h => h.elim fun g3 h => h.elim fun g4 h => h.elim fun g5 h => ⟨g1, g2, g3, g4, g5, h.below hb⟩, h2.below hb⟩
theorem CheckR.call (h : CheckR kd k w0 Z b W m sl p) (hk : KAt kd k W.heap.size W' m' sl') (hb : Below W.heap.size W W') (h8 : b 8 = false) : CheckR kd k w0 Z (up b 0) W' m' sl' p := by
  obtain ⟨h0, h1, h2, h3⟩ := h
  unfold CheckR
  rw [up_self, up_ne (show (7 : Nat) ≠ 0 by decide), up_ne (show (8 : Nat) ≠ 0 by decide), h8]
  rw [h8] at h3
  exact ⟨h0.trans (hb.mono h0.size), fun _ _ => ⟨_, hk⟩, fun _ => ⟨hk.rd.mono fun g _ hg h7 => Nat.ne_of_gt (Nat.lt_of_lt_of_le (h3.lt h7) hg), hk.nil0, hk.pos⟩, h3.below hb⟩
theorem CheckN.call (h : CheckN w0 Z b W m p) (hk : ∃ g1 g2 g3 g4 g5, KindsAt W' m' g1 g2 g3 g4 g5) (hb : Below W.heap.size W W') : CheckN w0 Z (up b 0) W' m' p := by
  obtain ⟨h0, h1, h2⟩ := h
  unfold CheckN
  rw [up_self, up_ne (show (7 : Nat) ≠ 0 by decide)]
  exact ⟨h0.trans (hb.mono h0.size), fun _ _ => hk, h2.below hb⟩
theorem CheckR.al7 (h : CheckR kd k w0 Z b W m sl p) (h8 : b 8 = false) : CheckR kd k w0 Z (up b 7) (W.alloc (.cells Z 77)) m sl W.heap.size := by
  obtain ⟨h0, h1, h2, h3⟩ := h
  have hB := al_below W (.cells Z 77)
  unfold CheckR
  rw [up_self, up_ne (show (0 : Nat) ≠ 7 by decide), up_ne (show (8 : Nat) ≠ 7 by decide), h8]
  exact ⟨h0.trans (hB.mono h0.size), fun g _ => (h1 g h8).elim fun N h => ⟨N, h.below hB⟩, fun g => ⟨((h2 g).1.mono fun i hi _ _ => Nat.ne_of_lt hi).below hB, (h2 g).2⟩, Al.new h0.size⟩
theorem CheckN.al7 (h : CheckN w0 Z b W m p) (h8 : b 8 = false) : CheckN w0 Z (up b 7) (W.alloc (.cells Z 77)) m W.heap.size := by
  obtain ⟨h0, h1, h2⟩ := h
  have hB := al_below W (.cells Z 77)
  unfold CheckN
  rw [up_self, up_ne (show (0 : Nat) ≠ 7 by decide), up_ne (show (8 : Nat) ≠ 7 by decide), h8]
  exact ⟨h0.trans (hB.mono h0.size), fun g _ => (h1 g h8).elim fun g1 h => h.elim fun g2 h => h.elim fun g3 h => h.elim fun g4 h => h.elim fun g5 h => ⟨g1, g2, g3, g4, g5, h.below hB⟩, Al.new h0.size⟩
theorem CheckR.blk8 (h : CheckR kd k w0 Z b W m sl p) (g : b 7 = true) (h8 : b 8 = false) : W.heap[p]? = some (.cells Z 77 (0, 0)) := by
  have := (h.2.2.2 g).2
  rwa [h8] at this
theorem CheckN.blk8 (h : CheckN w0 Z b W m p) (g : b 7 = true) (_ : b 8 = false) : W.heap[p]? = some (.cells Z 77 (0, 0)) := (h.2.2 g).2
theorem CheckR.st8 (h : CheckR kd k w0 Z b W m sl p) (_ : b 0 = true) (h7 : b 7 = true) : CheckR kd k w0 Z (up b 8) (W.setRow p #[.int .i64 (Yp.nNames k), .int .i64 (Yp.nVals k), sl, wrV k, doV k]) m sl p := by
  obtain ⟨h0, h1, h2, h3⟩ := h
  unfold CheckR
  rw [up_self, up_ne (show (0 : Nat) ≠ 8 by decide), up_ne (show (7 : Nat) ≠ 8 by decide)]
  exact ⟨setRow_below h0 (h3 h7).1 _, fun _ h => (by cases h), fun g => ⟨(h2 g).1.after (by rw [size_setRow]; exact Nat.le_refl _) fun i _ hi => setRow_other W p i _ (hi h7), (h2 g).2⟩, h3.put⟩
theorem CheckN.st8 (h : CheckN w0 Z b W m p) (_ : b 0 = true) (h7 : b 7 = true) : CheckN w0 Z (up b 8) (W.setRow p Z) m p := by
  obtain ⟨h0, h1, h2⟩ := h
  unfold CheckN
  rw [up_self, up_ne (show (7 : Nat) ≠ 8 by decide)]
  exact ⟨setRow_below h0 (h2 h7).1 _, fun _ h => (by cases h), h2.put⟩
theorem one_kind (h : Rd W (fun g => b 7 = true → g ≠ p) sl (intV (stL k)) ∧ (k = 0 → sl = .slice none 0 0) ∧ (k ≠ 0 → ∃ g, sl = .slice (some ⟨g, 0, none⟩) (stL k).length (stL k).length)) : (#[.int .i64 (Yp.nNames k), .int .i64 (Yp.nVals k), sl, wrV k, doV k] : Array Value).all (·.oneCell') = true := by
  have h1 : sl.oneCell' = true := by
    by_cases hk : k = 0
    · rw [h.2.1 hk]; rfl
    · obtain ⟨g, rfl⟩ := h.2.2 hk; rfl
  have h2 : (wrV k).oneCell' = true := by unfold wrV; split <;> rfl
  have h3 : (doV k).oneCell' = true := by unfold doV; split <;> rfl
  have h4 : ∀ n : Int, (Value.int .i64 n).oneCell' = true := fun _ => rfl
  simp [h1, h2, h3, h4]
theorem one_kind0 : (#[.int .i64 0, .int .i64 0, .slice none 0 0, Value.nilFunc, Value.nilFunc] : Array Value).all (·.oneCell') = true := by simp [Value.oneCell']
end
section
open Go.Proofs.YtejhcbbfdfnfdaaGreatDoor.Reg
/-- A region that makes one variable (at operation i) and fills it (at operation s). -/
def One (w0 : World) (Z F : Array Value) (t : TypeId) (i s : Nat) (b : Nat → Bool) (W : World) (p : Nat) : Prop :=
  Below w0.heap.size w0 W ∧ Al W w0.heap.size (b i) p (if b s = true then F else Z) t
variable {w0 W W' : World} {Z F : Array Value} {t : TypeId} {i s : Nat} {b : Nat → Bool} {p : Nat}
theorem One.start : One W Z F t i s (fun _ => false) W.drew p := ⟨(Below.refl _ _).drew, Al.off⟩
theorem One.keep {j : Nat} (h : One w0 Z F t i s b W p) (hj : j ∉ [i, s]) (hb : Below W.heap.size W W') : One w0 Z F t i s (up b j) W' p := by
  simp only [List.mem_cons, List.not_mem_nil, or_false, not_or] at hj
  unfold One
  rw [up_ne (Ne.symm hj.1), up_ne (Ne.symm hj.2)]
  exact ⟨h.1.trans (hb.mono h.1.size), h.2.below hb⟩
theorem One.al (h : One w0 Z F t i s b W p) (hs : b s = false) (hne : s ≠ i) : One w0 Z F t i s (up b i) (W.alloc (.cells Z t)) W.heap.size := by
  unfold One
  rw [up_self, up_ne hne, hs]
  exact ⟨h.1.trans ((al_below W (.cells Z t)).mono h.1.size), Al.new h.1.size⟩
theorem One.blk (h : One w0 Z F t i s b W p) (g : b i = true) (hs : b s = false) : W.heap[p]? = some (.cells Z t (0, 0)) := by
  have := (h.2 g).2
  rwa [hs] at this
theorem One.st (h : One w0 Z F t i s b W p) (g : b i = true) (hne : i ≠ s) : One w0 Z F t i s (up b s) (W.setRow p F) p := by
  unfold One
  rw [up_self, up_ne hne]
  exact ⟨setRow_below h.1 (h.2 g).1 _, h.2.put⟩
theorem One.fin (h : One w0 Z F t i s b W p) (g : b i = true) (hs : b s = true) : Below w0.heap.size w0 W ∧ w0.heap.size ≤ p ∧ W.heap[p]? = some (.cells F t (0, 0)) := by
  have := h.2 g
  rw [hs] at this
  exact ⟨h.1, this⟩
end
set_option maxRecDepth 100000 in
set_option maxHeartbeats 4000000 in
theorem check_unknown {w : World} {Y M : Nat} {FS : Value} {y : Yd} (hy : YAt w Y M FS y) (X : Nat → Prop) (kd : ByteArray) (ns : List ByteArray) (vs : List Int) (nv vv : Value) (hn : Rd w X nv (strV ns)) (hv : Rd w X vv (intV vs)) (hk : Yp.kindNo kd = none) :
    Calls Tryz.prog 27 #[.pointer (some ⟨Y, 0, none⟩), .agg #[.string kd, nv, vv]] w fun e w' => e = .returned (.int .i64 3) ∧ Below w.heap.size w w' := by
  have hn' := id hn
  have hv' := id hv
  obtain ⟨A, c, en, hc, _⟩ := id hn
  obtain ⟨A', c', ev, hc', _⟩ := id hv
  have lns : (strV ns).length = ns.length := by simp [strV]
  have lvs : (intV vs).length = vs.length := by simp [intV]
  rw [lns] at en hc
  rw [lvs] at ev hc'
  subst en ev
  have HK := Lib.hid hk
  have HN := Lib.hid hn'
  have HV := Lib.hid hv'
  have HY := Lib.hid hy
  have HLN := Lib.hid (And.intro lns lvs)
  clear hk hn hv hn' hv' hy lns lvs hc hc'
  have RF := Lib.hid (new_block w (.cells #[.string kd, .slice A ns.length c, .slice A' vs.length c'] 39))
  have HB := Lib.hid ((Below.refl w.heap.size w).alloc (Nat.le_refl _) (.cells #[.string kd, .slice A ns.length c, .slice A' vs.length c'] 39))
  go_enter Tryz.func27, Tryz.ntmps27
  go_wp2_with fail
  generalize w.alloc (.cells #[.string kd, .slice A ns.length c, .slice A' vs.length c'] 39) = W at *
  refine Reg.region_inv [[], [], [1], [0, 2], [3], [4], [4], [], [0, 1, 2, 3, 4, 5, 7], [0, 1, 2, 3, 4, 5, 6, 7, 8]] [[], [], [1], [0, 1, 2], [0, 1, 2, 3], [0, 1, 2, 3, 4], [0, 1, 2, 3, 4], [], [0, 1, 2, 3, 4, 5, 7], [0, 1, 2, 3, 4, 5, 6, 7, 8]] (fun a0_ bb aa ww => ∃ (m : Nat) (p5 : Nat), aa = Reg.fill bb [(0, 10, .map (some m)), (1, 11, .pointer (some ⟨w.heap.size, 0, none⟩)), (2, 12, .string kd), (3, 13, .tuple #[.agg #[.int .i64 0, .int .i64 0, .slice none 0 0, Value.nilFunc, Value.nilFunc], .bool false]), (4, 9, .tuple #[.agg #[.int .i64 0, .int .i64 0, .slice none 0 0, Value.nilFunc, Value.nilFunc], .bool false]), (5, 14, .agg #[.int .i64 0, .int .i64 0, .slice none 0 0, Value.nilFunc, Value.nilFunc]), (6, 15, .bool false), (7, 5, .pointer (some ⟨p5, 0, none⟩)), (9, 6, .bool false)] a0_ ∧ CheckN W #[.int .i64 0, .int .i64 0, .slice none 0 0, Value.nilFunc, Value.nilFunc] bb ww m p5) (by kernel_rfl) (by kernel_rfl) (by kernel_rfl) ?_ ?_ ?_
  · exact ⟨0, 0, Reg.fill_start.symm, CheckN.start⟩
  · refine Reg.steps_cons (i := 0) ?_ ?_
    · rintro bb aa ww ⟨m, p5, ha, HW⟩ hb hd hn
      have HA := Lib.hid ha
      clear ha
      refine ⟨_, rfl, fun K hK => ?_⟩
      refine Reg.do_call rfl rfl Tryz.func30 (by kernel_rfl) rfl #[] rfl (by simp) ?_
      refine (kinds_any ww).mono ?_; rintro e w3 ⟨m', g1, g2, g3, g4, g5, rfl, hka, hb3, _⟩; refine ⟨_, rfl, ?_⟩
      exact hK.out _ _ ⟨m', p5, by rw [HA.out]; exact Reg.fill_up 0 hb rfl rfl rfl, HW.call ⟨_, _, _, _, _, hka⟩ hb3⟩
    refine Reg.steps_cons (i := 1) ?_ ?_
    · rintro bb aa ww ⟨m, p5, ha, HW⟩ hb hd hn
      have e3 : aa.tmps[3]? = some (.pointer (some ⟨w.heap.size, 0, none⟩)) := by rw [ha]; exact (Reg.fill_off rfl).trans rfl
      have HA := Lib.hid ha
      clear ha
      refine ⟨_, rfl, fun K hK => ?_⟩
      refine Reg.do_val rfl rfl (v := .pointer (some ⟨w.heap.size, 0, none⟩)) (w1 := ww) ?_ ?_
      · simp only [List.getElem_toArray, List.getElem_cons_succ, List.getElem_cons_zero, execOp, Reg.eval_tmp e3]
        go_simp
      exact hK.out _ _ ⟨m, p5, by rw [HA.out]; exact Reg.fill_up 1 hb rfl rfl rfl, HW.keep (i := 1) (by decide) (Below.refl _ _)⟩
    refine Reg.steps_cons (i := 2) ?_ ?_
    · rintro bb aa ww ⟨m, p5, ha, HW⟩ hb hd hn
      have e11 : aa.tmps[11]? = some (.pointer (some ⟨w.heap.size, 0, none⟩)) := by rw [ha]; exact Reg.fill_on 1 rfl rfl (hd 1 (by decide)) rfl
      have HA := Lib.hid ha
      clear ha
      refine ⟨_, rfl, fun K hK => ?_⟩
      have k0 := (row_cells (row_after HW.1 RF.out)).1 0
      refine Reg.do_val rfl rfl (v := .string kd) (w1 := ww) ?_ ?_
      · simp only [List.getElem_toArray, List.getElem_cons_succ, List.getElem_cons_zero, execOp, Reg.eval_tmp e11]
        go_simp
      exact hK.out _ _ ⟨m, p5, by rw [HA.out]; exact Reg.fill_up 2 hb rfl rfl rfl, HW.keep (i := 2) (by decide) (Below.refl _ _)⟩
    refine Reg.steps_cons (i := 3) ?_ ?_
    · rintro bb aa ww ⟨m, p5, ha, HW⟩ hb hd hn
      have e10 : aa.tmps[10]? = some (.map (some m)) := by rw [ha]; exact Reg.fill_on 0 rfl rfl (hd 0 (by decide)) rfl
      have e12 : aa.tmps[12]? = some (.string kd) := by rw [ha]; exact Reg.fill_on 2 rfl rfl (hd 2 (by decide)) rfl
      have HA := Lib.hid ha
      clear ha
      refine ⟨_, rfl, fun K hK => ?_⟩
      obtain ⟨g1, g2, g3, g4, g5, hka⟩ := HW.2.1 (hd 0 (by decide)) (hn 8 (by decide))
      have hl := kinds_out hka HK.out true
      clear hka
      simp only [if_true] at hl
      refine Reg.do_val rfl rfl (v := .tuple #[.agg #[.int .i64 0, .int .i64 0, .slice none 0 0, Value.nilFunc, Value.nilFunc], .bool false]) (w1 := ww) ?_ ?_
      · simp only [List.getElem_toArray, List.getElem_cons_succ, List.getElem_cons_zero, execOp, Reg.eval_tmp e10, Reg.eval_tmp e12]
        go_simp
      exact hK.out _ _ ⟨m, p5, by rw [HA.out]; exact Reg.fill_up 3 hb rfl rfl rfl, HW.keep (i := 3) (by decide) (Below.refl _ _)⟩
    refine Reg.steps_cons (i := 4) ?_ ?_
    · rintro bb aa ww ⟨m, p5, ha, HW⟩ hb hd hn
      have e13 : aa.tmps[13]? = some (.tuple #[.agg #[.int .i64 0, .int .i64 0, .slice none 0 0, Value.nilFunc, Value.nilFunc], .bool false]) := by rw [ha]; exact Reg.fill_on 3 rfl rfl (hd 3 (by decide)) rfl
      have HA := Lib.hid ha
      clear ha
      refine ⟨_, rfl, fun K hK => ?_⟩
      refine Reg.do_val rfl rfl (v := .tuple #[.agg #[.int .i64 0, .int .i64 0, .slice none 0 0, Value.nilFunc, Value.nilFunc], .bool false]) (w1 := ww) (by simp only [List.getElem_toArray, List.getElem_cons_succ, List.getElem_cons_zero, execOp, Reg.eval_tmp e13]; rfl) ?_
      exact hK.out _ _ ⟨m, p5, by rw [HA.out]; exact Reg.fill_up 4 hb rfl rfl rfl, HW.keep (i := 4) (by decide) (Below.refl _ _)⟩
    refine Reg.steps_cons (i := 5) ?_ ?_
    · rintro bb aa ww ⟨m, p5, ha, HW⟩ hb hd hn
      have e9 : aa.tmps[9]? = some (.tuple #[.agg #[.int .i64 0, .int .i64 0, .slice none 0 0, Value.nilFunc, Value.nilFunc], .bool false]) := by rw [ha]; exact Reg.fill_on 4 rfl rfl (hd 4 (by decide)) rfl
      have HA := Lib.hid ha
      clear ha
      refine ⟨_, rfl, fun K hK => ?_⟩
      refine Reg.do_val rfl rfl (v := .agg #[.int .i64 0, .int .i64 0, .slice none 0 0, Value.nilFunc, Value.nilFunc]) (w1 := ww) ?_ ?_
      · simp only [List.getElem_toArray, List.getElem_cons_succ, List.getElem_cons_zero, execOp, Reg.eval_tmp e9]
        go_simp
      exact hK.out _ _ ⟨m, p5, by rw [HA.out]; exact Reg.fill_up 5 hb rfl rfl rfl, HW.keep (i := 5) (by decide) (Below.refl _ _)⟩
    refine Reg.steps_cons (i := 6) ?_ ?_
    · rintro bb aa ww ⟨m, p5, ha, HW⟩ hb hd hn
      have e9 : aa.tmps[9]? = some (.tuple #[.agg #[.int .i64 0, .int .i64 0, .slice none 0 0, Value.nilFunc, Value.nilFunc], .bool false]) := by rw [ha]; exact Reg.fill_on 4 rfl rfl (hd 4 (by decide)) rfl
      have HA := Lib.hid ha
      clear ha
      refine ⟨_, rfl, fun K hK => ?_⟩
      refine Reg.do_val rfl rfl (v := .bool false) (w1 := ww) ?_ ?_
      · simp only [List.getElem_toArray, List.getElem_cons_succ, List.getElem_cons_zero, execOp, Reg.eval_tmp e9]
        go_simp
      exact hK.out _ _ ⟨m, p5, by rw [HA.out]; exact Reg.fill_up 6 hb rfl rfl rfl, HW.keep (i := 6) (by decide) (Below.refl _ _)⟩
    refine Reg.steps_cons (i := 7) ?_ ?_
    · rintro bb aa ww ⟨m, p5, ha, HW⟩ hb hd hn
      have HA := Lib.hid ha
      clear ha
      refine ⟨_, rfl, fun K hK => ?_⟩
      refine Reg.do_val rfl rfl (v := .pointer (some ⟨ww.heap.size, 0, none⟩)) (w1 := ww.alloc (.cells #[.int .i64 0, .int .i64 0, .slice none 0 0, Value.nilFunc, Value.nilFunc] 77)) ?_ ?_
      · go_simp
      exact hK.out _ _ ⟨m, ww.heap.size, by rw [HA.out]; exact Reg.fill_up 7 hb rfl rfl rfl, HW.al7 (hn 8 (by decide))⟩
    refine Reg.steps_cons (i := 8) ?_ ?_
    · rintro bb aa ww ⟨m, p5, ha, HW⟩ hb hd hn
      have e5 : aa.tmps[5]? = some (.pointer (some ⟨p5, 0, none⟩)) := by rw [ha]; exact Reg.fill_on 7 rfl rfl (hd 7 (by decide)) rfl
      have e14 : aa.tmps[14]? = some (.agg #[.int .i64 0, .int .i64 0, .slice none 0 0, Value.nilFunc, Value.nilFunc]) := by rw [ha]; exact Reg.fill_on 5 rfl rfl (hd 5 (by decide)) rfl
      have HA := Lib.hid ha
      clear ha
      refine ⟨_, rfl, fun K hK => ?_⟩
      refine Reg.do_store rfl rfl 77 _ _ rfl p5 #[.int .i64 0, .int .i64 0, .slice none 0 0, Value.nilFunc, Value.nilFunc] (Reg.eval_tmp e5) (Reg.eval_tmp e14) (HW.blk8 (hd 7 (by decide)) hb) (by kernel_rfl) rfl (one_kind0) ?_
      exact hK.out _ _ ⟨m, p5, by rw [HA.out]; exact Reg.fill_none rfl, HW.st8 (hd 0 (by decide)) (hd 7 (by decide))⟩
    refine Reg.steps_cons (i := 9) ?_ ?_
    · rintro bb aa ww ⟨m, p5, ha, HW⟩ hb hd hn
      have e15 : aa.tmps[15]? = some (.bool false) := by rw [ha]; exact Reg.fill_on 6 rfl rfl (hd 6 (by decide)) rfl
      have HA := Lib.hid ha
      clear ha
      refine ⟨_, rfl, fun K hK => ?_⟩
      refine Reg.do_val rfl rfl (v := .bool false) (w1 := ww) (by simp only [List.getElem_toArray, List.getElem_cons_succ, List.getElem_cons_zero, execOp, Reg.eval_tmp e15]; rfl) ?_
      exact hK.out _ _ ⟨m, p5, by rw [HA.out]; exact Reg.fill_up 8 hb rfl rfl rfl, HW.keep (i := 9) (by decide) (Below.refl _ _)⟩
    exact trivial
  rintro bb aa W2 hall ⟨m, p5, ha, HW⟩
  have HB2 := Lib.hid (HB.out.trans (HW.1.mono HB.out.size))
  clear HW
  have hb0 := hall 0 (by decide)
  have hb1 := hall 1 (by decide)
  have hb2 := hall 2 (by decide)
  have hb3 := hall 3 (by decide)
  have hb4 := hall 4 (by decide)
  have hb5 := hall 5 (by decide)
  have hb6 := hall 6 (by decide)
  have hb7 := hall 7 (by decide)
  have hb8 := hall 8 (by decide)
  have hb9 := hall 9 (by decide)
  simp only [Reg.fill, hb0, hb1, hb2, hb3, hb4, hb5, hb6, hb7, hb9, if_true, Act.put, List.setIfInBounds_toArray, List.set_cons_zero, List.set_cons_succ] at ha
  clear hb0 hb1 hb2 hb3 hb4 hb5 hb6 hb7 hb8 hb9 hall
  subst ha
  go_wp2_with fail
  go_ret
  exact ⟨rfl, HB2.out⟩
set_option maxRecDepth 100000 in
theorem neq_fn (N : Nat) (w : World) : (binOp .neq 74 (.func (.func N) #[] #[]) Value.nilFunc).run Tryz.prog w = .ok (.bool true) w := by rfl
set_option maxRecDepth 100000 in
theorem neq_nil (w : World) : (binOp .neq 74 Value.nilFunc Value.nilFunc).run Tryz.prog w = .ok (.bool false) w := by rfl
theorem len1 {α : Type} {l : List α} (h : l.length = 1) : ∃ a, l = [a] := by
  match l, h with
  | [a], _ => exact ⟨a, rfl⟩
theorem len2 {α : Type} {l : List α} (h : l.length = 2) : ∃ a b, l = [a, b] := by
  match l, h with
  | [a, b], _ => exact ⟨a, b, rfl⟩
theorem len3 {α : Type} {l : List α} (h : l.length = 3) : ∃ a b c, l = [a, b, c] := by
  match l, h with
  | [a, b, c], _ => exact ⟨a, b, c, rfl⟩
theorem len6 {α : Type} {l : List α} (h : l.length = 6) : ∃ a b c d e f, l = [a, b, c, d, e, f] := by
  match l, h with
  | [a, b, c, d, e, f], _ => exact ⟨a, b, c, d, e, f, rfl⟩
section
variable {w : World} {Y M : Nat} {FS : Value} {y : Yd} {X : Nat → Prop} {kd : ByteArray} {ns : List ByteArray} {vs : List Int} {nv vv : Value}
theorem wrong_free (hy : YAt w Y M FS y) (hi : Yp.Inv y) (hlen : y.items.length < 4000) (hn : Rd w X nv (strV ns)) (hv : Rd w X vv (intV vs)) (hk : Yp.kindNo kd = some 0) (h1 : ns.length = Yp.nNames 0) (h2 : vs.length = Yp.nVals 0) (hb : (ns.any fun s => !Yp.isName s) = false) :
    Calls Tryz.prog 52 #[.pointer (some ⟨Y, 0, none⟩), .agg #[.string kd, nv, vv]] w fun e w' => e = .returned (.int .i64 (Yp.check y ⟨kd, ns, vs⟩)) ∧ Below w.heap.size w w' := by
  rw [Yp.check_free hk h1 h2 hb]
  obtain ⟨n0, rfl⟩ := len1 h1
  obtain ⟨v0, v1, v2, v3, v4, v5, rfl⟩ := len6 h2
  exact freeWrong_any hy hi.ok (by omega) X kd n0 v0 v1 v2 v3 v4 v5 nv vv hn hv
theorem wrong_cut (hy : YAt w Y M FS y) (hlen : y.items.length < 4000) (hn : Rd w X nv (strV ns)) (hv : Rd w X vv (intV vs)) (hk : Yp.kindNo kd = some 1) (h1 : ns.length = Yp.nNames 1) (h2 : vs.length = Yp.nVals 1) (hb : (ns.any fun s => !Yp.isName s) = false) {x : It} (hx : Yp.look y.items (ns.getD 0 Yp.es) = some x) (ha : Yp.allowed 1 x.st = true) :
    Calls Tryz.prog 54 #[.pointer (some ⟨Y, 0, none⟩), .agg #[.string kd, nv, vv]] w fun e w' => e = .returned (.int .i64 (Yp.check y ⟨kd, ns, vs⟩)) ∧ Below w.heap.size w w' := by
  rw [Yp.check_found hk h1 h2 hb (by decide) hx, if_neg (by rw [ha]; decide), if_pos rfl]
  obtain ⟨n0, n1, n2, rfl⟩ := len3 h1
  obtain ⟨v0, v1, v2, rfl⟩ := len3 h2
  exact cutWrong_any hy hlen X kd n0 n1 n2 v0 v1 v2 nv vv hn hv hx
theorem wrong_assign (hy : YAt w Y M FS y) (hn : Rd w X nv (strV ns)) (hk : Yp.kindNo kd = some 2) (h1 : ns.length = Yp.nNames 2) (h2 : vs.length = Yp.nVals 2) (hb : (ns.any fun s => !Yp.isName s) = false) {x : It} (hx : Yp.look y.items (ns.getD 0 Yp.es) = some x) (ha : Yp.allowed 2 x.st = true) :
    Calls Tryz.prog 56 #[.pointer (some ⟨Y, 0, none⟩), .agg #[.string kd, nv, vv]] w fun e w' => e = .returned (.int .i64 (Yp.check y ⟨kd, ns, vs⟩)) ∧ Below w.heap.size w w' := by
  rw [Yp.check_found hk h1 h2 hb (by decide) hx, if_neg (by rw [ha]; decide), if_neg (by decide), if_pos rfl]
  obtain ⟨n0, n1, rfl⟩ := len2 h1
  exact assignWrong_any hy X kd n0 n1 nv vv hn
end
theorem yat_facts {w : World} {Y M : Nat} {FS : Value} {y : Yd} (h : YAt w Y M FS y) : ∃ A c, FS = .slice A y.facts.length c := by
  obtain ⟨cs, _, h2, _⟩ := h.fct
  rcases h2.2 with ⟨rfl, h3⟩ | ⟨g, cap, cur, rfl, _⟩
  · have : y.facts.length = 0 := by have := h2.1; rw [h3] at this; simp at this; omega
    exact ⟨none, 0, by rw [this]⟩
  · exact ⟨_, _, rfl⟩
theorem nNames_pos (k : Nat) : 0 < Yp.nNames k := by unfold Yp.nNames; split <;> omega
theorem allowed_mem {k : Nat} (h0 : k ≠ 0) (hk : k < 6) (s : Int) : Yp.allowed k s = decide (s ∈ stL k) := by
  have : k = 1 ∨ k = 2 ∨ k = 3 ∨ k = 4 ∨ k = 5 := by omega
  rcases this with rfl | rfl | rfl | rfl | rfl <;> simp [Yp.allowed, stL]
theorem kindNo_lt {kd : ByteArray} {k : Nat} (h : Yp.kindNo kd = some k) : k < 6 := by
  rcases kindNo_cases h with ⟨_, rfl⟩ | ⟨_, rfl⟩ | ⟨_, rfl⟩ | ⟨_, rfl⟩ | ⟨_, rfl⟩ | ⟨_, rfl⟩ <;> decide
set_option maxRecDepth 100000 in
set_option maxHeartbeats 16000000 in
theorem check_known {w : World} {Y M : Nat} {FS : Value} {y : Yd} (hy : YAt w Y M FS y) (hi : Yp.Inv y) (hlen : y.items.length < 4000) (hfl : y.facts.length < 4096) (X : Nat → Prop) (kd : ByteArray) (ns : List ByteArray) (vs : List Int) (nv vv : Value) (hn : Rd w X nv (strV ns)) (hv : Rd w X vv (intV vs)) (hsz : ∀ s ∈ ns, s.size ≤ 140737488351232) {k : Nat} (hk : Yp.kindNo kd = some k) :
    Calls Tryz.prog 27 #[.pointer (some ⟨Y, 0, none⟩), .agg #[.string kd, nv, vv]] w fun e w' => e = .returned (.int .i64 (Yp.check y ⟨kd, ns, vs⟩)) ∧ Below w.heap.size w w' := by
  have hcon := fun W (hW : Below w.heap.size w W) (h : ns.length = Yp.nNames k) => contains_any X nv ns W (hn.below hW) hsz (by have : Yp.nNames k ≤ 3 := (by unfold Yp.nNames; split <;> omega); omega)
  have hfree := fun W (hW : Below w.heap.size w W) => wrong_free (X := X) (kd := kd) (ns := ns) (vs := vs) (nv := nv) (vv := vv) (hy.below hW) hi hlen (hn.below hW) (hv.below hW)
  have hcutw := fun W (hW : Below w.heap.size w W) => wrong_cut (X := X) (kd := kd) (ns := ns) (vs := vs) (nv := nv) (vv := vv) (hy.below hW) hlen (hn.below hW) (hv.below hW)
  have hassw := fun W (hW : Below w.heap.size w W) => wrong_assign (X := X) (kd := kd) (ns := ns) (vs := vs) (nv := nv) (vv := vv) (hy.below hW) (hn.below hW)
  simp only [Bridge.name_eq] at hcon
  obtain ⟨Af, cf, rfl⟩ := yat_facts hy
  have hn' := id hn
  have hv' := id hv
  obtain ⟨A, c, en, hc, _⟩ := id hn
  obtain ⟨A', c', ev, hc', _⟩ := id hv
  have lns : (strV ns).length = ns.length := by simp [strV]
  have lvs : (intV vs).length = vs.length := by simp [intV]
  rw [lns] at en hc
  rw [lvs] at ev hc'
  subst en ev
  have HK := Lib.hid hk
  have HN := Lib.hid hn'
  have HV := Lib.hid hv'
  have HY := Lib.hid hy
  have HLN := Lib.hid (And.intro lns lvs)
  clear hk hn hv hn' hv' hy lns lvs hc hc'
  have RF := Lib.hid (new_block w (.cells #[.string kd, .slice A ns.length c, .slice A' vs.length c'] 39))
  have HB := Lib.hid ((Below.refl w.heap.size w).alloc (Nat.le_refl _) (.cells #[.string kd, .slice A ns.length c, .slice A' vs.length c'] 39))
  have HCON := Lib.hid hcon
  have HFREE := Lib.hid hfree
  have HCUTW := Lib.hid hcutw
  have HASSW := Lib.hid hassw
  clear hi hlen hsz hcon hfree hcutw hassw
  generalize hres : Yp.check y ⟨kd, ns, vs⟩ = res at *
  have HRES := Lib.hid hres
  clear hres
  go_enter Tryz.func27, Tryz.ntmps27
  go_wp2_with fail
  generalize w.alloc (.cells #[.string kd, .slice A ns.length c, .slice A' vs.length c'] 39) = W at *
  refine Reg.region_inv [[], [], [1], [0, 2], [3], [4], [4], [], [0, 1, 2, 3, 4, 5, 7], [0, 1, 2, 3, 4, 5, 6, 7, 8]] [[], [], [1], [0, 1, 2], [0, 1, 2, 3], [0, 1, 2, 3, 4], [0, 1, 2, 3, 4], [], [0, 1, 2, 3, 4, 5, 7], [0, 1, 2, 3, 4, 5, 6, 7, 8]] (fun a0_ bb aa ww => ∃ (m : Nat) (sl : Value) (p5 : Nat), aa = Reg.fill bb [(0, 10, .map (some m)), (1, 11, .pointer (some ⟨w.heap.size, 0, none⟩)), (2, 12, .string kd), (3, 13, .tuple #[.agg #[.int .i64 (Yp.nNames k), .int .i64 (Yp.nVals k), sl, wrV k, doV k], .bool true]), (4, 9, .tuple #[.agg #[.int .i64 (Yp.nNames k), .int .i64 (Yp.nVals k), sl, wrV k, doV k], .bool true]), (5, 14, .agg #[.int .i64 (Yp.nNames k), .int .i64 (Yp.nVals k), sl, wrV k, doV k]), (6, 15, .bool true), (7, 5, .pointer (some ⟨p5, 0, none⟩)), (9, 6, .bool true)] a0_ ∧ CheckR kd k W #[.int .i64 0, .int .i64 0, .slice none 0 0, Value.nilFunc, Value.nilFunc] bb ww m sl p5) (by kernel_rfl) (by kernel_rfl) (by kernel_rfl) ?_ ?_ ?_
  · exact ⟨0, .slice none 0 0, 0, Reg.fill_start.symm, CheckR.start⟩
  · refine Reg.steps_cons (i := 0) ?_ ?_
    · rintro bb aa ww ⟨m, sl, p5, ha, HW⟩ hb hd hn
      have HA := Lib.hid ha
      clear ha
      refine ⟨_, rfl, fun K hK => ?_⟩
      refine Reg.do_call rfl rfl Tryz.func30 (by kernel_rfl) rfl #[] rfl (by simp) ?_
      refine (kinds_any ww).mono ?_; rintro e w3 ⟨m', g1, g2, g3, g4, g5, rfl, hka, hb3, hN⟩; obtain ⟨sl', hka⟩ := kinds_at hka hN HK.out; refine ⟨_, rfl, ?_⟩
      exact hK.out _ _ ⟨m', sl', p5, by rw [HA.out]; exact (Reg.fill_up 0 hb rfl rfl rfl).trans (Reg.fill_swap ⟨rfl, rfl, fun _ => rfl, ⟨rfl, rfl, fun _ => rfl, ⟨rfl, rfl, fun _ => rfl, ⟨rfl, rfl, Reg.not_up (show (3 : Nat) ≠ 0 by decide) (hn 3 (by decide)), ⟨rfl, rfl, Reg.not_up (show (4 : Nat) ≠ 0 by decide) (hn 4 (by decide)), ⟨rfl, rfl, Reg.not_up (show (5 : Nat) ≠ 0 by decide) (hn 5 (by decide)), ⟨rfl, rfl, fun _ => rfl, ⟨rfl, rfl, fun _ => rfl, ⟨rfl, rfl, fun _ => rfl, trivial⟩⟩⟩⟩⟩⟩⟩⟩⟩), HW.call hka hb3 (hn 8 (by decide))⟩
    refine Reg.steps_cons (i := 1) ?_ ?_
    · rintro bb aa ww ⟨m, sl, p5, ha, HW⟩ hb hd hn
      have e3 : aa.tmps[3]? = some (.pointer (some ⟨w.heap.size, 0, none⟩)) := by rw [ha]; exact (Reg.fill_off rfl).trans rfl
      have HA := Lib.hid ha
      clear ha
      refine ⟨_, rfl, fun K hK => ?_⟩
      refine Reg.do_val rfl rfl (v := .pointer (some ⟨w.heap.size, 0, none⟩)) (w1 := ww) ?_ ?_
      · simp only [List.getElem_toArray, List.getElem_cons_succ, List.getElem_cons_zero, execOp, Reg.eval_tmp e3]
        go_simp
      exact hK.out _ _ ⟨m, sl, p5, by rw [HA.out]; exact Reg.fill_up 1 hb rfl rfl rfl, HW.keep (i := 1) (by decide) (Below.refl _ _)⟩
    refine Reg.steps_cons (i := 2) ?_ ?_
    · rintro bb aa ww ⟨m, sl, p5, ha, HW⟩ hb hd hn
      have e11 : aa.tmps[11]? = some (.pointer (some ⟨w.heap.size, 0, none⟩)) := by rw [ha]; exact Reg.fill_on 1 rfl rfl (hd 1 (by decide)) rfl
      have HA := Lib.hid ha
      clear ha
      refine ⟨_, rfl, fun K hK => ?_⟩
      have k0 := (row_cells (row_after HW.1 RF.out)).1 0
      refine Reg.do_val rfl rfl (v := .string kd) (w1 := ww) ?_ ?_
      · simp only [List.getElem_toArray, List.getElem_cons_succ, List.getElem_cons_zero, execOp, Reg.eval_tmp e11]
        go_simp
      exact hK.out _ _ ⟨m, sl, p5, by rw [HA.out]; exact Reg.fill_up 2 hb rfl rfl rfl, HW.keep (i := 2) (by decide) (Below.refl _ _)⟩
    refine Reg.steps_cons (i := 3) ?_ ?_
    · rintro bb aa ww ⟨m, sl, p5, ha, HW⟩ hb hd hn
      have e10 : aa.tmps[10]? = some (.map (some m)) := by rw [ha]; exact Reg.fill_on 0 rfl rfl (hd 0 (by decide)) rfl
      have e12 : aa.tmps[12]? = some (.string kd) := by rw [ha]; exact Reg.fill_on 2 rfl rfl (hd 2 (by decide)) rfl
      have HA := Lib.hid ha
      clear ha
      refine ⟨_, rfl, fun K hK => ?_⟩
      obtain ⟨NN, hka⟩ := HW.2.1 (hd 0 (by decide)) (hn 8 (by decide))
      have hl := hka.look ww true rfl
      clear hka
      simp only [if_true] at hl
      refine Reg.do_val rfl rfl (v := .tuple #[.agg #[.int .i64 (Yp.nNames k), .int .i64 (Yp.nVals k), sl, wrV k, doV k], .bool true]) (w1 := ww) ?_ ?_
      · simp only [List.getElem_toArray, List.getElem_cons_succ, List.getElem_cons_zero, execOp, Reg.eval_tmp e10, Reg.eval_tmp e12]
        go_simp
      exact hK.out _ _ ⟨m, sl, p5, by rw [HA.out]; exact Reg.fill_up 3 hb rfl rfl rfl, HW.keep (i := 3) (by decide) (Below.refl _ _)⟩
    refine Reg.steps_cons (i := 4) ?_ ?_
    · rintro bb aa ww ⟨m, sl, p5, ha, HW⟩ hb hd hn
      have e13 : aa.tmps[13]? = some (.tuple #[.agg #[.int .i64 (Yp.nNames k), .int .i64 (Yp.nVals k), sl, wrV k, doV k], .bool true]) := by rw [ha]; exact Reg.fill_on 3 rfl rfl (hd 3 (by decide)) rfl
      have HA := Lib.hid ha
      clear ha
      refine ⟨_, rfl, fun K hK => ?_⟩
      refine Reg.do_val rfl rfl (v := .tuple #[.agg #[.int .i64 (Yp.nNames k), .int .i64 (Yp.nVals k), sl, wrV k, doV k], .bool true]) (w1 := ww) (by simp only [List.getElem_toArray, List.getElem_cons_succ, List.getElem_cons_zero, execOp, Reg.eval_tmp e13]; rfl) ?_
      exact hK.out _ _ ⟨m, sl, p5, by rw [HA.out]; exact Reg.fill_up 4 hb rfl rfl rfl, HW.keep (i := 4) (by decide) (Below.refl _ _)⟩
    refine Reg.steps_cons (i := 5) ?_ ?_
    · rintro bb aa ww ⟨m, sl, p5, ha, HW⟩ hb hd hn
      have e9 : aa.tmps[9]? = some (.tuple #[.agg #[.int .i64 (Yp.nNames k), .int .i64 (Yp.nVals k), sl, wrV k, doV k], .bool true]) := by rw [ha]; exact Reg.fill_on 4 rfl rfl (hd 4 (by decide)) rfl
      have HA := Lib.hid ha
      clear ha
      refine ⟨_, rfl, fun K hK => ?_⟩
      refine Reg.do_val rfl rfl (v := .agg #[.int .i64 (Yp.nNames k), .int .i64 (Yp.nVals k), sl, wrV k, doV k]) (w1 := ww) ?_ ?_
      · simp only [List.getElem_toArray, List.getElem_cons_succ, List.getElem_cons_zero, execOp, Reg.eval_tmp e9]
        go_simp
      exact hK.out _ _ ⟨m, sl, p5, by rw [HA.out]; exact Reg.fill_up 5 hb rfl rfl rfl, HW.keep (i := 5) (by decide) (Below.refl _ _)⟩
    refine Reg.steps_cons (i := 6) ?_ ?_
    · rintro bb aa ww ⟨m, sl, p5, ha, HW⟩ hb hd hn
      have e9 : aa.tmps[9]? = some (.tuple #[.agg #[.int .i64 (Yp.nNames k), .int .i64 (Yp.nVals k), sl, wrV k, doV k], .bool true]) := by rw [ha]; exact Reg.fill_on 4 rfl rfl (hd 4 (by decide)) rfl
      have HA := Lib.hid ha
      clear ha
      refine ⟨_, rfl, fun K hK => ?_⟩
      refine Reg.do_val rfl rfl (v := .bool true) (w1 := ww) ?_ ?_
      · simp only [List.getElem_toArray, List.getElem_cons_succ, List.getElem_cons_zero, execOp, Reg.eval_tmp e9]
        go_simp
      exact hK.out _ _ ⟨m, sl, p5, by rw [HA.out]; exact Reg.fill_up 6 hb rfl rfl rfl, HW.keep (i := 6) (by decide) (Below.refl _ _)⟩
    refine Reg.steps_cons (i := 7) ?_ ?_
    · rintro bb aa ww ⟨m, sl, p5, ha, HW⟩ hb hd hn
      have HA := Lib.hid ha
      clear ha
      refine ⟨_, rfl, fun K hK => ?_⟩
      refine Reg.do_val rfl rfl (v := .pointer (some ⟨ww.heap.size, 0, none⟩)) (w1 := ww.alloc (.cells #[.int .i64 0, .int .i64 0, .slice none 0 0, Value.nilFunc, Value.nilFunc] 77)) ?_ ?_
      · go_simp
      exact hK.out _ _ ⟨m, sl, ww.heap.size, by rw [HA.out]; exact Reg.fill_up 7 hb rfl rfl rfl, HW.al7 (hn 8 (by decide))⟩
    refine Reg.steps_cons (i := 8) ?_ ?_
    · rintro bb aa ww ⟨m, sl, p5, ha, HW⟩ hb hd hn
      have e5 : aa.tmps[5]? = some (.pointer (some ⟨p5, 0, none⟩)) := by rw [ha]; exact Reg.fill_on 7 rfl rfl (hd 7 (by decide)) rfl
      have e14 : aa.tmps[14]? = some (.agg #[.int .i64 (Yp.nNames k), .int .i64 (Yp.nVals k), sl, wrV k, doV k]) := by rw [ha]; exact Reg.fill_on 5 rfl rfl (hd 5 (by decide)) rfl
      have HA := Lib.hid ha
      clear ha
      refine ⟨_, rfl, fun K hK => ?_⟩
      have HKA := HW.2.2.1 (hd 0 (by decide))
      refine Reg.do_store rfl rfl 77 _ _ rfl p5 #[.int .i64 (Yp.nNames k), .int .i64 (Yp.nVals k), sl, wrV k, doV k] (Reg.eval_tmp e5) (Reg.eval_tmp e14) (HW.blk8 (hd 7 (by decide)) hb) (by kernel_rfl) rfl (one_kind HKA) ?_
      exact hK.out _ _ ⟨m, sl, p5, by rw [HA.out]; exact Reg.fill_none rfl, HW.st8 (hd 0 (by decide)) (hd 7 (by decide))⟩
    refine Reg.steps_cons (i := 9) ?_ ?_
    · rintro bb aa ww ⟨m, sl, p5, ha, HW⟩ hb hd hn
      have e15 : aa.tmps[15]? = some (.bool true) := by rw [ha]; exact Reg.fill_on 6 rfl rfl (hd 6 (by decide)) rfl
      have HA := Lib.hid ha
      clear ha
      refine ⟨_, rfl, fun K hK => ?_⟩
      refine Reg.do_val rfl rfl (v := .bool true) (w1 := ww) (by simp only [List.getElem_toArray, List.getElem_cons_succ, List.getElem_cons_zero, execOp, Reg.eval_tmp e15]; rfl) ?_
      exact hK.out _ _ ⟨m, sl, p5, by rw [HA.out]; exact Reg.fill_up 8 hb rfl rfl rfl, HW.keep (i := 9) (by decide) (Below.refl _ _)⟩
    exact trivial
  rintro bb aa W2 hall ⟨m, sl, p5, ha, HW⟩
  have HB2 := Lib.hid (HB.out.trans (HW.1.mono HB.out.size))
  have RF2 := Lib.hid (row_after HW.1 RF.out)
  have HSL := Lib.hid (HW.2.2.1 (hall 0 (by decide)))
  have R5 : Hid (W2.heap[p5]? = some (.cells #[.int .i64 (Yp.nNames k), .int .i64 (Yp.nVals k), sl, wrV k, doV k] 77 (0, 0))) := Lib.hid (by have := (HW.2.2.2 (hall 7 (by decide))).2; rwa [hall 8 (by decide)] at this)
  clear HW
  have hb0 := hall 0 (by decide)
  have hb1 := hall 1 (by decide)
  have hb2 := hall 2 (by decide)
  have hb3 := hall 3 (by decide)
  have hb4 := hall 4 (by decide)
  have hb5 := hall 5 (by decide)
  have hb6 := hall 6 (by decide)
  have hb7 := hall 7 (by decide)
  have hb8 := hall 8 (by decide)
  have hb9 := hall 9 (by decide)
  simp only [Reg.fill, hb0, hb1, hb2, hb3, hb4, hb5, hb6, hb7, hb9, if_true, Act.put, List.setIfInBounds_toArray, List.set_cons_zero, List.set_cons_succ] at ha
  clear hb0 hb1 hb2 hb3 hb4 hb5 hb6 hb7 hb8 hb9 hall
  subst ha
  have k1 := (row_cells RF2.out).1 1
  have k2 := (row_cells RF2.out).1 2
  have q0 := (row_cells R5.out).1 0
  have q1 := (row_cells R5.out).1 1
  by_cases hs1 : ns.length = Yp.nNames k
  · have HS1 := Lib.hid hs1
    have hsb : ((ns.length : Int) != (Yp.nNames k : Int)) = false := by rw [bne_eq_false_iff_eq]; omega
    clear hs1
    by_cases hs2 : vs.length = Yp.nVals k
    · have HS2 := Lib.hid hs2
      have hsc : ((vs.length : Int) != (Yp.nVals k : Int)) = false := by rw [bne_eq_false_iff_eq]; omega
      clear hs2
      have hcon := fun W (hW : Below w.heap.size w W) => HCON.out W hW HS1.out
      generalize hbad : (ns.any fun s => !Yp.isName s) = bad at hcon
      go_wp2_with fail
      refine (hcon _ HB2.out).mono ?_; rintro e W3 ⟨rfl, hb3⟩
      have HB3 := Lib.hid (HB2.out.trans (hb3.mono HB2.out.size))
      have RF3 := Lib.hid (row_after hb3 RF2.out)
      have R53 := Lib.hid (row_after hb3 R5.out)
      have HSL3 := Lib.hid (And.intro (HSL.out.1.below hb3) HSL.out.2)
      clear hcon hb3 k1 k2 q0 q1 hsb hsc
      cases bad with
      | true =>
        have HBAD := Lib.hid hbad
        clear hbad
        go_wp2_with fail
        go_ret
        exact ⟨Base.ret_int (by rw [← HRES.out, Yp.check_bad HK.out HS1.out HS2.out HBAD.out]), HB3.out⟩
      | false =>
        have HBAD := Lib.hid hbad
        clear hbad
        have HY3 := Lib.hid (HY.out.below HB3.out)
        have y1 := (row_cells HY3.out.row).1 1
        have k1 := (row_cells RF3.out).1 1
        have q2 := (row_cells R53.out).1 2
        have q3 := (row_cells R53.out).1 3
        have hfd : decide ((y.facts.length : Int) < 4096) = true := by simp; omega
        have hfd2 : decide ((y.facts.length : Int) ≥ 4096) = false := by simp; omega
        by_cases hk0 : k = 0
        · subst hk0
          obtain rfl := HSL3.out.2.1 rfl
          replace q3 : W3.cell? ⟨p5, 3, none⟩ = some (.func (.func 52) #[] #[]) := q3
          have qF := neq_fn 52
          have k0 := (row_cells RF3.out).1 0
          have k2 := (row_cells RF3.out).1 2
          go_wp2_with fail
          refine (HFREE.out _ HB3.out HK.out HS1.out HS2.out HBAD.out).mono ?_; rintro e W4 ⟨rfl, hb4⟩
          have HB4 := Lib.hid (HB3.out.trans (hb4.mono HB3.out.size))
          clear hb4
          go_wp2_with fail
          go_ret
          exact ⟨rfl, HB4.out⟩
        · obtain ⟨gs, rfl⟩ := HSL3.out.2.2 hk0
          have HK0 := Lib.hid hk0
          clear hk0
          obtain ⟨bn, on, cn, en, _, hbl, _, hcell⟩ := rd_at HN.out (by rw [HLN.out.1, HS1.out]; exact nNames_pos k)
          injection en with en e1 e2
          clear e1 e2
          subst en
          have hns : 0 < ns.length := by rw [HS1.out]; exact nNames_pos k
          have hns2 : (0 : Int) < (ns.length : Int) := by omega
          have e0 : (strV ns)[0]? = some (.string (ns.getD 0 Yp.es)) := by unfold strV; rw [List.getElem?_map, List.getD_eq_getElem?_getD, List.getElem?_eq_getElem hns]; rfl
          have c0 := hcell 0 _ e0
          have c0 : w.cell? ⟨bn, on, none⟩ = some (.string (ns.getD 0 Yp.es)) := c0
          have HC0 : Hid (∀ W, Below w.heap.size w W → W.cell? ⟨bn, on, none⟩ = some (.string (ns.getD 0 Yp.es))) := Lib.hid fun W hW => (hW.cell (p := ⟨bn, on, none⟩) hbl).trans c0
          clear hcell e0 c0
          generalize hn0 : ns.getD 0 Yp.es = n0 at HC0 HCUTW HASSW
          have HN0 := Lib.hid hn0
          clear hn0
          cases hx : Yp.look y.items n0 with
          | none =>
            have HX := Lib.hid hx
            clear hx
            go_wp2_with fail
            clear y1 k1 q2 q3
            refine Reg.region_inv [[], [0], [1], [2], [], [4], [5], [6], [3, 7], [8], [9], [9], [], [0, 1, 2, 3, 4, 5, 6, 7, 8, 9, 10, 12], [0, 1, 2, 3, 4, 5, 6, 7, 8, 9, 10, 11, 12, 13]] [[], [0], [0, 1], [0, 1, 2], [], [4], [4, 5], [4, 5, 6], [0, 1, 2, 3, 4, 5, 6, 7], [0, 1, 2, 3, 4, 5, 6, 7, 8], [0, 1, 2, 3, 4, 5, 6, 7, 8, 9], [0, 1, 2, 3, 4, 5, 6, 7, 8, 9], [], [0, 1, 2, 3, 4, 5, 6, 7, 8, 9, 10, 12], [0, 1, 2, 3, 4, 5, 6, 7, 8, 9, 10, 11, 12, 13]] (fun a0_ bb aa ww => ∃ (p7 : Nat), aa = Reg.fill bb [(0, 49, .pointer (some ⟨Y, 0, none⟩)), (1, 50, .pointer (some ⟨Y, 0, none⟩)), (2, 51, .pointer (some ⟨Y, 0, none⟩)), (3, 52, .map (some M)), (4, 53, .pointer (some ⟨w.heap.size, 1, none⟩)), (5, 54, .slice (some ⟨bn, on, none⟩) ns.length c), (6, 55, .pointer (some ⟨bn, on, none⟩)), (7, 56, .string n0), (8, 57, .tuple #[.agg #[.string ⟨#[]⟩, .string ⟨#[]⟩, .int .i64 0, .int .i64 0, .int .i64 0, .int .i64 0, .int .i64 0, .int .i64 0, .int .i64 0, .string ⟨#[]⟩], .bool false]), (9, 48, .tuple #[.agg #[.string ⟨#[]⟩, .string ⟨#[]⟩, .int .i64 0, .int .i64 0, .int .i64 0, .int .i64 0, .int .i64 0, .int .i64 0, .int .i64 0, .string ⟨#[]⟩], .bool false]), (10, 58, .agg #[.string ⟨#[]⟩, .string ⟨#[]⟩, .int .i64 0, .int .i64 0, .int .i64 0, .int .i64 0, .int .i64 0, .int .i64 0, .int .i64 0, .string ⟨#[]⟩]), (11, 59, .bool false), (12, 7, .pointer (some ⟨p7, 0, none⟩)), (14, 8, .bool false)] a0_ ∧ One W3 #[.string ⟨#[]⟩, .string ⟨#[]⟩, .int .i64 0, .int .i64 0, .int .i64 0, .int .i64 0, .int .i64 0, .int .i64 0, .int .i64 0, .string ⟨#[]⟩] #[.string ⟨#[]⟩, .string ⟨#[]⟩, .int .i64 0, .int .i64 0, .int .i64 0, .int .i64 0, .int .i64 0, .int .i64 0, .int .i64 0, .string ⟨#[]⟩] 47 12 13 bb ww p7) (by kernel_rfl) (by kernel_rfl) (by kernel_rfl) ?_ ?_ ?_
            · exact ⟨0, Reg.fill_start.symm, One.start⟩
            · refine Reg.steps_cons (i := 0) ?_ ?_
              · rintro bb aa ww ⟨p7, ha, HW⟩ hb hd hn
                have e0 : aa.tmps[0]? = some (.pointer (some ⟨Y, 0, none⟩)) := by rw [ha]; exact (Reg.fill_off rfl).trans rfl
                have HA := Lib.hid ha
                clear ha
                refine ⟨_, rfl, fun K hK => ?_⟩
                refine Reg.do_val rfl rfl (v := .pointer (some ⟨Y, 0, none⟩)) (w1 := ww) (by simp only [List.getElem_toArray, List.getElem_cons_zero, execOp, Reg.eval_tmp e0]; rfl) ?_
                exact hK.out _ _ ⟨p7, by rw [HA.out]; exact Reg.fill_up 0 hb rfl rfl rfl, HW.keep (show 0 ∉ [12, 13] by decide) (Below.refl _ _)⟩
              refine Reg.steps_cons (i := 1) ?_ ?_
              · rintro bb aa ww ⟨p7, ha, HW⟩ hb hd hn
                have e49 : aa.tmps[49]? = some (.pointer (some ⟨Y, 0, none⟩)) := by rw [ha]; exact Reg.fill_on 0 rfl rfl (hd 0 (by decide)) rfl
                have HA := Lib.hid ha
                clear ha
                refine ⟨_, rfl, fun K hK => ?_⟩
                refine Reg.do_val rfl rfl (v := .pointer (some ⟨Y, 0, none⟩)) (w1 := ww) ?_ ?_
                · simp only [List.getElem_toArray, List.getElem_cons_succ, List.getElem_cons_zero, execOp, Reg.eval_tmp e49]
                  go_simp
                exact hK.out _ _ ⟨p7, by rw [HA.out]; exact Reg.fill_up 1 hb rfl rfl rfl, HW.keep (show 1 ∉ [12, 13] by decide) (Below.refl _ _)⟩
              refine Reg.steps_cons (i := 2) ?_ ?_
              · rintro bb aa ww ⟨p7, ha, HW⟩ hb hd hn
                have e50 : aa.tmps[50]? = some (.pointer (some ⟨Y, 0, none⟩)) := by rw [ha]; exact Reg.fill_on 1 rfl rfl (hd 1 (by decide)) rfl
                have HA := Lib.hid ha
                clear ha
                refine ⟨_, rfl, fun K hK => ?_⟩
                refine Reg.do_val rfl rfl (v := .pointer (some ⟨Y, 0, none⟩)) (w1 := ww) ?_ ?_
                · simp only [List.getElem_toArray, List.getElem_cons_succ, List.getElem_cons_zero, execOp, Reg.eval_tmp e50]
                  go_simp
                exact hK.out _ _ ⟨p7, by rw [HA.out]; exact Reg.fill_up 2 hb rfl rfl rfl, HW.keep (show 2 ∉ [12, 13] by decide) (Below.refl _ _)⟩
              refine Reg.steps_cons (i := 3) ?_ ?_
              · rintro bb aa ww ⟨p7, ha, HW⟩ hb hd hn
                have e51 : aa.tmps[51]? = some (.pointer (some ⟨Y, 0, none⟩)) := by rw [ha]; exact Reg.fill_on 2 rfl rfl (hd 2 (by decide)) rfl
                have HA := Lib.hid ha
                clear ha
                refine ⟨_, rfl, fun K hK => ?_⟩
                have y0 := (row_cells (HY3.out.below HW.1).row).1 0
                refine Reg.do_val rfl rfl (v := .map (some M)) (w1 := ww) ?_ ?_
                · simp only [List.getElem_toArray, List.getElem_cons_succ, List.getElem_cons_zero, execOp, Reg.eval_tmp e51]
                  go_simp
                exact hK.out _ _ ⟨p7, by rw [HA.out]; exact Reg.fill_up 3 hb rfl rfl rfl, HW.keep (show 3 ∉ [12, 13] by decide) (Below.refl _ _)⟩
              refine Reg.steps_cons (i := 4) ?_ ?_
              · rintro bb aa ww ⟨p7, ha, HW⟩ hb hd hn
                have e3 : aa.tmps[3]? = some (.pointer (some ⟨w.heap.size, 0, none⟩)) := by rw [ha]; exact (Reg.fill_off rfl).trans rfl
                have HA := Lib.hid ha
                clear ha
                refine ⟨_, rfl, fun K hK => ?_⟩
                refine Reg.do_val rfl rfl (v := .pointer (some ⟨w.heap.size, 1, none⟩)) (w1 := ww) ?_ ?_
                · simp only [List.getElem_toArray, List.getElem_cons_succ, List.getElem_cons_zero, execOp, Reg.eval_tmp e3]
                  go_simp
                exact hK.out _ _ ⟨p7, by rw [HA.out]; exact Reg.fill_up 4 hb rfl rfl rfl, HW.keep (show 4 ∉ [12, 13] by decide) (Below.refl _ _)⟩
              refine Reg.steps_cons (i := 5) ?_ ?_
              · rintro bb aa ww ⟨p7, ha, HW⟩ hb hd hn
                have e53 : aa.tmps[53]? = some (.pointer (some ⟨w.heap.size, 1, none⟩)) := by rw [ha]; exact Reg.fill_on 4 rfl rfl (hd 4 (by decide)) rfl
                have HA := Lib.hid ha
                clear ha
                refine ⟨_, rfl, fun K hK => ?_⟩
                have k1 := (row_cells (row_after HW.1 RF3.out)).1 1
                refine Reg.do_val rfl rfl (v := .slice (some ⟨bn, on, none⟩) ns.length c) (w1 := ww) ?_ ?_
                · simp only [List.getElem_toArray, List.getElem_cons_succ, List.getElem_cons_zero, execOp, Reg.eval_tmp e53]
                  go_simp
                exact hK.out _ _ ⟨p7, by rw [HA.out]; exact Reg.fill_up 5 hb rfl rfl rfl, HW.keep (show 5 ∉ [12, 13] by decide) (Below.refl _ _)⟩
              refine Reg.steps_cons (i := 6) ?_ ?_
              · rintro bb aa ww ⟨p7, ha, HW⟩ hb hd hn
                have e54 : aa.tmps[54]? = some (.slice (some ⟨bn, on, none⟩) ns.length c) := by rw [ha]; exact Reg.fill_on 5 rfl rfl (hd 5 (by decide)) rfl
                have HA := Lib.hid ha
                clear ha
                refine ⟨_, rfl, fun K hK => ?_⟩
                refine Reg.do_val rfl rfl (v := .pointer (some ⟨bn, on, none⟩)) (w1 := ww) ?_ ?_
                · simp only [List.getElem_toArray, List.getElem_cons_succ, List.getElem_cons_zero, execOp, Reg.eval_tmp e54]
                  go_simp
                exact hK.out _ _ ⟨p7, by rw [HA.out]; exact Reg.fill_up 6 hb rfl rfl rfl, HW.keep (show 6 ∉ [12, 13] by decide) (Below.refl _ _)⟩
              refine Reg.steps_cons (i := 7) ?_ ?_
              · rintro bb aa ww ⟨p7, ha, HW⟩ hb hd hn
                have e55 : aa.tmps[55]? = some (.pointer (some ⟨bn, on, none⟩)) := by rw [ha]; exact Reg.fill_on 6 rfl rfl (hd 6 (by decide)) rfl
                have HA := Lib.hid ha
                clear ha
                refine ⟨_, rfl, fun K hK => ?_⟩
                have c0 := HC0.out _ (HB3.out.trans (HW.1.mono HB3.out.size))
                refine Reg.do_val rfl rfl (v := .string n0) (w1 := ww) ?_ ?_
                · simp only [List.getElem_toArray, List.getElem_cons_succ, List.getElem_cons_zero, execOp, Reg.eval_tmp e55]
                  go_simp
                exact hK.out _ _ ⟨p7, by rw [HA.out]; exact Reg.fill_up 7 hb rfl rfl rfl, HW.keep (show 7 ∉ [12, 13] by decide) (Below.refl _ _)⟩
              refine Reg.steps_cons (i := 8) ?_ ?_
              · rintro bb aa ww ⟨p7, ha, HW⟩ hb hd hn
                have e52 : aa.tmps[52]? = some (.map (some M)) := by rw [ha]; exact Reg.fill_on 3 rfl rfl (hd 3 (by decide)) rfl
                have e56 : aa.tmps[56]? = some (.string n0) := by rw [ha]; exact Reg.fill_on 7 rfl rfl (hd 7 (by decide)) rfl
                have HA := Lib.hid ha
                clear ha
                refine ⟨_, rfl, fun K hK => ?_⟩
                have hl := look_missed (HY3.out.below HW.1).map HX.out true
                simp only [if_true] at hl
                refine Reg.do_val rfl rfl (v := .tuple #[.agg #[.string ⟨#[]⟩, .string ⟨#[]⟩, .int .i64 0, .int .i64 0, .int .i64 0, .int .i64 0, .int .i64 0, .int .i64 0, .int .i64 0, .string ⟨#[]⟩], .bool false]) (w1 := ww) ?_ ?_
                · simp only [List.getElem_toArray, List.getElem_cons_succ, List.getElem_cons_zero, execOp, Reg.eval_tmp e52, Reg.eval_tmp e56]
                  go_simp
                exact hK.out _ _ ⟨p7, by rw [HA.out]; exact Reg.fill_up 8 hb rfl rfl rfl, HW.keep (show 8 ∉ [12, 13] by decide) (Below.refl _ _)⟩
              refine Reg.steps_cons (i := 9) ?_ ?_
              · rintro bb aa ww ⟨p7, ha, HW⟩ hb hd hn
                have e57 : aa.tmps[57]? = some (.tuple #[.agg #[.string ⟨#[]⟩, .string ⟨#[]⟩, .int .i64 0, .int .i64 0, .int .i64 0, .int .i64 0, .int .i64 0, .int .i64 0, .int .i64 0, .string ⟨#[]⟩], .bool false]) := by rw [ha]; exact Reg.fill_on 8 rfl rfl (hd 8 (by decide)) rfl
                have HA := Lib.hid ha
                clear ha
                refine ⟨_, rfl, fun K hK => ?_⟩
                refine Reg.do_val rfl rfl (v := .tuple #[.agg #[.string ⟨#[]⟩, .string ⟨#[]⟩, .int .i64 0, .int .i64 0, .int .i64 0, .int .i64 0, .int .i64 0, .int .i64 0, .int .i64 0, .string ⟨#[]⟩], .bool false]) (w1 := ww) (by simp only [List.getElem_toArray, List.getElem_cons_succ, List.getElem_cons_zero, execOp, Reg.eval_tmp e57]; rfl) ?_
                exact hK.out _ _ ⟨p7, by rw [HA.out]; exact Reg.fill_up 9 hb rfl rfl rfl, HW.keep (show 9 ∉ [12, 13] by decide) (Below.refl _ _)⟩
              refine Reg.steps_cons (i := 10) ?_ ?_
              · rintro bb aa ww ⟨p7, ha, HW⟩ hb hd hn
                have e48 : aa.tmps[48]? = some (.tuple #[.agg #[.string ⟨#[]⟩, .string ⟨#[]⟩, .int .i64 0, .int .i64 0, .int .i64 0, .int .i64 0, .int .i64 0, .int .i64 0, .int .i64 0, .string ⟨#[]⟩], .bool false]) := by rw [ha]; exact Reg.fill_on 9 rfl rfl (hd 9 (by decide)) rfl
                have HA := Lib.hid ha
                clear ha
                refine ⟨_, rfl, fun K hK => ?_⟩
                refine Reg.do_val rfl rfl (v := .agg #[.string ⟨#[]⟩, .string ⟨#[]⟩, .int .i64 0, .int .i64 0, .int .i64 0, .int .i64 0, .int .i64 0, .int .i64 0, .int .i64 0, .string ⟨#[]⟩]) (w1 := ww) ?_ ?_
                · simp only [List.getElem_toArray, List.getElem_cons_succ, List.getElem_cons_zero, execOp, Reg.eval_tmp e48]
                  go_simp
                exact hK.out _ _ ⟨p7, by rw [HA.out]; exact Reg.fill_up 10 hb rfl rfl rfl, HW.keep (show 10 ∉ [12, 13] by decide) (Below.refl _ _)⟩
              refine Reg.steps_cons (i := 11) ?_ ?_
              · rintro bb aa ww ⟨p7, ha, HW⟩ hb hd hn
                have e48 : aa.tmps[48]? = some (.tuple #[.agg #[.string ⟨#[]⟩, .string ⟨#[]⟩, .int .i64 0, .int .i64 0, .int .i64 0, .int .i64 0, .int .i64 0, .int .i64 0, .int .i64 0, .string ⟨#[]⟩], .bool false]) := by rw [ha]; exact Reg.fill_on 9 rfl rfl (hd 9 (by decide)) rfl
                have HA := Lib.hid ha
                clear ha
                refine ⟨_, rfl, fun K hK => ?_⟩
                refine Reg.do_val rfl rfl (v := .bool false) (w1 := ww) ?_ ?_
                · simp only [List.getElem_toArray, List.getElem_cons_succ, List.getElem_cons_zero, execOp, Reg.eval_tmp e48]
                  go_simp
                exact hK.out _ _ ⟨p7, by rw [HA.out]; exact Reg.fill_up 11 hb rfl rfl rfl, HW.keep (show 11 ∉ [12, 13] by decide) (Below.refl _ _)⟩
              refine Reg.steps_cons (i := 12) ?_ ?_
              · rintro bb aa ww ⟨p7, ha, HW⟩ hb hd hn
                have HA := Lib.hid ha
                clear ha
                refine ⟨_, rfl, fun K hK => ?_⟩
                refine Reg.do_val rfl rfl (v := .pointer (some ⟨ww.heap.size, 0, none⟩)) (w1 := ww.alloc (.cells #[.string ⟨#[]⟩, .string ⟨#[]⟩, .int .i64 0, .int .i64 0, .int .i64 0, .int .i64 0, .int .i64 0, .int .i64 0, .int .i64 0, .string ⟨#[]⟩] 47)) ?_ ?_
                · go_simp
                exact hK.out _ _ ⟨ww.heap.size, by rw [HA.out]; exact Reg.fill_up 12 hb rfl rfl rfl, HW.al (hn 13 (by decide)) (by decide)⟩
              refine Reg.steps_cons (i := 13) ?_ ?_
              · rintro bb aa ww ⟨p7, ha, HW⟩ hb hd hn
                have e7 : aa.tmps[7]? = some (.pointer (some ⟨p7, 0, none⟩)) := by rw [ha]; exact Reg.fill_on 12 rfl rfl (hd 12 (by decide)) rfl
                have e58 : aa.tmps[58]? = some (.agg #[.string ⟨#[]⟩, .string ⟨#[]⟩, .int .i64 0, .int .i64 0, .int .i64 0, .int .i64 0, .int .i64 0, .int .i64 0, .int .i64 0, .string ⟨#[]⟩]) := by rw [ha]; exact Reg.fill_on 10 rfl rfl (hd 10 (by decide)) rfl
                have HA := Lib.hid ha
                clear ha
                refine ⟨_, rfl, fun K hK => ?_⟩
                refine Reg.do_store rfl rfl 47 _ _ rfl p7 #[.string ⟨#[]⟩, .string ⟨#[]⟩, .int .i64 0, .int .i64 0, .int .i64 0, .int .i64 0, .int .i64 0, .int .i64 0, .int .i64 0, .string ⟨#[]⟩] (Reg.eval_tmp e7) (Reg.eval_tmp e58) (HW.blk (hd 12 (by decide)) hb) (by kernel_rfl) rfl (by simp [Value.oneCell']) ?_
                exact hK.out _ _ ⟨p7, by rw [HA.out]; exact Reg.fill_none rfl, HW.st (hd 12 (by decide)) (by decide)⟩
              refine Reg.steps_cons (i := 14) ?_ ?_
              · rintro bb aa ww ⟨p7, ha, HW⟩ hb hd hn
                have e59 : aa.tmps[59]? = some (.bool false) := by rw [ha]; exact Reg.fill_on 11 rfl rfl (hd 11 (by decide)) rfl
                have HA := Lib.hid ha
                clear ha
                refine ⟨_, rfl, fun K hK => ?_⟩
                refine Reg.do_val rfl rfl (v := .bool false) (w1 := ww) (by simp only [List.getElem_toArray, List.getElem_cons_succ, List.getElem_cons_zero, execOp, Reg.eval_tmp e59]; rfl) ?_
                exact hK.out _ _ ⟨p7, by rw [HA.out]; exact Reg.fill_up 13 hb rfl rfl rfl, HW.keep (show 14 ∉ [12, 13] by decide) (Below.refl _ _)⟩
              exact trivial
            rintro bb aa W4 hall ⟨p7, ha, HW⟩
            have HB4 := Lib.hid (HB3.out.trans ((HW.fin (hall 12 (by decide)) (hall 13 (by decide))).1.mono HB3.out.size))
            clear HW
            have hb0 := hall 0 (by decide)
            have hb1 := hall 1 (by decide)
            have hb2 := hall 2 (by decide)
            have hb3 := hall 3 (by decide)
            have hb4 := hall 4 (by decide)
            have hb5 := hall 5 (by decide)
            have hb6 := hall 6 (by decide)
            have hb7 := hall 7 (by decide)
            have hb8 := hall 8 (by decide)
            have hb9 := hall 9 (by decide)
            have hb10 := hall 10 (by decide)
            have hb11 := hall 11 (by decide)
            have hb12 := hall 12 (by decide)
            have hb13 := hall 13 (by decide)
            have hb14 := hall 14 (by decide)
            simp only [Reg.fill, hb0, hb1, hb2, hb3, hb4, hb5, hb6, hb7, hb8, hb9, hb10, hb11, hb12, hb14, if_true, Act.put, List.setIfInBounds_toArray, List.set_cons_zero, List.set_cons_succ] at ha
            clear hb0 hb1 hb2 hb3 hb4 hb5 hb6 hb7 hb8 hb9 hb10 hb11 hb12 hb13 hb14 hall
            subst ha
            go_wp2_with fail
            go_ret
            exact ⟨Base.ret_int (by rw [← HRES.out, Yp.check_miss HK.out HS1.out HS2.out HBAD.out HK0.out (by rw [HN0.out]; exact HX.out)]), HB4.out⟩
          | some x =>
            have HX := Lib.hid hx
            have HFD := Lib.hid (Yp.check_found HK.out HS1.out HS2.out HBAD.out HK0.out (by rw [HN0.out]; exact hx))
            rw [HRES.out] at HFD
            have HCUTX : Hid (k = 1 → Yp.allowed 1 x.st = true → ∀ W, Below w.heap.size w W → Calls Tryz.prog 54 #[.pointer (some ⟨Y, 0, none⟩), .agg #[.string kd, .slice (some ⟨bn, on, none⟩) ns.length c, .slice A' vs.length c']] W fun e w' => e = .returned (.int .i64 res) ∧ Below W.heap.size W w') := Lib.hid fun h1 ha W hW => by
              subst h1
              exact HCUTW.out W hW HK.out HS1.out HS2.out HBAD.out hx ha
            have HASSX : Hid (k = 2 → Yp.allowed 2 x.st = true → ∀ W, Below w.heap.size w W → Calls Tryz.prog 56 #[.pointer (some ⟨Y, 0, none⟩), .agg #[.string kd, .slice (some ⟨bn, on, none⟩) ns.length c, .slice A' vs.length c']] W fun e w' => e = .returned (.int .i64 res) ∧ Below W.heap.size W w') := Lib.hid fun h1 ha W hW => by
              subst h1
              exact HASSW.out W hW HK.out HS1.out HS2.out HBAD.out hx ha
            have hall2 := allowed_mem HK0.out (kindNo_lt HK.out) x.st
            have HAL := Lib.hid hall2
            clear hx HCUTW HASSW HFREE HCON hall2
            obtain ⟨x1, x2, ⟨b0, b1, b2, b3, b4, b5⟩, x3, x4⟩ := x
            simp only at HFD HAL HCUTX HASSX
            go_wp2_with fail
            clear y1 k1 q2 q3
            refine Reg.region_inv [[], [0], [1], [2], [], [4], [5], [6], [3, 7], [8], [9], [9], [], [0, 1, 2, 3, 4, 5, 6, 7, 8, 9, 10, 12], [0, 1, 2, 3, 4, 5, 6, 7, 8, 9, 10, 11, 12, 13]] [[], [0], [0, 1], [0, 1, 2], [], [4], [4, 5], [4, 5, 6], [0, 1, 2, 3, 4, 5, 6, 7], [0, 1, 2, 3, 4, 5, 6, 7, 8], [0, 1, 2, 3, 4, 5, 6, 7, 8, 9], [0, 1, 2, 3, 4, 5, 6, 7, 8, 9], [], [0, 1, 2, 3, 4, 5, 6, 7, 8, 9, 10, 12], [0, 1, 2, 3, 4, 5, 6, 7, 8, 9, 10, 11, 12, 13]] (fun a0_ bb aa ww => ∃ (p7 : Nat), aa = Reg.fill bb [(0, 49, .pointer (some ⟨Y, 0, none⟩)), (1, 50, .pointer (some ⟨Y, 0, none⟩)), (2, 51, .pointer (some ⟨Y, 0, none⟩)), (3, 52, .map (some M)), (4, 53, .pointer (some ⟨w.heap.size, 1, none⟩)), (5, 54, .slice (some ⟨bn, on, none⟩) ns.length c), (6, 55, .pointer (some ⟨bn, on, none⟩)), (7, 56, .string n0), (8, 57, .tuple #[.agg #[.string x1, .string x2, .int .i64 b0, .int .i64 b1, .int .i64 b2, .int .i64 b3, .int .i64 b4, .int .i64 b5, .int .i64 x3, .string x4], .bool true]), (9, 48, .tuple #[.agg #[.string x1, .string x2, .int .i64 b0, .int .i64 b1, .int .i64 b2, .int .i64 b3, .int .i64 b4, .int .i64 b5, .int .i64 x3, .string x4], .bool true]), (10, 58, .agg #[.string x1, .string x2, .int .i64 b0, .int .i64 b1, .int .i64 b2, .int .i64 b3, .int .i64 b4, .int .i64 b5, .int .i64 x3, .string x4]), (11, 59, .bool true), (12, 7, .pointer (some ⟨p7, 0, none⟩)), (14, 8, .bool true)] a0_ ∧ One W3 #[.string ⟨#[]⟩, .string ⟨#[]⟩, .int .i64 0, .int .i64 0, .int .i64 0, .int .i64 0, .int .i64 0, .int .i64 0, .int .i64 0, .string ⟨#[]⟩] #[.string x1, .string x2, .int .i64 b0, .int .i64 b1, .int .i64 b2, .int .i64 b3, .int .i64 b4, .int .i64 b5, .int .i64 x3, .string x4] 47 12 13 bb ww p7) (by kernel_rfl) (by kernel_rfl) (by kernel_rfl) ?_ ?_ ?_
            · exact ⟨0, Reg.fill_start.symm, One.start⟩
            · refine Reg.steps_cons (i := 0) ?_ ?_
              · rintro bb aa ww ⟨p7, ha, HW⟩ hb hd hn
                have e0 : aa.tmps[0]? = some (.pointer (some ⟨Y, 0, none⟩)) := by rw [ha]; exact (Reg.fill_off rfl).trans rfl
                have HA := Lib.hid ha
                clear ha
                refine ⟨_, rfl, fun K hK => ?_⟩
                refine Reg.do_val rfl rfl (v := .pointer (some ⟨Y, 0, none⟩)) (w1 := ww) (by simp only [List.getElem_toArray, List.getElem_cons_zero, execOp, Reg.eval_tmp e0]; rfl) ?_
                exact hK.out _ _ ⟨p7, by rw [HA.out]; exact Reg.fill_up 0 hb rfl rfl rfl, HW.keep (show 0 ∉ [12, 13] by decide) (Below.refl _ _)⟩
              refine Reg.steps_cons (i := 1) ?_ ?_
              · rintro bb aa ww ⟨p7, ha, HW⟩ hb hd hn
                have e49 : aa.tmps[49]? = some (.pointer (some ⟨Y, 0, none⟩)) := by rw [ha]; exact Reg.fill_on 0 rfl rfl (hd 0 (by decide)) rfl
                have HA := Lib.hid ha
                clear ha
                refine ⟨_, rfl, fun K hK => ?_⟩
                refine Reg.do_val rfl rfl (v := .pointer (some ⟨Y, 0, none⟩)) (w1 := ww) ?_ ?_
                · simp only [List.getElem_toArray, List.getElem_cons_succ, List.getElem_cons_zero, execOp, Reg.eval_tmp e49]
                  go_simp
                exact hK.out _ _ ⟨p7, by rw [HA.out]; exact Reg.fill_up 1 hb rfl rfl rfl, HW.keep (show 1 ∉ [12, 13] by decide) (Below.refl _ _)⟩
              refine Reg.steps_cons (i := 2) ?_ ?_
              · rintro bb aa ww ⟨p7, ha, HW⟩ hb hd hn
                have e50 : aa.tmps[50]? = some (.pointer (some ⟨Y, 0, none⟩)) := by rw [ha]; exact Reg.fill_on 1 rfl rfl (hd 1 (by decide)) rfl
                have HA := Lib.hid ha
                clear ha
                refine ⟨_, rfl, fun K hK => ?_⟩
                refine Reg.do_val rfl rfl (v := .pointer (some ⟨Y, 0, none⟩)) (w1 := ww) ?_ ?_
                · simp only [List.getElem_toArray, List.getElem_cons_succ, List.getElem_cons_zero, execOp, Reg.eval_tmp e50]
                  go_simp
                exact hK.out _ _ ⟨p7, by rw [HA.out]; exact Reg.fill_up 2 hb rfl rfl rfl, HW.keep (show 2 ∉ [12, 13] by decide) (Below.refl _ _)⟩
              refine Reg.steps_cons (i := 3) ?_ ?_
              · rintro bb aa ww ⟨p7, ha, HW⟩ hb hd hn
                have e51 : aa.tmps[51]? = some (.pointer (some ⟨Y, 0, none⟩)) := by rw [ha]; exact Reg.fill_on 2 rfl rfl (hd 2 (by decide)) rfl
                have HA := Lib.hid ha
                clear ha
                refine ⟨_, rfl, fun K hK => ?_⟩
                have y0 := (row_cells (HY3.out.below HW.1).row).1 0
                refine Reg.do_val rfl rfl (v := .map (some M)) (w1 := ww) ?_ ?_
                · simp only [List.getElem_toArray, List.getElem_cons_succ, List.getElem_cons_zero, execOp, Reg.eval_tmp e51]
                  go_simp
                exact hK.out _ _ ⟨p7, by rw [HA.out]; exact Reg.fill_up 3 hb rfl rfl rfl, HW.keep (show 3 ∉ [12, 13] by decide) (Below.refl _ _)⟩
              refine Reg.steps_cons (i := 4) ?_ ?_
              · rintro bb aa ww ⟨p7, ha, HW⟩ hb hd hn
                have e3 : aa.tmps[3]? = some (.pointer (some ⟨w.heap.size, 0, none⟩)) := by rw [ha]; exact (Reg.fill_off rfl).trans rfl
                have HA := Lib.hid ha
                clear ha
                refine ⟨_, rfl, fun K hK => ?_⟩
                refine Reg.do_val rfl rfl (v := .pointer (some ⟨w.heap.size, 1, none⟩)) (w1 := ww) ?_ ?_
                · simp only [List.getElem_toArray, List.getElem_cons_succ, List.getElem_cons_zero, execOp, Reg.eval_tmp e3]
                  go_simp
                exact hK.out _ _ ⟨p7, by rw [HA.out]; exact Reg.fill_up 4 hb rfl rfl rfl, HW.keep (show 4 ∉ [12, 13] by decide) (Below.refl _ _)⟩
              refine Reg.steps_cons (i := 5) ?_ ?_
              · rintro bb aa ww ⟨p7, ha, HW⟩ hb hd hn
                have e53 : aa.tmps[53]? = some (.pointer (some ⟨w.heap.size, 1, none⟩)) := by rw [ha]; exact Reg.fill_on 4 rfl rfl (hd 4 (by decide)) rfl
                have HA := Lib.hid ha
                clear ha
                refine ⟨_, rfl, fun K hK => ?_⟩
                have k1 := (row_cells (row_after HW.1 RF3.out)).1 1
                refine Reg.do_val rfl rfl (v := .slice (some ⟨bn, on, none⟩) ns.length c) (w1 := ww) ?_ ?_
                · simp only [List.getElem_toArray, List.getElem_cons_succ, List.getElem_cons_zero, execOp, Reg.eval_tmp e53]
                  go_simp
                exact hK.out _ _ ⟨p7, by rw [HA.out]; exact Reg.fill_up 5 hb rfl rfl rfl, HW.keep (show 5 ∉ [12, 13] by decide) (Below.refl _ _)⟩
              refine Reg.steps_cons (i := 6) ?_ ?_
              · rintro bb aa ww ⟨p7, ha, HW⟩ hb hd hn
                have e54 : aa.tmps[54]? = some (.slice (some ⟨bn, on, none⟩) ns.length c) := by rw [ha]; exact Reg.fill_on 5 rfl rfl (hd 5 (by decide)) rfl
                have HA := Lib.hid ha
                clear ha
                refine ⟨_, rfl, fun K hK => ?_⟩
                refine Reg.do_val rfl rfl (v := .pointer (some ⟨bn, on, none⟩)) (w1 := ww) ?_ ?_
                · simp only [List.getElem_toArray, List.getElem_cons_succ, List.getElem_cons_zero, execOp, Reg.eval_tmp e54]
                  go_simp
                exact hK.out _ _ ⟨p7, by rw [HA.out]; exact Reg.fill_up 6 hb rfl rfl rfl, HW.keep (show 6 ∉ [12, 13] by decide) (Below.refl _ _)⟩
              refine Reg.steps_cons (i := 7) ?_ ?_
              · rintro bb aa ww ⟨p7, ha, HW⟩ hb hd hn
                have e55 : aa.tmps[55]? = some (.pointer (some ⟨bn, on, none⟩)) := by rw [ha]; exact Reg.fill_on 6 rfl rfl (hd 6 (by decide)) rfl
                have HA := Lib.hid ha
                clear ha
                refine ⟨_, rfl, fun K hK => ?_⟩
                have c0 := HC0.out _ (HB3.out.trans (HW.1.mono HB3.out.size))
                refine Reg.do_val rfl rfl (v := .string n0) (w1 := ww) ?_ ?_
                · simp only [List.getElem_toArray, List.getElem_cons_succ, List.getElem_cons_zero, execOp, Reg.eval_tmp e55]
                  go_simp
                exact hK.out _ _ ⟨p7, by rw [HA.out]; exact Reg.fill_up 7 hb rfl rfl rfl, HW.keep (show 7 ∉ [12, 13] by decide) (Below.refl _ _)⟩
              refine Reg.steps_cons (i := 8) ?_ ?_
              · rintro bb aa ww ⟨p7, ha, HW⟩ hb hd hn
                have e52 : aa.tmps[52]? = some (.map (some M)) := by rw [ha]; exact Reg.fill_on 3 rfl rfl (hd 3 (by decide)) rfl
                have e56 : aa.tmps[56]? = some (.string n0) := by rw [ha]; exact Reg.fill_on 7 rfl rfl (hd 7 (by decide)) rfl
                have HA := Lib.hid ha
                clear ha
                refine ⟨_, rfl, fun K hK => ?_⟩
                have hl := look_found (HY3.out.below HW.1).map HX.out true
                simp only [itC, if_true] at hl
                refine Reg.do_val rfl rfl (v := .tuple #[.agg #[.string x1, .string x2, .int .i64 b0, .int .i64 b1, .int .i64 b2, .int .i64 b3, .int .i64 b4, .int .i64 b5, .int .i64 x3, .string x4], .bool true]) (w1 := ww) ?_ ?_
                · simp only [List.getElem_toArray, List.getElem_cons_succ, List.getElem_cons_zero, execOp, Reg.eval_tmp e52, Reg.eval_tmp e56]
                  go_simp
                exact hK.out _ _ ⟨p7, by rw [HA.out]; exact Reg.fill_up 8 hb rfl rfl rfl, HW.keep (show 8 ∉ [12, 13] by decide) (Below.refl _ _)⟩
              refine Reg.steps_cons (i := 9) ?_ ?_
              · rintro bb aa ww ⟨p7, ha, HW⟩ hb hd hn
                have e57 : aa.tmps[57]? = some (.tuple #[.agg #[.string x1, .string x2, .int .i64 b0, .int .i64 b1, .int .i64 b2, .int .i64 b3, .int .i64 b4, .int .i64 b5, .int .i64 x3, .string x4], .bool true]) := by rw [ha]; exact Reg.fill_on 8 rfl rfl (hd 8 (by decide)) rfl
                have HA := Lib.hid ha
                clear ha
                refine ⟨_, rfl, fun K hK => ?_⟩
                refine Reg.do_val rfl rfl (v := .tuple #[.agg #[.string x1, .string x2, .int .i64 b0, .int .i64 b1, .int .i64 b2, .int .i64 b3, .int .i64 b4, .int .i64 b5, .int .i64 x3, .string x4], .bool true]) (w1 := ww) (by simp only [List.getElem_toArray, List.getElem_cons_succ, List.getElem_cons_zero, execOp, Reg.eval_tmp e57]; rfl) ?_
                exact hK.out _ _ ⟨p7, by rw [HA.out]; exact Reg.fill_up 9 hb rfl rfl rfl, HW.keep (show 9 ∉ [12, 13] by decide) (Below.refl _ _)⟩
              refine Reg.steps_cons (i := 10) ?_ ?_
              · rintro bb aa ww ⟨p7, ha, HW⟩ hb hd hn
                have e48 : aa.tmps[48]? = some (.tuple #[.agg #[.string x1, .string x2, .int .i64 b0, .int .i64 b1, .int .i64 b2, .int .i64 b3, .int .i64 b4, .int .i64 b5, .int .i64 x3, .string x4], .bool true]) := by rw [ha]; exact Reg.fill_on 9 rfl rfl (hd 9 (by decide)) rfl
                have HA := Lib.hid ha
                clear ha
                refine ⟨_, rfl, fun K hK => ?_⟩
                refine Reg.do_val rfl rfl (v := .agg #[.string x1, .string x2, .int .i64 b0, .int .i64 b1, .int .i64 b2, .int .i64 b3, .int .i64 b4, .int .i64 b5, .int .i64 x3, .string x4]) (w1 := ww) ?_ ?_
                · simp only [List.getElem_toArray, List.getElem_cons_succ, List.getElem_cons_zero, execOp, Reg.eval_tmp e48]
                  go_simp
                exact hK.out _ _ ⟨p7, by rw [HA.out]; exact Reg.fill_up 10 hb rfl rfl rfl, HW.keep (show 10 ∉ [12, 13] by decide) (Below.refl _ _)⟩
              refine Reg.steps_cons (i := 11) ?_ ?_
              · rintro bb aa ww ⟨p7, ha, HW⟩ hb hd hn
                have e48 : aa.tmps[48]? = some (.tuple #[.agg #[.string x1, .string x2, .int .i64 b0, .int .i64 b1, .int .i64 b2, .int .i64 b3, .int .i64 b4, .int .i64 b5, .int .i64 x3, .string x4], .bool true]) := by rw [ha]; exact Reg.fill_on 9 rfl rfl (hd 9 (by decide)) rfl
                have HA := Lib.hid ha
                clear ha
                refine ⟨_, rfl, fun K hK => ?_⟩
                refine Reg.do_val rfl rfl (v := .bool true) (w1 := ww) ?_ ?_
                · simp only [List.getElem_toArray, List.getElem_cons_succ, List.getElem_cons_zero, execOp, Reg.eval_tmp e48]
                  go_simp
                exact hK.out _ _ ⟨p7, by rw [HA.out]; exact Reg.fill_up 11 hb rfl rfl rfl, HW.keep (show 11 ∉ [12, 13] by decide) (Below.refl _ _)⟩
              refine Reg.steps_cons (i := 12) ?_ ?_
              · rintro bb aa ww ⟨p7, ha, HW⟩ hb hd hn
                have HA := Lib.hid ha
                clear ha
                refine ⟨_, rfl, fun K hK => ?_⟩
                refine Reg.do_val rfl rfl (v := .pointer (some ⟨ww.heap.size, 0, none⟩)) (w1 := ww.alloc (.cells #[.string ⟨#[]⟩, .string ⟨#[]⟩, .int .i64 0, .int .i64 0, .int .i64 0, .int .i64 0, .int .i64 0, .int .i64 0, .int .i64 0, .string ⟨#[]⟩] 47)) ?_ ?_
                · go_simp
                exact hK.out _ _ ⟨ww.heap.size, by rw [HA.out]; exact Reg.fill_up 12 hb rfl rfl rfl, HW.al (hn 13 (by decide)) (by decide)⟩
              refine Reg.steps_cons (i := 13) ?_ ?_
              · rintro bb aa ww ⟨p7, ha, HW⟩ hb hd hn
                have e7 : aa.tmps[7]? = some (.pointer (some ⟨p7, 0, none⟩)) := by rw [ha]; exact Reg.fill_on 12 rfl rfl (hd 12 (by decide)) rfl
                have e58 : aa.tmps[58]? = some (.agg #[.string x1, .string x2, .int .i64 b0, .int .i64 b1, .int .i64 b2, .int .i64 b3, .int .i64 b4, .int .i64 b5, .int .i64 x3, .string x4]) := by rw [ha]; exact Reg.fill_on 10 rfl rfl (hd 10 (by decide)) rfl
                have HA := Lib.hid ha
                clear ha
                refine ⟨_, rfl, fun K hK => ?_⟩
                refine Reg.do_store rfl rfl 47 _ _ rfl p7 #[.string x1, .string x2, .int .i64 b0, .int .i64 b1, .int .i64 b2, .int .i64 b3, .int .i64 b4, .int .i64 b5, .int .i64 x3, .string x4] (Reg.eval_tmp e7) (Reg.eval_tmp e58) (HW.blk (hd 12 (by decide)) hb) (by kernel_rfl) rfl (by simp [Value.oneCell']) ?_
                exact hK.out _ _ ⟨p7, by rw [HA.out]; exact Reg.fill_none rfl, HW.st (hd 12 (by decide)) (by decide)⟩
              refine Reg.steps_cons (i := 14) ?_ ?_
              · rintro bb aa ww ⟨p7, ha, HW⟩ hb hd hn
                have e59 : aa.tmps[59]? = some (.bool true) := by rw [ha]; exact Reg.fill_on 11 rfl rfl (hd 11 (by decide)) rfl
                have HA := Lib.hid ha
                clear ha
                refine ⟨_, rfl, fun K hK => ?_⟩
                refine Reg.do_val rfl rfl (v := .bool true) (w1 := ww) (by simp only [List.getElem_toArray, List.getElem_cons_succ, List.getElem_cons_zero, execOp, Reg.eval_tmp e59]; rfl) ?_
                exact hK.out _ _ ⟨p7, by rw [HA.out]; exact Reg.fill_up 13 hb rfl rfl rfl, HW.keep (show 14 ∉ [12, 13] by decide) (Below.refl _ _)⟩
              exact trivial
            rintro bb aa W4 hall ⟨p7, ha, HW⟩
            have HF := HW.fin (hall 12 (by decide)) (hall 13 (by decide))
            have HB4 := Lib.hid (HB3.out.trans (HF.1.mono HB3.out.size))
            have R54 := Lib.hid (row_after HF.1 R53.out)
            have RF4 := Lib.hid (row_after HF.1 RF3.out)
            have R7 := Lib.hid HF.2.2
            have HSL4 := Lib.hid (HSL3.out.1.below HF.1)
            clear HW HF
            have hb0 := hall 0 (by decide)
            have hb1 := hall 1 (by decide)
            have hb2 := hall 2 (by decide)
            have hb3 := hall 3 (by decide)
            have hb4 := hall 4 (by decide)
            have hb5 := hall 5 (by decide)
            have hb6 := hall 6 (by decide)
            have hb7 := hall 7 (by decide)
            have hb8 := hall 8 (by decide)
            have hb9 := hall 9 (by decide)
            have hb10 := hall 10 (by decide)
            have hb11 := hall 11 (by decide)
            have hb12 := hall 12 (by decide)
            have hb13 := hall 13 (by decide)
            have hb14 := hall 14 (by decide)
            simp only [Reg.fill, hb0, hb1, hb2, hb3, hb4, hb5, hb6, hb7, hb8, hb9, hb10, hb11, hb12, hb14, if_true, Act.put, List.setIfInBounds_toArray, List.set_cons_zero, List.set_cons_succ] at ha
            clear hb0 hb1 hb2 hb3 hb4 hb5 hb6 hb7 hb8 hb9 hb10 hb11 hb12 hb13 hb14 hall
            subst ha
            have q2 := (row_cells R54.out).1 2
            have z3 := (row_cells R7.out).1 8
            go_wp2_with fail
            have hci := containsI_any _ _ (stL k) x3 W4 HSL4.out (by have := kindNo_lt HK.out; unfold stL; split <;> simp)
            generalize hal : decide (x3 ∈ stL k) = al at hci
            have HAL2 := Lib.hid (HAL.out.trans hal)
            clear hal
            refine hci.mono ?_; rintro e W5 ⟨rfl, hb5⟩
            have HB5 := Lib.hid (HB4.out.trans (hb5.mono HB4.out.size))
            have R55 := Lib.hid (row_after hb5 R54.out)
            have RF5 := Lib.hid (row_after hb5 RF4.out)
            clear hci hb5 q2 z3
            cases al with
            | false =>
              go_wp2_with fail
              go_ret
              exact ⟨Base.ret_int (by rw [HFD.out, if_pos HAL2.out]), HB5.out⟩
            | true =>
              have q3 := (row_cells R55.out).1 3
              have k0 := (row_cells RF5.out).1 0
              have k1 := (row_cells RF5.out).1 1
              have k2 := (row_cells RF5.out).1 2
              have hkk : k = 1 ∨ k = 2 ∨ 3 ≤ k := by have := HK0.out; omega
              rcases hkk with h1 | h2 | h3
              · have hc := HCUTX.out h1 (by rw [← h1]; exact HAL2.out)
                replace q3 : W5.cell? ⟨p5, 3, none⟩ = some (.func (.func 54) #[] #[]) := by rw [q3, h1]; rfl
                have qF := neq_fn 54
                have HC := Lib.hid hc
                clear h1 hc
                go_wp2_with fail
                refine (HC.out _ HB5.out).mono ?_; rintro e W6 ⟨rfl, hb6⟩
                have HB6 := Lib.hid (HB5.out.trans (hb6.mono HB5.out.size))
                clear hb6
                go_wp2_with fail
                go_ret
                exact ⟨rfl, HB6.out⟩
              · have hc := HASSX.out h2 (by rw [← h2]; exact HAL2.out)
                replace q3 : W5.cell? ⟨p5, 3, none⟩ = some (.func (.func 56) #[] #[]) := by rw [q3, h2]; rfl
                have qF := neq_fn 56
                have HC := Lib.hid hc
                clear h2 hc
                go_wp2_with fail
                refine (HC.out _ HB5.out).mono ?_; rintro e W6 ⟨rfl, hb6⟩
                have HB6 := Lib.hid (HB5.out.trans (hb6.mono HB5.out.size))
                clear hb6
                go_wp2_with fail
                go_ret
                exact ⟨rfl, HB6.out⟩
              · replace q3 : W5.cell? ⟨p5, 3, none⟩ = some Value.nilFunc := by
                  rw [q3]
                  have : wrV k = Value.nilFunc := by unfold wrV; split <;> first | omega | rfl
                  exact congrArg some this
                have qF := neq_nil
                have H3 := Lib.hid h3
                clear h3
                go_wp2_with fail
                go_ret
                exact ⟨Base.ret_int (by have := H3.out; rw [HFD.out, if_neg (by rw [HAL2.out]; decide), if_neg (by omega), if_neg (by omega)]), HB5.out⟩
    · have hsc : ((vs.length : Int) != (Yp.nVals k : Int)) = true := by rw [bne_iff_ne]; omega
      have HS2 := Lib.hid hs2
      clear hs2
      go_wp2_with fail
      go_ret
      exact ⟨Base.ret_int (by rw [← HRES.out, Yp.check_shape HK.out (.inr HS2.out)]), HB2.out⟩
  · have hsb : ((ns.length : Int) != (Yp.nNames k : Int)) = true := by rw [bne_iff_ne]; omega
    have HS1 := Lib.hid hs1
    clear hs1
    go_wp2_with fail
    go_ret
    exact ⟨Base.ret_int (by rw [← HRES.out, Yp.check_shape HK.out (.inl HS1.out)]), HB2.out⟩
theorem check_any {w : World} {Y M : Nat} {FS : Value} {y : Yd} (hy : YAt w Y M FS y) (hi : Yp.Inv y) (hlen : y.items.length < 4000) (hfl : y.facts.length < 4096) (X : Nat → Prop) (f : Fact) (nv vv : Value) (hn : Rd w X nv (strV f.names)) (hv : Rd w X vv (intV f.vals)) (hsz : ∀ s ∈ f.names, s.size ≤ 140737488351232) :
    Calls Tryz.prog 27 #[.pointer (some ⟨Y, 0, none⟩), .agg #[.string f.kind, nv, vv]] w fun e w' => e = .returned (.int .i64 (Yp.check y f)) ∧ Below w.heap.size w w' := by
  obtain ⟨kd, ns, vs⟩ := f
  cases hk : Yp.kindNo kd with
  | none => rw [Yp.check_out hk]; exact check_unknown hy X kd ns vs nv vv hn hv hk
  | some k => exact check_known hy hi hlen hfl X kd ns vs nv vv hn hv hsz hk
end Go.Proofs.YtejhcbbfdfnfdaaGreatDoor.Yard
