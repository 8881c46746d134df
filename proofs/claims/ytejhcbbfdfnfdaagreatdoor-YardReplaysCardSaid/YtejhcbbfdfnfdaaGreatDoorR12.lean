/- What a possible cut loses. -/
import Derived.Test.YtejhcbbfdfnfdaaGreatDoorR11
/- The volumes of boxes, and what a cut loses. -/
namespace Go.Proofs.YtejhcbbfdfnfdaaGreatDoor.Kerf
open Go.RowKit Go.Proofs.YtejhcbbfdfnfdaaGreatDoor.Base Go.Proofs.YtejhcbbfdfnfdaaGreatDoor.Box
def volE (x0 y0 z0 x1 y1 z1 : Int) : Int := (x1 - x0) * (y1 - y0) * (z1 - z0)
/-- A box in range, maybe empty. -/
def Rng (x0 y0 z0 x1 y1 z1 : Int) : Prop := -1000000 ≤ x0 ∧ x0 ≤ x1 ∧ x1 ≤ 1000000 ∧ -1000000 ≤ y0 ∧ y0 ≤ y1 ∧ y1 ≤ 1000000 ∧ -1000000 ≤ z0 ∧ z0 ≤ z1 ∧ z1 ≤ 1000000
theorem mul_in {a b A B : Int} (ha : 0 ≤ a) (hA : a ≤ A) (hb : 0 ≤ b) (hB : b ≤ B) : 0 ≤ a * b ∧ a * b ≤ A * B :=
  ⟨Int.mul_nonneg ha hb, Int.mul_le_mul hA hB hb (by omega)⟩
theorem rng_vol {x0 y0 z0 x1 y1 z1 : Int} (h : Rng x0 y0 z0 x1 y1 z1) : 0 ≤ (x1 - x0) * (y1 - y0) ∧ (x1 - x0) * (y1 - y0) ≤ 4000000000000 ∧ 0 ≤ volE x0 y0 z0 x1 y1 z1 ∧ volE x0 y0 z0 x1 y1 z1 ≤ 8000000000000000000 := by
  obtain ⟨h1, h2, h3, h4, h5, h6, h7, h8, h9⟩ := h
  have a := mul_in (a := x1 - x0) (b := y1 - y0) (A := 2000000) (B := 2000000) (by omega) (by omega) (by omega) (by omega)
  have b := mul_in (a := (x1 - x0) * (y1 - y0)) (b := z1 - z0) (A := 4000000000000) (B := 2000000) a.1 (by omega) (by omega) (by omega)
  exact ⟨a.1, by omega, b.1, by unfold volE; omega⟩
set_option maxHeartbeats 1000000 in
theorem kvolume_any (x0 y0 z0 x1 y1 z1 : Int) (hr : Rng x0 y0 z0 x1 y1 z1) (w : World) : Calls Tryz.prog 133 #[.agg #[.int .i64 x0, .int .i64 y0, .int .i64 z0, .int .i64 x1, .int .i64 y1, .int .i64 z1]] w fun e w' =>
    e = .returned (.int .i64 (volE x0 y0 z0 x1 y1 z1)) ∧ Below w.heap.size w w' := by
  obtain ⟨b1, b2, b3, b4⟩ := rng_vol hr
  have HV : Hid (volE x0 y0 z0 x1 y1 z1 = (x1 - x0) * (y1 - y0) * (z1 - z0)) := Lib.hid rfl
  rw [HV.out] at b3 b4
  obtain ⟨h1, h2, h3, h4, h5, h6, h7, h8, h9⟩ := hr
  have e1 : IntKind.i64.wrap (x1 - x0) = x1 - x0 := by rw [IntKind.wrap_i64]; omega
  have e2 : IntKind.i64.wrap (y1 - y0) = y1 - y0 := by rw [IntKind.wrap_i64]; omega
  have e3 : IntKind.i64.wrap (z1 - z0) = z1 - z0 := by rw [IntKind.wrap_i64]; omega
  have e4 : IntKind.i64.wrap ((x1 - x0) * (y1 - y0)) = (x1 - x0) * (y1 - y0) := by rw [IntKind.wrap_i64]; omega
  have e5 : IntKind.i64.wrap ((x1 - x0) * (y1 - y0) * (z1 - z0)) = (x1 - x0) * (y1 - y0) * (z1 - z0) := by rw [IntKind.wrap_i64]; omega
  clear b1 b2 b3 b4 h1 h2 h3 h4 h5 h6 h7 h8 h9
  go_enter Tryz.func133, Tryz.ntmps133
  go_wp2_with fail
  go_ret
  refine ⟨?_, (Below.refl _ _).alloc (Nat.le_refl _) _⟩
  rw [HV.out]; rfl
set_option maxHeartbeats 1000000 in
theorem size_any (x0 y0 z0 x1 y1 z1 : Int) (hr : Rng x0 y0 z0 x1 y1 z1) (w : World) : Calls Tryz.prog 106 #[.agg #[.int .i64 x0, .int .i64 y0, .int .i64 z0, .int .i64 x1, .int .i64 y1, .int .i64 z1]] w fun e w' =>
    e = .returned (.agg #[.int .i64 (x1 - x0), .int .i64 (y1 - y0), .int .i64 (z1 - z0)]) ∧ Below w.heap.size w w' := by
  obtain ⟨h1, h2, h3, h4, h5, h6, h7, h8, h9⟩ := hr
  have e1 : IntKind.i64.wrap (x1 - x0) = x1 - x0 := by rw [IntKind.wrap_i64]; omega
  have e2 : IntKind.i64.wrap (y1 - y0) = y1 - y0 := by rw [IntKind.wrap_i64]; omega
  have e3 : IntKind.i64.wrap (z1 - z0) = z1 - z0 := by rw [IntKind.wrap_i64]; omega
  clear h1 h2 h3 h4 h5 h6 h7 h8 h9
  go_enter Tryz.func106, Tryz.ntmps106
  go_wp2_with fail
  refine bodyPost_ret (v := .agg #[.int .i64 (x1 - x0), .int .i64 (y1 - y0), .int .i64 (z1 - z0)]) ?_ rfl ⟨rfl, ?_⟩
  · simp [results, Tryz.results106, go_sem]
  · (repeat' (first | (with_reducible exact Below.refl _ _) | (with_reducible refine Below.drew ?_) | (with_reducible refine below_drewN ?_ _) | (with_reducible refine Below.setCell ?_ ?_ _) | (with_reducible refine Below.alloc ?_ ?_ _) | (simp; done) | (simp; omega)))
set_option maxHeartbeats 1000000 in
theorem volume_any (x0 y0 z0 x1 y1 z1 : Int) (hr : Rng x0 y0 z0 x1 y1 z1) (w : World) : Calls Tryz.prog 68 #[.agg #[.int .i64 x0, .int .i64 y0, .int .i64 z0, .int .i64 x1, .int .i64 y1, .int .i64 z1]] w fun e w' =>
    e = .returned (.int .i64 (volE x0 y0 z0 x1 y1 z1)) ∧ Below w.heap.size w w' := by
  have hs := size_any x0 y0 z0 x1 y1 z1 hr
  obtain ⟨b1, b2, b3, b4⟩ := rng_vol hr
  have HV : Hid (volE x0 y0 z0 x1 y1 z1 = (x1 - x0) * (y1 - y0) * (z1 - z0)) := Lib.hid rfl
  rw [HV.out] at b3 b4
  have e4 : IntKind.i64.wrap ((x1 - x0) * (y1 - y0)) = (x1 - x0) * (y1 - y0) := by rw [IntKind.wrap_i64]; omega
  have e5 : IntKind.i64.wrap ((x1 - x0) * (y1 - y0) * (z1 - z0)) = (x1 - x0) * (y1 - y0) * (z1 - z0) := by rw [IntKind.wrap_i64]; omega
  clear b1 b2 b3 b4 hr
  go_enter Tryz.func68, Tryz.ntmps68
  go_wp2_with fail
  refine (hs _).mono ?_; rintro e w1 ⟨rfl, hb⟩
  have HB := Lib.hid (((Below.refl w.heap.size w).alloc (Nat.le_refl _) (.cells #[.int .i64 x0, .int .i64 y0, .int .i64 z0, .int .i64 x1, .int .i64 y1, .int .i64 z1] 45)).trans (hb.mono (by simp)))
  have hsz := HB.out.size
  clear hb hs
  go_wp2_with fail
  go_ret
  refine ⟨?_, ?_⟩
  · rw [HV.out]; rfl
  · have hy := HB.out
    (repeat' (first | (with_reducible exact hy) | (with_reducible exact hsz) | (with_reducible refine Below.drew ?_) | (with_reducible refine below_drewN ?_ _) | (with_reducible refine Below.setCell ?_ ?_ _) | (with_reducible refine Below.alloc ?_ ?_ _) | (simp; done) | (simp; omega)))
set_option maxHeartbeats 1000000 in
theorem Volume_any (x0 y0 z0 x1 y1 z1 : Int) (h : checkE x0 y0 z0 x1 y1 z1 = 0) (w : World) : Calls Tryz.prog 35 #[.agg #[.int .i64 x0, .int .i64 y0, .int .i64 z0, .int .i64 x1, .int .i64 y1, .int .i64 z1]] w fun e w' =>
    e = .returned (.tuple #[.int .i64 (volE x0 y0 z0 x1 y1 z1), .int .i64 0]) ∧ Below w.heap.size w w' := by
  have hc := check_any x0 y0 z0 x1 y1 z1
  rw [h] at hc
  have q := checkE_ok h
  have hv := volume_any x0 y0 z0 x1 y1 z1 ⟨by omega, by omega, by omega, by omega, by omega, by omega, by omega, by omega, by omega⟩
  clear q
  have HW := Lib.hid ((Below.refl w.heap.size w).alloc (Nat.le_refl _) (.cells #[.int .i64 x0, .int .i64 y0, .int .i64 z0, .int .i64 x1, .int .i64 y1, .int .i64 z1] 45))
  have R := Lib.hid (new_block w (.cells #[.int .i64 x0, .int .i64 y0, .int .i64 z0, .int .i64 x1, .int .i64 y1, .int .i64 z1] 45))
  go_enter Tryz.func35, Tryz.ntmps35
  go_wp2_with fail
  refine (hc _).mono ?_; rintro e w1 ⟨rfl, hb⟩
  have HW1 := Lib.hid (HW.out.trans (hb.mono (by simp)))
  have R1 := Lib.hid (row_after hb R.out)
  clear hb hc HW R
  go_wp2_with (refine wpList_load_row rfl 45 (.tmp 1) rfl w.heap.size rfl 45 #[.int .i64 x0, .int .i64 y0, .int .i64 z0, .int .i64 x1, .int .i64 y1, .int .i64 z1] (0, 0) _ R1.out Tryz.underlying45 rfl (by kernel_rfl) ?_)
  refine (hv _).mono ?_; rintro e w2 ⟨rfl, hb⟩
  have HW2 := Lib.hid (HW1.out.trans (hb.mono HW1.out.size))
  clear hb hv
  go_wp2_with fail
  go_ret2
  exact ⟨rfl, HW2.out⟩
end Go.Proofs.YtejhcbbfdfnfdaaGreatDoor.Kerf

/- What a possible cut loses. -/
namespace Go.Proofs.YtejhcbbfdfnfdaaGreatDoor.Kerf
open Go.RowKit Go.Proofs.YtejhcbbfdfnfdaaGreatDoor.Base Go.Proofs.YtejhcbbfdfnfdaaGreatDoor.Box
theorem kcE_range {x0 y0 z0 x1 y1 z1 p k : Int} {n : Nat} (h : kcE x0 y0 z0 x1 y1 z1 n p k = 0) : Rng x0 y0 z0 x1 y1 z1 := by
  by_cases hz : fsE (checkE x0 y0 z0 x1 y1 z1) (axE n) (swE k) = 0
  · obtain ⟨q0, q1, q2⟩ := fsE_0 hz
    have q0 := checkE_ok q0
    exact ⟨by omega, by omega, by omega, by omega, by omega, by omega, by omega, by omega, by omega⟩
  · rw [kcE_err hz] at h; exact absurd h hz
theorem gn_rng {x0 y0 z0 x1 y1 z1 p k : Int} {n : Nat} (h : kcE x0 y0 z0 x1 y1 z1 n p k = 0) : ∃ g0 g1 g2 g3 g4 g5 : Int, gnE x0 y0 z0 x1 y1 z1 n p k = #[.int .i64 g0, .int .i64 g1, .int .i64 g2, .int .i64 g3, .int .i64 g4, .int .i64 g5] ∧ Rng g0 g1 g2 g3 g4 g5 := by
  obtain ⟨hn, hk0, hk1, b0, b1, b2, b3⟩ := kcE_zero h
  have hr := kcE_range h
  unfold gnE sLo
  by_cases hk : 0 < k
  · rw [if_pos hk]
    obtain rfl | rfl | rfl : n = 0 ∨ n = 1 ∨ n = 2 := by omega
    · simp only [ax3] at b0 b1 b2 b3
      unfold Rng at hr
      refine ⟨_, _, _, _, _, _, by rw [if_pos rfl], ?_⟩
      exact ⟨by omega, by omega, by omega, by omega, by omega, by omega, by omega, by omega, by omega⟩
    · simp only [ax3] at b0 b1 b2 b3
      unfold Rng at hr
      refine ⟨_, _, _, _, _, _, by rw [if_neg (by decide), if_pos rfl], ?_⟩
      exact ⟨by omega, by omega, by omega, by omega, by omega, by omega, by omega, by omega, by omega⟩
    · simp only [ax3] at b0 b1 b2 b3
      unfold Rng at hr
      refine ⟨_, _, _, _, _, _, by rw [if_neg (by decide), if_neg (by decide)], ?_⟩
      exact ⟨by omega, by omega, by omega, by omega, by omega, by omega, by omega, by omega, by omega⟩
  · rw [if_neg hk]
    exact ⟨0, 0, 0, 0, 0, 0, rfl, by omega, by omega, by omega, by omega, by omega, by omega, by omega, by omega, by omega⟩
set_option maxRecDepth 100000 in
set_option maxHeartbeats 1000000 in
theorem loss_ok (x0 y0 z0 x1 y1 z1 : Int) (n : Nat) (p k : Int) (w : World) (h : kcE x0 y0 z0 x1 y1 z1 n p k = 0) {g0 g1 g2 g3 g4 g5 : Int} (hg : gnE x0 y0 z0 x1 y1 z1 n p k = #[.int .i64 g0, .int .i64 g1, .int .i64 g2, .int .i64 g3, .int .i64 g4, .int .i64 g5]) (hr : Rng g0 g1 g2 g3 g4 g5) :
    Calls Tryz.prog 93 #[.agg #[.int .i64 x0, .int .i64 y0, .int .i64 z0, .int .i64 x1, .int .i64 y1, .int .i64 z1], .agg #[.int .i64 n, .int .i64 p, .int .i64 k]] w fun e w' =>
    e = .returned (.tuple #[.int .i64 (volE g0 g1 g2 g3 g4 g5), .int .i64 0]) ∧ Below w.heap.size w w' := by
  have hs := fun W => split_ok x0 y0 z0 x1 y1 z1 n p k W h
  obtain ⟨a0, a1, a2, a3, a4, a5, ha⟩ := sLo_six x0 y0 z0 x1 y1 z1 n (ax3 x0 y0 z0 n) p
  obtain ⟨b0, b1, b2, b3, b4, b5, hbb⟩ := sLo_six x0 y0 z0 x1 y1 z1 n (p + k) (ax3 x1 y1 z1 n)
  rw [ha, hbb, hg] at hs
  have hv := kvolume_any g0 g1 g2 g3 g4 g5 hr
  clear ha hbb hg hr h
  have HW := Lib.hid (((Below.refl w.heap.size w).alloc (Nat.le_refl _) (.cells #[.int .i64 x0, .int .i64 y0, .int .i64 z0, .int .i64 x1, .int .i64 y1, .int .i64 z1] 45)).alloc (by simp) (.cells #[.int .i64 n, .int .i64 p, .int .i64 k] 136))
  go_enter Tryz.func93, Tryz.ntmps93
  go_wp2_with fail
  refine (hs _).mono ?_; rintro e w1 ⟨rfl, hb⟩
  have HW1 := Lib.hid (HW.out.trans (hb.mono (by simp; omega)))
  have hsz := HW1.out.size
  clear hb hs HW
  go_wp2_with fail
  refine (hv _).mono ?_; rintro e w2 ⟨rfl, hb⟩
  have HW2 := Lib.hid (Below.trans (HW1.out.alloc hsz (.cells #[.int .i64 a0, .int .i64 a1, .int .i64 a2, .int .i64 a3, .int .i64 a4, .int .i64 a5] 45) |>.alloc (by simp; omega) (.cells #[.int .i64 g0, .int .i64 g1, .int .i64 g2, .int .i64 g3, .int .i64 g4, .int .i64 g5] 45) |>.alloc (by simp; omega) (.cells #[.int .i64 b0, .int .i64 b1, .int .i64 b2, .int .i64 b3, .int .i64 b4, .int .i64 b5] 45)) (hb.mono (by simp; omega)))
  clear hb hv
  go_wp2_with fail
  go_ret2
  exact ⟨rfl, HW2.out⟩
end Go.Proofs.YtejhcbbfdfnfdaaGreatDoor.Kerf
