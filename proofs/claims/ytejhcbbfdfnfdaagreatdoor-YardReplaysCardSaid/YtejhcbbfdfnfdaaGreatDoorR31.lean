/- The reference's Split. -/
import Derived.Test.YtejhcbbfdfnfdaaGreatDoorR30
import Derived.Test.YtejhcbbfdfnfdaaGreatDoorR16
/- The reference's Check of a cut. -/
namespace Go.Proofs.YtejhcbbfdfnfdaaGreatDoor.Yard
open Go.RowKit Go.Proofs.YtejhcbbfdfnfdaaGreatDoor.Base Go.Proofs.YtejhcbbfdfnfdaaGreatDoor.Mp
open Yp (It Yd Fact Bx)
theorem ax_ok {b : Bx} (h : Yp.boxCheck b = 0) (a : Int) : -1000000 ≤ Yp.axLo b a ∧ Yp.axHi b a ≤ 1000000 ∧ Yp.axLo b a ≤ 1000000 ∧ -1000000 ≤ Yp.axHi b a := by
  have h := Yp.boxCheck_ok h
  unfold Bx.ok at h
  unfold Yp.axLo Yp.axHi
  split
  · omega
  · split <;> omega
def KR (b : Bx) (a p k : Int) (w W : World) : Prop := W.heap[w.heap.size]? = some (.cells #[.int .i64 b.x0, .int .i64 b.y0, .int .i64 b.z0, .int .i64 b.x1, .int .i64 b.y1, .int .i64 b.z1] 45 (0, 0)) ∧ W.heap[w.heap.size + 1]? = some (.cells #[.int .i64 a, .int .i64 p, .int .i64 k] 106 (0, 0)) ∧ Below w.heap.size w W
set_option maxRecDepth 100000 in
set_option maxHeartbeats 8000000 in
theorem rkCheck_any (b : Bx) (a p k : Int) (w : World) : Calls Tryz.prog 86 #[.agg (bxC b), .agg #[.int .i64 a, .int .i64 p, .int .i64 k]] w fun e w' => e = .returned (.int .i64 (Yp.kerfCheck b a p k)) ∧ Below w.heap.size w w' := by
  have hbc := rboxCheck_any b
  have HB := Lib.hid (((Below.refl w.heap.size w).alloc (Nat.le_refl _) (.cells #[.int .i64 b.x0, .int .i64 b.y0, .int .i64 b.z0, .int .i64 b.x1, .int .i64 b.y1, .int .i64 b.z1] 45)).alloc (by simp) (.cells #[.int .i64 a, .int .i64 p, .int .i64 k] 106))
  have HR := Lib.hid (old_block (new_block w (.cells #[.int .i64 b.x0, .int .i64 b.y0, .int .i64 b.z0, .int .i64 b.x1, .int .i64 b.y1, .int .i64 b.z1] 45)) (.cells #[.int .i64 a, .int .i64 p, .int .i64 k] 106))
  have HC := Lib.hid (new_block2 w (.cells #[.int .i64 b.x0, .int .i64 b.y0, .int .i64 b.z0, .int .i64 b.x1, .int .i64 b.y1, .int .i64 b.z1] 45) (.cells #[.int .i64 a, .int .i64 p, .int .i64 k] 106))
  rw [show bxC b = #[.int .i64 b.x0, .int .i64 b.y0, .int .i64 b.z0, .int .i64 b.x1, .int .i64 b.y1, .int .i64 b.z1] from rfl] at hbc ⊢
  have HKC : Hid (Yp.kerfCheck b a p k = if Yp.boxCheck b ≠ 0 then Yp.boxCheck b else if a < 0 ∨ 2 < a then 1 else if k < 0 ∨ 1000 < k then 6 else if p ≤ Yp.axLo b a ∨ Yp.axHi b a - k ≤ p then 12 else 0) := Lib.hid rfl
  have HAX := Lib.hid (fun h => ax_ok (b := b) h a)
  generalize Yp.kerfCheck b a p k = R at *
  have KK : ((w.alloc (.cells #[.int .i64 b.x0, .int .i64 b.y0, .int .i64 b.z0, .int .i64 b.x1, .int .i64 b.y1, .int .i64 b.z1] 45)).alloc (.cells #[.int .i64 a, .int .i64 p, .int .i64 k] 106)).cell? ⟨w.heap.size, 0, none⟩ = some (.int .i64 b.x0) ∧ ((w.alloc (.cells #[.int .i64 b.x0, .int .i64 b.y0, .int .i64 b.z0, .int .i64 b.x1, .int .i64 b.y1, .int .i64 b.z1] 45)).alloc (.cells #[.int .i64 a, .int .i64 p, .int .i64 k] 106)).cell? ⟨w.heap.size, 1, none⟩ = some (.int .i64 b.y0) ∧ ((w.alloc (.cells #[.int .i64 b.x0, .int .i64 b.y0, .int .i64 b.z0, .int .i64 b.x1, .int .i64 b.y1, .int .i64 b.z1] 45)).alloc (.cells #[.int .i64 a, .int .i64 p, .int .i64 k] 106)).cell? ⟨w.heap.size, 2, none⟩ = some (.int .i64 b.z0) ∧ ((w.alloc (.cells #[.int .i64 b.x0, .int .i64 b.y0, .int .i64 b.z0, .int .i64 b.x1, .int .i64 b.y1, .int .i64 b.z1] 45)).alloc (.cells #[.int .i64 a, .int .i64 p, .int .i64 k] 106)).cell? ⟨w.heap.size, 3, none⟩ = some (.int .i64 b.x1) ∧ ((w.alloc (.cells #[.int .i64 b.x0, .int .i64 b.y0, .int .i64 b.z0, .int .i64 b.x1, .int .i64 b.y1, .int .i64 b.z1] 45)).alloc (.cells #[.int .i64 a, .int .i64 p, .int .i64 k] 106)).cell? ⟨w.heap.size, 4, none⟩ = some (.int .i64 b.y1) ∧ ((w.alloc (.cells #[.int .i64 b.x0, .int .i64 b.y0, .int .i64 b.z0, .int .i64 b.x1, .int .i64 b.y1, .int .i64 b.z1] 45)).alloc (.cells #[.int .i64 a, .int .i64 p, .int .i64 k] 106)).cell? ⟨w.heap.size, 5, none⟩ = some (.int .i64 b.z1) ∧ ((w.alloc (.cells #[.int .i64 b.x0, .int .i64 b.y0, .int .i64 b.z0, .int .i64 b.x1, .int .i64 b.y1, .int .i64 b.z1] 45)).alloc (.cells #[.int .i64 a, .int .i64 p, .int .i64 k] 106)).cell? ⟨w.heap.size + 1, 0, none⟩ = some (.int .i64 a) ∧ ((w.alloc (.cells #[.int .i64 b.x0, .int .i64 b.y0, .int .i64 b.z0, .int .i64 b.x1, .int .i64 b.y1, .int .i64 b.z1] 45)).alloc (.cells #[.int .i64 a, .int .i64 p, .int .i64 k] 106)).cell? ⟨w.heap.size + 1, 1, none⟩ = some (.int .i64 p) ∧ ((w.alloc (.cells #[.int .i64 b.x0, .int .i64 b.y0, .int .i64 b.z0, .int .i64 b.x1, .int .i64 b.y1, .int .i64 b.z1] 45)).alloc (.cells #[.int .i64 a, .int .i64 p, .int .i64 k] 106)).cell? ⟨w.heap.size + 1, 2, none⟩ = some (.int .i64 k) := ⟨(row_cells HR.out).1 0, (row_cells HR.out).1 1, (row_cells HR.out).1 2, (row_cells HR.out).1 3, (row_cells HR.out).1 4, (row_cells HR.out).1 5, (row_cells HC.out).1 0, (row_cells HC.out).1 1, (row_cells HC.out).1 2⟩
  obtain ⟨q0, q1, q2, q3, q4, q5, q6, q7, q8⟩ := KK
  go_enter Tryz.func86, Tryz.ntmps86
  go_wp2_with fail
  clear q0 q1 q2 q3 q4 q5 q6 q7 q8
  generalize (w.alloc (.cells #[.int .i64 b.x0, .int .i64 b.y0, .int .i64 b.z0, .int .i64 b.x1, .int .i64 b.y1, .int .i64 b.z1] 45)).alloc (.cells #[.int .i64 a, .int .i64 p, .int .i64 k] 106) = W at *
  refine (hbc _).mono ?_; rintro e w1 ⟨rfl, hb⟩
  have HR := Lib.hid (row_after hb HR.out)
  have HC := Lib.hid (row_after hb HC.out)
  have HB := Lib.hid (HB.out.trans (hb.mono HB.out.size))
  clear hb
  have KK : w1.cell? ⟨w.heap.size, 0, none⟩ = some (.int .i64 b.x0) ∧ w1.cell? ⟨w.heap.size, 1, none⟩ = some (.int .i64 b.y0) ∧ w1.cell? ⟨w.heap.size, 2, none⟩ = some (.int .i64 b.z0) ∧ w1.cell? ⟨w.heap.size, 3, none⟩ = some (.int .i64 b.x1) ∧ w1.cell? ⟨w.heap.size, 4, none⟩ = some (.int .i64 b.y1) ∧ w1.cell? ⟨w.heap.size, 5, none⟩ = some (.int .i64 b.z1) ∧ w1.cell? ⟨w.heap.size + 1, 0, none⟩ = some (.int .i64 a) ∧ w1.cell? ⟨w.heap.size + 1, 1, none⟩ = some (.int .i64 p) ∧ w1.cell? ⟨w.heap.size + 1, 2, none⟩ = some (.int .i64 k) := ⟨(row_cells HR.out).1 0, (row_cells HR.out).1 1, (row_cells HR.out).1 2, (row_cells HR.out).1 3, (row_cells HR.out).1 4, (row_cells HR.out).1 5, (row_cells HC.out).1 0, (row_cells HC.out).1 1, (row_cells HC.out).1 2⟩
  obtain ⟨q0, q1, q2, q3, q4, q5, q6, q7, q8⟩ := KK
  by_cases h0 : Yp.boxCheck b = 0
  rotate_left
  · have hR := HKC.out
    rw [if_pos h0] at hR
    have HRQ := Lib.hid hR
    clear hR HKC HAX
    have hne : (Yp.boxCheck b != 0) = true := by simpa using h0
    clear h0
    generalize Yp.boxCheck b = E at *
    go_wp2_with fail
    refine bodyPost_ret (v := .int .i64 E) (by simp [results, Tryz.results86, go_sem, *]) rfl ⟨by rw [HRQ.out], HB.out⟩
  have hax := HAX.out h0
  have hR := HKC.out
  rw [if_neg (by rw [h0]; decide)] at hR
  rw [h0]
  clear h0 HAX HKC hbc
  have HKC := Lib.hid hR
  clear hR
  have hxa := raxis_any a
  by_cases ha : 0 ≤ a ∧ a ≤ 2
  rotate_left
  · have hR := HKC.out
    rw [if_pos (by omega)] at hR
    subst hR
    rw [show (decide (0 ≤ a) && decide (a ≤ 2)) = false by rw [Bool.and_eq_false_iff, decide_eq_false_iff_not, decide_eq_false_iff_not]; omega] at hxa
    go_wp2_with fail
    refine (hxa _).mono ?_; rintro e w1 ⟨rfl, hb⟩
    have HR := Lib.hid (row_after hb HR.out)
    have HC := Lib.hid (row_after hb HC.out)
    have HB := Lib.hid (HB.out.trans (hb.mono HB.out.size))
    clear hb
    have KK : w1.cell? ⟨w.heap.size, 0, none⟩ = some (.int .i64 b.x0) ∧ w1.cell? ⟨w.heap.size, 1, none⟩ = some (.int .i64 b.y0) ∧ w1.cell? ⟨w.heap.size, 2, none⟩ = some (.int .i64 b.z0) ∧ w1.cell? ⟨w.heap.size, 3, none⟩ = some (.int .i64 b.x1) ∧ w1.cell? ⟨w.heap.size, 4, none⟩ = some (.int .i64 b.y1) ∧ w1.cell? ⟨w.heap.size, 5, none⟩ = some (.int .i64 b.z1) ∧ w1.cell? ⟨w.heap.size + 1, 0, none⟩ = some (.int .i64 a) ∧ w1.cell? ⟨w.heap.size + 1, 1, none⟩ = some (.int .i64 p) ∧ w1.cell? ⟨w.heap.size + 1, 2, none⟩ = some (.int .i64 k) := ⟨(row_cells HR.out).1 0, (row_cells HR.out).1 1, (row_cells HR.out).1 2, (row_cells HR.out).1 3, (row_cells HR.out).1 4, (row_cells HR.out).1 5, (row_cells HC.out).1 0, (row_cells HC.out).1 1, (row_cells HC.out).1 2⟩
    obtain ⟨q0, q1, q2, q3, q4, q5, q6, q7, q8⟩ := KK
    go_wp2_with fail
    go_ret
    exact ⟨rfl, HB.out⟩
  rw [show (decide (0 ≤ a) && decide (a ≤ 2)) = true by rw [Bool.and_eq_true, decide_eq_true_eq, decide_eq_true_eq]; exact ha] at hxa
  go_wp2_with fail
  refine (hxa _).mono ?_; rintro e w1 ⟨rfl, hb⟩
  have HR := Lib.hid (row_after hb HR.out)
  have HC := Lib.hid (row_after hb HC.out)
  have HB := Lib.hid (HB.out.trans (hb.mono HB.out.size))
  clear hb
  have KK : w1.cell? ⟨w.heap.size, 0, none⟩ = some (.int .i64 b.x0) ∧ w1.cell? ⟨w.heap.size, 1, none⟩ = some (.int .i64 b.y0) ∧ w1.cell? ⟨w.heap.size, 2, none⟩ = some (.int .i64 b.z0) ∧ w1.cell? ⟨w.heap.size, 3, none⟩ = some (.int .i64 b.x1) ∧ w1.cell? ⟨w.heap.size, 4, none⟩ = some (.int .i64 b.y1) ∧ w1.cell? ⟨w.heap.size, 5, none⟩ = some (.int .i64 b.z1) ∧ w1.cell? ⟨w.heap.size + 1, 0, none⟩ = some (.int .i64 a) ∧ w1.cell? ⟨w.heap.size + 1, 1, none⟩ = some (.int .i64 p) ∧ w1.cell? ⟨w.heap.size + 1, 2, none⟩ = some (.int .i64 k) := ⟨(row_cells HR.out).1 0, (row_cells HR.out).1 1, (row_cells HR.out).1 2, (row_cells HR.out).1 3, (row_cells HR.out).1 4, (row_cells HR.out).1 5, (row_cells HC.out).1 0, (row_cells HC.out).1 1, (row_cells HC.out).1 2⟩
  obtain ⟨q0, q1, q2, q3, q4, q5, q6, q7, q8⟩ := KK
  clear hxa
  have hxk := rkerf_any k
  by_cases hk : 0 ≤ k ∧ k ≤ 1000
  rotate_left
  · have hR := HKC.out
    rw [if_neg (by omega), if_pos (by omega)] at hR
    subst hR
    rw [show (decide (0 ≤ k) && decide (k ≤ 1000)) = false by rw [Bool.and_eq_false_iff, decide_eq_false_iff_not, decide_eq_false_iff_not]; omega] at hxk
    go_wp2_with fail
    refine (hxk _).mono ?_; rintro e w1 ⟨rfl, hb⟩
    have HR := Lib.hid (row_after hb HR.out)
    have HC := Lib.hid (row_after hb HC.out)
    have HB := Lib.hid (HB.out.trans (hb.mono HB.out.size))
    clear hb
    have KK : w1.cell? ⟨w.heap.size, 0, none⟩ = some (.int .i64 b.x0) ∧ w1.cell? ⟨w.heap.size, 1, none⟩ = some (.int .i64 b.y0) ∧ w1.cell? ⟨w.heap.size, 2, none⟩ = some (.int .i64 b.z0) ∧ w1.cell? ⟨w.heap.size, 3, none⟩ = some (.int .i64 b.x1) ∧ w1.cell? ⟨w.heap.size, 4, none⟩ = some (.int .i64 b.y1) ∧ w1.cell? ⟨w.heap.size, 5, none⟩ = some (.int .i64 b.z1) ∧ w1.cell? ⟨w.heap.size + 1, 0, none⟩ = some (.int .i64 a) ∧ w1.cell? ⟨w.heap.size + 1, 1, none⟩ = some (.int .i64 p) ∧ w1.cell? ⟨w.heap.size + 1, 2, none⟩ = some (.int .i64 k) := ⟨(row_cells HR.out).1 0, (row_cells HR.out).1 1, (row_cells HR.out).1 2, (row_cells HR.out).1 3, (row_cells HR.out).1 4, (row_cells HR.out).1 5, (row_cells HC.out).1 0, (row_cells HC.out).1 1, (row_cells HC.out).1 2⟩
    obtain ⟨q0, q1, q2, q3, q4, q5, q6, q7, q8⟩ := KK
    go_wp2_with fail
    go_ret
    exact ⟨rfl, HB.out⟩
  rw [show (decide (0 ≤ k) && decide (k ≤ 1000)) = true by rw [Bool.and_eq_true, decide_eq_true_eq, decide_eq_true_eq]; exact hk] at hxk
  go_wp2_with fail
  refine (hxk _).mono ?_; rintro e w1 ⟨rfl, hb⟩
  have HR := Lib.hid (row_after hb HR.out)
  have HC := Lib.hid (row_after hb HC.out)
  have HB := Lib.hid (HB.out.trans (hb.mono HB.out.size))
  clear hb
  have KK : w1.cell? ⟨w.heap.size, 0, none⟩ = some (.int .i64 b.x0) ∧ w1.cell? ⟨w.heap.size, 1, none⟩ = some (.int .i64 b.y0) ∧ w1.cell? ⟨w.heap.size, 2, none⟩ = some (.int .i64 b.z0) ∧ w1.cell? ⟨w.heap.size, 3, none⟩ = some (.int .i64 b.x1) ∧ w1.cell? ⟨w.heap.size, 4, none⟩ = some (.int .i64 b.y1) ∧ w1.cell? ⟨w.heap.size, 5, none⟩ = some (.int .i64 b.z1) ∧ w1.cell? ⟨w.heap.size + 1, 0, none⟩ = some (.int .i64 a) ∧ w1.cell? ⟨w.heap.size + 1, 1, none⟩ = some (.int .i64 p) ∧ w1.cell? ⟨w.heap.size + 1, 2, none⟩ = some (.int .i64 k) := ⟨(row_cells HR.out).1 0, (row_cells HR.out).1 1, (row_cells HR.out).1 2, (row_cells HR.out).1 3, (row_cells HR.out).1 4, (row_cells HR.out).1 5, (row_cells HC.out).1 0, (row_cells HC.out).1 1, (row_cells HC.out).1 2⟩
  obtain ⟨q0, q1, q2, q3, q4, q5, q6, q7, q8⟩ := KK
  clear hxk
  have hR := HKC.out
  rw [if_neg (by omega), if_neg (by omega)] at hR
  have hlo := rget_any b.x0 b.y0 b.z0 a ha
  have hhi := rget_any b.x1 b.y1 b.z1 a ha
  rw [show (if a = 0 then b.x0 else if a = 1 then b.y0 else b.z0) = Yp.axLo b a from rfl] at hlo
  rw [show (if a = 0 then b.x1 else if a = 1 then b.y1 else b.z1) = Yp.axHi b a from rfl] at hhi
  generalize Yp.axLo b a = lo at *
  generalize Yp.axHi b a = hi at *
  obtain ⟨l1, l2, l3, l4⟩ := hax
  obtain ⟨k1, k2⟩ := hk
  by_cases c1 : p ≤ lo
  · rw [if_pos (.inl c1)] at hR
    subst hR
    go_wp2_with fail
    refine Reg.region_inv [[], [0], [], [2], [], [4], [3, 5], [1, 6], [6, 7], [8], [8, 9], [8], [8, 11], [8], [8, 13], [8, 12, 14], [8], [8, 16], [8, 15, 17], [8, 10, 18], [8, 19]] [[], [0], [], [2], [], [4], [2, 3, 4, 5], [0, 1, 2, 3, 4, 5, 6], [0, 1, 2, 3, 4, 5, 6, 7], [0, 1, 2, 3, 4, 5, 6, 7, 8], [0, 1, 2, 3, 4, 5, 6, 7, 8, 9], [0, 1, 2, 3, 4, 5, 6, 7, 8], [0, 1, 2, 3, 4, 5, 6, 7, 8, 11], [0, 1, 2, 3, 4, 5, 6, 7, 8], [0, 1, 2, 3, 4, 5, 6, 7, 8, 13], [0, 1, 2, 3, 4, 5, 6, 7, 8, 11, 12, 13, 14], [0, 1, 2, 3, 4, 5, 6, 7, 8], [0, 1, 2, 3, 4, 5, 6, 7, 8, 16], [0, 1, 2, 3, 4, 5, 6, 7, 8, 11, 12, 13, 14, 15, 16, 17], [0, 1, 2, 3, 4, 5, 6, 7, 8, 9, 10, 11, 12, 13, 14, 15, 16, 17, 18], [0, 1, 2, 3, 4, 5, 6, 7, 8, 9, 10, 11, 12, 13, 14, 15, 16, 17, 18, 19]] (fun a0_ bb aa ww => aa = Reg.fill bb [(0, 19, .pointer (some ⟨w.heap.size + 1, 1, none⟩)), (1, 20, .int .i64 p), (2, 21, .pointer (some ⟨w.heap.size, 0, none⟩)), (3, 22, .agg #[.int .i64 b.x0, .int .i64 b.y0, .int .i64 b.z0]), (4, 23, .pointer (some ⟨w.heap.size + 1, 0, none⟩)), (5, 24, .int .i64 a), (6, 25, .int .i64 lo), (7, 26, .bool true), (8, 27, .bool true), (9, 28, undef), (10, 29, undef), (11, 30, undef), (12, 31, undef), (13, 32, undef), (14, 33, undef), (15, 34, undef), (16, 35, undef), (17, 36, undef), (18, 37, undef), (19, 38, undef), (20, 39, .bool true)] a0_ ∧ KR b a p k w ww) (by kernel_rfl) (by kernel_rfl) (by kernel_rfl) ?_ ?_ ?_
    · exact ⟨Reg.fill_start.symm, ⟨HR.out, HC.out, HB.out.drew⟩⟩
    · refine Reg.steps_cons (i := 0) ?_ ?_
      · rintro bb aa ww ⟨ha, HW⟩ hb hd hn
        have e3 : aa.tmps[3]? = some (.pointer (some ⟨w.heap.size + 1, 0, none⟩)) := by rw [ha]; exact (Reg.fill_off rfl).trans rfl
        have HA := Lib.hid ha; clear ha; refine ⟨_, rfl, fun K hK => ?_⟩
        refine Reg.do_val rfl rfl (v := .pointer (some ⟨w.heap.size + 1, 1, none⟩)) (w1 := ww) ?_ ?_
        · simp only [List.getElem_toArray, List.getElem_cons_zero, execOp, Reg.eval_tmp e3]
          go_simp
        exact hK.out _ _ ⟨by rw [HA.out]; exact Reg.fill_up 0 hb rfl rfl rfl, HW⟩
      refine Reg.steps_cons (i := 1) ?_ ?_
      · rintro bb aa ww ⟨ha, HW⟩ hb hd hn
        have e19 : aa.tmps[19]? = some (.pointer (some ⟨w.heap.size + 1, 1, none⟩)) := by rw [ha]; exact Reg.fill_on 0 rfl rfl (hd 0 (by decide)) rfl
        have HA := Lib.hid ha; clear ha; refine ⟨_, rfl, fun K hK => ?_⟩
        have u1 := (row_cells HW.2.1).1 1
        refine Reg.do_val rfl rfl (v := .int .i64 p) (w1 := ww) ?_ ?_
        · simp only [List.getElem_toArray, List.getElem_cons_succ, List.getElem_cons_zero, execOp, Reg.eval_tmp e19]
          go_simp
        exact hK.out _ _ ⟨by rw [HA.out]; exact Reg.fill_up 1 hb rfl rfl rfl, HW⟩
      refine Reg.steps_cons (i := 2) ?_ ?_
      · rintro bb aa ww ⟨ha, HW⟩ hb hd hn
        have e2 : aa.tmps[2]? = some (.pointer (some ⟨w.heap.size, 0, none⟩)) := by rw [ha]; exact (Reg.fill_off rfl).trans rfl
        have HA := Lib.hid ha; clear ha; refine ⟨_, rfl, fun K hK => ?_⟩
        refine Reg.do_val rfl rfl (v := .pointer (some ⟨w.heap.size, 0, none⟩)) (w1 := ww) ?_ ?_
        · simp only [List.getElem_toArray, List.getElem_cons_succ, List.getElem_cons_zero, execOp, Reg.eval_tmp e2]
          go_simp
        exact hK.out _ _ ⟨by rw [HA.out]; exact Reg.fill_up 2 hb rfl rfl rfl, HW⟩
      refine Reg.steps_cons (i := 3) ?_ ?_
      · rintro bb aa ww ⟨ha, HW⟩ hb hd hn
        have e21 : aa.tmps[21]? = some (.pointer (some ⟨w.heap.size, 0, none⟩)) := by rw [ha]; exact Reg.fill_on 2 rfl rfl (hd 2 (by decide)) rfl
        have HA := Lib.hid ha; clear ha; refine ⟨_, rfl, fun K hK => ?_⟩
        have u0 := (row_cells HW.1).1 0
        have u1 := (row_cells HW.1).1 1
        have u2 := (row_cells HW.1).1 2
        refine Reg.do_val rfl rfl (v := .agg #[.int .i64 b.x0, .int .i64 b.y0, .int .i64 b.z0]) (w1 := ww) ?_ ?_
        · simp only [List.getElem_toArray, List.getElem_cons_succ, List.getElem_cons_zero, execOp, Reg.eval_tmp e21]
          go_simp
        exact hK.out _ _ ⟨by rw [HA.out]; exact Reg.fill_up 3 hb rfl rfl rfl, HW⟩
      refine Reg.steps_cons (i := 4) ?_ ?_
      · rintro bb aa ww ⟨ha, HW⟩ hb hd hn
        have e3 : aa.tmps[3]? = some (.pointer (some ⟨w.heap.size + 1, 0, none⟩)) := by rw [ha]; exact (Reg.fill_off rfl).trans rfl
        have HA := Lib.hid ha; clear ha; refine ⟨_, rfl, fun K hK => ?_⟩
        refine Reg.do_val rfl rfl (v := .pointer (some ⟨w.heap.size + 1, 0, none⟩)) (w1 := ww) ?_ ?_
        · simp only [List.getElem_toArray, List.getElem_cons_succ, List.getElem_cons_zero, execOp, Reg.eval_tmp e3]
          go_simp
        exact hK.out _ _ ⟨by rw [HA.out]; exact Reg.fill_up 4 hb rfl rfl rfl, HW⟩
      refine Reg.steps_cons (i := 5) ?_ ?_
      · rintro bb aa ww ⟨ha, HW⟩ hb hd hn
        have e23 : aa.tmps[23]? = some (.pointer (some ⟨w.heap.size + 1, 0, none⟩)) := by rw [ha]; exact Reg.fill_on 4 rfl rfl (hd 4 (by decide)) rfl
        have HA := Lib.hid ha; clear ha; refine ⟨_, rfl, fun K hK => ?_⟩
        have u0 := (row_cells HW.2.1).1 0
        refine Reg.do_val rfl rfl (v := .int .i64 a) (w1 := ww) ?_ ?_
        · simp only [List.getElem_toArray, List.getElem_cons_succ, List.getElem_cons_zero, execOp, Reg.eval_tmp e23]
          go_simp
        exact hK.out _ _ ⟨by rw [HA.out]; exact Reg.fill_up 5 hb rfl rfl rfl, HW⟩
      refine Reg.steps_cons (i := 6) ?_ ?_
      · rintro bb aa ww ⟨ha, HW⟩ hb hd hn
        have e22 : aa.tmps[22]? = some (.agg #[.int .i64 b.x0, .int .i64 b.y0, .int .i64 b.z0]) := by rw [ha]; exact Reg.fill_on 3 rfl rfl (hd 3 (by decide)) rfl
        have e24 : aa.tmps[24]? = some (.int .i64 a) := by rw [ha]; exact Reg.fill_on 5 rfl rfl (hd 5 (by decide)) rfl
        have HA := Lib.hid ha; clear ha; refine ⟨_, rfl, fun K hK => ?_⟩
        refine Reg.do_call rfl rfl Tryz.func126 (by kernel_rfl) rfl #[.agg #[.int .i64 b.x0, .int .i64 b.y0, .int .i64 b.z0], .int .i64 a] rfl (by simp [Reg.eval_tmp e22, Reg.eval_tmp e24]) ?_
        refine (hlo ww).mono ?_; rintro e w3 ⟨rfl, hb3⟩; refine ⟨_, rfl, ?_⟩
        exact hK.out _ _ ⟨by rw [HA.out]; exact Reg.fill_up 6 hb rfl rfl rfl, ⟨row_after hb3 HW.1, row_after hb3 HW.2.1, HW.2.2.trans (hb3.mono HW.2.2.size)⟩⟩
      refine Reg.steps_cons (i := 7) ?_ ?_
      · rintro bb aa ww ⟨ha, HW⟩ hb hd hn
        have e20 : aa.tmps[20]? = some (.int .i64 p) := by rw [ha]; exact Reg.fill_on 1 rfl rfl (hd 1 (by decide)) rfl
        have e25 : aa.tmps[25]? = some (.int .i64 lo) := by rw [ha]; exact Reg.fill_on 6 rfl rfl (hd 6 (by decide)) rfl
        have HA := Lib.hid ha; clear ha; refine ⟨_, rfl, fun K hK => ?_⟩
        refine Reg.do_val rfl rfl (v := .bool true) (w1 := ww) ?_ ?_
        · simp only [List.getElem_toArray, List.getElem_cons_succ, List.getElem_cons_zero, execOp, Reg.eval_tmp e20, Reg.eval_tmp e25]
          go_simp
        exact hK.out _ _ ⟨by rw [HA.out]; exact Reg.fill_up 7 hb rfl rfl rfl, HW⟩
      refine Reg.steps_cons (i := 8) ?_ ?_
      · rintro bb aa ww ⟨ha, HW⟩ hb hd hn
        have e26 : aa.tmps[26]? = some (.bool true) := by rw [ha]; exact Reg.fill_on 7 rfl rfl (hd 7 (by decide)) rfl
        have HA := Lib.hid ha; clear ha; refine ⟨_, rfl, fun K hK => ?_⟩
        refine Reg.do_val rfl rfl (v := .bool true) (w1 := ww) (by simp only [List.getElem_toArray, List.getElem_cons_succ, List.getElem_cons_zero, execOp, Reg.eval_tmp e26]; rfl) ?_
        exact hK.out _ _ ⟨by rw [HA.out]; exact Reg.fill_up 8 hb rfl rfl rfl, HW⟩
      refine Reg.steps_cons (i := 9) ?_ ?_
      · rintro bb aa ww ⟨ha, HW⟩ hb hd hn
        have e3 : aa.tmps[3]? = some (.pointer (some ⟨w.heap.size + 1, 0, none⟩)) := by rw [ha]; exact (Reg.fill_off rfl).trans rfl
        have e27 : aa.tmps[27]? = some (.bool true) := by rw [ha]; exact Reg.fill_on 8 rfl rfl (hd 8 (by decide)) rfl
        have HA := Lib.hid ha; clear ha; refine ⟨_, rfl, fun K hK => ?_⟩
        refine Reg.do_off rfl rfl rfl e27 rfl ?_
        exact hK.out _ _ ⟨by rw [HA.out]; exact Reg.fill_up 9 hb rfl rfl rfl, HW⟩
      refine Reg.steps_cons (i := 10) ?_ ?_
      · rintro bb aa ww ⟨ha, HW⟩ hb hd hn
        have e28 : aa.tmps[28]? = some (undef) := by rw [ha]; exact Reg.fill_on 9 rfl rfl (hd 9 (by decide)) rfl
        have e27 : aa.tmps[27]? = some (.bool true) := by rw [ha]; exact Reg.fill_on 8 rfl rfl (hd 8 (by decide)) rfl
        have HA := Lib.hid ha; clear ha; refine ⟨_, rfl, fun K hK => ?_⟩
        refine Reg.do_off rfl rfl rfl e27 rfl ?_
        exact hK.out _ _ ⟨by rw [HA.out]; exact Reg.fill_up 10 hb rfl rfl rfl, HW⟩
      refine Reg.steps_cons (i := 11) ?_ ?_
      · rintro bb aa ww ⟨ha, HW⟩ hb hd hn
        have e2 : aa.tmps[2]? = some (.pointer (some ⟨w.heap.size, 0, none⟩)) := by rw [ha]; exact (Reg.fill_off rfl).trans rfl
        have e27 : aa.tmps[27]? = some (.bool true) := by rw [ha]; exact Reg.fill_on 8 rfl rfl (hd 8 (by decide)) rfl
        have HA := Lib.hid ha; clear ha; refine ⟨_, rfl, fun K hK => ?_⟩
        refine Reg.do_off rfl rfl rfl e27 rfl ?_
        exact hK.out _ _ ⟨by rw [HA.out]; exact Reg.fill_up 11 hb rfl rfl rfl, HW⟩
      refine Reg.steps_cons (i := 12) ?_ ?_
      · rintro bb aa ww ⟨ha, HW⟩ hb hd hn
        have e30 : aa.tmps[30]? = some (undef) := by rw [ha]; exact Reg.fill_on 11 rfl rfl (hd 11 (by decide)) rfl
        have e27 : aa.tmps[27]? = some (.bool true) := by rw [ha]; exact Reg.fill_on 8 rfl rfl (hd 8 (by decide)) rfl
        have HA := Lib.hid ha; clear ha; refine ⟨_, rfl, fun K hK => ?_⟩
        refine Reg.do_off rfl rfl rfl e27 rfl ?_
        exact hK.out _ _ ⟨by rw [HA.out]; exact Reg.fill_up 12 hb rfl rfl rfl, HW⟩
      refine Reg.steps_cons (i := 13) ?_ ?_
      · rintro bb aa ww ⟨ha, HW⟩ hb hd hn
        have e3 : aa.tmps[3]? = some (.pointer (some ⟨w.heap.size + 1, 0, none⟩)) := by rw [ha]; exact (Reg.fill_off rfl).trans rfl
        have e27 : aa.tmps[27]? = some (.bool true) := by rw [ha]; exact Reg.fill_on 8 rfl rfl (hd 8 (by decide)) rfl
        have HA := Lib.hid ha; clear ha; refine ⟨_, rfl, fun K hK => ?_⟩
        refine Reg.do_off rfl rfl rfl e27 rfl ?_
        exact hK.out _ _ ⟨by rw [HA.out]; exact Reg.fill_up 13 hb rfl rfl rfl, HW⟩
      refine Reg.steps_cons (i := 14) ?_ ?_
      · rintro bb aa ww ⟨ha, HW⟩ hb hd hn
        have e32 : aa.tmps[32]? = some (undef) := by rw [ha]; exact Reg.fill_on 13 rfl rfl (hd 13 (by decide)) rfl
        have e27 : aa.tmps[27]? = some (.bool true) := by rw [ha]; exact Reg.fill_on 8 rfl rfl (hd 8 (by decide)) rfl
        have HA := Lib.hid ha; clear ha; refine ⟨_, rfl, fun K hK => ?_⟩
        refine Reg.do_off rfl rfl rfl e27 rfl ?_
        exact hK.out _ _ ⟨by rw [HA.out]; exact Reg.fill_up 14 hb rfl rfl rfl, HW⟩
      refine Reg.steps_cons (i := 15) ?_ ?_
      · rintro bb aa ww ⟨ha, HW⟩ hb hd hn
        have e31 : aa.tmps[31]? = some (undef) := by rw [ha]; exact Reg.fill_on 12 rfl rfl (hd 12 (by decide)) rfl
        have e33 : aa.tmps[33]? = some (undef) := by rw [ha]; exact Reg.fill_on 14 rfl rfl (hd 14 (by decide)) rfl
        have e27 : aa.tmps[27]? = some (.bool true) := by rw [ha]; exact Reg.fill_on 8 rfl rfl (hd 8 (by decide)) rfl
        have HA := Lib.hid ha; clear ha; refine ⟨_, rfl, fun K hK => ?_⟩
        refine Reg.do_off rfl rfl rfl e27 rfl ?_
        exact hK.out _ _ ⟨by rw [HA.out]; exact Reg.fill_up 15 hb rfl rfl rfl, HW⟩
      refine Reg.steps_cons (i := 16) ?_ ?_
      · rintro bb aa ww ⟨ha, HW⟩ hb hd hn
        have e3 : aa.tmps[3]? = some (.pointer (some ⟨w.heap.size + 1, 0, none⟩)) := by rw [ha]; exact (Reg.fill_off rfl).trans rfl
        have e27 : aa.tmps[27]? = some (.bool true) := by rw [ha]; exact Reg.fill_on 8 rfl rfl (hd 8 (by decide)) rfl
        have HA := Lib.hid ha; clear ha; refine ⟨_, rfl, fun K hK => ?_⟩
        refine Reg.do_off rfl rfl rfl e27 rfl ?_
        exact hK.out _ _ ⟨by rw [HA.out]; exact Reg.fill_up 16 hb rfl rfl rfl, HW⟩
      refine Reg.steps_cons (i := 17) ?_ ?_
      · rintro bb aa ww ⟨ha, HW⟩ hb hd hn
        have e35 : aa.tmps[35]? = some (undef) := by rw [ha]; exact Reg.fill_on 16 rfl rfl (hd 16 (by decide)) rfl
        have e27 : aa.tmps[27]? = some (.bool true) := by rw [ha]; exact Reg.fill_on 8 rfl rfl (hd 8 (by decide)) rfl
        have HA := Lib.hid ha; clear ha; refine ⟨_, rfl, fun K hK => ?_⟩
        refine Reg.do_off rfl rfl rfl e27 rfl ?_
        exact hK.out _ _ ⟨by rw [HA.out]; exact Reg.fill_up 17 hb rfl rfl rfl, HW⟩
      refine Reg.steps_cons (i := 18) ?_ ?_
      · rintro bb aa ww ⟨ha, HW⟩ hb hd hn
        have e34 : aa.tmps[34]? = some (undef) := by rw [ha]; exact Reg.fill_on 15 rfl rfl (hd 15 (by decide)) rfl
        have e36 : aa.tmps[36]? = some (undef) := by rw [ha]; exact Reg.fill_on 17 rfl rfl (hd 17 (by decide)) rfl
        have e27 : aa.tmps[27]? = some (.bool true) := by rw [ha]; exact Reg.fill_on 8 rfl rfl (hd 8 (by decide)) rfl
        have HA := Lib.hid ha; clear ha; refine ⟨_, rfl, fun K hK => ?_⟩
        refine Reg.do_off rfl rfl rfl e27 rfl ?_
        exact hK.out _ _ ⟨by rw [HA.out]; exact Reg.fill_up 18 hb rfl rfl rfl, HW⟩
      refine Reg.steps_cons (i := 19) ?_ ?_
      · rintro bb aa ww ⟨ha, HW⟩ hb hd hn
        have e29 : aa.tmps[29]? = some (undef) := by rw [ha]; exact Reg.fill_on 10 rfl rfl (hd 10 (by decide)) rfl
        have e37 : aa.tmps[37]? = some (undef) := by rw [ha]; exact Reg.fill_on 18 rfl rfl (hd 18 (by decide)) rfl
        have e27 : aa.tmps[27]? = some (.bool true) := by rw [ha]; exact Reg.fill_on 8 rfl rfl (hd 8 (by decide)) rfl
        have HA := Lib.hid ha; clear ha; refine ⟨_, rfl, fun K hK => ?_⟩
        refine Reg.do_off rfl rfl rfl e27 rfl ?_
        exact hK.out _ _ ⟨by rw [HA.out]; exact Reg.fill_up 19 hb rfl rfl rfl, HW⟩
      refine Reg.steps_cons (i := 20) ?_ ?_
      · rintro bb aa ww ⟨ha, HW⟩ hb hd hn
        have e27 : aa.tmps[27]? = some (.bool true) := by rw [ha]; exact Reg.fill_on 8 rfl rfl (hd 8 (by decide)) rfl
        have e38 : aa.tmps[38]? = some (undef) := by rw [ha]; exact Reg.fill_on 19 rfl rfl (hd 19 (by decide)) rfl
        have HA := Lib.hid ha; clear ha; refine ⟨_, rfl, fun K hK => ?_⟩
        refine Reg.do_val rfl rfl (v := .bool true) (w1 := ww) ?_ ?_
        · simp only [List.getElem_toArray, List.getElem_cons_succ, List.getElem_cons_zero, execOp, Reg.eval_tmp e27, Reg.eval_tmp e38]
          go_simp
        exact hK.out _ _ ⟨by rw [HA.out]; exact Reg.fill_up 20 hb rfl rfl rfl, HW⟩
      exact trivial
    rintro bb aa W8 hall ⟨ha, HW⟩
    have hb0 := hall 0 (by decide)
    have hb1 := hall 1 (by decide)
    have hb2 := hall 2 (by decide)
    have hb3 := hall 3 (by decide)
    have hb4 := hall 4 (by decide)
    have hb5 := hall 5 (by decide)
    have hb6 := hall 6 (by decide)
    have hb7 := hall 7 (by decide)
    have hb8 := hall 8 (by decide)
    have hb9 := hall 9 (by decide)
    have hb10 := hall 10 (by decide)
    have hb11 := hall 11 (by decide)
    have hb12 := hall 12 (by decide)
    have hb13 := hall 13 (by decide)
    have hb14 := hall 14 (by decide)
    have hb15 := hall 15 (by decide)
    have hb16 := hall 16 (by decide)
    have hb17 := hall 17 (by decide)
    have hb18 := hall 18 (by decide)
    have hb19 := hall 19 (by decide)
    have hb20 := hall 20 (by decide)
    simp only [Reg.fill, hb0, hb1, hb2, hb3, hb4, hb5, hb6, hb7, hb8, hb9, hb10, hb11, hb12, hb13, hb14, hb15, hb16, hb17, hb18, hb19, hb20, if_true, Act.put, List.setIfInBounds_toArray, List.set_cons_zero, List.set_cons_succ] at ha
    clear hb0 hb1 hb2 hb3 hb4 hb5 hb6 hb7 hb8 hb9 hb10 hb11 hb12 hb13 hb14 hb15 hb16 hb17 hb18 hb19 hb20 hall
    subst ha
    have HB := Lib.hid HW.2.2
    go_wp2_with fail
    go_ret
    exact ⟨rfl, HB.out⟩
  · have c2 : lo < p := by omega
    by_cases c3 : hi - k ≤ p
    · rw [if_pos (.inr c3)] at hR
      subst hR
      clear c1
      go_wp2_with fail
      refine Reg.region_inv [[], [0], [], [2], [], [4], [3, 5], [1, 6], [6, 7], [8], [8, 9], [8], [8, 11], [8], [8, 13], [8, 12, 14], [8], [8, 16], [8, 15, 17], [8, 10, 18], [8, 19]] [[], [0], [], [2], [], [4], [2, 3, 4, 5], [0, 1, 2, 3, 4, 5, 6], [0, 1, 2, 3, 4, 5, 6, 7], [0, 1, 2, 3, 4, 5, 6, 7, 8], [0, 1, 2, 3, 4, 5, 6, 7, 8, 9], [0, 1, 2, 3, 4, 5, 6, 7, 8], [0, 1, 2, 3, 4, 5, 6, 7, 8, 11], [0, 1, 2, 3, 4, 5, 6, 7, 8], [0, 1, 2, 3, 4, 5, 6, 7, 8, 13], [0, 1, 2, 3, 4, 5, 6, 7, 8, 11, 12, 13, 14], [0, 1, 2, 3, 4, 5, 6, 7, 8], [0, 1, 2, 3, 4, 5, 6, 7, 8, 16], [0, 1, 2, 3, 4, 5, 6, 7, 8, 11, 12, 13, 14, 15, 16, 17], [0, 1, 2, 3, 4, 5, 6, 7, 8, 9, 10, 11, 12, 13, 14, 15, 16, 17, 18], [0, 1, 2, 3, 4, 5, 6, 7, 8, 9, 10, 11, 12, 13, 14, 15, 16, 17, 18, 19]] (fun a0_ bb aa ww => aa = Reg.fill bb [(0, 19, .pointer (some ⟨w.heap.size + 1, 1, none⟩)), (1, 20, .int .i64 p), (2, 21, .pointer (some ⟨w.heap.size, 0, none⟩)), (3, 22, .agg #[.int .i64 b.x0, .int .i64 b.y0, .int .i64 b.z0]), (4, 23, .pointer (some ⟨w.heap.size + 1, 0, none⟩)), (5, 24, .int .i64 a), (6, 25, .int .i64 lo), (7, 26, .bool false), (8, 27, .bool false), (9, 28, .pointer (some ⟨w.heap.size + 1, 1, none⟩)), (10, 29, .int .i64 p), (11, 30, .pointer (some ⟨w.heap.size, 3, none⟩)), (12, 31, .agg #[.int .i64 b.x1, .int .i64 b.y1, .int .i64 b.z1]), (13, 32, .pointer (some ⟨w.heap.size + 1, 0, none⟩)), (14, 33, .int .i64 a), (15, 34, .int .i64 hi), (16, 35, .pointer (some ⟨w.heap.size + 1, 2, none⟩)), (17, 36, .int .i64 k), (18, 37, .int .i64 (hi - k)), (19, 38, .bool true), (20, 39, .bool true)] a0_ ∧ KR b a p k w ww) (by kernel_rfl) (by kernel_rfl) (by kernel_rfl) ?_ ?_ ?_
      · exact ⟨Reg.fill_start.symm, ⟨HR.out, HC.out, HB.out.drew⟩⟩
      · refine Reg.steps_cons (i := 0) ?_ ?_
        · rintro bb aa ww ⟨ha, HW⟩ hb hd hn
          have e3 : aa.tmps[3]? = some (.pointer (some ⟨w.heap.size + 1, 0, none⟩)) := by rw [ha]; exact (Reg.fill_off rfl).trans rfl
          have HA := Lib.hid ha; clear ha; refine ⟨_, rfl, fun K hK => ?_⟩
          refine Reg.do_val rfl rfl (v := .pointer (some ⟨w.heap.size + 1, 1, none⟩)) (w1 := ww) ?_ ?_
          · simp only [List.getElem_toArray, List.getElem_cons_zero, execOp, Reg.eval_tmp e3]
            go_simp
          exact hK.out _ _ ⟨by rw [HA.out]; exact Reg.fill_up 0 hb rfl rfl rfl, HW⟩
        refine Reg.steps_cons (i := 1) ?_ ?_
        · rintro bb aa ww ⟨ha, HW⟩ hb hd hn
          have e19 : aa.tmps[19]? = some (.pointer (some ⟨w.heap.size + 1, 1, none⟩)) := by rw [ha]; exact Reg.fill_on 0 rfl rfl (hd 0 (by decide)) rfl
          have HA := Lib.hid ha; clear ha; refine ⟨_, rfl, fun K hK => ?_⟩
          have u1 := (row_cells HW.2.1).1 1
          refine Reg.do_val rfl rfl (v := .int .i64 p) (w1 := ww) ?_ ?_
          · simp only [List.getElem_toArray, List.getElem_cons_succ, List.getElem_cons_zero, execOp, Reg.eval_tmp e19]
            go_simp
          exact hK.out _ _ ⟨by rw [HA.out]; exact Reg.fill_up 1 hb rfl rfl rfl, HW⟩
        refine Reg.steps_cons (i := 2) ?_ ?_
        · rintro bb aa ww ⟨ha, HW⟩ hb hd hn
          have e2 : aa.tmps[2]? = some (.pointer (some ⟨w.heap.size, 0, none⟩)) := by rw [ha]; exact (Reg.fill_off rfl).trans rfl
          have HA := Lib.hid ha; clear ha; refine ⟨_, rfl, fun K hK => ?_⟩
          refine Reg.do_val rfl rfl (v := .pointer (some ⟨w.heap.size, 0, none⟩)) (w1 := ww) ?_ ?_
          · simp only [List.getElem_toArray, List.getElem_cons_succ, List.getElem_cons_zero, execOp, Reg.eval_tmp e2]
            go_simp
          exact hK.out _ _ ⟨by rw [HA.out]; exact Reg.fill_up 2 hb rfl rfl rfl, HW⟩
        refine Reg.steps_cons (i := 3) ?_ ?_
        · rintro bb aa ww ⟨ha, HW⟩ hb hd hn
          have e21 : aa.tmps[21]? = some (.pointer (some ⟨w.heap.size, 0, none⟩)) := by rw [ha]; exact Reg.fill_on 2 rfl rfl (hd 2 (by decide)) rfl
          have HA := Lib.hid ha; clear ha; refine ⟨_, rfl, fun K hK => ?_⟩
          have u0 := (row_cells HW.1).1 0
          have u1 := (row_cells HW.1).1 1
          have u2 := (row_cells HW.1).1 2
          refine Reg.do_val rfl rfl (v := .agg #[.int .i64 b.x0, .int .i64 b.y0, .int .i64 b.z0]) (w1 := ww) ?_ ?_
          · simp only [List.getElem_toArray, List.getElem_cons_succ, List.getElem_cons_zero, execOp, Reg.eval_tmp e21]
            go_simp
          exact hK.out _ _ ⟨by rw [HA.out]; exact Reg.fill_up 3 hb rfl rfl rfl, HW⟩
        refine Reg.steps_cons (i := 4) ?_ ?_
        · rintro bb aa ww ⟨ha, HW⟩ hb hd hn
          have e3 : aa.tmps[3]? = some (.pointer (some ⟨w.heap.size + 1, 0, none⟩)) := by rw [ha]; exact (Reg.fill_off rfl).trans rfl
          have HA := Lib.hid ha; clear ha; refine ⟨_, rfl, fun K hK => ?_⟩
          refine Reg.do_val rfl rfl (v := .pointer (some ⟨w.heap.size + 1, 0, none⟩)) (w1 := ww) ?_ ?_
          · simp only [List.getElem_toArray, List.getElem_cons_succ, List.getElem_cons_zero, execOp, Reg.eval_tmp e3]
            go_simp
          exact hK.out _ _ ⟨by rw [HA.out]; exact Reg.fill_up 4 hb rfl rfl rfl, HW⟩
        refine Reg.steps_cons (i := 5) ?_ ?_
        · rintro bb aa ww ⟨ha, HW⟩ hb hd hn
          have e23 : aa.tmps[23]? = some (.pointer (some ⟨w.heap.size + 1, 0, none⟩)) := by rw [ha]; exact Reg.fill_on 4 rfl rfl (hd 4 (by decide)) rfl
          have HA := Lib.hid ha; clear ha; refine ⟨_, rfl, fun K hK => ?_⟩
          have u0 := (row_cells HW.2.1).1 0
          refine Reg.do_val rfl rfl (v := .int .i64 a) (w1 := ww) ?_ ?_
          · simp only [List.getElem_toArray, List.getElem_cons_succ, List.getElem_cons_zero, execOp, Reg.eval_tmp e23]
            go_simp
          exact hK.out _ _ ⟨by rw [HA.out]; exact Reg.fill_up 5 hb rfl rfl rfl, HW⟩
        refine Reg.steps_cons (i := 6) ?_ ?_
        · rintro bb aa ww ⟨ha, HW⟩ hb hd hn
          have e22 : aa.tmps[22]? = some (.agg #[.int .i64 b.x0, .int .i64 b.y0, .int .i64 b.z0]) := by rw [ha]; exact Reg.fill_on 3 rfl rfl (hd 3 (by decide)) rfl
          have e24 : aa.tmps[24]? = some (.int .i64 a) := by rw [ha]; exact Reg.fill_on 5 rfl rfl (hd 5 (by decide)) rfl
          have HA := Lib.hid ha; clear ha; refine ⟨_, rfl, fun K hK => ?_⟩
          refine Reg.do_call rfl rfl Tryz.func126 (by kernel_rfl) rfl #[.agg #[.int .i64 b.x0, .int .i64 b.y0, .int .i64 b.z0], .int .i64 a] rfl (by simp [Reg.eval_tmp e22, Reg.eval_tmp e24]) ?_
          refine (hlo ww).mono ?_; rintro e w3 ⟨rfl, hb3⟩; refine ⟨_, rfl, ?_⟩
          exact hK.out _ _ ⟨by rw [HA.out]; exact Reg.fill_up 6 hb rfl rfl rfl, ⟨row_after hb3 HW.1, row_after hb3 HW.2.1, HW.2.2.trans (hb3.mono HW.2.2.size)⟩⟩
        refine Reg.steps_cons (i := 7) ?_ ?_
        · rintro bb aa ww ⟨ha, HW⟩ hb hd hn
          have e20 : aa.tmps[20]? = some (.int .i64 p) := by rw [ha]; exact Reg.fill_on 1 rfl rfl (hd 1 (by decide)) rfl
          have e25 : aa.tmps[25]? = some (.int .i64 lo) := by rw [ha]; exact Reg.fill_on 6 rfl rfl (hd 6 (by decide)) rfl
          have HA := Lib.hid ha; clear ha; refine ⟨_, rfl, fun K hK => ?_⟩
          refine Reg.do_val rfl rfl (v := .bool false) (w1 := ww) ?_ ?_
          · simp only [List.getElem_toArray, List.getElem_cons_succ, List.getElem_cons_zero, execOp, Reg.eval_tmp e20, Reg.eval_tmp e25]
            go_simp
          exact hK.out _ _ ⟨by rw [HA.out]; exact Reg.fill_up 7 hb rfl rfl rfl, HW⟩
        refine Reg.steps_cons (i := 8) ?_ ?_
        · rintro bb aa ww ⟨ha, HW⟩ hb hd hn
          have e26 : aa.tmps[26]? = some (.bool false) := by rw [ha]; exact Reg.fill_on 7 rfl rfl (hd 7 (by decide)) rfl
          have HA := Lib.hid ha; clear ha; refine ⟨_, rfl, fun K hK => ?_⟩
          refine Reg.do_val rfl rfl (v := .bool false) (w1 := ww) (by simp only [List.getElem_toArray, List.getElem_cons_succ, List.getElem_cons_zero, execOp, Reg.eval_tmp e26]; rfl) ?_
          exact hK.out _ _ ⟨by rw [HA.out]; exact Reg.fill_up 8 hb rfl rfl rfl, HW⟩
        refine Reg.steps_cons (i := 9) ?_ ?_
        · rintro bb aa ww ⟨ha, HW⟩ hb hd hn
          have e3 : aa.tmps[3]? = some (.pointer (some ⟨w.heap.size + 1, 0, none⟩)) := by rw [ha]; exact (Reg.fill_off rfl).trans rfl
          have e27 : aa.tmps[27]? = some (.bool false) := by rw [ha]; exact Reg.fill_on 8 rfl rfl (hd 8 (by decide)) rfl
          have HA := Lib.hid ha; clear ha; refine ⟨_, rfl, fun K hK => ?_⟩
          refine Reg.won_val (Reg.want_on rfl rfl rfl e27) rfl (v := .pointer (some ⟨w.heap.size + 1, 1, none⟩)) (w1 := ww) ?_ ?_
          · simp only [List.getElem_toArray, List.getElem_cons_succ, List.getElem_cons_zero, execOp, Reg.eval_tmp e3]
            go_simp
          exact hK.out _ _ ⟨by rw [HA.out]; exact Reg.fill_up 9 hb rfl rfl rfl, HW⟩
        refine Reg.steps_cons (i := 10) ?_ ?_
        · rintro bb aa ww ⟨ha, HW⟩ hb hd hn
          have e28 : aa.tmps[28]? = some (.pointer (some ⟨w.heap.size + 1, 1, none⟩)) := by rw [ha]; exact Reg.fill_on 9 rfl rfl (hd 9 (by decide)) rfl
          have e27 : aa.tmps[27]? = some (.bool false) := by rw [ha]; exact Reg.fill_on 8 rfl rfl (hd 8 (by decide)) rfl
          have HA := Lib.hid ha; clear ha; refine ⟨_, rfl, fun K hK => ?_⟩
          have u1 := (row_cells HW.2.1).1 1
          refine Reg.won_val (Reg.want_on rfl rfl rfl e27) rfl (v := .int .i64 p) (w1 := ww) ?_ ?_
          · simp only [List.getElem_toArray, List.getElem_cons_succ, List.getElem_cons_zero, execOp, Reg.eval_tmp e28]
            go_simp
          exact hK.out _ _ ⟨by rw [HA.out]; exact Reg.fill_up 10 hb rfl rfl rfl, HW⟩
        refine Reg.steps_cons (i := 11) ?_ ?_
        · rintro bb aa ww ⟨ha, HW⟩ hb hd hn
          have e2 : aa.tmps[2]? = some (.pointer (some ⟨w.heap.size, 0, none⟩)) := by rw [ha]; exact (Reg.fill_off rfl).trans rfl
          have e27 : aa.tmps[27]? = some (.bool false) := by rw [ha]; exact Reg.fill_on 8 rfl rfl (hd 8 (by decide)) rfl
          have HA := Lib.hid ha; clear ha; refine ⟨_, rfl, fun K hK => ?_⟩
          refine Reg.won_val (Reg.want_on rfl rfl rfl e27) rfl (v := .pointer (some ⟨w.heap.size, 3, none⟩)) (w1 := ww) ?_ ?_
          · simp only [List.getElem_toArray, List.getElem_cons_succ, List.getElem_cons_zero, execOp, Reg.eval_tmp e2]
            go_simp
          exact hK.out _ _ ⟨by rw [HA.out]; exact Reg.fill_up 11 hb rfl rfl rfl, HW⟩
        refine Reg.steps_cons (i := 12) ?_ ?_
        · rintro bb aa ww ⟨ha, HW⟩ hb hd hn
          have e30 : aa.tmps[30]? = some (.pointer (some ⟨w.heap.size, 3, none⟩)) := by rw [ha]; exact Reg.fill_on 11 rfl rfl (hd 11 (by decide)) rfl
          have e27 : aa.tmps[27]? = some (.bool false) := by rw [ha]; exact Reg.fill_on 8 rfl rfl (hd 8 (by decide)) rfl
          have HA := Lib.hid ha; clear ha; refine ⟨_, rfl, fun K hK => ?_⟩
          have u3 := (row_cells HW.1).1 3
          have u4 := (row_cells HW.1).1 4
          have u5 := (row_cells HW.1).1 5
          refine Reg.won_val (Reg.want_on rfl rfl rfl e27) rfl (v := .agg #[.int .i64 b.x1, .int .i64 b.y1, .int .i64 b.z1]) (w1 := ww) ?_ ?_
          · simp only [List.getElem_toArray, List.getElem_cons_succ, List.getElem_cons_zero, execOp, Reg.eval_tmp e30]
            go_simp
          exact hK.out _ _ ⟨by rw [HA.out]; exact Reg.fill_up 12 hb rfl rfl rfl, HW⟩
        refine Reg.steps_cons (i := 13) ?_ ?_
        · rintro bb aa ww ⟨ha, HW⟩ hb hd hn
          have e3 : aa.tmps[3]? = some (.pointer (some ⟨w.heap.size + 1, 0, none⟩)) := by rw [ha]; exact (Reg.fill_off rfl).trans rfl
          have e27 : aa.tmps[27]? = some (.bool false) := by rw [ha]; exact Reg.fill_on 8 rfl rfl (hd 8 (by decide)) rfl
          have HA := Lib.hid ha; clear ha; refine ⟨_, rfl, fun K hK => ?_⟩
          refine Reg.won_val (Reg.want_on rfl rfl rfl e27) rfl (v := .pointer (some ⟨w.heap.size + 1, 0, none⟩)) (w1 := ww) ?_ ?_
          · simp only [List.getElem_toArray, List.getElem_cons_succ, List.getElem_cons_zero, execOp, Reg.eval_tmp e3]
            go_simp
          exact hK.out _ _ ⟨by rw [HA.out]; exact Reg.fill_up 13 hb rfl rfl rfl, HW⟩
        refine Reg.steps_cons (i := 14) ?_ ?_
        · rintro bb aa ww ⟨ha, HW⟩ hb hd hn
          have e32 : aa.tmps[32]? = some (.pointer (some ⟨w.heap.size + 1, 0, none⟩)) := by rw [ha]; exact Reg.fill_on 13 rfl rfl (hd 13 (by decide)) rfl
          have e27 : aa.tmps[27]? = some (.bool false) := by rw [ha]; exact Reg.fill_on 8 rfl rfl (hd 8 (by decide)) rfl
          have HA := Lib.hid ha; clear ha; refine ⟨_, rfl, fun K hK => ?_⟩
          have u0 := (row_cells HW.2.1).1 0
          refine Reg.won_val (Reg.want_on rfl rfl rfl e27) rfl (v := .int .i64 a) (w1 := ww) ?_ ?_
          · simp only [List.getElem_toArray, List.getElem_cons_succ, List.getElem_cons_zero, execOp, Reg.eval_tmp e32]
            go_simp
          exact hK.out _ _ ⟨by rw [HA.out]; exact Reg.fill_up 14 hb rfl rfl rfl, HW⟩
        refine Reg.steps_cons (i := 15) ?_ ?_
        · rintro bb aa ww ⟨ha, HW⟩ hb hd hn
          have e31 : aa.tmps[31]? = some (.agg #[.int .i64 b.x1, .int .i64 b.y1, .int .i64 b.z1]) := by rw [ha]; exact Reg.fill_on 12 rfl rfl (hd 12 (by decide)) rfl
          have e33 : aa.tmps[33]? = some (.int .i64 a) := by rw [ha]; exact Reg.fill_on 14 rfl rfl (hd 14 (by decide)) rfl
          have e27 : aa.tmps[27]? = some (.bool false) := by rw [ha]; exact Reg.fill_on 8 rfl rfl (hd 8 (by decide)) rfl
          have HA := Lib.hid ha; clear ha; refine ⟨_, rfl, fun K hK => ?_⟩
          refine Reg.won_call (Reg.want_on rfl rfl rfl e27) rfl Tryz.func126 (by kernel_rfl) rfl #[.agg #[.int .i64 b.x1, .int .i64 b.y1, .int .i64 b.z1], .int .i64 a] rfl (by simp [Reg.eval_tmp e31, Reg.eval_tmp e33]) ?_
          refine (hhi ww).mono ?_; rintro e w3 ⟨rfl, hb3⟩; refine ⟨_, rfl, ?_⟩
          exact hK.out _ _ ⟨by rw [HA.out]; exact Reg.fill_up 15 hb rfl rfl rfl, ⟨row_after hb3 HW.1, row_after hb3 HW.2.1, HW.2.2.trans (hb3.mono HW.2.2.size)⟩⟩
        refine Reg.steps_cons (i := 16) ?_ ?_
        · rintro bb aa ww ⟨ha, HW⟩ hb hd hn
          have e3 : aa.tmps[3]? = some (.pointer (some ⟨w.heap.size + 1, 0, none⟩)) := by rw [ha]; exact (Reg.fill_off rfl).trans rfl
          have e27 : aa.tmps[27]? = some (.bool false) := by rw [ha]; exact Reg.fill_on 8 rfl rfl (hd 8 (by decide)) rfl
          have HA := Lib.hid ha; clear ha; refine ⟨_, rfl, fun K hK => ?_⟩
          refine Reg.won_val (Reg.want_on rfl rfl rfl e27) rfl (v := .pointer (some ⟨w.heap.size + 1, 2, none⟩)) (w1 := ww) ?_ ?_
          · simp only [List.getElem_toArray, List.getElem_cons_succ, List.getElem_cons_zero, execOp, Reg.eval_tmp e3]
            go_simp
          exact hK.out _ _ ⟨by rw [HA.out]; exact Reg.fill_up 16 hb rfl rfl rfl, HW⟩
        refine Reg.steps_cons (i := 17) ?_ ?_
        · rintro bb aa ww ⟨ha, HW⟩ hb hd hn
          have e35 : aa.tmps[35]? = some (.pointer (some ⟨w.heap.size + 1, 2, none⟩)) := by rw [ha]; exact Reg.fill_on 16 rfl rfl (hd 16 (by decide)) rfl
          have e27 : aa.tmps[27]? = some (.bool false) := by rw [ha]; exact Reg.fill_on 8 rfl rfl (hd 8 (by decide)) rfl
          have HA := Lib.hid ha; clear ha; refine ⟨_, rfl, fun K hK => ?_⟩
          have u2 := (row_cells HW.2.1).1 2
          refine Reg.won_val (Reg.want_on rfl rfl rfl e27) rfl (v := .int .i64 k) (w1 := ww) ?_ ?_
          · simp only [List.getElem_toArray, List.getElem_cons_succ, List.getElem_cons_zero, execOp, Reg.eval_tmp e35]
            go_simp
          exact hK.out _ _ ⟨by rw [HA.out]; exact Reg.fill_up 17 hb rfl rfl rfl, HW⟩
        refine Reg.steps_cons (i := 18) ?_ ?_
        · rintro bb aa ww ⟨ha, HW⟩ hb hd hn
          have e34 : aa.tmps[34]? = some (.int .i64 hi) := by rw [ha]; exact Reg.fill_on 15 rfl rfl (hd 15 (by decide)) rfl
          have e36 : aa.tmps[36]? = some (.int .i64 k) := by rw [ha]; exact Reg.fill_on 17 rfl rfl (hd 17 (by decide)) rfl
          have e27 : aa.tmps[27]? = some (.bool false) := by rw [ha]; exact Reg.fill_on 8 rfl rfl (hd 8 (by decide)) rfl
          have HA := Lib.hid ha; clear ha; refine ⟨_, rfl, fun K hK => ?_⟩
          refine Reg.won_val (Reg.want_on rfl rfl rfl e27) rfl (v := .int .i64 (hi - k)) (w1 := ww) ?_ ?_
          · simp only [List.getElem_toArray, List.getElem_cons_succ, List.getElem_cons_zero, execOp, Reg.eval_tmp e34, Reg.eval_tmp e36]
            go_simp
            exact wrap_id (by omega)
          exact hK.out _ _ ⟨by rw [HA.out]; exact Reg.fill_up 18 hb rfl rfl rfl, HW⟩
        refine Reg.steps_cons (i := 19) ?_ ?_
        · rintro bb aa ww ⟨ha, HW⟩ hb hd hn
          have e29 : aa.tmps[29]? = some (.int .i64 p) := by rw [ha]; exact Reg.fill_on 10 rfl rfl (hd 10 (by decide)) rfl
          have e37 : aa.tmps[37]? = some (.int .i64 (hi - k)) := by rw [ha]; exact Reg.fill_on 18 rfl rfl (hd 18 (by decide)) rfl
          have e27 : aa.tmps[27]? = some (.bool false) := by rw [ha]; exact Reg.fill_on 8 rfl rfl (hd 8 (by decide)) rfl
          have HA := Lib.hid ha; clear ha; refine ⟨_, rfl, fun K hK => ?_⟩
          refine Reg.won_val (Reg.want_on rfl rfl rfl e27) rfl (v := .bool true) (w1 := ww) ?_ ?_
          · simp only [List.getElem_toArray, List.getElem_cons_succ, List.getElem_cons_zero, execOp, Reg.eval_tmp e29, Reg.eval_tmp e37]
            go_simp
          exact hK.out _ _ ⟨by rw [HA.out]; exact Reg.fill_up 19 hb rfl rfl rfl, HW⟩
        refine Reg.steps_cons (i := 20) ?_ ?_
        · rintro bb aa ww ⟨ha, HW⟩ hb hd hn
          have e27 : aa.tmps[27]? = some (.bool false) := by rw [ha]; exact Reg.fill_on 8 rfl rfl (hd 8 (by decide)) rfl
          have e38 : aa.tmps[38]? = some (.bool true) := by rw [ha]; exact Reg.fill_on 19 rfl rfl (hd 19 (by decide)) rfl
          have HA := Lib.hid ha; clear ha; refine ⟨_, rfl, fun K hK => ?_⟩
          refine Reg.do_val rfl rfl (v := .bool true) (w1 := ww) ?_ ?_
          · simp only [List.getElem_toArray, List.getElem_cons_succ, List.getElem_cons_zero, execOp, Reg.eval_tmp e27, Reg.eval_tmp e38]
            go_simp
          exact hK.out _ _ ⟨by rw [HA.out]; exact Reg.fill_up 20 hb rfl rfl rfl, HW⟩
        exact trivial
      rintro bb aa W8 hall ⟨ha, HW⟩
      have hb0 := hall 0 (by decide)
      have hb1 := hall 1 (by decide)
      have hb2 := hall 2 (by decide)
      have hb3 := hall 3 (by decide)
      have hb4 := hall 4 (by decide)
      have hb5 := hall 5 (by decide)
      have hb6 := hall 6 (by decide)
      have hb7 := hall 7 (by decide)
      have hb8 := hall 8 (by decide)
      have hb9 := hall 9 (by decide)
      have hb10 := hall 10 (by decide)
      have hb11 := hall 11 (by decide)
      have hb12 := hall 12 (by decide)
      have hb13 := hall 13 (by decide)
      have hb14 := hall 14 (by decide)
      have hb15 := hall 15 (by decide)
      have hb16 := hall 16 (by decide)
      have hb17 := hall 17 (by decide)
      have hb18 := hall 18 (by decide)
      have hb19 := hall 19 (by decide)
      have hb20 := hall 20 (by decide)
      simp only [Reg.fill, hb0, hb1, hb2, hb3, hb4, hb5, hb6, hb7, hb8, hb9, hb10, hb11, hb12, hb13, hb14, hb15, hb16, hb17, hb18, hb19, hb20, if_true, Act.put, List.setIfInBounds_toArray, List.set_cons_zero, List.set_cons_succ] at ha
      clear hb0 hb1 hb2 hb3 hb4 hb5 hb6 hb7 hb8 hb9 hb10 hb11 hb12 hb13 hb14 hb15 hb16 hb17 hb18 hb19 hb20 hall
      subst ha
      have HB := Lib.hid HW.2.2
      go_wp2_with fail
      go_ret
      exact ⟨rfl, HB.out⟩
    · rw [if_neg (by omega)] at hR
      subst hR
      clear c1
      have c4 : p < hi - k := by omega
      go_wp2_with fail
      refine Reg.region_inv [[], [0], [], [2], [], [4], [3, 5], [1, 6], [6, 7], [8], [8, 9], [8], [8, 11], [8], [8, 13], [8, 12, 14], [8], [8, 16], [8, 15, 17], [8, 10, 18], [8, 19]] [[], [0], [], [2], [], [4], [2, 3, 4, 5], [0, 1, 2, 3, 4, 5, 6], [0, 1, 2, 3, 4, 5, 6, 7], [0, 1, 2, 3, 4, 5, 6, 7, 8], [0, 1, 2, 3, 4, 5, 6, 7, 8, 9], [0, 1, 2, 3, 4, 5, 6, 7, 8], [0, 1, 2, 3, 4, 5, 6, 7, 8, 11], [0, 1, 2, 3, 4, 5, 6, 7, 8], [0, 1, 2, 3, 4, 5, 6, 7, 8, 13], [0, 1, 2, 3, 4, 5, 6, 7, 8, 11, 12, 13, 14], [0, 1, 2, 3, 4, 5, 6, 7, 8], [0, 1, 2, 3, 4, 5, 6, 7, 8, 16], [0, 1, 2, 3, 4, 5, 6, 7, 8, 11, 12, 13, 14, 15, 16, 17], [0, 1, 2, 3, 4, 5, 6, 7, 8, 9, 10, 11, 12, 13, 14, 15, 16, 17, 18], [0, 1, 2, 3, 4, 5, 6, 7, 8, 9, 10, 11, 12, 13, 14, 15, 16, 17, 18, 19]] (fun a0_ bb aa ww => aa = Reg.fill bb [(0, 19, .pointer (some ⟨w.heap.size + 1, 1, none⟩)), (1, 20, .int .i64 p), (2, 21, .pointer (some ⟨w.heap.size, 0, none⟩)), (3, 22, .agg #[.int .i64 b.x0, .int .i64 b.y0, .int .i64 b.z0]), (4, 23, .pointer (some ⟨w.heap.size + 1, 0, none⟩)), (5, 24, .int .i64 a), (6, 25, .int .i64 lo), (7, 26, .bool false), (8, 27, .bool false), (9, 28, .pointer (some ⟨w.heap.size + 1, 1, none⟩)), (10, 29, .int .i64 p), (11, 30, .pointer (some ⟨w.heap.size, 3, none⟩)), (12, 31, .agg #[.int .i64 b.x1, .int .i64 b.y1, .int .i64 b.z1]), (13, 32, .pointer (some ⟨w.heap.size + 1, 0, none⟩)), (14, 33, .int .i64 a), (15, 34, .int .i64 hi), (16, 35, .pointer (some ⟨w.heap.size + 1, 2, none⟩)), (17, 36, .int .i64 k), (18, 37, .int .i64 (hi - k)), (19, 38, .bool false), (20, 39, .bool false)] a0_ ∧ KR b a p k w ww) (by kernel_rfl) (by kernel_rfl) (by kernel_rfl) ?_ ?_ ?_
      · exact ⟨Reg.fill_start.symm, ⟨HR.out, HC.out, HB.out.drew⟩⟩
      · refine Reg.steps_cons (i := 0) ?_ ?_
        · rintro bb aa ww ⟨ha, HW⟩ hb hd hn
          have e3 : aa.tmps[3]? = some (.pointer (some ⟨w.heap.size + 1, 0, none⟩)) := by rw [ha]; exact (Reg.fill_off rfl).trans rfl
          have HA := Lib.hid ha; clear ha; refine ⟨_, rfl, fun K hK => ?_⟩
          refine Reg.do_val rfl rfl (v := .pointer (some ⟨w.heap.size + 1, 1, none⟩)) (w1 := ww) ?_ ?_
          · simp only [List.getElem_toArray, List.getElem_cons_zero, execOp, Reg.eval_tmp e3]
            go_simp
          exact hK.out _ _ ⟨by rw [HA.out]; exact Reg.fill_up 0 hb rfl rfl rfl, HW⟩
        refine Reg.steps_cons (i := 1) ?_ ?_
        · rintro bb aa ww ⟨ha, HW⟩ hb hd hn
          have e19 : aa.tmps[19]? = some (.pointer (some ⟨w.heap.size + 1, 1, none⟩)) := by rw [ha]; exact Reg.fill_on 0 rfl rfl (hd 0 (by decide)) rfl
          have HA := Lib.hid ha; clear ha; refine ⟨_, rfl, fun K hK => ?_⟩
          have u1 := (row_cells HW.2.1).1 1
          refine Reg.do_val rfl rfl (v := .int .i64 p) (w1 := ww) ?_ ?_
          · simp only [List.getElem_toArray, List.getElem_cons_succ, List.getElem_cons_zero, execOp, Reg.eval_tmp e19]
            go_simp
          exact hK.out _ _ ⟨by rw [HA.out]; exact Reg.fill_up 1 hb rfl rfl rfl, HW⟩
        refine Reg.steps_cons (i := 2) ?_ ?_
        · rintro bb aa ww ⟨ha, HW⟩ hb hd hn
          have e2 : aa.tmps[2]? = some (.pointer (some ⟨w.heap.size, 0, none⟩)) := by rw [ha]; exact (Reg.fill_off rfl).trans rfl
          have HA := Lib.hid ha; clear ha; refine ⟨_, rfl, fun K hK => ?_⟩
          refine Reg.do_val rfl rfl (v := .pointer (some ⟨w.heap.size, 0, none⟩)) (w1 := ww) ?_ ?_
          · simp only [List.getElem_toArray, List.getElem_cons_succ, List.getElem_cons_zero, execOp, Reg.eval_tmp e2]
            go_simp
          exact hK.out _ _ ⟨by rw [HA.out]; exact Reg.fill_up 2 hb rfl rfl rfl, HW⟩
        refine Reg.steps_cons (i := 3) ?_ ?_
        · rintro bb aa ww ⟨ha, HW⟩ hb hd hn
          have e21 : aa.tmps[21]? = some (.pointer (some ⟨w.heap.size, 0, none⟩)) := by rw [ha]; exact Reg.fill_on 2 rfl rfl (hd 2 (by decide)) rfl
          have HA := Lib.hid ha; clear ha; refine ⟨_, rfl, fun K hK => ?_⟩
          have u0 := (row_cells HW.1).1 0
          have u1 := (row_cells HW.1).1 1
          have u2 := (row_cells HW.1).1 2
          refine Reg.do_val rfl rfl (v := .agg #[.int .i64 b.x0, .int .i64 b.y0, .int .i64 b.z0]) (w1 := ww) ?_ ?_
          · simp only [List.getElem_toArray, List.getElem_cons_succ, List.getElem_cons_zero, execOp, Reg.eval_tmp e21]
            go_simp
          exact hK.out _ _ ⟨by rw [HA.out]; exact Reg.fill_up 3 hb rfl rfl rfl, HW⟩
        refine Reg.steps_cons (i := 4) ?_ ?_
        · rintro bb aa ww ⟨ha, HW⟩ hb hd hn
          have e3 : aa.tmps[3]? = some (.pointer (some ⟨w.heap.size + 1, 0, none⟩)) := by rw [ha]; exact (Reg.fill_off rfl).trans rfl
          have HA := Lib.hid ha; clear ha; refine ⟨_, rfl, fun K hK => ?_⟩
          refine Reg.do_val rfl rfl (v := .pointer (some ⟨w.heap.size + 1, 0, none⟩)) (w1 := ww) ?_ ?_
          · simp only [List.getElem_toArray, List.getElem_cons_succ, List.getElem_cons_zero, execOp, Reg.eval_tmp e3]
            go_simp
          exact hK.out _ _ ⟨by rw [HA.out]; exact Reg.fill_up 4 hb rfl rfl rfl, HW⟩
        refine Reg.steps_cons (i := 5) ?_ ?_
        · rintro bb aa ww ⟨ha, HW⟩ hb hd hn
          have e23 : aa.tmps[23]? = some (.pointer (some ⟨w.heap.size + 1, 0, none⟩)) := by rw [ha]; exact Reg.fill_on 4 rfl rfl (hd 4 (by decide)) rfl
          have HA := Lib.hid ha; clear ha; refine ⟨_, rfl, fun K hK => ?_⟩
          have u0 := (row_cells HW.2.1).1 0
          refine Reg.do_val rfl rfl (v := .int .i64 a) (w1 := ww) ?_ ?_
          · simp only [List.getElem_toArray, List.getElem_cons_succ, List.getElem_cons_zero, execOp, Reg.eval_tmp e23]
            go_simp
          exact hK.out _ _ ⟨by rw [HA.out]; exact Reg.fill_up 5 hb rfl rfl rfl, HW⟩
        refine Reg.steps_cons (i := 6) ?_ ?_
        · rintro bb aa ww ⟨ha, HW⟩ hb hd hn
          have e22 : aa.tmps[22]? = some (.agg #[.int .i64 b.x0, .int .i64 b.y0, .int .i64 b.z0]) := by rw [ha]; exact Reg.fill_on 3 rfl rfl (hd 3 (by decide)) rfl
          have e24 : aa.tmps[24]? = some (.int .i64 a) := by rw [ha]; exact Reg.fill_on 5 rfl rfl (hd 5 (by decide)) rfl
          have HA := Lib.hid ha; clear ha; refine ⟨_, rfl, fun K hK => ?_⟩
          refine Reg.do_call rfl rfl Tryz.func126 (by kernel_rfl) rfl #[.agg #[.int .i64 b.x0, .int .i64 b.y0, .int .i64 b.z0], .int .i64 a] rfl (by simp [Reg.eval_tmp e22, Reg.eval_tmp e24]) ?_
          refine (hlo ww).mono ?_; rintro e w3 ⟨rfl, hb3⟩; refine ⟨_, rfl, ?_⟩
          exact hK.out _ _ ⟨by rw [HA.out]; exact Reg.fill_up 6 hb rfl rfl rfl, ⟨row_after hb3 HW.1, row_after hb3 HW.2.1, HW.2.2.trans (hb3.mono HW.2.2.size)⟩⟩
        refine Reg.steps_cons (i := 7) ?_ ?_
        · rintro bb aa ww ⟨ha, HW⟩ hb hd hn
          have e20 : aa.tmps[20]? = some (.int .i64 p) := by rw [ha]; exact Reg.fill_on 1 rfl rfl (hd 1 (by decide)) rfl
          have e25 : aa.tmps[25]? = some (.int .i64 lo) := by rw [ha]; exact Reg.fill_on 6 rfl rfl (hd 6 (by decide)) rfl
          have HA := Lib.hid ha; clear ha; refine ⟨_, rfl, fun K hK => ?_⟩
          refine Reg.do_val rfl rfl (v := .bool false) (w1 := ww) ?_ ?_
          · simp only [List.getElem_toArray, List.getElem_cons_succ, List.getElem_cons_zero, execOp, Reg.eval_tmp e20, Reg.eval_tmp e25]
            go_simp
          exact hK.out _ _ ⟨by rw [HA.out]; exact Reg.fill_up 7 hb rfl rfl rfl, HW⟩
        refine Reg.steps_cons (i := 8) ?_ ?_
        · rintro bb aa ww ⟨ha, HW⟩ hb hd hn
          have e26 : aa.tmps[26]? = some (.bool false) := by rw [ha]; exact Reg.fill_on 7 rfl rfl (hd 7 (by decide)) rfl
          have HA := Lib.hid ha; clear ha; refine ⟨_, rfl, fun K hK => ?_⟩
          refine Reg.do_val rfl rfl (v := .bool false) (w1 := ww) (by simp only [List.getElem_toArray, List.getElem_cons_succ, List.getElem_cons_zero, execOp, Reg.eval_tmp e26]; rfl) ?_
          exact hK.out _ _ ⟨by rw [HA.out]; exact Reg.fill_up 8 hb rfl rfl rfl, HW⟩
        refine Reg.steps_cons (i := 9) ?_ ?_
        · rintro bb aa ww ⟨ha, HW⟩ hb hd hn
          have e3 : aa.tmps[3]? = some (.pointer (some ⟨w.heap.size + 1, 0, none⟩)) := by rw [ha]; exact (Reg.fill_off rfl).trans rfl
          have e27 : aa.tmps[27]? = some (.bool false) := by rw [ha]; exact Reg.fill_on 8 rfl rfl (hd 8 (by decide)) rfl
          have HA := Lib.hid ha; clear ha; refine ⟨_, rfl, fun K hK => ?_⟩
          refine Reg.won_val (Reg.want_on rfl rfl rfl e27) rfl (v := .pointer (some ⟨w.heap.size + 1, 1, none⟩)) (w1 := ww) ?_ ?_
          · simp only [List.getElem_toArray, List.getElem_cons_succ, List.getElem_cons_zero, execOp, Reg.eval_tmp e3]
            go_simp
          exact hK.out _ _ ⟨by rw [HA.out]; exact Reg.fill_up 9 hb rfl rfl rfl, HW⟩
        refine Reg.steps_cons (i := 10) ?_ ?_
        · rintro bb aa ww ⟨ha, HW⟩ hb hd hn
          have e28 : aa.tmps[28]? = some (.pointer (some ⟨w.heap.size + 1, 1, none⟩)) := by rw [ha]; exact Reg.fill_on 9 rfl rfl (hd 9 (by decide)) rfl
          have e27 : aa.tmps[27]? = some (.bool false) := by rw [ha]; exact Reg.fill_on 8 rfl rfl (hd 8 (by decide)) rfl
          have HA := Lib.hid ha; clear ha; refine ⟨_, rfl, fun K hK => ?_⟩
          have u1 := (row_cells HW.2.1).1 1
          refine Reg.won_val (Reg.want_on rfl rfl rfl e27) rfl (v := .int .i64 p) (w1 := ww) ?_ ?_
          · simp only [List.getElem_toArray, List.getElem_cons_succ, List.getElem_cons_zero, execOp, Reg.eval_tmp e28]
            go_simp
          exact hK.out _ _ ⟨by rw [HA.out]; exact Reg.fill_up 10 hb rfl rfl rfl, HW⟩
        refine Reg.steps_cons (i := 11) ?_ ?_
        · rintro bb aa ww ⟨ha, HW⟩ hb hd hn
          have e2 : aa.tmps[2]? = some (.pointer (some ⟨w.heap.size, 0, none⟩)) := by rw [ha]; exact (Reg.fill_off rfl).trans rfl
          have e27 : aa.tmps[27]? = some (.bool false) := by rw [ha]; exact Reg.fill_on 8 rfl rfl (hd 8 (by decide)) rfl
          have HA := Lib.hid ha; clear ha; refine ⟨_, rfl, fun K hK => ?_⟩
          refine Reg.won_val (Reg.want_on rfl rfl rfl e27) rfl (v := .pointer (some ⟨w.heap.size, 3, none⟩)) (w1 := ww) ?_ ?_
          · simp only [List.getElem_toArray, List.getElem_cons_succ, List.getElem_cons_zero, execOp, Reg.eval_tmp e2]
            go_simp
          exact hK.out _ _ ⟨by rw [HA.out]; exact Reg.fill_up 11 hb rfl rfl rfl, HW⟩
        refine Reg.steps_cons (i := 12) ?_ ?_
        · rintro bb aa ww ⟨ha, HW⟩ hb hd hn
          have e30 : aa.tmps[30]? = some (.pointer (some ⟨w.heap.size, 3, none⟩)) := by rw [ha]; exact Reg.fill_on 11 rfl rfl (hd 11 (by decide)) rfl
          have e27 : aa.tmps[27]? = some (.bool false) := by rw [ha]; exact Reg.fill_on 8 rfl rfl (hd 8 (by decide)) rfl
          have HA := Lib.hid ha; clear ha; refine ⟨_, rfl, fun K hK => ?_⟩
          have u3 := (row_cells HW.1).1 3
          have u4 := (row_cells HW.1).1 4
          have u5 := (row_cells HW.1).1 5
          refine Reg.won_val (Reg.want_on rfl rfl rfl e27) rfl (v := .agg #[.int .i64 b.x1, .int .i64 b.y1, .int .i64 b.z1]) (w1 := ww) ?_ ?_
          · simp only [List.getElem_toArray, List.getElem_cons_succ, List.getElem_cons_zero, execOp, Reg.eval_tmp e30]
            go_simp
          exact hK.out _ _ ⟨by rw [HA.out]; exact Reg.fill_up 12 hb rfl rfl rfl, HW⟩
        refine Reg.steps_cons (i := 13) ?_ ?_
        · rintro bb aa ww ⟨ha, HW⟩ hb hd hn
          have e3 : aa.tmps[3]? = some (.pointer (some ⟨w.heap.size + 1, 0, none⟩)) := by rw [ha]; exact (Reg.fill_off rfl).trans rfl
          have e27 : aa.tmps[27]? = some (.bool false) := by rw [ha]; exact Reg.fill_on 8 rfl rfl (hd 8 (by decide)) rfl
          have HA := Lib.hid ha; clear ha; refine ⟨_, rfl, fun K hK => ?_⟩
          refine Reg.won_val (Reg.want_on rfl rfl rfl e27) rfl (v := .pointer (some ⟨w.heap.size + 1, 0, none⟩)) (w1 := ww) ?_ ?_
          · simp only [List.getElem_toArray, List.getElem_cons_succ, List.getElem_cons_zero, execOp, Reg.eval_tmp e3]
            go_simp
          exact hK.out _ _ ⟨by rw [HA.out]; exact Reg.fill_up 13 hb rfl rfl rfl, HW⟩
        refine Reg.steps_cons (i := 14) ?_ ?_
        · rintro bb aa ww ⟨ha, HW⟩ hb hd hn
          have e32 : aa.tmps[32]? = some (.pointer (some ⟨w.heap.size + 1, 0, none⟩)) := by rw [ha]; exact Reg.fill_on 13 rfl rfl (hd 13 (by decide)) rfl
          have e27 : aa.tmps[27]? = some (.bool false) := by rw [ha]; exact Reg.fill_on 8 rfl rfl (hd 8 (by decide)) rfl
          have HA := Lib.hid ha; clear ha; refine ⟨_, rfl, fun K hK => ?_⟩
          have u0 := (row_cells HW.2.1).1 0
          refine Reg.won_val (Reg.want_on rfl rfl rfl e27) rfl (v := .int .i64 a) (w1 := ww) ?_ ?_
          · simp only [List.getElem_toArray, List.getElem_cons_succ, List.getElem_cons_zero, execOp, Reg.eval_tmp e32]
            go_simp
          exact hK.out _ _ ⟨by rw [HA.out]; exact Reg.fill_up 14 hb rfl rfl rfl, HW⟩
        refine Reg.steps_cons (i := 15) ?_ ?_
        · rintro bb aa ww ⟨ha, HW⟩ hb hd hn
          have e31 : aa.tmps[31]? = some (.agg #[.int .i64 b.x1, .int .i64 b.y1, .int .i64 b.z1]) := by rw [ha]; exact Reg.fill_on 12 rfl rfl (hd 12 (by decide)) rfl
          have e33 : aa.tmps[33]? = some (.int .i64 a) := by rw [ha]; exact Reg.fill_on 14 rfl rfl (hd 14 (by decide)) rfl
          have e27 : aa.tmps[27]? = some (.bool false) := by rw [ha]; exact Reg.fill_on 8 rfl rfl (hd 8 (by decide)) rfl
          have HA := Lib.hid ha; clear ha; refine ⟨_, rfl, fun K hK => ?_⟩
          refine Reg.won_call (Reg.want_on rfl rfl rfl e27) rfl Tryz.func126 (by kernel_rfl) rfl #[.agg #[.int .i64 b.x1, .int .i64 b.y1, .int .i64 b.z1], .int .i64 a] rfl (by simp [Reg.eval_tmp e31, Reg.eval_tmp e33]) ?_
          refine (hhi ww).mono ?_; rintro e w3 ⟨rfl, hb3⟩; refine ⟨_, rfl, ?_⟩
          exact hK.out _ _ ⟨by rw [HA.out]; exact Reg.fill_up 15 hb rfl rfl rfl, ⟨row_after hb3 HW.1, row_after hb3 HW.2.1, HW.2.2.trans (hb3.mono HW.2.2.size)⟩⟩
        refine Reg.steps_cons (i := 16) ?_ ?_
        · rintro bb aa ww ⟨ha, HW⟩ hb hd hn
          have e3 : aa.tmps[3]? = some (.pointer (some ⟨w.heap.size + 1, 0, none⟩)) := by rw [ha]; exact (Reg.fill_off rfl).trans rfl
          have e27 : aa.tmps[27]? = some (.bool false) := by rw [ha]; exact Reg.fill_on 8 rfl rfl (hd 8 (by decide)) rfl
          have HA := Lib.hid ha; clear ha; refine ⟨_, rfl, fun K hK => ?_⟩
          refine Reg.won_val (Reg.want_on rfl rfl rfl e27) rfl (v := .pointer (some ⟨w.heap.size + 1, 2, none⟩)) (w1 := ww) ?_ ?_
          · simp only [List.getElem_toArray, List.getElem_cons_succ, List.getElem_cons_zero, execOp, Reg.eval_tmp e3]
            go_simp
          exact hK.out _ _ ⟨by rw [HA.out]; exact Reg.fill_up 16 hb rfl rfl rfl, HW⟩
        refine Reg.steps_cons (i := 17) ?_ ?_
        · rintro bb aa ww ⟨ha, HW⟩ hb hd hn
          have e35 : aa.tmps[35]? = some (.pointer (some ⟨w.heap.size + 1, 2, none⟩)) := by rw [ha]; exact Reg.fill_on 16 rfl rfl (hd 16 (by decide)) rfl
          have e27 : aa.tmps[27]? = some (.bool false) := by rw [ha]; exact Reg.fill_on 8 rfl rfl (hd 8 (by decide)) rfl
          have HA := Lib.hid ha; clear ha; refine ⟨_, rfl, fun K hK => ?_⟩
          have u2 := (row_cells HW.2.1).1 2
          refine Reg.won_val (Reg.want_on rfl rfl rfl e27) rfl (v := .int .i64 k) (w1 := ww) ?_ ?_
          · simp only [List.getElem_toArray, List.getElem_cons_succ, List.getElem_cons_zero, execOp, Reg.eval_tmp e35]
            go_simp
          exact hK.out _ _ ⟨by rw [HA.out]; exact Reg.fill_up 17 hb rfl rfl rfl, HW⟩
        refine Reg.steps_cons (i := 18) ?_ ?_
        · rintro bb aa ww ⟨ha, HW⟩ hb hd hn
          have e34 : aa.tmps[34]? = some (.int .i64 hi) := by rw [ha]; exact Reg.fill_on 15 rfl rfl (hd 15 (by decide)) rfl
          have e36 : aa.tmps[36]? = some (.int .i64 k) := by rw [ha]; exact Reg.fill_on 17 rfl rfl (hd 17 (by decide)) rfl
          have e27 : aa.tmps[27]? = some (.bool false) := by rw [ha]; exact Reg.fill_on 8 rfl rfl (hd 8 (by decide)) rfl
          have HA := Lib.hid ha; clear ha; refine ⟨_, rfl, fun K hK => ?_⟩
          refine Reg.won_val (Reg.want_on rfl rfl rfl e27) rfl (v := .int .i64 (hi - k)) (w1 := ww) ?_ ?_
          · simp only [List.getElem_toArray, List.getElem_cons_succ, List.getElem_cons_zero, execOp, Reg.eval_tmp e34, Reg.eval_tmp e36]
            go_simp
            exact wrap_id (by omega)
          exact hK.out _ _ ⟨by rw [HA.out]; exact Reg.fill_up 18 hb rfl rfl rfl, HW⟩
        refine Reg.steps_cons (i := 19) ?_ ?_
        · rintro bb aa ww ⟨ha, HW⟩ hb hd hn
          have e29 : aa.tmps[29]? = some (.int .i64 p) := by rw [ha]; exact Reg.fill_on 10 rfl rfl (hd 10 (by decide)) rfl
          have e37 : aa.tmps[37]? = some (.int .i64 (hi - k)) := by rw [ha]; exact Reg.fill_on 18 rfl rfl (hd 18 (by decide)) rfl
          have e27 : aa.tmps[27]? = some (.bool false) := by rw [ha]; exact Reg.fill_on 8 rfl rfl (hd 8 (by decide)) rfl
          have HA := Lib.hid ha; clear ha; refine ⟨_, rfl, fun K hK => ?_⟩
          refine Reg.won_val (Reg.want_on rfl rfl rfl e27) rfl (v := .bool false) (w1 := ww) ?_ ?_
          · simp only [List.getElem_toArray, List.getElem_cons_succ, List.getElem_cons_zero, execOp, Reg.eval_tmp e29, Reg.eval_tmp e37]
            go_simp
          exact hK.out _ _ ⟨by rw [HA.out]; exact Reg.fill_up 19 hb rfl rfl rfl, HW⟩
        refine Reg.steps_cons (i := 20) ?_ ?_
        · rintro bb aa ww ⟨ha, HW⟩ hb hd hn
          have e27 : aa.tmps[27]? = some (.bool false) := by rw [ha]; exact Reg.fill_on 8 rfl rfl (hd 8 (by decide)) rfl
          have e38 : aa.tmps[38]? = some (.bool false) := by rw [ha]; exact Reg.fill_on 19 rfl rfl (hd 19 (by decide)) rfl
          have HA := Lib.hid ha; clear ha; refine ⟨_, rfl, fun K hK => ?_⟩
          refine Reg.do_val rfl rfl (v := .bool false) (w1 := ww) ?_ ?_
          · simp only [List.getElem_toArray, List.getElem_cons_succ, List.getElem_cons_zero, execOp, Reg.eval_tmp e27, Reg.eval_tmp e38]
            go_simp
          exact hK.out _ _ ⟨by rw [HA.out]; exact Reg.fill_up 20 hb rfl rfl rfl, HW⟩
        exact trivial
      rintro bb aa W8 hall ⟨ha, HW⟩
      have hb0 := hall 0 (by decide)
      have hb1 := hall 1 (by decide)
      have hb2 := hall 2 (by decide)
      have hb3 := hall 3 (by decide)
      have hb4 := hall 4 (by decide)
      have hb5 := hall 5 (by decide)
      have hb6 := hall 6 (by decide)
      have hb7 := hall 7 (by decide)
      have hb8 := hall 8 (by decide)
      have hb9 := hall 9 (by decide)
      have hb10 := hall 10 (by decide)
      have hb11 := hall 11 (by decide)
      have hb12 := hall 12 (by decide)
      have hb13 := hall 13 (by decide)
      have hb14 := hall 14 (by decide)
      have hb15 := hall 15 (by decide)
      have hb16 := hall 16 (by decide)
      have hb17 := hall 17 (by decide)
      have hb18 := hall 18 (by decide)
      have hb19 := hall 19 (by decide)
      have hb20 := hall 20 (by decide)
      simp only [Reg.fill, hb0, hb1, hb2, hb3, hb4, hb5, hb6, hb7, hb8, hb9, hb10, hb11, hb12, hb13, hb14, hb15, hb16, hb17, hb18, hb19, hb20, if_true, Act.put, List.setIfInBounds_toArray, List.set_cons_zero, List.set_cons_succ] at ha
      clear hb0 hb1 hb2 hb3 hb4 hb5 hb6 hb7 hb8 hb9 hb10 hb11 hb12 hb13 hb14 hb15 hb16 hb17 hb18 hb19 hb20 hall
      subst ha
      have HB := Lib.hid HW.2.2
      go_wp2_with fail
      go_ret
      exact ⟨rfl, HB.out⟩
end Go.Proofs.YtejhcbbfdfnfdaaGreatDoor.Yard

/- The reference's Split. -/
namespace Go.Proofs.YtejhcbbfdfnfdaaGreatDoor.Yard
open Go.RowKit Go.Proofs.YtejhcbbfdfnfdaaGreatDoor.Base Go.Proofs.YtejhcbbfdfnfdaaGreatDoor.Mp
open Yp (It Yd Fact Bx)
/-- One box of W0 has been filled anew. -/
def PR (W0 W : World) (q : Nat) (C : Array Value) : Prop := Stay (fun i => i = q) W0 W ∧ q < W0.heap.size ∧ W.heap[q]? = some (.cells C 45 (0, 0))
theorem PR.start {W0 : World} {q : Nat} {C : Array Value} (h : W0.heap[q]? = some (.cells C 45 (0, 0))) : PR W0 W0 q C := ⟨Stay.refl _ _, block_lt h, h⟩
theorem PR.grow {W0 W W' : World} {q : Nat} {C : Array Value} (h : PR W0 W q C) (hb : Below W.heap.size W W') : PR W0 W' q C := ⟨h.1.trans (Stay.of_below hb), h.2.1, row_after hb h.2.2⟩
theorem PR.other {W0 W : World} {q j : Nat} {C : Array Value} {o : Obj} (h : PR W0 W q C) (hj : j ≠ q) (ho : W0.heap[j]? = some o) : W.heap[j]? = some o := (h.1.block j (block_lt ho) hj).trans ho
theorem stay_cell (w : World) (q i : Nat) (u : Value) : Stay (fun j => j = q) w (w.setCell ⟨q, i, none⟩ u) := stay_set w ⟨q, i, none⟩ u
theorem PR.set3 {W0 W : World} {q i j k : Nat} {C : Array Value} {u v x : Value} (h : PR W0 W q C) : PR W0 (((W.setCell ⟨q, i, none⟩ u).setCell ⟨q, j, none⟩ v).setCell ⟨q, k, none⟩ x) q (((C.setIfInBounds i u).setIfInBounds j v).setIfInBounds k x) :=
  ⟨((h.1.trans (stay_cell _ _ _ _)).trans (stay_cell _ _ _ _)).trans (stay_cell _ _ _ _), h.2.1, heap_setCell_same _ _ _ _ _ _ (heap_setCell_same _ _ _ _ _ _ (heap_setCell_same _ _ _ _ _ _ h.2.2))⟩
theorem stay_row (W : World) (q : Nat) (cs : Array Value) : Stay (fun i => i = q) W (W.setRow q cs) :=
  ⟨rfl, rfl, rfl, by simp, fun i _ h => setRow_other W q i cs h⟩
theorem PR.row {W0 W : World} {q : Nat} {C : Array Value} (h : PR W0 W q C) (cs : Array Value) : PR W0 (W.setRow q cs) q cs := ⟨h.1.trans (stay_row W q cs), h.2.1, setRow_heap W q C cs 45 (0, 0) h.2.2⟩
theorem five (w : World) (o1 o2 o3 o4 o5 : Obj) : Below w.heap.size w (((((w.alloc o1).alloc o2).alloc o3).alloc o4).alloc o5) ∧ (((((w.alloc o1).alloc o2).alloc o3).alloc o4).alloc o5).heap[w.heap.size]? = some o1 ∧ (((((w.alloc o1).alloc o2).alloc o3).alloc o4).alloc o5).heap[w.heap.size + 1]? = some o2 ∧ (((((w.alloc o1).alloc o2).alloc o3).alloc o4).alloc o5).heap[w.heap.size + 2]? = some o3 ∧ (((((w.alloc o1).alloc o2).alloc o3).alloc o4).alloc o5).heap[w.heap.size + 3]? = some o4 ∧ (((((w.alloc o1).alloc o2).alloc o3).alloc o4).alloc o5).heap[w.heap.size + 4]? = some o5 ∧ (((((w.alloc o1).alloc o2).alloc o3).alloc o4).alloc o5).heap.size = w.heap.size + 5 := by
  have z1 : (w.alloc o1).heap.size = w.heap.size + 1 := by simp
  have z2 : ((w.alloc o1).alloc o2).heap.size = w.heap.size + 2 := by simp
  have z3 : (((w.alloc o1).alloc o2).alloc o3).heap.size = w.heap.size + 3 := by simp
  have z4 : ((((w.alloc o1).alloc o2).alloc o3).alloc o4).heap.size = w.heap.size + 4 := by simp
  have b1 := al_below w o1
  have b2 := al_below (w.alloc o1) o2
  have b3 := al_below ((w.alloc o1).alloc o2) o3
  have b4 := al_below (((w.alloc o1).alloc o2).alloc o3) o4
  have b5 := al_below ((((w.alloc o1).alloc o2).alloc o3).alloc o4) o5
  have r1 := new_block w o1
  have r2 := new_block (w.alloc o1) o2
  have r3 := new_block ((w.alloc o1).alloc o2) o3
  have r4 := new_block (((w.alloc o1).alloc o2).alloc o3) o4
  have r5 := new_block ((((w.alloc o1).alloc o2).alloc o3).alloc o4) o5
  rw [z1] at r2
  rw [z2] at r3
  rw [z3] at r4
  rw [z4] at r5
  exact ⟨b1.trans ((b2.trans ((b3.trans ((b4.trans (b5.mono b4.size)).mono b3.size)).mono b2.size)).mono b1.size), row_after b5 (row_after b4 (row_after b3 (row_after b2 r1))), row_after b5 (row_after b4 (row_after b3 r2)), row_after b5 (row_after b4 r3), row_after b5 r4, r5, by simp⟩
/-- The three results are filled. -/
def TR (W0 : World) (n : Nat) (F M S : Array Value) (b3 b4 b5 : Bool) (W : World) : Prop :=
  Stay (fun i => i = n + 2 ∨ i = n + 3 ∨ i = n + 4) W0 W ∧ W.heap[n + 2]? = some (.cells (if b3 = true then F else #[.int .i64 0, .int .i64 0, .int .i64 0, .int .i64 0, .int .i64 0, .int .i64 0]) 45 (0, 0)) ∧ W.heap[n + 3]? = some (.cells (if b4 = true then M else #[.int .i64 0, .int .i64 0, .int .i64 0, .int .i64 0, .int .i64 0, .int .i64 0]) 45 (0, 0)) ∧ W.heap[n + 4]? = some (.cells (if b5 = true then S else #[.int .i64 0, .int .i64 0, .int .i64 0, .int .i64 0, .int .i64 0, .int .i64 0]) 45 (0, 0))
section
variable {W0 W : World} {n : Nat} {F M S : Array Value} {b3 b4 b5 : Bool}
theorem TR.start (h2 : W0.heap[n + 2]? = some (.cells #[.int .i64 0, .int .i64 0, .int .i64 0, .int .i64 0, .int .i64 0, .int .i64 0] 45 (0, 0))) (h3 : W0.heap[n + 3]? = some (.cells #[.int .i64 0, .int .i64 0, .int .i64 0, .int .i64 0, .int .i64 0, .int .i64 0] 45 (0, 0))) (h4 : W0.heap[n + 4]? = some (.cells #[.int .i64 0, .int .i64 0, .int .i64 0, .int .i64 0, .int .i64 0, .int .i64 0] 45 (0, 0))) : TR W0 n F M S false false false W0.drew := ⟨Stay.of_below (Below.refl _ _).drew, h2, h3, h4⟩
theorem TR.other {j : Nat} {o : Obj} (h : TR W0 n F M S b3 b4 b5 W) (h2 : j ≠ n + 2) (h3 : j ≠ n + 3) (h4 : j ≠ n + 4) (ho : W0.heap[j]? = some o) : W.heap[j]? = some o := (h.1.block j (block_lt ho) (by omega)).trans ho
theorem TR.row3 (h : TR W0 n F M S b3 b4 b5 W) (hb : b3 = false) : W.heap[n + 2]? = some (.cells #[.int .i64 0, .int .i64 0, .int .i64 0, .int .i64 0, .int .i64 0, .int .i64 0] 45 (0, 0)) := by have := h.2.1; rw [hb] at this; exact this
theorem TR.row4 (h : TR W0 n F M S b3 b4 b5 W) (hb : b4 = false) : W.heap[n + 3]? = some (.cells #[.int .i64 0, .int .i64 0, .int .i64 0, .int .i64 0, .int .i64 0, .int .i64 0] 45 (0, 0)) := by have := h.2.2.1; rw [hb] at this; exact this
theorem TR.row5 (h : TR W0 n F M S b3 b4 b5 W) (hb : b5 = false) : W.heap[n + 4]? = some (.cells #[.int .i64 0, .int .i64 0, .int .i64 0, .int .i64 0, .int .i64 0, .int .i64 0] 45 (0, 0)) := by have := h.2.2.2; rw [hb] at this; exact this
theorem TR.st3 (h : TR W0 n F M S b3 b4 b5 W) : TR W0 n F M S true b4 b5 (W.setRow (n + 2) F) := ⟨h.1.trans ((stay_row W _ F).mono fun i e => .inl e), setRow_heap _ _ _ _ _ _ h.2.1, (setRow_other _ _ _ _ (by omega)).trans h.2.2.1, (setRow_other _ _ _ _ (by omega)).trans h.2.2.2⟩
theorem TR.st4 (h : TR W0 n F M S b3 b4 b5 W) : TR W0 n F M S b3 true b5 (W.setRow (n + 3) M) := ⟨h.1.trans ((stay_row W _ M).mono fun i e => .inr (.inl e)), (setRow_other _ _ _ _ (by omega)).trans h.2.1, setRow_heap _ _ _ _ _ _ h.2.2.1, (setRow_other _ _ _ _ (by omega)).trans h.2.2.2⟩
theorem TR.st5 (h : TR W0 n F M S b3 b4 b5 W) : TR W0 n F M S b3 b4 true (W.setRow (n + 4) S) := ⟨h.1.trans ((stay_row W _ S).mono fun i e => .inr (.inr e)), (setRow_other _ _ _ _ (by omega)).trans h.2.1, (setRow_other _ _ _ _ (by omega)).trans h.2.2.1, setRow_heap _ _ _ _ _ _ h.2.2.2⟩
end
set_option maxRecDepth 100000 in
set_option maxHeartbeats 16000000 in
theorem rsplit_any (b : Bx) (a pp k : Int) (ha : 0 ≤ a ∧ a ≤ 2) (hk : 0 ≤ k ∧ k ≤ 1000) (hpp : -2000000 ≤ pp ∧ pp ≤ 2000000) (w : World) : Calls Tryz.prog 50 #[.agg (bxC b), .agg #[.int .i64 a, .int .i64 pp, .int .i64 k]] w fun e w' => (∃ mm : Array Value, mm.size = 6 ∧ mm.all (·.oneCell') = true ∧ e = .returned (.tuple #[.agg (bxC (Yp.setHi b a pp)), .agg mm, .agg (bxC (Yp.setLo b a (pp + k)))])) ∧ Below w.heap.size w w' := by
  have hf := rput_any b.x1 b.y1 b.z1 pp a ha
  have hm1 := rput_any b.x0 b.y0 b.z0 pp a ha
  have hm2 := rput_any b.x1 b.y1 b.z1 (pp + k) a ha
  have hs := rput_any b.x0 b.y0 b.z0 (pp + k) a ha
  have hF : bxC (Yp.setHi b a pp) = #[.int .i64 b.x0, .int .i64 b.y0, .int .i64 b.z0, .int .i64 (if a = 0 then pp else b.x1), .int .i64 (if a = 1 then pp else b.y1), .int .i64 (if a = 2 then pp else b.z1)] := by
    obtain rfl | rfl | rfl : a = 0 ∨ a = 1 ∨ a = 2 := by omega
    all_goals rfl
  have hS : bxC (Yp.setLo b a (pp + k)) = #[.int .i64 (if a = 0 then pp + k else b.x0), .int .i64 (if a = 1 then pp + k else b.y0), .int .i64 (if a = 2 then pp + k else b.z0), .int .i64 b.x1, .int .i64 b.y1, .int .i64 b.z1] := by
    obtain rfl | rfl | rfl : a = 0 ∨ a = 1 ∨ a = 2 := by omega
    all_goals rfl
  rw [hF, hS]
  clear hF hS
  generalize (if a = 0 then pp else b.x1) = f3 at *
  generalize (if a = 1 then pp else b.y1) = f4 at *
  generalize (if a = 2 then pp else b.z1) = f5 at *
  generalize (if a = 0 then pp else b.x0) = m0 at *
  generalize (if a = 1 then pp else b.y0) = m1 at *
  generalize (if a = 2 then pp else b.z0) = m2 at *
  generalize (if a = 0 then pp + k else b.x1) = m3 at *
  generalize (if a = 1 then pp + k else b.y1) = m4 at *
  generalize (if a = 2 then pp + k else b.z1) = m5 at *
  generalize (if a = 0 then pp + k else b.x0) = s0 at *
  generalize (if a = 1 then pp + k else b.y0) = s1 at *
  generalize (if a = 2 then pp + k else b.z0) = s2 at *
  rw [show bxC b = #[.int .i64 b.x0, .int .i64 b.y0, .int .i64 b.z0, .int .i64 b.x1, .int .i64 b.y1, .int .i64 b.z1] from rfl]
  obtain ⟨k1, k2⟩ := hk
  obtain ⟨p1, p2⟩ := hpp
  clear ha
  have h5 := five w (.cells #[.int .i64 b.x0, .int .i64 b.y0, .int .i64 b.z0, .int .i64 b.x1, .int .i64 b.y1, .int .i64 b.z1] 45) (.cells #[.int .i64 a, .int .i64 pp, .int .i64 k] 106) (.cells #[.int .i64 0, .int .i64 0, .int .i64 0, .int .i64 0, .int .i64 0, .int .i64 0] 45) (.cells #[.int .i64 0, .int .i64 0, .int .i64 0, .int .i64 0, .int .i64 0, .int .i64 0] 45) (.cells #[.int .i64 0, .int .i64 0, .int .i64 0, .int .i64 0, .int .i64 0, .int .i64 0] 45)
  obtain ⟨hb, hrb, hrc, hz2, hz3, hz4, hsz⟩ := h5
  have HB := Lib.hid hb
  have HRB := Lib.hid hrb
  have HRC := Lib.hid hrc
  have HZ2 := Lib.hid hz2
  have HZ3 := Lib.hid hz3
  have HZ4 := Lib.hid hz4
  clear hb hrb hrc hz2 hz3 hz4
  go_enter Tryz.func50, Tryz.ntmps50
  go_wp2_with fail
  generalize (((((w.alloc (.cells #[.int .i64 b.x0, .int .i64 b.y0, .int .i64 b.z0, .int .i64 b.x1, .int .i64 b.y1, .int .i64 b.z1] 45)).alloc (.cells #[.int .i64 a, .int .i64 pp, .int .i64 k] 106)).alloc (.cells #[.int .i64 0, .int .i64 0, .int .i64 0, .int .i64 0, .int .i64 0, .int .i64 0] 45)).alloc (.cells #[.int .i64 0, .int .i64 0, .int .i64 0, .int .i64 0, .int .i64 0, .int .i64 0] 45)).alloc (.cells #[.int .i64 0, .int .i64 0, .int .i64 0, .int .i64 0, .int .i64 0, .int .i64 0] 45)) = W0 at *
  refine Reg.region_inv [[], [], [], [], [], [], [0, 3, 4, 5], [0, 1, 3, 4, 5, 6], [0, 1, 2, 3, 4, 5, 6, 7]] [[], [], [], [], [], [], [0, 3, 4, 5], [0, 1, 3, 4, 5, 6], [0, 1, 2, 3, 4, 5, 6, 7]] (fun a0_ bb aa ww => ∃ (p : Nat) (q : Nat) (r : Nat), aa = Reg.fill bb [(0, 10, .agg #[.int .i64 b.x0, .int .i64 b.y0, .int .i64 b.z0, .int .i64 b.x1, .int .i64 b.y1, .int .i64 b.z1]), (1, 11, .agg #[.int .i64 b.x0, .int .i64 b.y0, .int .i64 b.z0, .int .i64 b.x1, .int .i64 b.y1, .int .i64 b.z1]), (2, 12, .agg #[.int .i64 b.x0, .int .i64 b.y0, .int .i64 b.z0, .int .i64 b.x1, .int .i64 b.y1, .int .i64 b.z1]), (3, 7, .pointer (some ⟨p, 0, none⟩)), (4, 8, .pointer (some ⟨q, 0, none⟩)), (5, 9, .pointer (some ⟨r, 0, none⟩))] a0_ ∧ CutR W0 #[.int .i64 0, .int .i64 0, .int .i64 0, .int .i64 0, .int .i64 0, .int .i64 0] #[.int .i64 b.x0, .int .i64 b.y0, .int .i64 b.z0, .int .i64 b.x1, .int .i64 b.y1, .int .i64 b.z1] #[.int .i64 b.x0, .int .i64 b.y0, .int .i64 b.z0, .int .i64 b.x1, .int .i64 b.y1, .int .i64 b.z1] #[.int .i64 b.x0, .int .i64 b.y0, .int .i64 b.z0, .int .i64 b.x1, .int .i64 b.y1, .int .i64 b.z1] 45 (fun j => bb (j - 6)) ww p q r) (by kernel_rfl) (by kernel_rfl) (by kernel_rfl) ?_ ?_ ?_
  · exact ⟨0, 0, 0, Reg.fill_start.symm, CutR.start⟩
  · refine Reg.steps_cons (i := 0) ?_ ?_
    · rintro bb aa ww ⟨p, q, r, ha, HW⟩ hb hd hn
      have e2 : aa.tmps[2]? = some (.pointer (some ⟨w.heap.size, 0, none⟩)) := by rw [ha]; exact (Reg.fill_off rfl).trans rfl
      have HA := Lib.hid ha; clear ha; refine ⟨_, rfl, fun K hK => ?_⟩
      refine Reg.do_load rfl rfl 45 _ rfl w.heap.size (Reg.eval_tmp e2) (row_after HW.1 HRB.out) Tryz.underlying45 rfl (by kernel_rfl) ?_
      exact hK.out _ _ ⟨p, q, r, by rw [HA.out]; exact Reg.fill_up 0 hb rfl rfl rfl, HW⟩
    refine Reg.steps_cons (i := 1) ?_ ?_
    · rintro bb aa ww ⟨p, q, r, ha, HW⟩ hb hd hn
      have e2 : aa.tmps[2]? = some (.pointer (some ⟨w.heap.size, 0, none⟩)) := by rw [ha]; exact (Reg.fill_off rfl).trans rfl
      have HA := Lib.hid ha; clear ha; refine ⟨_, rfl, fun K hK => ?_⟩
      refine Reg.do_load rfl rfl 45 _ rfl w.heap.size (Reg.eval_tmp e2) (row_after HW.1 HRB.out) Tryz.underlying45 rfl (by kernel_rfl) ?_
      exact hK.out _ _ ⟨p, q, r, by rw [HA.out]; exact Reg.fill_up 1 hb rfl rfl rfl, HW⟩
    refine Reg.steps_cons (i := 2) ?_ ?_
    · rintro bb aa ww ⟨p, q, r, ha, HW⟩ hb hd hn
      have e2 : aa.tmps[2]? = some (.pointer (some ⟨w.heap.size, 0, none⟩)) := by rw [ha]; exact (Reg.fill_off rfl).trans rfl
      have HA := Lib.hid ha; clear ha; refine ⟨_, rfl, fun K hK => ?_⟩
      refine Reg.do_load rfl rfl 45 _ rfl w.heap.size (Reg.eval_tmp e2) (row_after HW.1 HRB.out) Tryz.underlying45 rfl (by kernel_rfl) ?_
      exact hK.out _ _ ⟨p, q, r, by rw [HA.out]; exact Reg.fill_up 2 hb rfl rfl rfl, HW⟩
    refine Reg.steps_cons (i := 3) ?_ ?_
    · rintro bb aa ww ⟨p, q, r, ha, HW⟩ hb hd hn
      have HA := Lib.hid ha; clear ha; refine ⟨_, rfl, fun K hK => ?_⟩
      refine Reg.do_val rfl rfl (v := .pointer (some ⟨ww.heap.size, 0, none⟩)) (w1 := ww.alloc (.cells #[.int .i64 0, .int .i64 0, .int .i64 0, .int .i64 0, .int .i64 0, .int .i64 0] 45)) ?_ ?_
      · simp only [List.getElem_toArray, List.getElem_cons_succ, List.getElem_cons_zero, execOp]
        go_simp
      exact hK.out _ _ ⟨ww.heap.size, q, r, by rw [HA.out]; exact Reg.fill_up 3 hb rfl rfl rfl, HW.al9 (hn 6 (by decide))⟩
    refine Reg.steps_cons (i := 4) ?_ ?_
    · rintro bb aa ww ⟨p, q, r, ha, HW⟩ hb hd hn
      have HA := Lib.hid ha; clear ha; refine ⟨_, rfl, fun K hK => ?_⟩
      refine Reg.do_val rfl rfl (v := .pointer (some ⟨ww.heap.size, 0, none⟩)) (w1 := ww.alloc (.cells #[.int .i64 0, .int .i64 0, .int .i64 0, .int .i64 0, .int .i64 0, .int .i64 0] 45)) ?_ ?_
      · simp only [List.getElem_toArray, List.getElem_cons_succ, List.getElem_cons_zero, execOp]
        go_simp
      exact hK.out _ _ ⟨p, ww.heap.size, r, by rw [HA.out]; exact Reg.fill_up 4 hb rfl rfl rfl, HW.al10 (hn 7 (by decide))⟩
    refine Reg.steps_cons (i := 5) ?_ ?_
    · rintro bb aa ww ⟨p, q, r, ha, HW⟩ hb hd hn
      have HA := Lib.hid ha; clear ha; refine ⟨_, rfl, fun K hK => ?_⟩
      refine Reg.do_val rfl rfl (v := .pointer (some ⟨ww.heap.size, 0, none⟩)) (w1 := ww.alloc (.cells #[.int .i64 0, .int .i64 0, .int .i64 0, .int .i64 0, .int .i64 0, .int .i64 0] 45)) ?_ ?_
      · simp only [List.getElem_toArray, List.getElem_cons_succ, List.getElem_cons_zero, execOp]
        go_simp
      exact hK.out _ _ ⟨p, q, ww.heap.size, by rw [HA.out]; exact Reg.fill_up 5 hb rfl rfl rfl, HW.al11 (hn 8 (by decide))⟩
    refine Reg.steps_cons (i := 6) ?_ ?_
    · rintro bb aa ww ⟨p, q, r, ha, HW⟩ hb hd hn
      have e7 : aa.tmps[7]? = some (.pointer (some ⟨p, 0, none⟩)) := by rw [ha]; exact Reg.fill_on 3 rfl rfl (hd 3 (by decide)) rfl
      have e10 : aa.tmps[10]? = some (.agg #[.int .i64 b.x0, .int .i64 b.y0, .int .i64 b.z0, .int .i64 b.x1, .int .i64 b.y1, .int .i64 b.z1]) := by rw [ha]; exact Reg.fill_on 0 rfl rfl (hd 0 (by decide)) rfl
      have HA := Lib.hid ha; clear ha; refine ⟨_, rfl, fun K hK => ?_⟩
      refine Reg.do_store rfl rfl 45 _ _ rfl p #[.int .i64 b.x0, .int .i64 b.y0, .int .i64 b.z0, .int .i64 b.x1, .int .i64 b.y1, .int .i64 b.z1] (Reg.eval_tmp e7) (Reg.eval_tmp e10) (HW.blk12 (hd 3 (by decide)) hb) (by kernel_rfl) rfl (by simp [Value.oneCell']) ?_
      exact hK.out _ _ ⟨p, q, r, by rw [HA.out]; exact Reg.fill_none rfl, HW.st12 (hd 3 (by decide)) (hd 4 (by decide)) (hd 5 (by decide))⟩
    refine Reg.steps_cons (i := 7) ?_ ?_
    · rintro bb aa ww ⟨p, q, r, ha, HW⟩ hb hd hn
      have e8 : aa.tmps[8]? = some (.pointer (some ⟨q, 0, none⟩)) := by rw [ha]; exact Reg.fill_on 4 rfl rfl (hd 4 (by decide)) rfl
      have e11 : aa.tmps[11]? = some (.agg #[.int .i64 b.x0, .int .i64 b.y0, .int .i64 b.z0, .int .i64 b.x1, .int .i64 b.y1, .int .i64 b.z1]) := by rw [ha]; exact Reg.fill_on 1 rfl rfl (hd 1 (by decide)) rfl
      have HA := Lib.hid ha; clear ha; refine ⟨_, rfl, fun K hK => ?_⟩
      refine Reg.do_store rfl rfl 45 _ _ rfl q #[.int .i64 b.x0, .int .i64 b.y0, .int .i64 b.z0, .int .i64 b.x1, .int .i64 b.y1, .int .i64 b.z1] (Reg.eval_tmp e8) (Reg.eval_tmp e11) (HW.blk13 (hd 4 (by decide)) hb) (by kernel_rfl) rfl (by simp [Value.oneCell']) ?_
      exact hK.out _ _ ⟨p, q, r, by rw [HA.out]; exact Reg.fill_none rfl, HW.st13 (hd 3 (by decide)) (hd 4 (by decide)) (hd 5 (by decide))⟩
    refine Reg.steps_cons (i := 8) ?_ ?_
    · rintro bb aa ww ⟨p, q, r, ha, HW⟩ hb hd hn
      have e9 : aa.tmps[9]? = some (.pointer (some ⟨r, 0, none⟩)) := by rw [ha]; exact Reg.fill_on 5 rfl rfl (hd 5 (by decide)) rfl
      have e12 : aa.tmps[12]? = some (.agg #[.int .i64 b.x0, .int .i64 b.y0, .int .i64 b.z0, .int .i64 b.x1, .int .i64 b.y1, .int .i64 b.z1]) := by rw [ha]; exact Reg.fill_on 2 rfl rfl (hd 2 (by decide)) rfl
      have HA := Lib.hid ha; clear ha; refine ⟨_, rfl, fun K hK => ?_⟩
      refine Reg.do_store rfl rfl 45 _ _ rfl r #[.int .i64 b.x0, .int .i64 b.y0, .int .i64 b.z0, .int .i64 b.x1, .int .i64 b.y1, .int .i64 b.z1] (Reg.eval_tmp e9) (Reg.eval_tmp e12) (HW.blk14 (hd 5 (by decide)) hb) (by kernel_rfl) rfl (by simp [Value.oneCell']) ?_
      exact hK.out _ _ ⟨p, q, r, by rw [HA.out]; exact Reg.fill_none rfl, HW.st14 (hd 3 (by decide)) (hd 4 (by decide)) (hd 5 (by decide))⟩
    exact trivial
  rintro bb aa W1 hall ⟨p, q, r, ha, HW⟩
  obtain ⟨hb1, hp, hq, hr, hpq, hpr, hqr⟩ := HW
  have hp := hp (hall 3 (by decide))
  have hq := hq (hall 4 (by decide))
  have hr := hr (hall 5 (by decide))
  have hpq := hpq (hall 3 (by decide)) (hall 4 (by decide))
  have hpr := hpr (hall 3 (by decide)) (hall 5 (by decide))
  have hqr := hqr (hall 4 (by decide)) (hall 5 (by decide))
  have c6 : bb 6 = true := hall 6 (by decide)
  have c7 : bb 7 = true := hall 7 (by decide)
  have c8 : bb 8 = true := hall 8 (by decide)
  have hp : W0.heap.size ≤ p ∧ W1.heap[p]? = some (.cells #[.int .i64 b.x0, .int .i64 b.y0, .int .i64 b.z0, .int .i64 b.x1, .int .i64 b.y1, .int .i64 b.z1] 45 (0, 0)) := by have := hp; rw [show (fun j => bb (j - 6)) 12 = true from c6] at this; exact this
  have hq : W0.heap.size ≤ q ∧ W1.heap[q]? = some (.cells #[.int .i64 b.x0, .int .i64 b.y0, .int .i64 b.z0, .int .i64 b.x1, .int .i64 b.y1, .int .i64 b.z1] 45 (0, 0)) := by have := hq; rw [show (fun j => bb (j - 6)) 13 = true from c7] at this; exact this
  have hr : W0.heap.size ≤ r ∧ W1.heap[r]? = some (.cells #[.int .i64 b.x0, .int .i64 b.y0, .int .i64 b.z0, .int .i64 b.x1, .int .i64 b.y1, .int .i64 b.z1] 45 (0, 0)) := by have := hr; rw [show (fun j => bb (j - 6)) 14 = true from c8] at this; exact this
  clear c6 c7 c8
  have hb0 := hall 0 (by decide)
  have hb1 := hall 1 (by decide)
  have hb2 := hall 2 (by decide)
  have hb3 := hall 3 (by decide)
  have hb4 := hall 4 (by decide)
  have hb5 := hall 5 (by decide)
  have hb6 := hall 6 (by decide)
  have hb7 := hall 7 (by decide)
  have hb8 := hall 8 (by decide)
  simp only [Reg.fill, hb0, hb1, hb2, hb3, hb4, hb5, if_true, Act.put, List.setIfInBounds_toArray, List.set_cons_zero, List.set_cons_succ] at ha
  clear hb0 hb1 hb2 hb3 hb4 hb5 hb6 hb7 hb8 hall
  subst ha
  rw [hsz] at hp hq hr
  obtain ⟨lp, hp⟩ := hp
  obtain ⟨lq, hq⟩ := hq
  obtain ⟨lr, hr⟩ := hr
  have HP := Lib.hid hp
  have HQ := Lib.hid hq
  have HR := Lib.hid hr
  have HB := Lib.hid (HB.out.trans (hb1.mono HB.out.size))
  have HRB := Lib.hid (row_after hb1 HRB.out)
  have HRC := Lib.hid (row_after hb1 HRC.out)
  have HZ2 := Lib.hid (row_after hb1 HZ2.out)
  have HZ3 := Lib.hid (row_after hb1 HZ3.out)
  have HZ4 := Lib.hid (row_after hb1 HZ4.out)
  clear hb1 hp hq hr hsz
  have u3 := (row_cells HRB.out).1 3
  have u4 := (row_cells HRB.out).1 4
  have u5 := (row_cells HRB.out).1 5
  have c0 := (row_cells HRC.out).1 0
  have c1 := (row_cells HRC.out).1 1
  go_wp2_with fail
  clear u3 u4 u5 c0 c1
  refine (hf _).mono ?_; rintro e w2 ⟨rfl, hb⟩
  have HB := Lib.hid (HB.out.trans (hb.mono HB.out.size))
  have HRB := Lib.hid (row_after hb HRB.out)
  have HRC := Lib.hid (row_after hb HRC.out)
  have HZ2 := Lib.hid (row_after hb HZ2.out)
  have HZ3 := Lib.hid (row_after hb HZ3.out)
  have HZ4 := Lib.hid (row_after hb HZ4.out)
  have HP := Lib.hid (row_after hb HP.out)
  have HQ := Lib.hid (row_after hb HQ.out)
  have HR := Lib.hid (row_after hb HR.out)
  clear hb
  have t3 := (row_cells HP.out).1 3
  have t4 := (row_cells HP.out).1 4
  have t5 := (row_cells HP.out).1 5
  have tf3 := (row_cells HP.out).2 3
  have tf4 := (row_cells HP.out).2 4
  have tf5 := (row_cells HP.out).2 5
  go_wp2_with fail
  have HW := (PR.start HP.out).set3 (i := 3) (j := 4) (k := 5) (u := .int .i64 f3) (v := .int .i64 f4) (x := .int .i64 f5)
  have hlt_ := HW.2.1
  have HRB := Lib.hid (HW.other (by omega) HRB.out)
  have HRC := Lib.hid (HW.other (by omega) HRC.out)
  have HZ2 := Lib.hid (HW.other (by omega) HZ2.out)
  have HZ3 := Lib.hid (HW.other (by omega) HZ3.out)
  have HZ4 := Lib.hid (HW.other (by omega) HZ4.out)
  have HQ := Lib.hid (HW.other (hpq.symm) HQ.out)
  have HR := Lib.hid (HW.other (hpr.symm) HR.out)
  have HP : Hid ((((w2.setCell ⟨p, 3, none⟩ (.int .i64 f3)).setCell ⟨p, 4, none⟩ (.int .i64 f4)).setCell ⟨p, 5, none⟩ (.int .i64 f5)).heap[p]? = some (.cells #[.int .i64 b.x0, .int .i64 b.y0, .int .i64 b.z0, .int .i64 f3, .int .i64 f4, .int .i64 f5] 45 (0, 0))) := Lib.hid HW.2.2
  have HB := Lib.hid (HB.out.trans (HW.1.below (B := w.heap.size) HB.out.size (fun i e => by omega)))
  clear HW hlt_ t3 t4 t5 tf3 tf4 tf5
  generalize (((w2.setCell ⟨p, 3, none⟩ (.int .i64 f3)).setCell ⟨p, 4, none⟩ (.int .i64 f4)).setCell ⟨p, 5, none⟩ (.int .i64 f5)) = W3 at *
  have HQ3 := HQ
  have HNQ := Lib.hid (show w.heap.size ≠ q ∧ w.heap.size + 1 ≠ q by omega)
  refine Reg.region_inv [[], [0], [], [2], [], [4], [1, 3, 5], [], [7], [], [9], [], [11], [], [13], [12, 14], [6, 8, 10, 15], [0, 1, 2, 3, 4, 5, 6], [0, 1, 2, 3, 4, 5, 6, 16, 17], [0, 1, 2, 3, 4, 5, 6, 7, 8, 9, 10, 11, 12, 13, 14, 15, 16, 17, 18], [0, 1, 2, 3, 4, 5, 6, 7, 8, 9, 10, 11, 12, 13, 14, 15, 16, 17, 18, 19]] [[], [0], [], [2], [], [4], [0, 1, 2, 3, 4, 5], [], [7], [], [9], [], [11], [], [13], [11, 12, 13, 14], [0, 1, 2, 3, 4, 5, 6, 7, 8, 9, 10, 11, 12, 13, 14, 15], [0, 1, 2, 3, 4, 5, 6], [0, 1, 2, 3, 4, 5, 6, 7, 8, 9, 10, 11, 12, 13, 14, 15, 16, 17], [0, 1, 2, 3, 4, 5, 6, 7, 8, 9, 10, 11, 12, 13, 14, 15, 16, 17, 18], [0, 1, 2, 3, 4, 5, 6, 7, 8, 9, 10, 11, 12, 13, 14, 15, 16, 17, 18, 19]] (fun a0_ bb aa ww => aa = Reg.fill bb [(0, 21, .pointer (some ⟨w.heap.size, 0, none⟩)), (1, 22, .agg #[.int .i64 b.x0, .int .i64 b.y0, .int .i64 b.z0]), (2, 23, .pointer (some ⟨w.heap.size + 1, 0, none⟩)), (3, 24, .int .i64 a), (4, 25, .pointer (some ⟨w.heap.size + 1, 1, none⟩)), (5, 26, .int .i64 pp), (6, 27, .agg #[.int .i64 m0, .int .i64 m1, .int .i64 m2]), (7, 28, .pointer (some ⟨w.heap.size, 3, none⟩)), (8, 29, .agg #[.int .i64 b.x1, .int .i64 b.y1, .int .i64 b.z1]), (9, 30, .pointer (some ⟨w.heap.size + 1, 0, none⟩)), (10, 31, .int .i64 a), (11, 32, .pointer (some ⟨w.heap.size + 1, 1, none⟩)), (12, 33, .int .i64 pp), (13, 34, .pointer (some ⟨w.heap.size + 1, 2, none⟩)), (14, 35, .int .i64 k), (15, 36, .int .i64 (pp + k)), (16, 37, .agg #[.int .i64 m3, .int .i64 m4, .int .i64 m5]), (17, 38, .pointer (some ⟨q, 0, none⟩)), (19, 39, .pointer (some ⟨q, 3, none⟩))] a0_ ∧ PR W3 ww q (if bb 20 = true then #[.int .i64 m0, .int .i64 m1, .int .i64 m2, .int .i64 m3, .int .i64 m4, .int .i64 m5] else if bb 18 = true then #[.int .i64 m0, .int .i64 m1, .int .i64 m2, .int .i64 b.x1, .int .i64 b.y1, .int .i64 b.z1] else #[.int .i64 b.x0, .int .i64 b.y0, .int .i64 b.z0, .int .i64 b.x1, .int .i64 b.y1, .int .i64 b.z1])) (by kernel_rfl) (by kernel_rfl) (by kernel_rfl) ?_ ?_ ?_
  · exact ⟨Reg.fill_start.symm, (PR.start HQ3.out).grow (Below.refl _ _).drew⟩
  · refine Reg.steps_cons (i := 0) ?_ ?_
    · rintro bb aa ww ⟨ha, HW⟩ hb hd hn
      have e2 : aa.tmps[2]? = some (.pointer (some ⟨w.heap.size, 0, none⟩)) := by rw [ha]; exact (Reg.fill_off rfl).trans rfl
      have HA := Lib.hid ha; clear ha; refine ⟨_, rfl, fun K hK => ?_⟩
      refine Reg.do_val rfl rfl (v := .pointer (some ⟨w.heap.size, 0, none⟩)) (w1 := ww) ?_ ?_
      · simp only [List.getElem_toArray, List.getElem_cons_zero, execOp, Reg.eval_tmp e2]
        go_simp
      exact hK.out _ _ ⟨by rw [HA.out]; exact Reg.fill_up 0 hb rfl rfl rfl, HW⟩
    refine Reg.steps_cons (i := 1) ?_ ?_
    · rintro bb aa ww ⟨ha, HW⟩ hb hd hn
      have e21 : aa.tmps[21]? = some (.pointer (some ⟨w.heap.size, 0, none⟩)) := by rw [ha]; exact Reg.fill_on 0 rfl rfl (hd 0 (by decide)) rfl
      have HA := Lib.hid ha; clear ha; refine ⟨_, rfl, fun K hK => ?_⟩
      have u0 := (row_cells (HW.other HNQ.out.1 HRB.out)).1 0
      have u1 := (row_cells (HW.other HNQ.out.1 HRB.out)).1 1
      have u2 := (row_cells (HW.other HNQ.out.1 HRB.out)).1 2
      refine Reg.do_val rfl rfl (v := .agg #[.int .i64 b.x0, .int .i64 b.y0, .int .i64 b.z0]) (w1 := ww) ?_ ?_
      · simp only [List.getElem_toArray, List.getElem_cons_succ, List.getElem_cons_zero, execOp, Reg.eval_tmp e21]
        go_simp
      exact hK.out _ _ ⟨by rw [HA.out]; exact Reg.fill_up 1 hb rfl rfl rfl, HW⟩
    refine Reg.steps_cons (i := 2) ?_ ?_
    · rintro bb aa ww ⟨ha, HW⟩ hb hd hn
      have e3 : aa.tmps[3]? = some (.pointer (some ⟨w.heap.size + 1, 0, none⟩)) := by rw [ha]; exact (Reg.fill_off rfl).trans rfl
      have HA := Lib.hid ha; clear ha; refine ⟨_, rfl, fun K hK => ?_⟩
      refine Reg.do_val rfl rfl (v := .pointer (some ⟨w.heap.size + 1, 0, none⟩)) (w1 := ww) ?_ ?_
      · simp only [List.getElem_toArray, List.getElem_cons_succ, List.getElem_cons_zero, execOp, Reg.eval_tmp e3]
        go_simp
      exact hK.out _ _ ⟨by rw [HA.out]; exact Reg.fill_up 2 hb rfl rfl rfl, HW⟩
    refine Reg.steps_cons (i := 3) ?_ ?_
    · rintro bb aa ww ⟨ha, HW⟩ hb hd hn
      have e23 : aa.tmps[23]? = some (.pointer (some ⟨w.heap.size + 1, 0, none⟩)) := by rw [ha]; exact Reg.fill_on 2 rfl rfl (hd 2 (by decide)) rfl
      have HA := Lib.hid ha; clear ha; refine ⟨_, rfl, fun K hK => ?_⟩
      have u0 := (row_cells (HW.other HNQ.out.2 HRC.out)).1 0
      refine Reg.do_val rfl rfl (v := .int .i64 a) (w1 := ww) ?_ ?_
      · simp only [List.getElem_toArray, List.getElem_cons_succ, List.getElem_cons_zero, execOp, Reg.eval_tmp e23]
        go_simp
      exact hK.out _ _ ⟨by rw [HA.out]; exact Reg.fill_up 3 hb rfl rfl rfl, HW⟩
    refine Reg.steps_cons (i := 4) ?_ ?_
    · rintro bb aa ww ⟨ha, HW⟩ hb hd hn
      have e3 : aa.tmps[3]? = some (.pointer (some ⟨w.heap.size + 1, 0, none⟩)) := by rw [ha]; exact (Reg.fill_off rfl).trans rfl
      have HA := Lib.hid ha; clear ha; refine ⟨_, rfl, fun K hK => ?_⟩
      refine Reg.do_val rfl rfl (v := .pointer (some ⟨w.heap.size + 1, 1, none⟩)) (w1 := ww) ?_ ?_
      · simp only [List.getElem_toArray, List.getElem_cons_succ, List.getElem_cons_zero, execOp, Reg.eval_tmp e3]
        go_simp
      exact hK.out _ _ ⟨by rw [HA.out]; exact Reg.fill_up 4 hb rfl rfl rfl, HW⟩
    refine Reg.steps_cons (i := 5) ?_ ?_
    · rintro bb aa ww ⟨ha, HW⟩ hb hd hn
      have e25 : aa.tmps[25]? = some (.pointer (some ⟨w.heap.size + 1, 1, none⟩)) := by rw [ha]; exact Reg.fill_on 4 rfl rfl (hd 4 (by decide)) rfl
      have HA := Lib.hid ha; clear ha; refine ⟨_, rfl, fun K hK => ?_⟩
      have u1 := (row_cells (HW.other HNQ.out.2 HRC.out)).1 1
      refine Reg.do_val rfl rfl (v := .int .i64 pp) (w1 := ww) ?_ ?_
      · simp only [List.getElem_toArray, List.getElem_cons_succ, List.getElem_cons_zero, execOp, Reg.eval_tmp e25]
        go_simp
      exact hK.out _ _ ⟨by rw [HA.out]; exact Reg.fill_up 5 hb rfl rfl rfl, HW⟩
    refine Reg.steps_cons (i := 6) ?_ ?_
    · rintro bb aa ww ⟨ha, HW⟩ hb hd hn
      have e22 : aa.tmps[22]? = some (.agg #[.int .i64 b.x0, .int .i64 b.y0, .int .i64 b.z0]) := by rw [ha]; exact Reg.fill_on 1 rfl rfl (hd 1 (by decide)) rfl
      have e24 : aa.tmps[24]? = some (.int .i64 a) := by rw [ha]; exact Reg.fill_on 3 rfl rfl (hd 3 (by decide)) rfl
      have e26 : aa.tmps[26]? = some (.int .i64 pp) := by rw [ha]; exact Reg.fill_on 5 rfl rfl (hd 5 (by decide)) rfl
      have HA := Lib.hid ha; clear ha; refine ⟨_, rfl, fun K hK => ?_⟩
      refine Reg.do_call rfl rfl Tryz.func87 (by kernel_rfl) rfl #[.agg #[.int .i64 b.x0, .int .i64 b.y0, .int .i64 b.z0], .int .i64 a, .int .i64 pp] rfl (by simp [Reg.eval_tmp e22, Reg.eval_tmp e24, Reg.eval_tmp e26]) ?_
      refine (hm1 ww).mono ?_; rintro e w3 ⟨rfl, hb3⟩; refine ⟨_, rfl, ?_⟩
      exact hK.out _ _ ⟨by rw [HA.out]; exact Reg.fill_up 6 hb rfl rfl rfl, HW.grow hb3⟩
    refine Reg.steps_cons (i := 7) ?_ ?_
    · rintro bb aa ww ⟨ha, HW⟩ hb hd hn
      have e2 : aa.tmps[2]? = some (.pointer (some ⟨w.heap.size, 0, none⟩)) := by rw [ha]; exact (Reg.fill_off rfl).trans rfl
      have HA := Lib.hid ha; clear ha; refine ⟨_, rfl, fun K hK => ?_⟩
      refine Reg.do_val rfl rfl (v := .pointer (some ⟨w.heap.size, 3, none⟩)) (w1 := ww) ?_ ?_
      · simp only [List.getElem_toArray, List.getElem_cons_succ, List.getElem_cons_zero, execOp, Reg.eval_tmp e2]
        go_simp
      exact hK.out _ _ ⟨by rw [HA.out]; exact Reg.fill_up 7 hb rfl rfl rfl, HW⟩
    refine Reg.steps_cons (i := 8) ?_ ?_
    · rintro bb aa ww ⟨ha, HW⟩ hb hd hn
      have e28 : aa.tmps[28]? = some (.pointer (some ⟨w.heap.size, 3, none⟩)) := by rw [ha]; exact Reg.fill_on 7 rfl rfl (hd 7 (by decide)) rfl
      have HA := Lib.hid ha; clear ha; refine ⟨_, rfl, fun K hK => ?_⟩
      have u3 := (row_cells (HW.other HNQ.out.1 HRB.out)).1 3
      have u4 := (row_cells (HW.other HNQ.out.1 HRB.out)).1 4
      have u5 := (row_cells (HW.other HNQ.out.1 HRB.out)).1 5
      refine Reg.do_val rfl rfl (v := .agg #[.int .i64 b.x1, .int .i64 b.y1, .int .i64 b.z1]) (w1 := ww) ?_ ?_
      · simp only [List.getElem_toArray, List.getElem_cons_succ, List.getElem_cons_zero, execOp, Reg.eval_tmp e28]
        go_simp
      exact hK.out _ _ ⟨by rw [HA.out]; exact Reg.fill_up 8 hb rfl rfl rfl, HW⟩
    refine Reg.steps_cons (i := 9) ?_ ?_
    · rintro bb aa ww ⟨ha, HW⟩ hb hd hn
      have e3 : aa.tmps[3]? = some (.pointer (some ⟨w.heap.size + 1, 0, none⟩)) := by rw [ha]; exact (Reg.fill_off rfl).trans rfl
      have HA := Lib.hid ha; clear ha; refine ⟨_, rfl, fun K hK => ?_⟩
      refine Reg.do_val rfl rfl (v := .pointer (some ⟨w.heap.size + 1, 0, none⟩)) (w1 := ww) ?_ ?_
      · simp only [List.getElem_toArray, List.getElem_cons_succ, List.getElem_cons_zero, execOp, Reg.eval_tmp e3]
        go_simp
      exact hK.out _ _ ⟨by rw [HA.out]; exact Reg.fill_up 9 hb rfl rfl rfl, HW⟩
    refine Reg.steps_cons (i := 10) ?_ ?_
    · rintro bb aa ww ⟨ha, HW⟩ hb hd hn
      have e30 : aa.tmps[30]? = some (.pointer (some ⟨w.heap.size + 1, 0, none⟩)) := by rw [ha]; exact Reg.fill_on 9 rfl rfl (hd 9 (by decide)) rfl
      have HA := Lib.hid ha; clear ha; refine ⟨_, rfl, fun K hK => ?_⟩
      have u0 := (row_cells (HW.other HNQ.out.2 HRC.out)).1 0
      refine Reg.do_val rfl rfl (v := .int .i64 a) (w1 := ww) ?_ ?_
      · simp only [List.getElem_toArray, List.getElem_cons_succ, List.getElem_cons_zero, execOp, Reg.eval_tmp e30]
        go_simp
      exact hK.out _ _ ⟨by rw [HA.out]; exact Reg.fill_up 10 hb rfl rfl rfl, HW⟩
    refine Reg.steps_cons (i := 11) ?_ ?_
    · rintro bb aa ww ⟨ha, HW⟩ hb hd hn
      have e3 : aa.tmps[3]? = some (.pointer (some ⟨w.heap.size + 1, 0, none⟩)) := by rw [ha]; exact (Reg.fill_off rfl).trans rfl
      have HA := Lib.hid ha; clear ha; refine ⟨_, rfl, fun K hK => ?_⟩
      refine Reg.do_val rfl rfl (v := .pointer (some ⟨w.heap.size + 1, 1, none⟩)) (w1 := ww) ?_ ?_
      · simp only [List.getElem_toArray, List.getElem_cons_succ, List.getElem_cons_zero, execOp, Reg.eval_tmp e3]
        go_simp
      exact hK.out _ _ ⟨by rw [HA.out]; exact Reg.fill_up 11 hb rfl rfl rfl, HW⟩
    refine Reg.steps_cons (i := 12) ?_ ?_
    · rintro bb aa ww ⟨ha, HW⟩ hb hd hn
      have e32 : aa.tmps[32]? = some (.pointer (some ⟨w.heap.size + 1, 1, none⟩)) := by rw [ha]; exact Reg.fill_on 11 rfl rfl (hd 11 (by decide)) rfl
      have HA := Lib.hid ha; clear ha; refine ⟨_, rfl, fun K hK => ?_⟩
      have u1 := (row_cells (HW.other HNQ.out.2 HRC.out)).1 1
      refine Reg.do_val rfl rfl (v := .int .i64 pp) (w1 := ww) ?_ ?_
      · simp only [List.getElem_toArray, List.getElem_cons_succ, List.getElem_cons_zero, execOp, Reg.eval_tmp e32]
        go_simp
      exact hK.out _ _ ⟨by rw [HA.out]; exact Reg.fill_up 12 hb rfl rfl rfl, HW⟩
    refine Reg.steps_cons (i := 13) ?_ ?_
    · rintro bb aa ww ⟨ha, HW⟩ hb hd hn
      have e3 : aa.tmps[3]? = some (.pointer (some ⟨w.heap.size + 1, 0, none⟩)) := by rw [ha]; exact (Reg.fill_off rfl).trans rfl
      have HA := Lib.hid ha; clear ha; refine ⟨_, rfl, fun K hK => ?_⟩
      refine Reg.do_val rfl rfl (v := .pointer (some ⟨w.heap.size + 1, 2, none⟩)) (w1 := ww) ?_ ?_
      · simp only [List.getElem_toArray, List.getElem_cons_succ, List.getElem_cons_zero, execOp, Reg.eval_tmp e3]
        go_simp
      exact hK.out _ _ ⟨by rw [HA.out]; exact Reg.fill_up 13 hb rfl rfl rfl, HW⟩
    refine Reg.steps_cons (i := 14) ?_ ?_
    · rintro bb aa ww ⟨ha, HW⟩ hb hd hn
      have e34 : aa.tmps[34]? = some (.pointer (some ⟨w.heap.size + 1, 2, none⟩)) := by rw [ha]; exact Reg.fill_on 13 rfl rfl (hd 13 (by decide)) rfl
      have HA := Lib.hid ha; clear ha; refine ⟨_, rfl, fun K hK => ?_⟩
      have u2 := (row_cells (HW.other HNQ.out.2 HRC.out)).1 2
      refine Reg.do_val rfl rfl (v := .int .i64 k) (w1 := ww) ?_ ?_
      · simp only [List.getElem_toArray, List.getElem_cons_succ, List.getElem_cons_zero, execOp, Reg.eval_tmp e34]
        go_simp
      exact hK.out _ _ ⟨by rw [HA.out]; exact Reg.fill_up 14 hb rfl rfl rfl, HW⟩
    refine Reg.steps_cons (i := 15) ?_ ?_
    · rintro bb aa ww ⟨ha, HW⟩ hb hd hn
      have e33 : aa.tmps[33]? = some (.int .i64 pp) := by rw [ha]; exact Reg.fill_on 12 rfl rfl (hd 12 (by decide)) rfl
      have e35 : aa.tmps[35]? = some (.int .i64 k) := by rw [ha]; exact Reg.fill_on 14 rfl rfl (hd 14 (by decide)) rfl
      have HA := Lib.hid ha; clear ha; refine ⟨_, rfl, fun K hK => ?_⟩
      refine Reg.do_val rfl rfl (v := .int .i64 (pp + k)) (w1 := ww) ?_ ?_
      · simp only [List.getElem_toArray, List.getElem_cons_succ, List.getElem_cons_zero, execOp, Reg.eval_tmp e33, Reg.eval_tmp e35]
        go_simp
        exact wrap_id (by omega)
      exact hK.out _ _ ⟨by rw [HA.out]; exact Reg.fill_up 15 hb rfl rfl rfl, HW⟩
    refine Reg.steps_cons (i := 16) ?_ ?_
    · rintro bb aa ww ⟨ha, HW⟩ hb hd hn
      have e29 : aa.tmps[29]? = some (.agg #[.int .i64 b.x1, .int .i64 b.y1, .int .i64 b.z1]) := by rw [ha]; exact Reg.fill_on 8 rfl rfl (hd 8 (by decide)) rfl
      have e31 : aa.tmps[31]? = some (.int .i64 a) := by rw [ha]; exact Reg.fill_on 10 rfl rfl (hd 10 (by decide)) rfl
      have e36 : aa.tmps[36]? = some (.int .i64 (pp + k)) := by rw [ha]; exact Reg.fill_on 15 rfl rfl (hd 15 (by decide)) rfl
      have HA := Lib.hid ha; clear ha; refine ⟨_, rfl, fun K hK => ?_⟩
      refine Reg.do_call rfl rfl Tryz.func87 (by kernel_rfl) rfl #[.agg #[.int .i64 b.x1, .int .i64 b.y1, .int .i64 b.z1], .int .i64 a, .int .i64 (pp + k)] rfl (by simp [Reg.eval_tmp e29, Reg.eval_tmp e31, Reg.eval_tmp e36]) ?_
      refine (hm2 ww).mono ?_; rintro e w3 ⟨rfl, hb3⟩; refine ⟨_, rfl, ?_⟩
      exact hK.out _ _ ⟨by rw [HA.out]; exact Reg.fill_up 16 hb rfl rfl rfl, HW.grow hb3⟩
    refine Reg.steps_cons (i := 17) ?_ ?_
    · rintro bb aa ww ⟨ha, HW⟩ hb hd hn
      have e8 : aa.tmps[8]? = some (.pointer (some ⟨q, 0, none⟩)) := by rw [ha]; exact (Reg.fill_off rfl).trans rfl
      have HA := Lib.hid ha; clear ha; refine ⟨_, rfl, fun K hK => ?_⟩
      refine Reg.do_val rfl rfl (v := .pointer (some ⟨q, 0, none⟩)) (w1 := ww) ?_ ?_
      · simp only [List.getElem_toArray, List.getElem_cons_succ, List.getElem_cons_zero, execOp, Reg.eval_tmp e8]
        go_simp
      exact hK.out _ _ ⟨by rw [HA.out]; exact Reg.fill_up 17 hb rfl rfl rfl, HW⟩
    refine Reg.steps_cons (i := 18) ?_ ?_
    · rintro bb aa ww ⟨ha, HW⟩ hb hd hn
      have e38 : aa.tmps[38]? = some (.pointer (some ⟨q, 0, none⟩)) := by rw [ha]; exact Reg.fill_on 17 rfl rfl (hd 17 (by decide)) rfl
      have e27 : aa.tmps[27]? = some (.agg #[.int .i64 m0, .int .i64 m1, .int .i64 m2]) := by rw [ha]; exact Reg.fill_on 6 rfl rfl (hd 6 (by decide)) rfl
      have HA := Lib.hid ha; clear ha; refine ⟨_, rfl, fun K hK => ?_⟩
      have HQ := (show ww.heap[q]? = some (.cells #[.int .i64 b.x0, .int .i64 b.y0, .int .i64 b.z0, .int .i64 b.x1, .int .i64 b.y1, .int .i64 b.z1] 45 (0, 0)) by have := HW.2.2; rw [hb, hn 20 (by decide)] at this; exact this)
      have t0 := (row_cells HQ).1 0
      have t1 := (row_cells HQ).1 1
      have t2 := (row_cells HQ).1 2
      have f0_ := (row_cells HQ).2 0
      have f1_ := (row_cells HQ).2 1
      have f2_ := (row_cells HQ).2 2
      refine Reg.do_skip rfl rfl (w1 := (((ww.setCell ⟨q, 0, none⟩ (.int .i64 m0)).setCell ⟨q, 1, none⟩ (.int .i64 m1)).setCell ⟨q, 2, none⟩ (.int .i64 m2))) ?_ ?_
      · simp only [List.getElem_toArray, List.getElem_cons_succ, List.getElem_cons_zero, execOp, Reg.eval_tmp e38, Reg.eval_tmp e27]
        go_simp
      exact hK.out _ _ ⟨by rw [HA.out]; exact Reg.fill_none rfl, (show PR W3 (_ : World) q (if bb 20 = true then #[.int .i64 m0, .int .i64 m1, .int .i64 m2, .int .i64 m3, .int .i64 m4, .int .i64 m5] else #[.int .i64 m0, .int .i64 m1, .int .i64 m2, .int .i64 b.x1, .int .i64 b.y1, .int .i64 b.z1]) by rw [hn 20 (by decide)]; exact (show PR W3 ww q #[.int .i64 b.x0, .int .i64 b.y0, .int .i64 b.z0, .int .i64 b.x1, .int .i64 b.y1, .int .i64 b.z1] by have := HW; rw [hb, hn 20 (by decide)] at this; exact this).set3)⟩
    refine Reg.steps_cons (i := 19) ?_ ?_
    · rintro bb aa ww ⟨ha, HW⟩ hb hd hn
      have e8 : aa.tmps[8]? = some (.pointer (some ⟨q, 0, none⟩)) := by rw [ha]; exact (Reg.fill_off rfl).trans rfl
      have HA := Lib.hid ha; clear ha; refine ⟨_, rfl, fun K hK => ?_⟩
      refine Reg.do_val rfl rfl (v := .pointer (some ⟨q, 3, none⟩)) (w1 := ww) ?_ ?_
      · simp only [List.getElem_toArray, List.getElem_cons_succ, List.getElem_cons_zero, execOp, Reg.eval_tmp e8]
        go_simp
      exact hK.out _ _ ⟨by rw [HA.out]; exact Reg.fill_up 18 hb rfl rfl rfl, HW⟩
    refine Reg.steps_cons (i := 20) ?_ ?_
    · rintro bb aa ww ⟨ha, HW⟩ hb hd hn
      have e39 : aa.tmps[39]? = some (.pointer (some ⟨q, 3, none⟩)) := by rw [ha]; exact Reg.fill_on 18 rfl rfl (hd 19 (by decide)) rfl
      have e37 : aa.tmps[37]? = some (.agg #[.int .i64 m3, .int .i64 m4, .int .i64 m5]) := by rw [ha]; exact Reg.fill_on 16 rfl rfl (hd 16 (by decide)) rfl
      have HA := Lib.hid ha; clear ha; refine ⟨_, rfl, fun K hK => ?_⟩
      have HQ := (show ww.heap[q]? = some (.cells #[.int .i64 m0, .int .i64 m1, .int .i64 m2, .int .i64 b.x1, .int .i64 b.y1, .int .i64 b.z1] 45 (0, 0)) by have := HW.2.2; rw [hb, hd 18 (by decide)] at this; exact this)
      have t3 := (row_cells HQ).1 3
      have t4 := (row_cells HQ).1 4
      have t5 := (row_cells HQ).1 5
      have f3_ := (row_cells HQ).2 3
      have f4_ := (row_cells HQ).2 4
      have f5_ := (row_cells HQ).2 5
      refine Reg.do_skip rfl rfl (w1 := (((ww.setCell ⟨q, 3, none⟩ (.int .i64 m3)).setCell ⟨q, 4, none⟩ (.int .i64 m4)).setCell ⟨q, 5, none⟩ (.int .i64 m5))) ?_ ?_
      · simp only [List.getElem_toArray, List.getElem_cons_succ, List.getElem_cons_zero, execOp, Reg.eval_tmp e39, Reg.eval_tmp e37]
        go_simp
      exact hK.out _ _ ⟨by rw [HA.out]; exact Reg.fill_none rfl, ((show PR W3 ww q #[.int .i64 m0, .int .i64 m1, .int .i64 m2, .int .i64 b.x1, .int .i64 b.y1, .int .i64 b.z1] by have := HW; rw [hb, hd 18 (by decide)] at this; exact this).set3)⟩
    exact trivial
  rintro bb aa W4 hall ⟨ha, HW⟩
  have HW : PR W3 W4 q #[.int .i64 m0, .int .i64 m1, .int .i64 m2, .int .i64 m3, .int .i64 m4, .int .i64 m5] := by have := HW; rw [hall 20 (by decide)] at this; exact this
  have hb0 := hall 0 (by decide)
  have hb1 := hall 1 (by decide)
  have hb2 := hall 2 (by decide)
  have hb3 := hall 3 (by decide)
  have hb4 := hall 4 (by decide)
  have hb5 := hall 5 (by decide)
  have hb6 := hall 6 (by decide)
  have hb7 := hall 7 (by decide)
  have hb8 := hall 8 (by decide)
  have hb9 := hall 9 (by decide)
  have hb10 := hall 10 (by decide)
  have hb11 := hall 11 (by decide)
  have hb12 := hall 12 (by decide)
  have hb13 := hall 13 (by decide)
  have hb14 := hall 14 (by decide)
  have hb15 := hall 15 (by decide)
  have hb16 := hall 16 (by decide)
  have hb17 := hall 17 (by decide)
  have hb18 := hall 18 (by decide)
  have hb19 := hall 19 (by decide)
  have hb20 := hall 20 (by decide)
  simp only [Reg.fill, hb0, hb1, hb2, hb3, hb4, hb5, hb6, hb7, hb8, hb9, hb10, hb11, hb12, hb13, hb14, hb15, hb16, hb17, hb19, if_true, Act.put, List.setIfInBounds_toArray, List.set_cons_zero, List.set_cons_succ] at ha
  clear hb0 hb1 hb2 hb3 hb4 hb5 hb6 hb7 hb8 hb9 hb10 hb11 hb12 hb13 hb14 hb15 hb16 hb17 hb18 hb19 hb20 hall
  subst ha
  have hlt_ := HW.2.1
  have HRB := Lib.hid (HW.other (by omega) HRB.out)
  have HRC := Lib.hid (HW.other (by omega) HRC.out)
  have HZ2 := Lib.hid (HW.other (by omega) HZ2.out)
  have HZ3 := Lib.hid (HW.other (by omega) HZ3.out)
  have HZ4 := Lib.hid (HW.other (by omega) HZ4.out)
  have HP := Lib.hid (HW.other (hpq) HP.out)
  have HR := Lib.hid (HW.other (hqr.symm) HR.out)
  have HQ := Lib.hid HW.2.2
  have HB := Lib.hid (HB.out.trans (HW.1.below (B := w.heap.size) HB.out.size (fun i e => by omega)))
  clear HW hlt_ HQ3 HNQ
  have u0 := (row_cells HRB.out).1 0
  have u1 := (row_cells HRB.out).1 1
  have u2 := (row_cells HRB.out).1 2
  have c0 := (row_cells HRC.out).1 0
  have c1 := (row_cells HRC.out).1 1
  have c2 := (row_cells HRC.out).1 2
  go_wp2_with fail
  clear u0 u1 u2 c0 c1 c2
  refine (hs _).mono ?_; rintro e w5 ⟨rfl, hb⟩
  have HB := Lib.hid (HB.out.trans (hb.mono HB.out.size))
  have HRB := Lib.hid (row_after hb HRB.out)
  have HRC := Lib.hid (row_after hb HRC.out)
  have HZ2 := Lib.hid (row_after hb HZ2.out)
  have HZ3 := Lib.hid (row_after hb HZ3.out)
  have HZ4 := Lib.hid (row_after hb HZ4.out)
  have HP := Lib.hid (row_after hb HP.out)
  have HQ := Lib.hid (row_after hb HQ.out)
  have HR := Lib.hid (row_after hb HR.out)
  clear hb
  by_cases hk0 : k = 0
  · have HW := (PR.start HR.out).set3 (i := 0) (j := 1) (k := 2) (u := .int .i64 s0) (v := .int .i64 s1) (x := .int .i64 s2)
    have t0 := (row_cells HR.out).1 0
    have t1 := (row_cells HR.out).1 1
    have t2 := (row_cells HR.out).1 2
    have tf0 := (row_cells HR.out).2 0
    have tf1 := (row_cells HR.out).2 1
    have tf2 := (row_cells HR.out).2 2
    have hlt_ := HW.2.1
    have HRB := Lib.hid (HW.other (by omega) HRB.out)
    have HRC := Lib.hid (HW.other (by omega) HRC.out)
    have HZ2 := Lib.hid (HW.other (by omega) HZ2.out)
    have HZ3 := Lib.hid (HW.other (by omega) HZ3.out)
    have HZ4 := Lib.hid (HW.other (by omega) HZ4.out)
    have HP := Lib.hid (HW.other (hpr) HP.out)
    have HQ := Lib.hid (HW.other (hqr) HQ.out)
    have HR : Hid ((((w5.setCell ⟨r, 0, none⟩ (.int .i64 s0)).setCell ⟨r, 1, none⟩ (.int .i64 s1)).setCell ⟨r, 2, none⟩ (.int .i64 s2)).heap[r]? = some (.cells #[.int .i64 s0, .int .i64 s1, .int .i64 s2, .int .i64 b.x1, .int .i64 b.y1, .int .i64 b.z1] 45 (0, 0))) := Lib.hid HW.2.2
    have HB := Lib.hid (HB.out.trans (HW.1.below (B := w.heap.size) HB.out.size (fun i e => by omega)))
    clear HW hlt_
    have c2 := (row_cells HRC.out).1 2
    have hkq : (k == 0) = true := by simp [hk0]
    go_wp2_with (refine wpList_store_row rfl 45 (.tmp 8) (.tmp 54) rfl q #[.int .i64 0, .int .i64 0, .int .i64 0, .int .i64 0, .int .i64 0, .int .i64 0] rfl rfl 45 #[.int .i64 m0, .int .i64 m1, .int .i64 m2, .int .i64 m3, .int .i64 m4, .int .i64 m5] HQ.out ?_ ?_ ?_ ?_; (kernel_rfl); (kernel_rfl); (kernel_rfl))
    generalize (((w5.setCell ⟨r, 0, none⟩ (.int .i64 s0)).setCell ⟨r, 1, none⟩ (.int .i64 s1)).setCell ⟨r, 2, none⟩ (.int .i64 s2)) = W5 at *
    have HW := (PR.start HQ.out).row #[.int .i64 0, .int .i64 0, .int .i64 0, .int .i64 0, .int .i64 0, .int .i64 0]
    have hlt_ := HW.2.1
    have HRB := Lib.hid (HW.other (by omega) HRB.out)
    have HRC := Lib.hid (HW.other (by omega) HRC.out)
    have HZ2 := Lib.hid (HW.other (by omega) HZ2.out)
    have HZ3 := Lib.hid (HW.other (by omega) HZ3.out)
    have HZ4 := Lib.hid (HW.other (by omega) HZ4.out)
    have HP := Lib.hid (HW.other (hpq) HP.out)
    have HR := Lib.hid (HW.other (hqr.symm) HR.out)
    have HQ := Lib.hid HW.2.2
    have HB := Lib.hid (HB.out.trans (HW.1.below (B := w.heap.size) HB.out.size (fun i e => by omega)))
    clear HW hlt_ t0 t1 t2 tf0 tf1 tf2 c2 hkq
    generalize W5.setRow q #[.int .i64 0, .int .i64 0, .int .i64 0, .int .i64 0, .int .i64 0, .int .i64 0] = W7 at *
    obtain ⟨mm, hmm⟩ : ∃ mm : Array Value, mm = #[.int .i64 0, .int .i64 0, .int .i64 0, .int .i64 0, .int .i64 0, .int .i64 0] := ⟨_, rfl⟩
    rw [← hmm] at HQ
    have HMM : Hid (mm.size = 6) := Lib.hid (by rw [hmm]; rfl)
    have HMI : Hid ((Tryz.prog.info? 45).map (·.size) = some mm.size) := Lib.hid (by rw [hmm]; kernel_rfl)
    have HMZ : Hid ((#[.int .i64 0, .int .i64 0, .int .i64 0, .int .i64 0, .int .i64 0, .int .i64 0] : Array Value).size = mm.size) := Lib.hid (by simp [hmm])
    have HMO : Hid (mm.all (·.oneCell') = true) := Lib.hid (by rw [hmm]; simp [Value.oneCell'])
    have HMQ := Lib.hid hmm
    clear hmm
    have HP7 := HP
    have HQ7 := HQ
    have HR7 := HR
    have HNp := Lib.hid (show p ≠ w.heap.size + 2 ∧ p ≠ w.heap.size + 3 ∧ p ≠ w.heap.size + 4 by omega)
    have HNq := Lib.hid (show q ≠ w.heap.size + 2 ∧ q ≠ w.heap.size + 3 ∧ q ≠ w.heap.size + 4 by omega)
    have HNr := Lib.hid (show r ≠ w.heap.size + 2 ∧ r ≠ w.heap.size + 3 ∧ r ≠ w.heap.size + 4 by omega)
    refine Reg.region_inv [[], [], [], [0], [0, 1, 3], [0, 1, 2, 3, 4]] [[], [], [], [0], [0, 1, 3], [0, 1, 2, 3, 4]] (fun a0_ bb aa ww => aa = Reg.fill bb [(0, 55, .agg #[.int .i64 b.x0, .int .i64 b.y0, .int .i64 b.z0, .int .i64 f3, .int .i64 f4, .int .i64 f5]), (1, 56, .agg mm), (2, 57, .agg #[.int .i64 s0, .int .i64 s1, .int .i64 s2, .int .i64 b.x1, .int .i64 b.y1, .int .i64 b.z1])] a0_ ∧ TR W7 (w.heap.size) #[.int .i64 b.x0, .int .i64 b.y0, .int .i64 b.z0, .int .i64 f3, .int .i64 f4, .int .i64 f5] mm #[.int .i64 s0, .int .i64 s1, .int .i64 s2, .int .i64 b.x1, .int .i64 b.y1, .int .i64 b.z1] (bb 3) (bb 4) (bb 5) ww) (by kernel_rfl) (by kernel_rfl) (by kernel_rfl) ?_ ?_ ?_
    · exact ⟨Reg.fill_start.symm, TR.start HZ2.out HZ3.out HZ4.out⟩
    · refine Reg.steps_cons (i := 0) ?_ ?_
      · rintro bb aa ww ⟨ha, HW⟩ hb hd hn
        have e7 : aa.tmps[7]? = some (.pointer (some ⟨p, 0, none⟩)) := by rw [ha]; exact (Reg.fill_off rfl).trans rfl
        have HA := Lib.hid ha; clear ha; refine ⟨_, rfl, fun K hK => ?_⟩
        refine Reg.do_load rfl rfl 45 _ rfl p (Reg.eval_tmp e7) (HW.other HNp.out.1 HNp.out.2.1 HNp.out.2.2 HP7.out) Tryz.underlying45 rfl (by kernel_rfl) ?_
        exact hK.out _ _ ⟨by rw [HA.out]; exact Reg.fill_up 0 hb rfl rfl rfl, HW⟩
      refine Reg.steps_cons (i := 1) ?_ ?_
      · rintro bb aa ww ⟨ha, HW⟩ hb hd hn
        have e8 : aa.tmps[8]? = some (.pointer (some ⟨q, 0, none⟩)) := by rw [ha]; exact (Reg.fill_off rfl).trans rfl
        have HA := Lib.hid ha; clear ha; refine ⟨_, rfl, fun K hK => ?_⟩
        refine Reg.do_load rfl rfl 45 _ rfl q (Reg.eval_tmp e8) (HW.other HNq.out.1 HNq.out.2.1 HNq.out.2.2 HQ7.out) Tryz.underlying45 rfl (HMI.out) ?_
        exact hK.out _ _ ⟨by rw [HA.out]; exact Reg.fill_up 1 hb rfl rfl rfl, HW⟩
      refine Reg.steps_cons (i := 2) ?_ ?_
      · rintro bb aa ww ⟨ha, HW⟩ hb hd hn
        have e9 : aa.tmps[9]? = some (.pointer (some ⟨r, 0, none⟩)) := by rw [ha]; exact (Reg.fill_off rfl).trans rfl
        have HA := Lib.hid ha; clear ha; refine ⟨_, rfl, fun K hK => ?_⟩
        refine Reg.do_load rfl rfl 45 _ rfl r (Reg.eval_tmp e9) (HW.other HNr.out.1 HNr.out.2.1 HNr.out.2.2 HR7.out) Tryz.underlying45 rfl (by kernel_rfl) ?_
        exact hK.out _ _ ⟨by rw [HA.out]; exact Reg.fill_up 2 hb rfl rfl rfl, HW⟩
      refine Reg.steps_cons (i := 3) ?_ ?_
      · rintro bb aa ww ⟨ha, HW⟩ hb hd hn
        have e4 : aa.tmps[4]? = some (.pointer (some ⟨w.heap.size + 2, 0, none⟩)) := by rw [ha]; exact (Reg.fill_off rfl).trans rfl
        have e55 : aa.tmps[55]? = some (.agg #[.int .i64 b.x0, .int .i64 b.y0, .int .i64 b.z0, .int .i64 f3, .int .i64 f4, .int .i64 f5]) := by rw [ha]; exact Reg.fill_on 0 rfl rfl (hd 0 (by decide)) rfl
        have HA := Lib.hid ha; clear ha; refine ⟨_, rfl, fun K hK => ?_⟩
        refine Reg.do_store rfl rfl 45 _ _ rfl (w.heap.size + 2) #[.int .i64 b.x0, .int .i64 b.y0, .int .i64 b.z0, .int .i64 f3, .int .i64 f4, .int .i64 f5] (Reg.eval_tmp e4) (Reg.eval_tmp e55) (HW.row3 hb) (by kernel_rfl) (rfl) (by simp [Value.oneCell']) ?_
        exact hK.out _ _ ⟨by rw [HA.out]; exact Reg.fill_none rfl, HW.st3⟩
      refine Reg.steps_cons (i := 4) ?_ ?_
      · rintro bb aa ww ⟨ha, HW⟩ hb hd hn
        have e5 : aa.tmps[5]? = some (.pointer (some ⟨w.heap.size + 3, 0, none⟩)) := by rw [ha]; exact (Reg.fill_off rfl).trans rfl
        have e56 : aa.tmps[56]? = some (.agg mm) := by rw [ha]; exact Reg.fill_on 1 rfl rfl (hd 1 (by decide)) rfl
        have HA := Lib.hid ha; clear ha; refine ⟨_, rfl, fun K hK => ?_⟩
        refine Reg.do_store rfl rfl 45 _ _ rfl (w.heap.size + 3) mm (Reg.eval_tmp e5) (Reg.eval_tmp e56) (HW.row4 hb) (HMI.out) (HMZ.out) (HMO.out) ?_
        exact hK.out _ _ ⟨by rw [HA.out]; exact Reg.fill_none rfl, HW.st4⟩
      refine Reg.steps_cons (i := 5) ?_ ?_
      · rintro bb aa ww ⟨ha, HW⟩ hb hd hn
        have e6 : aa.tmps[6]? = some (.pointer (some ⟨w.heap.size + 4, 0, none⟩)) := by rw [ha]; exact (Reg.fill_off rfl).trans rfl
        have e57 : aa.tmps[57]? = some (.agg #[.int .i64 s0, .int .i64 s1, .int .i64 s2, .int .i64 b.x1, .int .i64 b.y1, .int .i64 b.z1]) := by rw [ha]; exact Reg.fill_on 2 rfl rfl (hd 2 (by decide)) rfl
        have HA := Lib.hid ha; clear ha; refine ⟨_, rfl, fun K hK => ?_⟩
        refine Reg.do_store rfl rfl 45 _ _ rfl (w.heap.size + 4) #[.int .i64 s0, .int .i64 s1, .int .i64 s2, .int .i64 b.x1, .int .i64 b.y1, .int .i64 b.z1] (Reg.eval_tmp e6) (Reg.eval_tmp e57) (HW.row5 hb) (by kernel_rfl) (rfl) (by simp [Value.oneCell']) ?_
        exact hK.out _ _ ⟨by rw [HA.out]; exact Reg.fill_none rfl, HW.st5⟩
      exact trivial
    rintro bb aa W8 hall ⟨ha, HW⟩
    have HW : TR W7 w.heap.size #[.int .i64 b.x0, .int .i64 b.y0, .int .i64 b.z0, .int .i64 f3, .int .i64 f4, .int .i64 f5] mm #[.int .i64 s0, .int .i64 s1, .int .i64 s2, .int .i64 b.x1, .int .i64 b.y1, .int .i64 b.z1] true true true W8 := by have := HW; rw [hall 3 (by decide), hall 4 (by decide), hall 5 (by decide)] at this; exact this
    have hb0 := hall 0 (by decide)
    have hb1 := hall 1 (by decide)
    have hb2 := hall 2 (by decide)
    have hb3 := hall 3 (by decide)
    have hb4 := hall 4 (by decide)
    have hb5 := hall 5 (by decide)
    simp only [Reg.fill, hb0, hb1, hb2, if_true, Act.put, List.setIfInBounds_toArray, List.set_cons_zero, List.set_cons_succ] at ha
    clear hb0 hb1 hb2 hb3 hb4 hb5 hall
    subst ha
    have HB := Lib.hid (HB.out.trans (HW.1.below (B := w.heap.size) HB.out.size (fun i e => by omega)))
    obtain ⟨_, hz2, hz3, hz4⟩ := HW
    rw [if_pos rfl] at hz2 hz3 hz4
    rw [HMQ.out] at hz3
    have v20 := (row_cells hz2).1 0
    have v21 := (row_cells hz2).1 1
    have v22 := (row_cells hz2).1 2
    have v23 := (row_cells hz2).1 3
    have v24 := (row_cells hz2).1 4
    have v25 := (row_cells hz2).1 5
    have v30 := (row_cells hz3).1 0
    have v31 := (row_cells hz3).1 1
    have v32 := (row_cells hz3).1 2
    have v33 := (row_cells hz3).1 3
    have v34 := (row_cells hz3).1 4
    have v35 := (row_cells hz3).1 5
    have v40 := (row_cells hz4).1 0
    have v41 := (row_cells hz4).1 1
    have v42 := (row_cells hz4).1 2
    have v43 := (row_cells hz4).1 3
    have v44 := (row_cells hz4).1 4
    have v45 := (row_cells hz4).1 5
    clear hz2 hz3 hz4
    go_wp2_with fail
    refine bodyPost_ret (v := .tuple #[.agg #[.int .i64 b.x0, .int .i64 b.y0, .int .i64 b.z0, .int .i64 f3, .int .i64 f4, .int .i64 f5], .agg #[.int .i64 0, .int .i64 0, .int .i64 0, .int .i64 0, .int .i64 0, .int .i64 0], .agg #[.int .i64 s0, .int .i64 s1, .int .i64 s2, .int .i64 b.x1, .int .i64 b.y1, .int .i64 b.z1]]) (by simp [results, Tryz.results50, go_sem, *]) rfl ⟨⟨_, rfl, by simp [Value.oneCell'], rfl⟩, HB.out⟩
  · have HW := (PR.start HR.out).set3 (i := 0) (j := 1) (k := 2) (u := .int .i64 s0) (v := .int .i64 s1) (x := .int .i64 s2)
    have t0 := (row_cells HR.out).1 0
    have t1 := (row_cells HR.out).1 1
    have t2 := (row_cells HR.out).1 2
    have tf0 := (row_cells HR.out).2 0
    have tf1 := (row_cells HR.out).2 1
    have tf2 := (row_cells HR.out).2 2
    have hlt_ := HW.2.1
    have HRB := Lib.hid (HW.other (by omega) HRB.out)
    have HRC := Lib.hid (HW.other (by omega) HRC.out)
    have HZ2 := Lib.hid (HW.other (by omega) HZ2.out)
    have HZ3 := Lib.hid (HW.other (by omega) HZ3.out)
    have HZ4 := Lib.hid (HW.other (by omega) HZ4.out)
    have HP := Lib.hid (HW.other (hpr) HP.out)
    have HQ := Lib.hid (HW.other (hqr) HQ.out)
    have HR : Hid ((((w5.setCell ⟨r, 0, none⟩ (.int .i64 s0)).setCell ⟨r, 1, none⟩ (.int .i64 s1)).setCell ⟨r, 2, none⟩ (.int .i64 s2)).heap[r]? = some (.cells #[.int .i64 s0, .int .i64 s1, .int .i64 s2, .int .i64 b.x1, .int .i64 b.y1, .int .i64 b.z1] 45 (0, 0))) := Lib.hid HW.2.2
    have HB := Lib.hid (HB.out.trans (HW.1.below (B := w.heap.size) HB.out.size (fun i e => by omega)))
    clear HW hlt_
    have c2 := (row_cells HRC.out).1 2
    have hkq : (k == 0) = false := by simpa using hk0
    go_wp2_with fail
    clear t0 t1 t2 tf0 tf1 tf2 c2 hkq
    generalize (((w5.setCell ⟨r, 0, none⟩ (.int .i64 s0)).setCell ⟨r, 1, none⟩ (.int .i64 s1)).setCell ⟨r, 2, none⟩ (.int .i64 s2)) = W7 at *
    obtain ⟨mm, hmm⟩ : ∃ mm : Array Value, mm = #[.int .i64 m0, .int .i64 m1, .int .i64 m2, .int .i64 m3, .int .i64 m4, .int .i64 m5] := ⟨_, rfl⟩
    rw [← hmm] at HQ
    have HMM : Hid (mm.size = 6) := Lib.hid (by rw [hmm]; rfl)
    have HMI : Hid ((Tryz.prog.info? 45).map (·.size) = some mm.size) := Lib.hid (by rw [hmm]; kernel_rfl)
    have HMZ : Hid ((#[.int .i64 0, .int .i64 0, .int .i64 0, .int .i64 0, .int .i64 0, .int .i64 0] : Array Value).size = mm.size) := Lib.hid (by simp [hmm])
    have HMO : Hid (mm.all (·.oneCell') = true) := Lib.hid (by rw [hmm]; simp [Value.oneCell'])
    have HMQ := Lib.hid hmm
    clear hmm
    have HP7 := HP
    have HQ7 := HQ
    have HR7 := HR
    have HNp := Lib.hid (show p ≠ w.heap.size + 2 ∧ p ≠ w.heap.size + 3 ∧ p ≠ w.heap.size + 4 by omega)
    have HNq := Lib.hid (show q ≠ w.heap.size + 2 ∧ q ≠ w.heap.size + 3 ∧ q ≠ w.heap.size + 4 by omega)
    have HNr := Lib.hid (show r ≠ w.heap.size + 2 ∧ r ≠ w.heap.size + 3 ∧ r ≠ w.heap.size + 4 by omega)
    refine Reg.region_inv [[], [], [], [0], [0, 1, 3], [0, 1, 2, 3, 4]] [[], [], [], [0], [0, 1, 3], [0, 1, 2, 3, 4]] (fun a0_ bb aa ww => aa = Reg.fill bb [(0, 55, .agg #[.int .i64 b.x0, .int .i64 b.y0, .int .i64 b.z0, .int .i64 f3, .int .i64 f4, .int .i64 f5]), (1, 56, .agg mm), (2, 57, .agg #[.int .i64 s0, .int .i64 s1, .int .i64 s2, .int .i64 b.x1, .int .i64 b.y1, .int .i64 b.z1])] a0_ ∧ TR W7 (w.heap.size) #[.int .i64 b.x0, .int .i64 b.y0, .int .i64 b.z0, .int .i64 f3, .int .i64 f4, .int .i64 f5] mm #[.int .i64 s0, .int .i64 s1, .int .i64 s2, .int .i64 b.x1, .int .i64 b.y1, .int .i64 b.z1] (bb 3) (bb 4) (bb 5) ww) (by kernel_rfl) (by kernel_rfl) (by kernel_rfl) ?_ ?_ ?_
    · exact ⟨Reg.fill_start.symm, TR.start HZ2.out HZ3.out HZ4.out⟩
    · refine Reg.steps_cons (i := 0) ?_ ?_
      · rintro bb aa ww ⟨ha, HW⟩ hb hd hn
        have e7 : aa.tmps[7]? = some (.pointer (some ⟨p, 0, none⟩)) := by rw [ha]; exact (Reg.fill_off rfl).trans rfl
        have HA := Lib.hid ha; clear ha; refine ⟨_, rfl, fun K hK => ?_⟩
        refine Reg.do_load rfl rfl 45 _ rfl p (Reg.eval_tmp e7) (HW.other HNp.out.1 HNp.out.2.1 HNp.out.2.2 HP7.out) Tryz.underlying45 rfl (by kernel_rfl) ?_
        exact hK.out _ _ ⟨by rw [HA.out]; exact Reg.fill_up 0 hb rfl rfl rfl, HW⟩
      refine Reg.steps_cons (i := 1) ?_ ?_
      · rintro bb aa ww ⟨ha, HW⟩ hb hd hn
        have e8 : aa.tmps[8]? = some (.pointer (some ⟨q, 0, none⟩)) := by rw [ha]; exact (Reg.fill_off rfl).trans rfl
        have HA := Lib.hid ha; clear ha; refine ⟨_, rfl, fun K hK => ?_⟩
        refine Reg.do_load rfl rfl 45 _ rfl q (Reg.eval_tmp e8) (HW.other HNq.out.1 HNq.out.2.1 HNq.out.2.2 HQ7.out) Tryz.underlying45 rfl (HMI.out) ?_
        exact hK.out _ _ ⟨by rw [HA.out]; exact Reg.fill_up 1 hb rfl rfl rfl, HW⟩
      refine Reg.steps_cons (i := 2) ?_ ?_
      · rintro bb aa ww ⟨ha, HW⟩ hb hd hn
        have e9 : aa.tmps[9]? = some (.pointer (some ⟨r, 0, none⟩)) := by rw [ha]; exact (Reg.fill_off rfl).trans rfl
        have HA := Lib.hid ha; clear ha; refine ⟨_, rfl, fun K hK => ?_⟩
        refine Reg.do_load rfl rfl 45 _ rfl r (Reg.eval_tmp e9) (HW.other HNr.out.1 HNr.out.2.1 HNr.out.2.2 HR7.out) Tryz.underlying45 rfl (by kernel_rfl) ?_
        exact hK.out _ _ ⟨by rw [HA.out]; exact Reg.fill_up 2 hb rfl rfl rfl, HW⟩
      refine Reg.steps_cons (i := 3) ?_ ?_
      · rintro bb aa ww ⟨ha, HW⟩ hb hd hn
        have e4 : aa.tmps[4]? = some (.pointer (some ⟨w.heap.size + 2, 0, none⟩)) := by rw [ha]; exact (Reg.fill_off rfl).trans rfl
        have e55 : aa.tmps[55]? = some (.agg #[.int .i64 b.x0, .int .i64 b.y0, .int .i64 b.z0, .int .i64 f3, .int .i64 f4, .int .i64 f5]) := by rw [ha]; exact Reg.fill_on 0 rfl rfl (hd 0 (by decide)) rfl
        have HA := Lib.hid ha; clear ha; refine ⟨_, rfl, fun K hK => ?_⟩
        refine Reg.do_store rfl rfl 45 _ _ rfl (w.heap.size + 2) #[.int .i64 b.x0, .int .i64 b.y0, .int .i64 b.z0, .int .i64 f3, .int .i64 f4, .int .i64 f5] (Reg.eval_tmp e4) (Reg.eval_tmp e55) (HW.row3 hb) (by kernel_rfl) (rfl) (by simp [Value.oneCell']) ?_
        exact hK.out _ _ ⟨by rw [HA.out]; exact Reg.fill_none rfl, HW.st3⟩
      refine Reg.steps_cons (i := 4) ?_ ?_
      · rintro bb aa ww ⟨ha, HW⟩ hb hd hn
        have e5 : aa.tmps[5]? = some (.pointer (some ⟨w.heap.size + 3, 0, none⟩)) := by rw [ha]; exact (Reg.fill_off rfl).trans rfl
        have e56 : aa.tmps[56]? = some (.agg mm) := by rw [ha]; exact Reg.fill_on 1 rfl rfl (hd 1 (by decide)) rfl
        have HA := Lib.hid ha; clear ha; refine ⟨_, rfl, fun K hK => ?_⟩
        refine Reg.do_store rfl rfl 45 _ _ rfl (w.heap.size + 3) mm (Reg.eval_tmp e5) (Reg.eval_tmp e56) (HW.row4 hb) (HMI.out) (HMZ.out) (HMO.out) ?_
        exact hK.out _ _ ⟨by rw [HA.out]; exact Reg.fill_none rfl, HW.st4⟩
      refine Reg.steps_cons (i := 5) ?_ ?_
      · rintro bb aa ww ⟨ha, HW⟩ hb hd hn
        have e6 : aa.tmps[6]? = some (.pointer (some ⟨w.heap.size + 4, 0, none⟩)) := by rw [ha]; exact (Reg.fill_off rfl).trans rfl
        have e57 : aa.tmps[57]? = some (.agg #[.int .i64 s0, .int .i64 s1, .int .i64 s2, .int .i64 b.x1, .int .i64 b.y1, .int .i64 b.z1]) := by rw [ha]; exact Reg.fill_on 2 rfl rfl (hd 2 (by decide)) rfl
        have HA := Lib.hid ha; clear ha; refine ⟨_, rfl, fun K hK => ?_⟩
        refine Reg.do_store rfl rfl 45 _ _ rfl (w.heap.size + 4) #[.int .i64 s0, .int .i64 s1, .int .i64 s2, .int .i64 b.x1, .int .i64 b.y1, .int .i64 b.z1] (Reg.eval_tmp e6) (Reg.eval_tmp e57) (HW.row5 hb) (by kernel_rfl) (rfl) (by simp [Value.oneCell']) ?_
        exact hK.out _ _ ⟨by rw [HA.out]; exact Reg.fill_none rfl, HW.st5⟩
      exact trivial
    rintro bb aa W8 hall ⟨ha, HW⟩
    have HW : TR W7 w.heap.size #[.int .i64 b.x0, .int .i64 b.y0, .int .i64 b.z0, .int .i64 f3, .int .i64 f4, .int .i64 f5] mm #[.int .i64 s0, .int .i64 s1, .int .i64 s2, .int .i64 b.x1, .int .i64 b.y1, .int .i64 b.z1] true true true W8 := by have := HW; rw [hall 3 (by decide), hall 4 (by decide), hall 5 (by decide)] at this; exact this
    have hb0 := hall 0 (by decide)
    have hb1 := hall 1 (by decide)
    have hb2 := hall 2 (by decide)
    have hb3 := hall 3 (by decide)
    have hb4 := hall 4 (by decide)
    have hb5 := hall 5 (by decide)
    simp only [Reg.fill, hb0, hb1, hb2, if_true, Act.put, List.setIfInBounds_toArray, List.set_cons_zero, List.set_cons_succ] at ha
    clear hb0 hb1 hb2 hb3 hb4 hb5 hall
    subst ha
    have HB := Lib.hid (HB.out.trans (HW.1.below (B := w.heap.size) HB.out.size (fun i e => by omega)))
    obtain ⟨_, hz2, hz3, hz4⟩ := HW
    rw [if_pos rfl] at hz2 hz3 hz4
    rw [HMQ.out] at hz3
    have v20 := (row_cells hz2).1 0
    have v21 := (row_cells hz2).1 1
    have v22 := (row_cells hz2).1 2
    have v23 := (row_cells hz2).1 3
    have v24 := (row_cells hz2).1 4
    have v25 := (row_cells hz2).1 5
    have v30 := (row_cells hz3).1 0
    have v31 := (row_cells hz3).1 1
    have v32 := (row_cells hz3).1 2
    have v33 := (row_cells hz3).1 3
    have v34 := (row_cells hz3).1 4
    have v35 := (row_cells hz3).1 5
    have v40 := (row_cells hz4).1 0
    have v41 := (row_cells hz4).1 1
    have v42 := (row_cells hz4).1 2
    have v43 := (row_cells hz4).1 3
    have v44 := (row_cells hz4).1 4
    have v45 := (row_cells hz4).1 5
    clear hz2 hz3 hz4
    go_wp2_with fail
    refine bodyPost_ret (v := .tuple #[.agg #[.int .i64 b.x0, .int .i64 b.y0, .int .i64 b.z0, .int .i64 f3, .int .i64 f4, .int .i64 f5], .agg #[.int .i64 m0, .int .i64 m1, .int .i64 m2, .int .i64 m3, .int .i64 m4, .int .i64 m5], .agg #[.int .i64 s0, .int .i64 s1, .int .i64 s2, .int .i64 b.x1, .int .i64 b.y1, .int .i64 b.z1]]) (by simp [results, Tryz.results50, go_sem, *]) rfl ⟨⟨_, rfl, by simp [Value.oneCell'], rfl⟩, HB.out⟩
end Go.Proofs.YtejhcbbfdfnfdaaGreatDoor.Yard
