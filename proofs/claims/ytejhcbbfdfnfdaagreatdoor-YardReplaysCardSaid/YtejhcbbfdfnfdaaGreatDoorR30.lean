/- Steps of guarded operations whose guard says yes, in a region that draws its order. -/
import Derived.Test.YtejhcbbfdfnfdaaGreatDoorR29
import Derived.Deep.RegionHeld3
import Derived.Test.YtejhcbbfdfnfdaaGreatDoorR16
/- The reference's At, Put and Check of a box. -/
namespace Go.Proofs.YtejhcbbfdfnfdaaGreatDoor.Yard
open Go.RowKit Go.Proofs.YtejhcbbfdfnfdaaGreatDoor.Base Go.Proofs.YtejhcbbfdfnfdaaGreatDoor.Mp
open Yp (It Yd Fact Bx)
set_option maxHeartbeats 1000000 in
theorem rat_any (x y z : Int) (a : Int) (ha : 0 ≤ a ∧ a ≤ 2) (w : World) : Calls Tryz.prog 155 #[.agg #[.int .i64 x, .int .i64 y, .int .i64 z], .int .i64 a] w fun e w' => e = .returned (.int .i64 (if a = 0 then x else if a = 1 then y else z)) ∧ Below w.heap.size w w' := by
  have HB := Lib.hid (al_below w (.cells #[.int .i64 x, .int .i64 y, .int .i64 z] 43))
  have r0 := (row_cells (new_block w (.cells #[.int .i64 x, .int .i64 y, .int .i64 z] 43))).1 0
  have r1 := (row_cells (new_block w (.cells #[.int .i64 x, .int .i64 y, .int .i64 z] 43))).1 1
  have r2 := (row_cells (new_block w (.cells #[.int .i64 x, .int .i64 y, .int .i64 z] 43))).1 2
  obtain rfl | rfl | rfl : a = 0 ∨ a = 1 ∨ a = 2 := by omega
  all_goals
    go_enter Tryz.func155, Tryz.ntmps155
    go_wp2_with fail
    go_ret
    exact ⟨rfl, HB.out⟩
set_option maxRecDepth 100000 in
set_option maxHeartbeats 2000000 in
theorem rput0 (x y z n : Int) (w : World) : Calls Tryz.prog 87 #[.agg #[.int .i64 x, .int .i64 y, .int .i64 z], .int .i64 0, .int .i64 n] w fun e w' => e = .returned (.agg #[.int .i64 n, .int .i64 y, .int .i64 z]) ∧ Below w.heap.size w w' := by
  go_enter Tryz.func87, Tryz.ntmps87
  go_wp2_with fail
  refine bodyPost_ret (v := .agg #[.int .i64 n, .int .i64 y, .int .i64 z]) (by simp [results, Tryz.results87, go_sem, *]) rfl ⟨rfl, ?_⟩
  (repeat' (first | (with_reducible exact Below.refl _ _) | (with_reducible refine Below.drew ?_) | (with_reducible refine Below.setCell ?_ ?_ _) | (with_reducible refine Below.alloc ?_ ?_ _) | (simp; done) | (simp; omega)))
set_option maxRecDepth 100000 in
set_option maxHeartbeats 2000000 in
theorem rput1 (x y z n : Int) (w : World) : Calls Tryz.prog 87 #[.agg #[.int .i64 x, .int .i64 y, .int .i64 z], .int .i64 1, .int .i64 n] w fun e w' => e = .returned (.agg #[.int .i64 x, .int .i64 n, .int .i64 z]) ∧ Below w.heap.size w w' := by
  go_enter Tryz.func87, Tryz.ntmps87
  go_wp2_with fail
  refine bodyPost_ret (v := .agg #[.int .i64 x, .int .i64 n, .int .i64 z]) (by simp [results, Tryz.results87, go_sem, *]) rfl ⟨rfl, ?_⟩
  (repeat' (first | (with_reducible exact Below.refl _ _) | (with_reducible refine Below.drew ?_) | (with_reducible refine Below.setCell ?_ ?_ _) | (with_reducible refine Below.alloc ?_ ?_ _) | (simp; done) | (simp; omega)))
set_option maxRecDepth 100000 in
set_option maxHeartbeats 2000000 in
theorem rput2 (x y z n : Int) (w : World) : Calls Tryz.prog 87 #[.agg #[.int .i64 x, .int .i64 y, .int .i64 z], .int .i64 2, .int .i64 n] w fun e w' => e = .returned (.agg #[.int .i64 x, .int .i64 y, .int .i64 n]) ∧ Below w.heap.size w w' := by
  go_enter Tryz.func87, Tryz.ntmps87
  go_wp2_with fail
  refine bodyPost_ret (v := .agg #[.int .i64 x, .int .i64 y, .int .i64 n]) (by simp [results, Tryz.results87, go_sem, *]) rfl ⟨rfl, ?_⟩
  (repeat' (first | (with_reducible exact Below.refl _ _) | (with_reducible refine Below.drew ?_) | (with_reducible refine Below.setCell ?_ ?_ _) | (with_reducible refine Below.alloc ?_ ?_ _) | (simp; done) | (simp; omega)))
theorem rput_any (x y z n a : Int) (ha : 0 ≤ a ∧ a ≤ 2) (w : World) : Calls Tryz.prog 87 #[.agg #[.int .i64 x, .int .i64 y, .int .i64 z], .int .i64 a, .int .i64 n] w fun e w' => e = .returned (.agg #[.int .i64 (if a = 0 then n else x), .int .i64 (if a = 1 then n else y), .int .i64 (if a = 2 then n else z)]) ∧ Below w.heap.size w w' := by
  obtain rfl | rfl | rfl : a = 0 ∨ a = 1 ∨ a = 2 := by omega
  · exact rput0 x y z n w
  · exact rput1 x y z n w
  · exact rput2 x y z n w
def inRg (n : Int) : Prop := -1000000 ≤ n ∧ n ≤ 1000000
theorem bc_out {b : Bx} {c : Nat} (hc : c < 3) (h : ¬ inRg (Yp.axLo b c) ∨ ¬ inRg (Yp.axHi b c)) : Yp.boxCheck b = 6 := by
  unfold Yp.boxCheck
  rw [if_pos]
  unfold inRg at h
  unfold Yp.inR
  obtain rfl | rfl | rfl : c = 0 ∨ c = 1 ∨ c = 2 := by omega
  all_goals
    simp [Yp.axLo, Yp.axHi] at h
    rw [Bool.eq_false_iff]
    simp only [ne_eq, Bool.and_eq_true, decide_eq_true_eq]
    omega
theorem bc_in {b : Bx} (h : ∀ c : Nat, c < 3 → inRg (Yp.axLo b c) ∧ inRg (Yp.axHi b c)) : Yp.boxCheck b = if b.x1 ≤ b.x0 ∨ b.y1 ≤ b.y0 ∨ b.z1 ≤ b.z0 then 1 else 0 := by
  have h0 := h 0 (by decide)
  have h1 := h 1 (by decide)
  have h2 := h 2 (by decide)
  simp [Yp.axLo, Yp.axHi, inRg] at h0 h1 h2
  unfold Yp.boxCheck
  rw [if_neg]
  unfold Yp.inR
  rw [Bool.eq_false_iff]
  simp only [ne_eq, Bool.and_eq_true, decide_eq_true_eq]
  omega
theorem bc_one {b : Bx} (h : ∀ c : Nat, c < 3 → inRg (Yp.axLo b c) ∧ inRg (Yp.axHi b c)) {c : Nat} (hc : c < 3) (h2 : Yp.axHi b c ≤ Yp.axLo b c) : Yp.boxCheck b = 1 := by
  rw [bc_in h, if_pos]
  obtain rfl | rfl | rfl : c = 0 ∨ c = 1 ∨ c = 2 := by omega
  all_goals
    simp [Yp.axLo, Yp.axHi] at h2
    omega
theorem bc_zero {b : Bx} (h : ∀ c : Nat, c < 3 → inRg (Yp.axLo b c) ∧ inRg (Yp.axHi b c)) (h2 : ∀ c : Nat, c < 3 → Yp.axLo b c < Yp.axHi b c) : Yp.boxCheck b = 0 := by
  rw [bc_in h, if_neg]
  have h0 := h2 0 (by decide)
  have h1 := h2 1 (by decide)
  have h3 := h2 2 (by decide)
  simp [Yp.axLo, Yp.axHi] at h0 h1 h3
  omega
set_option maxRecDepth 100000 in
set_option maxHeartbeats 8000000 in
theorem rboxCheck_any (b : Bx) (w : World) : Calls Tryz.prog 122 #[.agg (bxC b)] w fun e w' => e = .returned (.int .i64 (Yp.boxCheck b)) ∧ Below w.heap.size w w' := by
  have HB0 := Lib.hid (al_below w (.cells #[.int .i64 b.x0, .int .i64 b.y0, .int .i64 b.z0, .int .i64 b.x1, .int .i64 b.y1, .int .i64 b.z1] 45))
  have HR0 := Lib.hid (new_block w (.cells #[.int .i64 b.x0, .int .i64 b.y0, .int .i64 b.z0, .int .i64 b.x1, .int .i64 b.y1, .int .i64 b.z1] 45))
  rw [show bxC b = #[.int .i64 b.x0, .int .i64 b.y0, .int .i64 b.z0, .int .i64 b.x1, .int .i64 b.y1, .int .i64 b.z1] from rfl]
  go_enter Tryz.func122, Tryz.ntmps122
  go_wp2_with fail
  generalize w.alloc (.cells #[.int .i64 b.x0, .int .i64 b.y0, .int .i64 b.z0, .int .i64 b.x1, .int .i64 b.y1, .int .i64 b.z1] 45) = W at *
  go_loopw [3] (fun n wr => ∃ c : Nat, c ≤ 3 ∧ n = .int .i64 c ∧ (∀ k : Nat, k < c → inRg (Yp.axLo b k) ∧ inRg (Yp.axHi b k)) ∧ wr.heap[w.heap.size]? = some (.cells #[.int .i64 b.x0, .int .i64 b.y0, .int .i64 b.z0, .int .i64 b.x1, .int .i64 b.y1, .int .i64 b.z1] 45 (0, 0)) ∧ Below w.heap.size w wr) (fun n _ => 3 - (intOf n).toNat)
  case atStart => exact ⟨0, by omega, rfl, fun k h => by omega, HR0.out, HB0.out⟩
  case round =>
    obtain ⟨c, hc, rfl, hall, hr, hb⟩ := hrel
    have HA := Lib.hid hall
    have HB := Lib.hid hb
    have HR := Lib.hid hr
    clear hall hr hb
    by_cases hlt : c < 3
    · have hlo := rat_any b.x0 b.y0 b.z0 c (by omega)
      have hhi := rat_any b.x1 b.y1 b.z1 c (by omega)
      have HOUT : Hid ((¬ inRg (Yp.axLo b c) ∨ ¬ inRg (Yp.axHi b c)) → Yp.boxCheck b = 6) := Lib.hid (bc_out hlt)
      have HIN : Hid (inRg (Yp.axLo b c) ∧ inRg (Yp.axHi b c) → ∀ k : Nat, k < c + 1 → inRg (Yp.axLo b k) ∧ inRg (Yp.axHi b k)) := Lib.hid (fun hq k hk => by
        rcases Nat.lt_or_ge k c with g | g
        · exact HA.out k g
        · obtain rfl : k = c := by omega
          exact hq)
      rw [show (if (c : Int) = 0 then b.x0 else if (c : Int) = 1 then b.y0 else b.z0) = Yp.axLo b c from rfl] at hlo
      rw [show (if (c : Int) = 0 then b.x1 else if (c : Int) = 1 then b.y1 else b.z1) = Yp.axHi b c from rfl] at hhi
      generalize Yp.axLo b c = lo at hlo HOUT HIN ⊢
      generalize Yp.axHi b c = hi at hhi HOUT HIN ⊢
      go_wp2_with fail
      have K : wr.cell? ⟨w.heap.size, 0, none⟩ = some (.int .i64 b.x0) ∧ wr.cell? ⟨w.heap.size, 1, none⟩ = some (.int .i64 b.y0) ∧ wr.cell? ⟨w.heap.size, 2, none⟩ = some (.int .i64 b.z0) ∧ wr.cell? ⟨w.heap.size, 3, none⟩ = some (.int .i64 b.x1) ∧ wr.cell? ⟨w.heap.size, 4, none⟩ = some (.int .i64 b.y1) ∧ wr.cell? ⟨w.heap.size, 5, none⟩ = some (.int .i64 b.z1) := ⟨(row_cells HR.out).1 0, (row_cells HR.out).1 1, (row_cells HR.out).1 2, (row_cells HR.out).1 3, (row_cells HR.out).1 4, (row_cells HR.out).1 5⟩
      go_region_held3 (fun w' => w'.cell? ⟨w.heap.size, 0, none⟩ = some (.int .i64 b.x0) ∧ w'.cell? ⟨w.heap.size, 1, none⟩ = some (.int .i64 b.y0) ∧ w'.cell? ⟨w.heap.size, 2, none⟩ = some (.int .i64 b.z0) ∧ w'.cell? ⟨w.heap.size, 3, none⟩ = some (.int .i64 b.x1) ∧ w'.cell? ⟨w.heap.size, 4, none⟩ = some (.int .i64 b.y1) ∧ w'.cell? ⟨w.heap.size, 5, none⟩ = some (.int .i64 b.z1)) ((first | (simp only [*, and_self]; done) | (simp [*, go_sem]; done)))
        (first
          | (go_at_call 155; ((first | (with_reducible refine (hlo _).mono ?_) | (with_reducible refine (hhi _).mono ?_)); rintro e w6 ⟨rfl, hb⟩; have HR := Lib.hid (row_after hb HR.out); have HB := Lib.hid (HB.out.drew.trans (hb.mono HB.out.size)); clear hb; have K : w6.cell? ⟨w.heap.size, 0, none⟩ = some (.int .i64 b.x0) ∧ w6.cell? ⟨w.heap.size, 1, none⟩ = some (.int .i64 b.y0) ∧ w6.cell? ⟨w.heap.size, 2, none⟩ = some (.int .i64 b.z0) ∧ w6.cell? ⟨w.heap.size, 3, none⟩ = some (.int .i64 b.x1) ∧ w6.cell? ⟨w.heap.size, 4, none⟩ = some (.int .i64 b.y1) ∧ w6.cell? ⟨w.heap.size, 5, none⟩ = some (.int .i64 b.z1) := ⟨(row_cells HR.out).1 0, (row_cells HR.out).1 1, (row_cells HR.out).1 2, (row_cells HR.out).1 3, (row_cells HR.out).1 4, (row_cells HR.out).1 5⟩))
          | (go_at_call 155; ((first | (with_reducible refine (hlo _).mono ?_) | (with_reducible refine (hhi _).mono ?_)); rintro e w7 ⟨rfl, hb⟩; have HR := Lib.hid (row_after hb HR.out); have HB := Lib.hid (HB.out.trans (hb.mono HB.out.size)); clear hb; have K : w7.cell? ⟨w.heap.size, 0, none⟩ = some (.int .i64 b.x0) ∧ w7.cell? ⟨w.heap.size, 1, none⟩ = some (.int .i64 b.y0) ∧ w7.cell? ⟨w.heap.size, 2, none⟩ = some (.int .i64 b.z0) ∧ w7.cell? ⟨w.heap.size, 3, none⟩ = some (.int .i64 b.x1) ∧ w7.cell? ⟨w.heap.size, 4, none⟩ = some (.int .i64 b.y1) ∧ w7.cell? ⟨w.heap.size, 5, none⟩ = some (.int .i64 b.z1) := ⟨(row_cells HR.out).1 0, (row_cells HR.out).1 1, (row_cells HR.out).1 2, (row_cells HR.out).1 3, (row_cells HR.out).1 4, (row_cells HR.out).1 5⟩)))
      clear K
      by_cases c1 : lo < -1000000
      · have HF := Lib.hid (HOUT.out (.inl (by unfold inRg; omega)))
        go_wp2_with fail
        go_ret
        rw [HF.out]
        exact ⟨rfl, HB.out⟩
      · by_cases c2 : 1000000 < lo
        · have HF := Lib.hid (HOUT.out (.inl (by unfold inRg; omega)))
          go_wp2_with fail
          go_ret
          rw [HF.out]
          exact ⟨rfl, HB.out⟩
        · by_cases c3 : hi < -1000000
          · have HF := Lib.hid (HOUT.out (.inr (by unfold inRg; omega)))
            go_wp2_with fail
            go_ret
            rw [HF.out]
            exact ⟨rfl, HB.out⟩
          · by_cases c4 : 1000000 < hi
            · have HF := Lib.hid (HOUT.out (.inr (by unfold inRg; omega)))
              go_wp2_with fail
              go_ret
              rw [HF.out]
              exact ⟨rfl, HB.out⟩
            · have HT := Lib.hid (HIN.out ⟨by unfold inRg; omega, by unfold inRg; omega⟩)
              go_wp2_with fail
              exact ⟨⟨c + 1, hlt, by go_num, HT.out, HR.out, HB.out⟩, by simp [intOf]; omega⟩
    · obtain rfl : c = 3 := by omega
      go_wp2_with fail
      go_loopw [6] (fun n wr => ∃ c : Nat, c ≤ 3 ∧ n = .int .i64 c ∧ (∀ k : Nat, k < c → Yp.axLo b k < Yp.axHi b k) ∧ wr.heap[w.heap.size]? = some (.cells #[.int .i64 b.x0, .int .i64 b.y0, .int .i64 b.z0, .int .i64 b.x1, .int .i64 b.y1, .int .i64 b.z1] 45 (0, 0)) ∧ Below w.heap.size w wr) (fun n _ => 3 - (intOf n).toNat)
      case atStart => exact ⟨0, by omega, rfl, fun k h => by omega, HR.out, HB.out⟩
      case round =>
        obtain ⟨c, hc, rfl, hall, hr, hb⟩ := hrel
        have HA2 := Lib.hid hall
        have HB := Lib.hid hb
        have HR := Lib.hid hr
        clear hall hr hb
        by_cases hlt : c < 3
        · have hlo := rat_any b.x0 b.y0 b.z0 c (by omega)
          have hhi := rat_any b.x1 b.y1 b.z1 c (by omega)
          have HOUT : Hid (Yp.axHi b c ≤ Yp.axLo b c → Yp.boxCheck b = 1) := Lib.hid (bc_one HA.out hlt)
          have HIN : Hid (Yp.axLo b c < Yp.axHi b c → ∀ k : Nat, k < c + 1 → Yp.axLo b k < Yp.axHi b k) := Lib.hid (fun hq k hk => by
            rcases Nat.lt_or_ge k c with g | g
            · exact HA2.out k g
            · obtain rfl : k = c := by omega
              exact hq)
          rw [show (if (c : Int) = 0 then b.x0 else if (c : Int) = 1 then b.y0 else b.z0) = Yp.axLo b c from rfl] at hlo
          rw [show (if (c : Int) = 0 then b.x1 else if (c : Int) = 1 then b.y1 else b.z1) = Yp.axHi b c from rfl] at hhi
          generalize Yp.axLo b c = lo at hlo HOUT HIN ⊢
          generalize Yp.axHi b c = hi at hhi HOUT HIN ⊢
          go_wp2_with fail
          have K : wr.cell? ⟨w.heap.size, 0, none⟩ = some (.int .i64 b.x0) ∧ wr.cell? ⟨w.heap.size, 1, none⟩ = some (.int .i64 b.y0) ∧ wr.cell? ⟨w.heap.size, 2, none⟩ = some (.int .i64 b.z0) ∧ wr.cell? ⟨w.heap.size, 3, none⟩ = some (.int .i64 b.x1) ∧ wr.cell? ⟨w.heap.size, 4, none⟩ = some (.int .i64 b.y1) ∧ wr.cell? ⟨w.heap.size, 5, none⟩ = some (.int .i64 b.z1) := ⟨(row_cells HR.out).1 0, (row_cells HR.out).1 1, (row_cells HR.out).1 2, (row_cells HR.out).1 3, (row_cells HR.out).1 4, (row_cells HR.out).1 5⟩
          go_region_held3 (fun w' => w'.cell? ⟨w.heap.size, 0, none⟩ = some (.int .i64 b.x0) ∧ w'.cell? ⟨w.heap.size, 1, none⟩ = some (.int .i64 b.y0) ∧ w'.cell? ⟨w.heap.size, 2, none⟩ = some (.int .i64 b.z0) ∧ w'.cell? ⟨w.heap.size, 3, none⟩ = some (.int .i64 b.x1) ∧ w'.cell? ⟨w.heap.size, 4, none⟩ = some (.int .i64 b.y1) ∧ w'.cell? ⟨w.heap.size, 5, none⟩ = some (.int .i64 b.z1)) ((first | (simp only [*, and_self]; done) | (simp [*, go_sem]; done)))
            (first
              | (go_at_call 155; ((first | (with_reducible refine (hlo _).mono ?_) | (with_reducible refine (hhi _).mono ?_)); rintro e w6 ⟨rfl, hb⟩; have HR := Lib.hid (row_after hb HR.out); have HB := Lib.hid (HB.out.drew.trans (hb.mono HB.out.size)); clear hb; have K : w6.cell? ⟨w.heap.size, 0, none⟩ = some (.int .i64 b.x0) ∧ w6.cell? ⟨w.heap.size, 1, none⟩ = some (.int .i64 b.y0) ∧ w6.cell? ⟨w.heap.size, 2, none⟩ = some (.int .i64 b.z0) ∧ w6.cell? ⟨w.heap.size, 3, none⟩ = some (.int .i64 b.x1) ∧ w6.cell? ⟨w.heap.size, 4, none⟩ = some (.int .i64 b.y1) ∧ w6.cell? ⟨w.heap.size, 5, none⟩ = some (.int .i64 b.z1) := ⟨(row_cells HR.out).1 0, (row_cells HR.out).1 1, (row_cells HR.out).1 2, (row_cells HR.out).1 3, (row_cells HR.out).1 4, (row_cells HR.out).1 5⟩))
              | (go_at_call 155; ((first | (with_reducible refine (hlo _).mono ?_) | (with_reducible refine (hhi _).mono ?_)); rintro e w7 ⟨rfl, hb⟩; have HR := Lib.hid (row_after hb HR.out); have HB := Lib.hid (HB.out.trans (hb.mono HB.out.size)); clear hb; have K : w7.cell? ⟨w.heap.size, 0, none⟩ = some (.int .i64 b.x0) ∧ w7.cell? ⟨w.heap.size, 1, none⟩ = some (.int .i64 b.y0) ∧ w7.cell? ⟨w.heap.size, 2, none⟩ = some (.int .i64 b.z0) ∧ w7.cell? ⟨w.heap.size, 3, none⟩ = some (.int .i64 b.x1) ∧ w7.cell? ⟨w.heap.size, 4, none⟩ = some (.int .i64 b.y1) ∧ w7.cell? ⟨w.heap.size, 5, none⟩ = some (.int .i64 b.z1) := ⟨(row_cells HR.out).1 0, (row_cells HR.out).1 1, (row_cells HR.out).1 2, (row_cells HR.out).1 3, (row_cells HR.out).1 4, (row_cells HR.out).1 5⟩)))
          clear K
          by_cases c1 : hi ≤ lo
          · have HF := Lib.hid (HOUT.out c1)
            go_wp2_with fail
            go_ret
            rw [HF.out]
            exact ⟨rfl, HB.out⟩
          · have c2 : lo < hi := by omega
            have HT := Lib.hid (HIN.out c2)
            go_wp2_with fail
            exact ⟨⟨c + 1, hlt, by go_num, HT.out, HR.out, HB.out⟩, by simp [intOf]; omega⟩
        · obtain rfl : c = 3 := by omega
          have HF := Lib.hid (bc_zero HA.out HA2.out)
          go_wp2_with fail
          go_ret
          rw [HF.out]
          exact ⟨rfl, HB.out⟩
end Go.Proofs.YtejhcbbfdfnfdaaGreatDoor.Yard

/- Steps of guarded operations whose guard says yes, in a region that draws its order. -/
namespace Go.Proofs.YtejhcbbfdfnfdaaGreatDoor.Reg
open Go.RowKit
section
variable {P : Program} {ops : Array Oper} {Q : Exit → Act → World → Prop} {oi : Oper} {a : Act} {w w1 : World} {N : Option Tmp} {K : Act → World → Prop}
theorem want_on {og : Oper} {g : Nat} {t : Tmp} {u : Bool} (hg : oi.guard = some (g, u)) (ho : ops[g]? = some og) (hd : og.dst = some t) (hv : a.tmps[t]? = some (.bool u)) : Region.wanted oi (yielded ops a.tmps) = true := by
  cases u <;> simp_all [Region.wanted, yielded]
theorem won_val {v : Value} (hw : Region.wanted oi (yielded ops a.tmps) = true) (hN : oi.dst = N) (hrun : (execOp a.eval oi).run P w = .ok (.value v) w1) (h : K (a.put N v) w1) :
    if Region.wanted oi (yielded ops a.tmps) = true then Oper.wp P oi a w K Q else K (a.put oi.dst undef) w := by
  rw [if_pos hw]
  subst hN
  unfold Oper.wp
  rw [hrun]
  exact h
theorem won_call {f : FuncId} {fn : Func} {ops_ : Array Operand} {ts : Array TypeId} (hw : Region.wanted oi (yielded ops a.tmps) = true) (hN : oi.dst = N) (hf : P.funcs[f]? = some fn) (hname : (fn.name == "runtime.NumGoroutine") = false) (hb : fn.body.isSome = true) (args : Array Value)
    (hop : oi.op = .call { callee := .value (.func f), args := ops_, argTypes := ts }) (hargs : ops_.map a.eval = args)
    (h : Calls P f args w fun e w' => ∃ v, e = .returned v ∧ K (a.put N v) w') : if Region.wanted oi (yielded ops a.tmps) = true then Oper.wp P oi a w K Q else K (a.put oi.dst undef) w := by
  rw [if_pos hw]
  have hrun : (execOp a.eval oi).run P w = .ok (.enter f args) w := by
    have he := enters hf hname hb args w
    unfold execOp
    simp [hop, resolve, Deferred.ofValue, invoke, Act.eval, hargs, he]
  subst hN
  unfold Oper.wp
  rw [hrun, Oper.upon_enter]
  refine h.mono fun e w'' hh => ?_
  obtain ⟨v, rfl, hk⟩ := hh
  exact hk
end
end Go.Proofs.YtejhcbbfdfnfdaaGreatDoor.Reg
