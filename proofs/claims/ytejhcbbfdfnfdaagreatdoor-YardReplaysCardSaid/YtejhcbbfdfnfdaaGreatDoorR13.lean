/- box's Overlap: what it returns. -/
import Derived.Test.YtejhcbbfdfnfdaaGreatDoorR10
import Derived.Deep.RegionHeld3
import Derived.Deep.DeepCutAuto
import Derived.Deep.QuietTactic
import Derived.BigQuiet
import Derived.StillTailTactics
/- box's common and Overlap: what they return. -/
namespace Go.Proofs.YtejhcbbfdfnfdaaGreatDoor.Box
open Go.RowKit Go.Proofs.YtejhcbbfdfnfdaaGreatDoor.Base
def bxs (x0 y0 z0 x1 y1 z1 : Int) : Array Value := #[.int .i64 x0, .int .i64 y0, .int .i64 z0, .int .i64 x1, .int .i64 y1, .int .i64 z1]
def mxi (x a : Int) : Int := if x < a then a else x
def mni (x a : Int) : Int := if a < x then a else x
def cm (x0 y0 z0 x1 y1 z1 a0 b0 c0 a1 b1 c1 : Int) : Nat → Array Value
  | 0 => #[.int .i64 x0, .int .i64 x1, .int .i64 y0, .int .i64 y1, .int .i64 z0, .int .i64 z1]
  | 1 => #[.int .i64 (mxi x0 a0), .int .i64 (mni x1 a1), .int .i64 y0, .int .i64 y1, .int .i64 z0, .int .i64 z1]
  | 2 => #[.int .i64 (mxi x0 a0), .int .i64 (mni x1 a1), .int .i64 (mxi y0 b0), .int .i64 (mni y1 b1), .int .i64 z0, .int .i64 z1]
  | _ => #[.int .i64 (mxi x0 a0), .int .i64 (mni x1 a1), .int .i64 (mxi y0 b0), .int .i64 (mni y1 b1), .int .i64 (mxi z0 c0), .int .i64 (mni z1 c1)]
theorem set2_same {wr : World} {g i j : Nat} {C : Array Value} {t : TypeId} {u v : Value} (hg : wr.heap[g]? = some (.cells C t (0, 0))) :
    ((wr.setCell ⟨g, i, none⟩ u).setCell ⟨g, j, none⟩ v).drew.heap[g]? = some (.cells ((C.setIfInBounds i u).setIfInBounds j v) t (0, 0)) :=
  heap_setCell_same _ _ _ _ _ _ (heap_setCell_same _ _ _ _ _ _ hg)
theorem set2_other {wr : World} {g h i j : Nat} {x : Obj} {u v : Value} (hh : wr.heap[h]? = some x) (hne : h ≠ g) : ((wr.setCell ⟨g, i, none⟩ u).setCell ⟨g, j, none⟩ v).drew.heap[h]? = some x :=
  (heap_setCell_other _ _ _ _ hne).trans ((heap_setCell_other _ _ _ _ hne).trans hh)
theorem set2_below {B g i j : Nat} {w wr : World} {u v : Value} (hb : Below B w wr) (hB : B ≤ g) : Below B w ((wr.setCell ⟨g, i, none⟩ u).setCell ⟨g, j, none⟩ v).drew :=
  ((hb.setCell hB _).setCell hB _).drew
set_option maxRecDepth 100000 in
set_option maxHeartbeats 1000000 in
theorem common_any (x0 y0 z0 x1 y1 z1 a0 b0 c0 a1 b1 c1 : Int) (w : World) : Calls Tryz.prog 127 #[.agg #[.int .i64 x0, .int .i64 y0, .int .i64 z0, .int .i64 x1, .int .i64 y1, .int .i64 z1], .agg #[.int .i64 a0, .int .i64 b0, .int .i64 c0, .int .i64 a1, .int .i64 b1, .int .i64 c1]] w fun e w' =>
    e = .returned (.agg (cm x0 y0 z0 x1 y1 z1 a0 b0 c0 a1 b1 c1 3)) ∧ Below w.heap.size w w' := by
  go_enter Tryz.func127, Tryz.ntmps127
  go_upto_region 1 with fail
  go_cut [5, 6] (fun s5 s6 wx => ∃ g h : Nat, s5 = .pointer (some ⟨g, 0, none⟩) ∧ s6 = .pointer (some ⟨h, 0, none⟩) ∧ g ≠ h ∧ w.heap.size + 2 < g ∧ w.heap.size + 2 < h ∧
    wx.heap[g]? = some (.cells #[.int .i64 x0, .int .i64 x1, .int .i64 y0, .int .i64 y1, .int .i64 z0, .int .i64 z1] 154 (0, 0)) ∧
    wx.heap[h]? = some (.cells #[.int .i64 a0, .int .i64 a1, .int .i64 b0, .int .i64 b1, .int .i64 c0, .int .i64 c1] 154 (0, 0)) ∧ Below (w.heap.size + 3) (((w.alloc (.cells #[.int .i64 x0, .int .i64 y0, .int .i64 z0, .int .i64 x1, .int .i64 y1, .int .i64 z1] 45)).alloc (.cells #[.int .i64 a0, .int .i64 b0, .int .i64 c0, .int .i64 a1, .int .i64 b1, .int .i64 c1] 45)).alloc (.cells #[.int .i64 0, .int .i64 0, .int .i64 0, .int .i64 0, .int .i64 0, .int .i64 0] 154)) wx)
  case first =>
    go_region_held3 (fun w' => w'.cell? ⟨w.heap.size, 0, none⟩ = some (.int .i64 x0) ∧ w'.cell? ⟨w.heap.size, 1, none⟩ = some (.int .i64 y0) ∧ w'.cell? ⟨w.heap.size, 2, none⟩ = some (.int .i64 z0) ∧ w'.cell? ⟨w.heap.size, 3, none⟩ = some (.int .i64 x1) ∧ w'.cell? ⟨w.heap.size, 4, none⟩ = some (.int .i64 y1) ∧ w'.cell? ⟨w.heap.size, 5, none⟩ = some (.int .i64 z1) ∧ w'.cell? ⟨w.heap.size + 1, 0, none⟩ = some (.int .i64 a0) ∧ w'.cell? ⟨w.heap.size + 1, 1, none⟩ = some (.int .i64 b0) ∧ w'.cell? ⟨w.heap.size + 1, 2, none⟩ = some (.int .i64 c0) ∧ w'.cell? ⟨w.heap.size + 1, 3, none⟩ = some (.int .i64 a1) ∧ w'.cell? ⟨w.heap.size + 1, 4, none⟩ = some (.int .i64 b1) ∧ w'.cell? ⟨w.heap.size + 1, 5, none⟩ = some (.int .i64 c1)) ((first | (simp only [*, and_self]; done) | (simp [*, go_sem, World.cell?_alloc_past]; done)))
      (first
        | (go_at_call 104; refine (sides_at _ _ _ _ _ _ _).mono ?_; rintro e w1 ⟨rfl, rfl⟩))
    all_goals (go_wp2_with fail; go_meet; refine ⟨_, _, rfl, rfl, ?_, ?_, ?_, ?_, ?_, ?_⟩)
    all_goals first
      | (simp; done)
      | (simp; omega)
      | ((repeat (first | rw [heap_dr] | (rw [heap_al, Array.getElem?_push, if_neg (by first | (simp; done) | (simp; omega))]))); rw [heap_al, Array.getElem?_push, if_pos (by simp)]; done)
      | (repeat' (first | exact Below.refl _ _ | refine Below.drew ?_ | (refine Below.alloc ?_ (by simp) _)))
  case rest =>
    obtain ⟨g, h, rfl, rfl, hgh, hbg, hbh, hg, hh, hb⟩ := hcut
    have HG := Lib.hid hg
    have HH := Lib.hid hh
    have HB := Lib.hid hb
    clear hg hh hb
    go_wp2_with fail
    go_loopw [12] (fun i wr => ∃ k : Nat, k ≤ 3 ∧ i = .int .i64 k ∧ wr.heap[g]? = some (.cells (cm x0 y0 z0 x1 y1 z1 a0 b0 c0 a1 b1 c1 k) 154 (0, 0)) ∧ wr.heap[h]? = some (.cells #[.int .i64 a0, .int .i64 a1, .int .i64 b0, .int .i64 b1, .int .i64 c0, .int .i64 c1] 154 (0, 0)) ∧ Below (w.heap.size + 3) (((w.alloc (.cells #[.int .i64 x0, .int .i64 y0, .int .i64 z0, .int .i64 x1, .int .i64 y1, .int .i64 z1] 45)).alloc (.cells #[.int .i64 a0, .int .i64 b0, .int .i64 c0, .int .i64 a1, .int .i64 b1, .int .i64 c1] 45)).alloc (.cells #[.int .i64 0, .int .i64 0, .int .i64 0, .int .i64 0, .int .i64 0, .int .i64 0] 154)) wr) (fun i _ => 3 - (intOf i).toNat)
    case atStart => exact ⟨0, by omega, rfl, HG.out, HH.out, HB.out⟩
    case round =>
      obtain ⟨k, hk, rfl, hg, hh, hb⟩ := hrel
      have HG := Lib.hid hg
      have HH := Lib.hid hh
      have HB := Lib.hid hb
      by_cases hlt : k < 3
      · have gB : w.heap.size + 3 ≤ g := by omega
        obtain rfl | rfl | rfl : k = 0 ∨ k = 1 ∨ k = 2 := by omega
        all_goals
          have e0 := fun j => cell_of_row wr g j _ _ _ hg
          have e1 := fun j => cell_of_row wr h j _ _ _ hh
          have e2 := fun j => frozen_of_row wr g j _ _ hg
          clear hg hh hb
          simp only [cm] at e0
          first
            | rw [show ((0 : Nat) : Int) = 0 from rfl]
            | rw [show ((1 : Nat) : Int) = 1 from rfl]
            | rw [show ((2 : Nat) : Int) = 2 from rfl]
          go_wp2_with fail
          go_still_tail 21, (by kernel_rfl)
          go_wp2_with fail
        · exact ⟨⟨1, by omega, rfl, set2_same HG.out, set2_other HH.out (Ne.symm hgh), set2_below HB.out gB⟩, by simp [intOf]⟩
        · exact ⟨⟨2, by omega, rfl, set2_same HG.out, set2_other HH.out (Ne.symm hgh), set2_below HB.out gB⟩, by simp [intOf]⟩
        · exact ⟨⟨3, by omega, rfl, set2_same HG.out, set2_other HH.out (Ne.symm hgh), set2_below HB.out gB⟩, by simp [intOf]⟩
      · obtain rfl : k = 3 := by omega
        clear hg hh hb
        have hr4 : wr.heap[w.heap.size + 1 + 1]? = some (.cells #[.int .i64 0, .int .i64 0, .int .i64 0, .int .i64 0, .int .i64 0, .int .i64 0] 154 (0, 0)) := (HB.out.block (w.heap.size + 1 + 1) (by omega)).trans (by rw [heap_al, Array.getElem?_push, if_pos (by simp)])
        have HR := Lib.hid hr4
        clear hr4
        go_wp2_with (first | (refine wpList_load_row rfl 154 (.tmp 5) rfl g rfl 154 (cm x0 y0 z0 x1 y1 z1 a0 b0 c0 a1 b1 c1 3) (0, 0) _ HG.out Tryz.underlying154 rfl ?_ ?_; (kernel_rfl)) | (refine wpList_store_row rfl 154 (.tmp 4) (.tmp 37) rfl (w.heap.size + 1 + 1) (cm x0 y0 z0 x1 y1 z1 a0 b0 c0 a1 b1 c1 3) rfl rfl 154 _ HR.out ?_ ?_ ?_ ?_; (kernel_rfl); (kernel_rfl); (kernel_rfl)))
        refine bodyPost_ret (results_cell_row rfl _ _ (w.heap.size + 1 + 1) 154 (cm x0 y0 z0 x1 y1 z1 a0 b0 c0 a1 b1 c1 3) (0, 0) _ rfl (setRow_heap _ _ _ _ _ _ HR.out) Tryz.underlying154 rfl (by kernel_rfl)) rfl ⟨rfl, ?_⟩
        refine below_setRow (Below.trans ?_ (HB.out.mono (by omega))) (by omega) _
        exact (((Below.refl _ _).alloc (Nat.le_refl _) _).alloc (by simp) _).alloc (by simp; omega) _
/-- What two boxes have in common is not empty. -/
def overE (x0 y0 z0 x1 y1 z1 a0 b0 c0 a1 b1 c1 : Int) : Bool := decide (mxi x0 a0 < mni x1 a1) && decide (mxi y0 b0 < mni y1 b1) && decide (mxi z0 c0 < mni z1 c1)
end Go.Proofs.YtejhcbbfdfnfdaaGreatDoor.Box

/- box's Overlap: what it returns. -/
namespace Go.Proofs.YtejhcbbfdfnfdaaGreatDoor.Box
open Go.RowKit Go.Proofs.YtejhcbbfdfnfdaaGreatDoor.Base
theorem overE_no {x0 y0 z0 x1 y1 z1 a0 b0 c0 a1 b1 c1 : Int} (k : Nat) (hk : k < 3) (h : ax3 (mni x1 a1) (mni y1 b1) (mni z1 c1) k ≤ ax3 (mxi x0 a0) (mxi y0 b0) (mxi z0 c0) k) : overE x0 y0 z0 x1 y1 z1 a0 b0 c0 a1 b1 c1 = false := by
  unfold overE
  obtain rfl | rfl | rfl : k = 0 ∨ k = 1 ∨ k = 2 := by omega
  all_goals
    simp [ax3] at h
    simp
    omega
theorem overE_yes {x0 y0 z0 x1 y1 z1 a0 b0 c0 a1 b1 c1 : Int} (g : ∀ j, j < 3 → ax3 (mxi x0 a0) (mxi y0 b0) (mxi z0 c0) j < ax3 (mni x1 a1) (mni y1 b1) (mni z1 c1) j) : overE x0 y0 z0 x1 y1 z1 a0 b0 c0 a1 b1 c1 = true := by
  have h0 := g 0 (by omega); have h1 := g 1 (by omega); have h2 := g 2 (by omega)
  simp [ax3] at h0 h1 h2
  unfold overE
  simp [h0, h1, h2]
set_option maxRecDepth 100000 in
set_option maxHeartbeats 1000000 in
theorem overlap_any (x0 y0 z0 x1 y1 z1 a0 b0 c0 a1 b1 c1 : Int) (w : World) : Calls Tryz.prog 89 #[.agg #[.int .i64 x0, .int .i64 y0, .int .i64 z0, .int .i64 x1, .int .i64 y1, .int .i64 z1], .agg #[.int .i64 a0, .int .i64 b0, .int .i64 c0, .int .i64 a1, .int .i64 b1, .int .i64 c1]] w fun e w' =>
    e = .returned (.bool (overE x0 y0 z0 x1 y1 z1 a0 b0 c0 a1 b1 c1)) ∧ Below w.heap.size w w' := by
  have hc := common_any x0 y0 z0 x1 y1 z1 a0 b0 c0 a1 b1 c1
  simp only [cm] at hc
  have hno := @overE_no x0 y0 z0 x1 y1 z1 a0 b0 c0 a1 b1 c1
  have hyes := @overE_yes x0 y0 z0 x1 y1 z1 a0 b0 c0 a1 b1 c1
  generalize overE x0 y0 z0 x1 y1 z1 a0 b0 c0 a1 b1 c1 = q at *
  generalize mxi x0 a0 = p0 at *
  generalize mxi y0 b0 = p1 at *
  generalize mxi z0 c0 = p2 at *
  generalize mni x1 a1 = q0 at *
  generalize mni y1 b1 = q1 at *
  generalize mni z1 c1 = q2 at *
  have HN := Lib.hid hno
  have HY := Lib.hid hyes
  clear hno hyes
  have hix := index_sides p0 p1 p2 q0 q1 q2
  have H0 := Lib.hid (((Below.refl w.heap.size w).alloc (Nat.le_refl _) (.cells #[.int .i64 x0, .int .i64 y0, .int .i64 z0, .int .i64 x1, .int .i64 y1, .int .i64 z1] 45)).alloc (by simp) (.cells #[.int .i64 a0, .int .i64 b0, .int .i64 c0, .int .i64 a1, .int .i64 b1, .int .i64 c1] 45))
  go_enter Tryz.func89, Tryz.ntmps89
  go_wp2_with fail
  refine (hc _).mono ?_; rintro e w1 ⟨rfl, hb1⟩
  have HB1 := Lib.hid (H0.out.trans (hb1.mono (by simp; omega)))
  clear hb1
  go_wp2_with fail
  go_loopw [10] (fun i wq => ∃ k : Nat, k ≤ 3 ∧ i = .int .i64 k ∧ (∀ j, j < k → ax3 p0 p1 p2 j < ax3 q0 q1 q2 j) ∧ Below w.heap.size w wq) (fun i _ => 3 - (intOf i).toNat)
  case atStart => exact ⟨0, by omega, rfl, fun j hj => by omega, HB1.out⟩
  case round =>
    obtain ⟨k, hk, rfl, hall, hb⟩ := hrel
    have HA2 := Lib.hid hall
    have hsz2 := hb.size
    have HB3 := Lib.hid hb
    clear hall hb
    by_cases hlt : k < 3
    · have hi := fun w => hix k hlt w
      by_cases hg : ax3 q0 q1 q2 k ≤ ax3 p0 p1 p2 k
      · have hE := Lib.hid (HN.out k hlt hg)
        go_wp2_with fail
        go_ret
        rw [hE.out]
        exact ⟨rfl, HB3.out.alloc hsz2 _⟩
      · go_wp2_with fail
        go_roundw
        case rel =>
          refine ⟨k + 1, by omega, by go_num, fun j hj => ?_, HB3.out.alloc hsz2 _⟩
          rcases Nat.lt_or_ge j k with g | g
          · exact HA2.out j g
          · obtain rfl : j = k := by omega
            omega
        case measure => simp [intOf]; omega
    · obtain rfl : k = 3 := by omega
      have hE := Lib.hid (HY.out HA2.out)
      go_wp2_with fail
      go_ret
      rw [hE.out]
      exact ⟨rfl, HB3.out⟩
end Go.Proofs.YtejhcbbfdfnfdaaGreatDoor.Box
