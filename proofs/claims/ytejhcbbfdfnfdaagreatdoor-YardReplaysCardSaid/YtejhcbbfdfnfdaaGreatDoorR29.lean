/- The reference's Name. -/
import Derived.Test.YtejhcbbfdfnfdaaGreatDoorR27
import Derived.Test.YtejhcbbfdfnfdaaGreatDoorR28
import Derived.Test.YtejhcbbfdfnfdaaGreatDoorR6
import Derived.Test.YtejhcbbfdfnfdaaGreatDoorR2
/- The reference's leaf functions. -/
namespace Go.Proofs.YtejhcbbfdfnfdaaGreatDoor.Yard
open Go.RowKit Go.Proofs.YtejhcbbfdfnfdaaGreatDoor.Base Go.Proofs.YtejhcbbfdfnfdaaGreatDoor.Mp
open Yp (It Yd Fact Bx)
theorem kq_no {s k : ByteArray} {l : List UInt8} (hk : k.toList = l) (h : s ≠ k) : (s.toList == l) = false := by
  rw [← hk, tl_beq]
  exact decide_eq_false h
set_option maxRecDepth 100000 in
set_option maxHeartbeats 4000000 in
theorem rshape_any (s : ByteArray) (w : World) : Calls Tryz.prog 81 #[.string s] w fun e w' => e = .returned (match Yp.kindNo s with | some k => .tuple #[.int .i64 (Yp.nNames k : Nat), .int .i64 (Yp.nVals k : Nat), .bool true] | none => .tuple #[.int .i64 0, .int .i64 0, .bool false]) ∧ Below w.heap.size w w' := by
  by_cases h0 : s = Yp.kFree
  · subst h0
    have p0 : (Yp.kFree.toList == [102, 114, 101, 101]) = true := by kernel_rfl
    have p1 : (Yp.kFree.toList == [99, 117, 116]) = false := by kernel_rfl
    have p2 : (Yp.kFree.toList == [97, 115, 115, 105, 103, 110]) = false := by kernel_rfl
    have p3 : (Yp.kFree.toList == [114, 101, 108, 101, 97, 115, 101]) = false := by kernel_rfl
    have p4 : (Yp.kFree.toList == [115, 101, 116]) = false := by kernel_rfl
    have p5 : (Yp.kFree.toList == [98, 114, 101, 97, 107]) = false := by kernel_rfl
    have hk : Yp.kindNo Yp.kFree = some 0 := by decide
    rw [hk]
    clear hk
    go_enter Tryz.func81, Tryz.ntmps81
    go_wp2_with fail
    refine bodyPost_ret (v := .tuple #[.int .i64 1, .int .i64 6, .bool true]) (by simp [results, Tryz.results81, go_sem, *]) rfl ⟨rfl, ?_⟩
    first | exact Below.refl _ _ | exact (Below.refl _ _).drew
  by_cases h1 : s = Yp.kCut
  · subst h1
    have p0 : (Yp.kCut.toList == [102, 114, 101, 101]) = false := by kernel_rfl
    have p1 : (Yp.kCut.toList == [99, 117, 116]) = true := by kernel_rfl
    have p2 : (Yp.kCut.toList == [97, 115, 115, 105, 103, 110]) = false := by kernel_rfl
    have p3 : (Yp.kCut.toList == [114, 101, 108, 101, 97, 115, 101]) = false := by kernel_rfl
    have p4 : (Yp.kCut.toList == [115, 101, 116]) = false := by kernel_rfl
    have p5 : (Yp.kCut.toList == [98, 114, 101, 97, 107]) = false := by kernel_rfl
    have hk : Yp.kindNo Yp.kCut = some 1 := by decide
    rw [hk]
    clear hk
    go_enter Tryz.func81, Tryz.ntmps81
    go_wp2_with fail
    refine bodyPost_ret (v := .tuple #[.int .i64 3, .int .i64 3, .bool true]) (by simp [results, Tryz.results81, go_sem, *]) rfl ⟨rfl, ?_⟩
    first | exact Below.refl _ _ | exact (Below.refl _ _).drew
  by_cases h2 : s = Yp.kAssign
  · subst h2
    have p0 : (Yp.kAssign.toList == [102, 114, 101, 101]) = false := by kernel_rfl
    have p1 : (Yp.kAssign.toList == [99, 117, 116]) = false := by kernel_rfl
    have p2 : (Yp.kAssign.toList == [97, 115, 115, 105, 103, 110]) = true := by kernel_rfl
    have p3 : (Yp.kAssign.toList == [114, 101, 108, 101, 97, 115, 101]) = false := by kernel_rfl
    have p4 : (Yp.kAssign.toList == [115, 101, 116]) = false := by kernel_rfl
    have p5 : (Yp.kAssign.toList == [98, 114, 101, 97, 107]) = false := by kernel_rfl
    have hk : Yp.kindNo Yp.kAssign = some 2 := by decide
    rw [hk]
    clear hk
    go_enter Tryz.func81, Tryz.ntmps81
    go_wp2_with fail
    refine bodyPost_ret (v := .tuple #[.int .i64 2, .int .i64 0, .bool true]) (by simp [results, Tryz.results81, go_sem, *]) rfl ⟨rfl, ?_⟩
    first | exact Below.refl _ _ | exact (Below.refl _ _).drew
  by_cases h3 : s = Yp.kRelease
  · subst h3
    have p0 : (Yp.kRelease.toList == [102, 114, 101, 101]) = false := by kernel_rfl
    have p1 : (Yp.kRelease.toList == [99, 117, 116]) = false := by kernel_rfl
    have p2 : (Yp.kRelease.toList == [97, 115, 115, 105, 103, 110]) = false := by kernel_rfl
    have p3 : (Yp.kRelease.toList == [114, 101, 108, 101, 97, 115, 101]) = true := by kernel_rfl
    have p4 : (Yp.kRelease.toList == [115, 101, 116]) = false := by kernel_rfl
    have p5 : (Yp.kRelease.toList == [98, 114, 101, 97, 107]) = false := by kernel_rfl
    have hk : Yp.kindNo Yp.kRelease = some 3 := by decide
    rw [hk]
    clear hk
    go_enter Tryz.func81, Tryz.ntmps81
    go_wp2_with fail
    refine bodyPost_ret (v := .tuple #[.int .i64 1, .int .i64 0, .bool true]) (by simp [results, Tryz.results81, go_sem, *]) rfl ⟨rfl, ?_⟩
    first | exact Below.refl _ _ | exact (Below.refl _ _).drew
  by_cases h4 : s = Yp.kSet
  · subst h4
    have p0 : (Yp.kSet.toList == [102, 114, 101, 101]) = false := by kernel_rfl
    have p1 : (Yp.kSet.toList == [99, 117, 116]) = false := by kernel_rfl
    have p2 : (Yp.kSet.toList == [97, 115, 115, 105, 103, 110]) = false := by kernel_rfl
    have p3 : (Yp.kSet.toList == [114, 101, 108, 101, 97, 115, 101]) = false := by kernel_rfl
    have p4 : (Yp.kSet.toList == [115, 101, 116]) = true := by kernel_rfl
    have p5 : (Yp.kSet.toList == [98, 114, 101, 97, 107]) = false := by kernel_rfl
    have hk : Yp.kindNo Yp.kSet = some 4 := by decide
    rw [hk]
    clear hk
    go_enter Tryz.func81, Tryz.ntmps81
    go_wp2_with fail
    refine bodyPost_ret (v := .tuple #[.int .i64 1, .int .i64 0, .bool true]) (by simp [results, Tryz.results81, go_sem, *]) rfl ⟨rfl, ?_⟩
    first | exact Below.refl _ _ | exact (Below.refl _ _).drew
  by_cases h5 : s = Yp.kBreak
  · subst h5
    have p0 : (Yp.kBreak.toList == [102, 114, 101, 101]) = false := by kernel_rfl
    have p1 : (Yp.kBreak.toList == [99, 117, 116]) = false := by kernel_rfl
    have p2 : (Yp.kBreak.toList == [97, 115, 115, 105, 103, 110]) = false := by kernel_rfl
    have p3 : (Yp.kBreak.toList == [114, 101, 108, 101, 97, 115, 101]) = false := by kernel_rfl
    have p4 : (Yp.kBreak.toList == [115, 101, 116]) = false := by kernel_rfl
    have p5 : (Yp.kBreak.toList == [98, 114, 101, 97, 107]) = true := by kernel_rfl
    have hk : Yp.kindNo Yp.kBreak = some 5 := by decide
    rw [hk]
    clear hk
    go_enter Tryz.func81, Tryz.ntmps81
    go_wp2_with fail
    refine bodyPost_ret (v := .tuple #[.int .i64 1, .int .i64 0, .bool true]) (by simp [results, Tryz.results81, go_sem, *]) rfl ⟨rfl, ?_⟩
    first | exact Below.refl _ _ | exact (Below.refl _ _).drew
  have p0 : (s.toList == [102, 114, 101, 101]) = false := kq_no (k := Yp.kFree) (by kernel_rfl) h0
  have p1 : (s.toList == [99, 117, 116]) = false := kq_no (k := Yp.kCut) (by kernel_rfl) h1
  have p2 : (s.toList == [97, 115, 115, 105, 103, 110]) = false := kq_no (k := Yp.kAssign) (by kernel_rfl) h2
  have p3 : (s.toList == [114, 101, 108, 101, 97, 115, 101]) = false := kq_no (k := Yp.kRelease) (by kernel_rfl) h3
  have p4 : (s.toList == [115, 101, 116]) = false := kq_no (k := Yp.kSet) (by kernel_rfl) h4
  have p5 : (s.toList == [98, 114, 101, 97, 107]) = false := kq_no (k := Yp.kBreak) (by kernel_rfl) h5
  have hk : Yp.kindNo s = none := by unfold Yp.kindNo; rw [if_neg h0, if_neg h1, if_neg h2, if_neg h3, if_neg h4, if_neg h5]
  rw [hk]
  clear hk
  go_enter Tryz.func81, Tryz.ntmps81
  go_wp2_with fail
  refine bodyPost_ret (v := .tuple #[.int .i64 0, .int .i64 0, .bool false]) (by simp [results, Tryz.results81, go_sem, *]) rfl ⟨rfl, ?_⟩
  first | exact Below.refl _ _ | exact (Below.refl _ _).drew
set_option maxRecDepth 100000 in
set_option maxHeartbeats 4000000 in
theorem rpossible_any (s : ByteArray) (st : Int) (k : Nat) (hk : Yp.kindNo s = some k) (hk0 : k ≠ 0) (w : World) : Calls Tryz.prog 84 #[.string s, .int .i64 st] w fun e w' => e = .returned (.bool (Yp.allowed k st)) ∧ Below w.heap.size w w' := by
  by_cases h0 : s = Yp.kFree
  · subst h0
    have p0 : (Yp.kFree.toList == [102, 114, 101, 101]) = true := by kernel_rfl
    have p1 : (Yp.kFree.toList == [99, 117, 116]) = false := by kernel_rfl
    have p2 : (Yp.kFree.toList == [97, 115, 115, 105, 103, 110]) = false := by kernel_rfl
    have p3 : (Yp.kFree.toList == [114, 101, 108, 101, 97, 115, 101]) = false := by kernel_rfl
    have p4 : (Yp.kFree.toList == [115, 101, 116]) = false := by kernel_rfl
    have p5 : (Yp.kFree.toList == [98, 114, 101, 97, 107]) = false := by kernel_rfl
    exact absurd hk (by rw [show Yp.kindNo Yp.kFree = some 0 by decide]; intro h; injection h with h; omega)
  by_cases h1 : s = Yp.kCut
  · subst h1
    have p0 : (Yp.kCut.toList == [102, 114, 101, 101]) = false := by kernel_rfl
    have p1 : (Yp.kCut.toList == [99, 117, 116]) = true := by kernel_rfl
    have p2 : (Yp.kCut.toList == [97, 115, 115, 105, 103, 110]) = false := by kernel_rfl
    have p3 : (Yp.kCut.toList == [114, 101, 108, 101, 97, 115, 101]) = false := by kernel_rfl
    have p4 : (Yp.kCut.toList == [115, 101, 116]) = false := by kernel_rfl
    have p5 : (Yp.kCut.toList == [98, 114, 101, 97, 107]) = false := by kernel_rfl
    obtain rfl : k = 1 := Option.some.inj (hk.symm.trans (by decide))
    clear hk hk0
    by_cases q1 : st = 1
    · subst q1
      go_enter Tryz.func84, Tryz.ntmps84
      go_wp2_with fail
      go_ret
      exact ⟨rfl, by first | exact Below.refl _ _ | exact (Below.refl _ _).drew⟩
    · by_cases q3 : st = 3
      · subst q3
        go_enter Tryz.func84, Tryz.ntmps84
        go_wp2_with fail
        go_ret
        exact ⟨rfl, by first | exact Below.refl _ _ | exact (Below.refl _ _).drew⟩
      · have e1 : (st == 1) = false := by simpa using q1
        have e3 : (st == 3) = false := by simpa using q3
        have ha : Yp.allowed 1 st = false := by unfold Yp.allowed; simp [q1]
        rw [ha]
        clear ha q1 q3
        go_enter Tryz.func84, Tryz.ntmps84
        go_wp2_with fail
        go_ret
        exact ⟨rfl, by first | exact Below.refl _ _ | exact (Below.refl _ _).drew⟩
  by_cases h2 : s = Yp.kAssign
  · subst h2
    have p0 : (Yp.kAssign.toList == [102, 114, 101, 101]) = false := by kernel_rfl
    have p1 : (Yp.kAssign.toList == [99, 117, 116]) = false := by kernel_rfl
    have p2 : (Yp.kAssign.toList == [97, 115, 115, 105, 103, 110]) = true := by kernel_rfl
    have p3 : (Yp.kAssign.toList == [114, 101, 108, 101, 97, 115, 101]) = false := by kernel_rfl
    have p4 : (Yp.kAssign.toList == [115, 101, 116]) = false := by kernel_rfl
    have p5 : (Yp.kAssign.toList == [98, 114, 101, 97, 107]) = false := by kernel_rfl
    obtain rfl : k = 2 := Option.some.inj (hk.symm.trans (by decide))
    clear hk hk0
    by_cases q1 : st = 1
    · subst q1
      go_enter Tryz.func84, Tryz.ntmps84
      go_wp2_with fail
      go_ret
      exact ⟨rfl, by first | exact Below.refl _ _ | exact (Below.refl _ _).drew⟩
    · by_cases q3 : st = 3
      · subst q3
        go_enter Tryz.func84, Tryz.ntmps84
        go_wp2_with fail
        go_ret
        exact ⟨rfl, by first | exact Below.refl _ _ | exact (Below.refl _ _).drew⟩
      · have e1 : (st == 1) = false := by simpa using q1
        have e3 : (st == 3) = false := by simpa using q3
        have ha : Yp.allowed 2 st = false := by unfold Yp.allowed; simp [q1]
        rw [ha]
        clear ha q1 q3
        go_enter Tryz.func84, Tryz.ntmps84
        go_wp2_with fail
        go_ret
        exact ⟨rfl, by first | exact Below.refl _ _ | exact (Below.refl _ _).drew⟩
  by_cases h3 : s = Yp.kRelease
  · subst h3
    have p0 : (Yp.kRelease.toList == [102, 114, 101, 101]) = false := by kernel_rfl
    have p1 : (Yp.kRelease.toList == [99, 117, 116]) = false := by kernel_rfl
    have p2 : (Yp.kRelease.toList == [97, 115, 115, 105, 103, 110]) = false := by kernel_rfl
    have p3 : (Yp.kRelease.toList == [114, 101, 108, 101, 97, 115, 101]) = true := by kernel_rfl
    have p4 : (Yp.kRelease.toList == [115, 101, 116]) = false := by kernel_rfl
    have p5 : (Yp.kRelease.toList == [98, 114, 101, 97, 107]) = false := by kernel_rfl
    obtain rfl : k = 3 := Option.some.inj (hk.symm.trans (by decide))
    clear hk hk0
    by_cases q1 : st = 1
    · subst q1
      go_enter Tryz.func84, Tryz.ntmps84
      go_wp2_with fail
      go_ret
      exact ⟨rfl, by first | exact Below.refl _ _ | exact (Below.refl _ _).drew⟩
    · by_cases q3 : st = 3
      · subst q3
        go_enter Tryz.func84, Tryz.ntmps84
        go_wp2_with fail
        go_ret
        exact ⟨rfl, by first | exact Below.refl _ _ | exact (Below.refl _ _).drew⟩
      · have e1 : (st == 1) = false := by simpa using q1
        have e3 : (st == 3) = false := by simpa using q3
        have ha : Yp.allowed 3 st = false := by unfold Yp.allowed; simp [q3]
        rw [ha]
        clear ha q1 q3
        go_enter Tryz.func84, Tryz.ntmps84
        go_wp2_with fail
        go_ret
        exact ⟨rfl, by first | exact Below.refl _ _ | exact (Below.refl _ _).drew⟩
  by_cases h4 : s = Yp.kSet
  · subst h4
    have p0 : (Yp.kSet.toList == [102, 114, 101, 101]) = false := by kernel_rfl
    have p1 : (Yp.kSet.toList == [99, 117, 116]) = false := by kernel_rfl
    have p2 : (Yp.kSet.toList == [97, 115, 115, 105, 103, 110]) = false := by kernel_rfl
    have p3 : (Yp.kSet.toList == [114, 101, 108, 101, 97, 115, 101]) = false := by kernel_rfl
    have p4 : (Yp.kSet.toList == [115, 101, 116]) = true := by kernel_rfl
    have p5 : (Yp.kSet.toList == [98, 114, 101, 97, 107]) = false := by kernel_rfl
    obtain rfl : k = 4 := Option.some.inj (hk.symm.trans (by decide))
    clear hk hk0
    by_cases q1 : st = 1
    · subst q1
      go_enter Tryz.func84, Tryz.ntmps84
      go_wp2_with fail
      go_ret
      exact ⟨rfl, by first | exact Below.refl _ _ | exact (Below.refl _ _).drew⟩
    · by_cases q3 : st = 3
      · subst q3
        go_enter Tryz.func84, Tryz.ntmps84
        go_wp2_with fail
        go_ret
        exact ⟨rfl, by first | exact Below.refl _ _ | exact (Below.refl _ _).drew⟩
      · have e1 : (st == 1) = false := by simpa using q1
        have e3 : (st == 3) = false := by simpa using q3
        have ha : Yp.allowed 4 st = false := by unfold Yp.allowed; simp [q3]
        rw [ha]
        clear ha q1 q3
        go_enter Tryz.func84, Tryz.ntmps84
        go_wp2_with fail
        go_ret
        exact ⟨rfl, by first | exact Below.refl _ _ | exact (Below.refl _ _).drew⟩
  by_cases h5 : s = Yp.kBreak
  · subst h5
    have p0 : (Yp.kBreak.toList == [102, 114, 101, 101]) = false := by kernel_rfl
    have p1 : (Yp.kBreak.toList == [99, 117, 116]) = false := by kernel_rfl
    have p2 : (Yp.kBreak.toList == [97, 115, 115, 105, 103, 110]) = false := by kernel_rfl
    have p3 : (Yp.kBreak.toList == [114, 101, 108, 101, 97, 115, 101]) = false := by kernel_rfl
    have p4 : (Yp.kBreak.toList == [115, 101, 116]) = false := by kernel_rfl
    have p5 : (Yp.kBreak.toList == [98, 114, 101, 97, 107]) = true := by kernel_rfl
    obtain rfl : k = 5 := Option.some.inj (hk.symm.trans (by decide))
    clear hk hk0
    by_cases q1 : st = 1
    · subst q1
      go_enter Tryz.func84, Tryz.ntmps84
      go_wp2_with fail
      go_ret
      exact ⟨rfl, by first | exact Below.refl _ _ | exact (Below.refl _ _).drew⟩
    · by_cases q3 : st = 3
      · subst q3
        go_enter Tryz.func84, Tryz.ntmps84
        go_wp2_with fail
        go_ret
        exact ⟨rfl, by first | exact Below.refl _ _ | exact (Below.refl _ _).drew⟩
      · have e1 : (st == 1) = false := by simpa using q1
        have e3 : (st == 3) = false := by simpa using q3
        have ha : Yp.allowed 5 st = false := by unfold Yp.allowed; simp [q1, q3]
        rw [ha]
        clear ha q1 q3
        go_enter Tryz.func84, Tryz.ntmps84
        go_wp2_with fail
        go_ret
        exact ⟨rfl, by first | exact Below.refl _ _ | exact (Below.refl _ _).drew⟩
  have p0 : (s.toList == [102, 114, 101, 101]) = false := kq_no (k := Yp.kFree) (by kernel_rfl) h0
  have p1 : (s.toList == [99, 117, 116]) = false := kq_no (k := Yp.kCut) (by kernel_rfl) h1
  have p2 : (s.toList == [97, 115, 115, 105, 103, 110]) = false := kq_no (k := Yp.kAssign) (by kernel_rfl) h2
  have p3 : (s.toList == [114, 101, 108, 101, 97, 115, 101]) = false := kq_no (k := Yp.kRelease) (by kernel_rfl) h3
  have p4 : (s.toList == [115, 101, 116]) = false := kq_no (k := Yp.kSet) (by kernel_rfl) h4
  have p5 : (s.toList == [98, 114, 101, 97, 107]) = false := kq_no (k := Yp.kBreak) (by kernel_rfl) h5
  exact absurd hk (by unfold Yp.kindNo; rw [if_neg h0, if_neg h1, if_neg h2, if_neg h3, if_neg h4, if_neg h5]; simp)
set_option maxHeartbeats 1000000 in
theorem raxis_any (n : Int) (w : World) : Calls Tryz.prog 124 #[.int .i64 n] w fun e w' => e = .returned (.bool (decide (0 ≤ n) && decide (n ≤ 2))) ∧ Below w.heap.size w w' := by
  by_cases h0 : 0 ≤ n
  · by_cases h1 : n ≤ 2
    · rw [decide_eq_true h0, decide_eq_true h1]
      go_enter Tryz.func124, Tryz.ntmps124
      go_wp2_with fail
      go_ret
      exact ⟨rfl, by first | exact Below.refl _ _ | exact (Below.refl _ _).drew⟩
    · rw [decide_eq_true h0, decide_eq_false h1]
      go_enter Tryz.func124, Tryz.ntmps124
      go_wp2_with fail
      go_ret
      exact ⟨rfl, by first | exact Below.refl _ _ | exact (Below.refl _ _).drew⟩
  · rw [decide_eq_false h0]
    go_enter Tryz.func124, Tryz.ntmps124
    go_wp2_with fail
    go_ret
    exact ⟨rfl, by first | exact Below.refl _ _ | exact (Below.refl _ _).drew⟩
set_option maxHeartbeats 1000000 in
theorem rkerf_any (n : Int) (w : World) : Calls Tryz.prog 125 #[.int .i64 n] w fun e w' => e = .returned (.bool (decide (0 ≤ n) && decide (n ≤ 1000))) ∧ Below w.heap.size w w' := by
  by_cases h0 : 0 ≤ n
  · by_cases h1 : n ≤ 1000
    · rw [decide_eq_true h0, decide_eq_true h1]
      go_enter Tryz.func125, Tryz.ntmps125
      go_wp2_with fail
      go_ret
      exact ⟨rfl, by first | exact Below.refl _ _ | exact (Below.refl _ _).drew⟩
    · rw [decide_eq_true h0, decide_eq_false h1]
      go_enter Tryz.func125, Tryz.ntmps125
      go_wp2_with fail
      go_ret
      exact ⟨rfl, by first | exact Below.refl _ _ | exact (Below.refl _ _).drew⟩
  · rw [decide_eq_false h0]
    go_enter Tryz.func125, Tryz.ntmps125
    go_wp2_with fail
    go_ret
    exact ⟨rfl, by first | exact Below.refl _ _ | exact (Below.refl _ _).drew⟩
set_option maxHeartbeats 1000000 in
theorem rget_any (x y z : Int) (a : Int) (ha : 0 ≤ a ∧ a ≤ 2) (w : World) : Calls Tryz.prog 126 #[.agg #[.int .i64 x, .int .i64 y, .int .i64 z], .int .i64 a] w fun e w' => e = .returned (.int .i64 (if a = 0 then x else if a = 1 then y else z)) ∧ Below w.heap.size w w' := by
  have HB := Lib.hid (al_below w (.cells #[.int .i64 x, .int .i64 y, .int .i64 z] 43))
  have r0 := (row_cells (new_block w (.cells #[.int .i64 x, .int .i64 y, .int .i64 z] 43))).1 0
  have r1 := (row_cells (new_block w (.cells #[.int .i64 x, .int .i64 y, .int .i64 z] 43))).1 1
  have r2 := (row_cells (new_block w (.cells #[.int .i64 x, .int .i64 y, .int .i64 z] 43))).1 2
  obtain rfl | rfl | rfl : a = 0 ∨ a = 1 ∨ a = 2 := by omega
  all_goals
    go_enter Tryz.func126, Tryz.ntmps126
    go_wp2_with fail
    go_ret
    exact ⟨rfl, HB.out⟩
set_option maxRecDepth 100000 in
set_option maxHeartbeats 1000000 in
theorem rboxOf_any (X : Nat → Prop) (v : Value) (v0 v1 v2 v3 v4 v5 : Int) (w : World) (hv : Rd w X v (intV [v0, v1, v2, v3, v4, v5])) :
    Calls Tryz.prog 48 #[v] w fun e w' => e = .returned (.agg #[.int .i64 v0, .int .i64 v1, .int .i64 v2, .int .i64 v3, .int .i64 v4, .int .i64 v5]) ∧ Below w.heap.size w w' := by
  obtain ⟨A, c, rfl, hc, hcell⟩ := hv
  simp only [intV, List.length_map, List.length_cons, List.length_nil] at hc hcell ⊢
  obtain ⟨b, o, rfl, hbl, _, hx⟩ := hcell (by omega)
  have c0 := hx 0 _ rfl
  have c1 := hx 1 _ rfl
  have c2 := hx 2 _ rfl
  have c3 := hx 3 _ rfl
  have c4 := hx 4 _ rfl
  have c5 := hx 5 _ rfl
  clear hx hcell
  simp only [Nat.add_zero] at c0
  go_enter Tryz.func48, Tryz.ntmps48
  go_wp2_with fail
  have B1 := (Below.refl w.heap.size w).alloc (Nat.le_refl _) (.cells #[.int .i64 0, .int .i64 0, .int .i64 0, .int .i64 0, .int .i64 0, .int .i64 0] 45)
  have r := row_cells (new_block w (.cells #[.int .i64 0, .int .i64 0, .int .i64 0, .int .i64 0, .int .i64 0, .int .i64 0] 45))
  have c0 := (B1.cell (p := ⟨b, o, none⟩) hbl).trans c0
  have c1 := (B1.cell (p := ⟨b, o + 1, none⟩) hbl).trans c1
  have c2 := (B1.cell (p := ⟨b, o + 2, none⟩) hbl).trans c2
  have c3 := (B1.cell (p := ⟨b, o + 3, none⟩) hbl).trans c3
  have c4 := (B1.cell (p := ⟨b, o + 4, none⟩) hbl).trans c4
  have c5 := (B1.cell (p := ⟨b, o + 5, none⟩) hbl).trans c5
  have HB1 := Lib.hid B1
  clear B1
  generalize w.alloc (.cells #[.int .i64 0, .int .i64 0, .int .i64 0, .int .i64 0, .int .i64 0, .int .i64 0] 45) = W at *
  obtain ⟨r1, r2⟩ := r
  have q0 := r1 0
  have q1 := r1 1
  have q2 := r1 2
  have q3 := r1 3
  have q4 := r1 4
  have q5 := r1 5
  have f0 := r2 0
  have f1 := r2 1
  have f2 := r2 2
  have f3 := r2 3
  have f4 := r2 4
  have f5 := r2 5
  clear r1 r2
  go_still_tail 21, (by kernel_rfl)
  go_wp2_with fail
  refine bodyPost_ret (v := .agg #[.int .i64 v0, .int .i64 v1, .int .i64 v2, .int .i64 v3, .int .i64 v4, .int .i64 v5]) ?_ rfl ⟨rfl, ?_⟩
  · simp [results, Tryz.results48, go_sem, *]
  · have hy := HB1.out
    (repeat' (first | (with_reducible exact hy) | (with_reducible refine Below.drew ?_) | (with_reducible refine Below.setCell ?_ ?_ _) | (with_reducible refine Below.alloc ?_ ?_ _) | (simp; done) | (simp; omega)))
set_option maxRecDepth 100000 in
set_option maxHeartbeats 1000000 in
theorem rcutOf_any (X : Nat → Prop) (v : Value) (v0 v1 v2 : Int) (w : World) (hv : Rd w X v (intV [v0, v1, v2])) :
    Calls Tryz.prog 51 #[v] w fun e w' => e = .returned (.agg #[.int .i64 v0, .int .i64 v1, .int .i64 v2]) ∧ Below w.heap.size w w' := by
  obtain ⟨A, c, rfl, hc, hcell⟩ := hv
  simp only [intV, List.length_map, List.length_cons, List.length_nil] at hc hcell ⊢
  obtain ⟨b, o, rfl, hbl, _, hx⟩ := hcell (by omega)
  have c0 := hx 0 _ rfl
  have c1 := hx 1 _ rfl
  have c2 := hx 2 _ rfl
  clear hx hcell
  simp only [Nat.add_zero] at c0
  go_enter Tryz.func51, Tryz.ntmps51
  go_wp2_with fail
  have B1 := (Below.refl w.heap.size w).alloc (Nat.le_refl _) (.cells #[.int .i64 0, .int .i64 0, .int .i64 0] 106)
  have r := row_cells (new_block w (.cells #[.int .i64 0, .int .i64 0, .int .i64 0] 106))
  have c0 := (B1.cell (p := ⟨b, o, none⟩) hbl).trans c0
  have c1 := (B1.cell (p := ⟨b, o + 1, none⟩) hbl).trans c1
  have c2 := (B1.cell (p := ⟨b, o + 2, none⟩) hbl).trans c2
  have HB1 := Lib.hid B1
  clear B1
  generalize w.alloc (.cells #[.int .i64 0, .int .i64 0, .int .i64 0] 106) = W at *
  obtain ⟨r1, r2⟩ := r
  have q0 := r1 0
  have q1 := r1 1
  have q2 := r1 2
  have f0 := r2 0
  have f1 := r2 1
  have f2 := r2 2
  clear r1 r2
  go_still_tail 10, (by kernel_rfl)
  go_wp2_with fail
  refine bodyPost_ret (v := .agg #[.int .i64 v0, .int .i64 v1, .int .i64 v2]) ?_ rfl ⟨rfl, ?_⟩
  · simp [results, Tryz.results51, go_sem, *]
  · have hy := HB1.out
    (repeat' (first | (with_reducible exact hy) | (with_reducible refine Below.drew ?_) | (with_reducible refine Below.setCell ?_ ?_ _) | (with_reducible refine Below.alloc ?_ ?_ _) | (simp; done) | (simp; omega)))
set_option maxRecDepth 100000 in
set_option maxHeartbeats 8000000 in
theorem rover_no {x0 x1 x2 x3 x4 x5 a0 a1 a2 a3 a4 a5 : Int} (h : ¬ (x0 < a3 ∧ a0 < x3 ∧ x1 < a4 ∧ a1 < x4 ∧ x2 < a5 ∧ a2 < x5)) (w : World) :
    Calls Tryz.prog 123 #[.agg #[.int .i64 x0, .int .i64 x1, .int .i64 x2, .int .i64 x3, .int .i64 x4, .int .i64 x5], .agg #[.int .i64 a0, .int .i64 a1, .int .i64 a2, .int .i64 a3, .int .i64 a4, .int .i64 a5]] w fun e w' => e = .returned (.bool false) ∧ Below w.heap.size w w' := by
  have HB := Lib.hid (((Below.refl w.heap.size w).alloc (Nat.le_refl _) (.cells #[.int .i64 x0, .int .i64 x1, .int .i64 x2, .int .i64 x3, .int .i64 x4, .int .i64 x5] 45)).alloc (by simp) (.cells #[.int .i64 a0, .int .i64 a1, .int .i64 a2, .int .i64 a3, .int .i64 a4, .int .i64 a5] 45))
  by_cases q0 : x0 < a3
  · by_cases q1 : a0 < x3
    · by_cases q2 : x1 < a4
      · by_cases q3 : a1 < x4
        · by_cases q4 : x2 < a5
          · by_cases q5 : a2 < x5
            · exact absurd ⟨q0, q1, q2, q3, q4, q5⟩ h
            · have n5 : x5 ≤ a2 := by omega
              clear h
              go_enter Tryz.func123, Tryz.ntmps123
              go_wp2_with fail
              go_ret
              exact ⟨rfl, HB.out⟩
          · have n4 : a5 ≤ x2 := by omega
            clear h
            go_enter Tryz.func123, Tryz.ntmps123
            go_wp2_with fail
            go_ret
            exact ⟨rfl, HB.out⟩
        · have n3 : x4 ≤ a1 := by omega
          clear h
          go_enter Tryz.func123, Tryz.ntmps123
          go_wp2_with fail
          go_ret
          exact ⟨rfl, HB.out⟩
      · have n2 : a4 ≤ x1 := by omega
        clear h
        go_enter Tryz.func123, Tryz.ntmps123
        go_wp2_with fail
        go_ret
        exact ⟨rfl, HB.out⟩
    · have n1 : x3 ≤ a0 := by omega
      clear h
      go_enter Tryz.func123, Tryz.ntmps123
      go_wp2_with fail
      go_ret
      exact ⟨rfl, HB.out⟩
  · have n0 : a3 ≤ x0 := by omega
    clear h
    go_enter Tryz.func123, Tryz.ntmps123
    go_wp2_with fail
    go_ret
    exact ⟨rfl, HB.out⟩
set_option maxRecDepth 100000 in
set_option maxHeartbeats 8000000 in
theorem rover_yes {x0 x1 x2 x3 x4 x5 a0 a1 a2 a3 a4 a5 : Int} (h0 : x0 < a3) (h1 : a0 < x3) (h2 : x1 < a4) (h3 : a1 < x4) (h4 : x2 < a5) (h5 : a2 < x5) (w : World) :
    Calls Tryz.prog 123 #[.agg #[.int .i64 x0, .int .i64 x1, .int .i64 x2, .int .i64 x3, .int .i64 x4, .int .i64 x5], .agg #[.int .i64 a0, .int .i64 a1, .int .i64 a2, .int .i64 a3, .int .i64 a4, .int .i64 a5]] w fun e w' => e = .returned (.bool true) ∧ Below w.heap.size w w' := by
  have HB := Lib.hid (((Below.refl w.heap.size w).alloc (Nat.le_refl _) (.cells #[.int .i64 x0, .int .i64 x1, .int .i64 x2, .int .i64 x3, .int .i64 x4, .int .i64 x5] 45)).alloc (by simp) (.cells #[.int .i64 a0, .int .i64 a1, .int .i64 a2, .int .i64 a3, .int .i64 a4, .int .i64 a5] 45))
  go_enter Tryz.func123, Tryz.ntmps123
  go_wp2_with fail
  go_ret
  exact ⟨rfl, HB.out⟩
theorem rover_any (a b : Bx) (w : World) : Calls Tryz.prog 123 #[.agg (bxC a), .agg (bxC b)] w fun e w' => e = .returned (.bool (Yp.overB a b)) ∧ Below w.heap.size w w' := by
  by_cases h : a.over b
  · rw [(Yp.overB_iff a b).2 h]
    obtain ⟨h0, h1, h2, h3, h4, h5⟩ := h
    exact rover_yes h0 h1 h2 h3 h4 h5 w
  · have : Yp.overB a b = false := by
      cases e : Yp.overB a b with
      | false => rfl
      | true => exact absurd ((Yp.overB_iff a b).1 e) h
    rw [this]
    exact rover_no h w
end Go.Proofs.YtejhcbbfdfnfdaaGreatDoor.Yard

/- The reference's Name. -/
namespace Go.Proofs.YtejhcbbfdfnfdaaGreatDoor.Yard
open Go.RowKit Go.Proofs.YtejhcbbfdfnfdaaGreatDoor.Base Go.Proofs.YtejhcbbfdfnfdaaGreatDoor.Mp
open Yp (It Yd Fact Bx)
theorem low_in {c : UInt8} (h : Yp.isLow c = true) : Yp.isIn c = true := by unfold Yp.isIn; rw [h]; rfl
theorem name_all (s : ByteArray) (h0 : 0 < s.size) : Yp.isName s = (decide (s.size ≤ 24) && Yp.isLow s[0] && s.data.toList.all Yp.isIn) := by
  obtain ⟨l, hl⟩ := Lex.head_of h0
  have hz : s.size = l.length + 1 := by
    have : s.data.toList.length = s.size := by simp
    rw [hl] at this
    simpa using this.symm
  unfold Yp.isName
  rw [hl]
  simp only [List.all_cons]
  rw [show decide (s.size ≤ 24) = decide (l.length < 24) by rw [hz]; exact decide_eq_decide.2 (by omega)]
  cases h : Yp.isLow s[0] with
  | false => simp
  | true => rw [low_in h, Bool.true_and]
theorem name_bad {s : ByteArray} {k : Nat} (hk : k < s.size) (h : Yp.isIn s[k] = false) : Yp.isName s = false := by
  rw [name_all s (by omega)]
  have : s.data.toList.all Yp.isIn = false := List.all_eq_false.2 ⟨s[k], Array.mem_toList_iff.2 (Array.getElem_mem hk), by rw [h]; decide⟩
  rw [this, Bool.and_false]
theorem name_good {s : ByteArray} (h0 : 0 < s.size) (h1 : s.size ≤ 24) (h2 : Yp.isLow s[0] = true) (h3 : ∀ i (h : i < s.size), Yp.isIn s[i] = true) : Yp.isName s = true := by
  rw [name_all s h0, decide_eq_true h1, h2, Bool.true_and, Bool.true_and, List.all_eq_true]
  intro c hc
  obtain ⟨i, hi, rfl⟩ := List.getElem_of_mem hc
  have hi' : i < s.size := by simpa using hi
  rw [Array.getElem_toList]
  exact h3 i hi'
theorem isIn_no {c : UInt8} (h1 : c.toNat < 97 ∨ 122 < c.toNat) (h2 : c.toNat < 48 ∨ 57 < c.toNat) (h3 : c.toNat ≠ 95) : Yp.isIn c = false := by
  unfold Yp.isIn Yp.isLow
  simp
  omega
theorem isIn_yes {c : UInt8} (h : (97 ≤ c.toNat ∧ c.toNat ≤ 122) ∨ (48 ≤ c.toNat ∧ c.toNat ≤ 57) ∨ c.toNat = 95) : Yp.isIn c = true := by
  unfold Yp.isIn Yp.isLow
  simp
  omega
set_option maxRecDepth 100000 in
set_option maxHeartbeats 8000000 in
theorem rname_any (s : ByteArray) (w : World) : Calls Tryz.prog 82 #[.string s] w fun e w' => e = .returned (.bool (Yp.isName s)) ∧ Below w.heap.size w w' := by
  have HB := Lib.hid (Below.refl w.heap.size w)
  by_cases h0 : 0 < s.size
  rotate_left
  · have h1 : s.size = 0 := by omega
    have h2 : decide (s.size < 1) = true := decide_eq_true (by omega)
    have : Yp.isName s = false := by
      unfold Yp.isName
      have : s.data.toList = [] := List.length_eq_zero_iff.1 (by simpa using h1)
      rw [this]
    rw [this]
    clear this h1
    go_enter Tryz.func82, Tryz.ntmps82
    go_wp2_with fail
    go_ret
    exact ⟨rfl, by first | exact HB.out | exact HB.out.drew⟩
  have q0 : decide (s.size < 1) = false := decide_eq_false (by omega)
  by_cases h1 : s.size ≤ 24
  rotate_left
  · have h2 : decide (24 < s.size) = true := by simp; omega
    have : Yp.isName s = false := by rw [name_all s h0, decide_eq_false h1]; rfl
    rw [this]
    clear this
    go_enter Tryz.func82, Tryz.ntmps82
    go_wp2_with fail
    go_ret
    exact ⟨rfl, by first | exact HB.out | exact HB.out.drew⟩
  have q1 : decide (24 < s.size) = false := by simp; omega
  by_cases h2 : Yp.isLow s[0] = true
  rotate_left
  · have : Yp.isName s = false := by rw [name_all s h0]; simp [h2]
    rw [this]
    have h3 : s[0].toNat < 97 ∨ 122 < s[0].toNat := by
      unfold Yp.isLow at h2
      simp at h2
      omega
    clear this h2
    rcases h3 with h3 | h3
    · go_enter Tryz.func82, Tryz.ntmps82
      go_wp2_with fail
      go_ret
      exact ⟨rfl, by first | exact HB.out | exact HB.out.drew⟩
    · have h4 : 97 ≤ s[0].toNat := by omega
      go_enter Tryz.func82, Tryz.ntmps82
      go_wp2_with fail
      go_ret
      exact ⟨rfl, by first | exact HB.out | exact HB.out.drew⟩
  have HLOW := Lib.hid h2
  have h3 : 97 ≤ s[0].toNat ∧ s[0].toNat ≤ 122 := by
    unfold Yp.isLow at h2
    simpa using h2
  obtain ⟨h3, h4⟩ := h3
  clear h2
  go_enter Tryz.func82, Tryz.ntmps82
  go_wp2_with fail
  go_loopw [3] (fun n wr => ∃ k : Nat, k ≤ s.size ∧ n = .int .i64 k ∧ (∀ i (h : i < s.size), i < k → Yp.isIn s[i] = true) ∧ Below w.heap.size w wr) (fun n _ => s.size - (intOf n).toNat)
  case atStart => exact ⟨0, by omega, rfl, fun i h hk => by omega, by first | exact HB.out | exact HB.out.drew⟩
  case round =>
    obtain ⟨k, hk, rfl, hall, hb⟩ := hrel
    have HA := Lib.hid hall
    have HB := Lib.hid hb
    clear hall hb h3 h4
    by_cases hlt : k < s.size
    · have HNO : Hid (Yp.isIn s[k] = false → Yp.isName s = false) := Lib.hid (name_bad hlt)
      have HYES : Hid (Yp.isIn s[k] = true → ∀ i (h : i < s.size), i < k + 1 → Yp.isIn s[i] = true) := Lib.hid (fun hq i h hi => by
        rcases Nat.lt_or_ge i k with g | g
        · exact HA.out i h g
        · obtain rfl : i = k := by omega
          exact hq)
      by_cases c1 : s[k].toNat < 97
      · by_cases c2 : s[k].toNat < 48
        · have HF := Lib.hid (HNO.out (isIn_no (.inl c1) (.inl c2) (by omega)))
          have c3 : ((s[k].toNat : Int) != 95) = true := by simp; omega
          go_wp2_with fail
          go_ret
          rw [HF.out]
          exact ⟨rfl, HB.out⟩
        · by_cases c3 : s[k].toNat ≤ 57
          · have HT := Lib.hid (HYES.out (isIn_yes (.inr (.inl ⟨by omega, c3⟩))))
            have c4 : 48 ≤ s[k].toNat := by omega
            clear c2
            go_wp2_with fail
            exact ⟨⟨k + 1, hlt, by go_num, HT.out, HB.out⟩, by simp [intOf]; omega⟩
          · have c4 : 48 ≤ s[k].toNat := by omega
            have c5 : 57 < s[k].toNat := by omega
            clear c2 c3
            by_cases c6 : s[k].toNat = 95
            · have HT := Lib.hid (HYES.out (isIn_yes (.inr (.inr c6))))
              have c7 : ((s[k].toNat : Int) != 95) = false := by simp; omega
              go_wp2_with fail
              exact ⟨⟨k + 1, hlt, by go_num, HT.out, HB.out⟩, by simp [intOf]; omega⟩
            · have HF := Lib.hid (HNO.out (isIn_no (.inl c1) (.inr c5) c6))
              have c7 : ((s[k].toNat : Int) != 95) = true := by simp; omega
              go_wp2_with fail
              go_ret
              rw [HF.out]
              exact ⟨rfl, HB.out⟩
      · have c4 : 97 ≤ s[k].toNat := by omega
        clear c1
        by_cases c2 : s[k].toNat ≤ 122
        · have HT := Lib.hid (HYES.out (isIn_yes (.inl ⟨c4, c2⟩)))
          go_wp2_with fail
          exact ⟨⟨k + 1, hlt, by go_num, HT.out, HB.out⟩, by simp [intOf]; omega⟩
        · have c5 : 122 < s[k].toNat := by omega
          have HF := Lib.hid (HNO.out (isIn_no (.inr c5) (.inr (by omega)) (by omega)))
          have c3 : ((s[k].toNat : Int) != 95) = true := by simp; omega
          clear c2
          go_wp2_with fail
          go_ret
          rw [HF.out]
          exact ⟨rfl, HB.out⟩
    · have HT : Hid (Yp.isName s = true) := Lib.hid (name_good h0 h1 HLOW.out fun i h => HA.out i h (by omega))
      go_wp2_with fail
      go_ret
      rw [HT.out]
      exact ⟨rfl, HB.out⟩
end Go.Proofs.YtejhcbbfdfnfdaaGreatDoor.Yard
