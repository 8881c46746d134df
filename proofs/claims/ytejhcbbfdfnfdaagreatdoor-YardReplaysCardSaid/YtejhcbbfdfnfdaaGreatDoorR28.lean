/- Stone: the item that has a stone. -/
import Derived.Test.YtejhcbbfdfnfdaaGreatDoorR10
import Derived.Test.YtejhcbbfdfnfdaaGreatDoorR3
import Derived.Test.YtejhcbbfdfnfdaaGreatDoorR20
/- The law's own 'inside' and 'overlap'. -/
namespace Go.Proofs.YtejhcbbfdfnfdaaGreatDoor.Yard
open Go.RowKit Go.Proofs.YtejhcbbfdfnfdaaGreatDoor.Base
set_option maxRecDepth 100000 in
set_option maxHeartbeats 4000000 in
theorem inside_any {x0 x1 x2 x3 x4 x5 a0 a1 a2 a3 a4 a5 : Int} (h0 : a0 ≤ x0) (h1 : a1 ≤ x1) (h2 : a2 ≤ x2) (h3 : x3 ≤ a3) (h4 : x4 ≤ a4) (h5 : x5 ≤ a5) (w : World) :
    Calls Tryz.prog 17 #[.agg #[.int .i64 x0, .int .i64 x1, .int .i64 x2, .int .i64 x3, .int .i64 x4, .int .i64 x5], .agg #[.int .i64 a0, .int .i64 a1, .int .i64 a2, .int .i64 a3, .int .i64 a4, .int .i64 a5]] w fun e w' => e = .returned (.bool true) ∧ Below w.heap.size w w' := by
  have HB := Lib.hid (((Below.refl w.heap.size w).alloc (Nat.le_refl _) (.cells #[.int .i64 x0, .int .i64 x1, .int .i64 x2, .int .i64 x3, .int .i64 x4, .int .i64 x5] 45)).alloc (by simp) (.cells #[.int .i64 a0, .int .i64 a1, .int .i64 a2, .int .i64 a3, .int .i64 a4, .int .i64 a5] 45))
  go_enter Tryz.func17, Tryz.ntmps17
  go_wp2_with fail
  go_ret
  exact ⟨rfl, HB.out⟩
set_option maxRecDepth 100000 in
set_option maxHeartbeats 8000000 in
theorem overlapL_no {x0 x1 x2 x3 x4 x5 a0 a1 a2 a3 a4 a5 : Int} (h : ¬ (x0 < a3 ∧ a0 < x3 ∧ x1 < a4 ∧ a1 < x4 ∧ x2 < a5 ∧ a2 < x5)) (w : World) :
    Calls Tryz.prog 18 #[.agg #[.int .i64 x0, .int .i64 x1, .int .i64 x2, .int .i64 x3, .int .i64 x4, .int .i64 x5], .agg #[.int .i64 a0, .int .i64 a1, .int .i64 a2, .int .i64 a3, .int .i64 a4, .int .i64 a5]] w fun e w' => e = .returned (.bool false) ∧ Below w.heap.size w w' := by
  have HB := Lib.hid (((Below.refl w.heap.size w).alloc (Nat.le_refl _) (.cells #[.int .i64 x0, .int .i64 x1, .int .i64 x2, .int .i64 x3, .int .i64 x4, .int .i64 x5] 45)).alloc (by simp) (.cells #[.int .i64 a0, .int .i64 a1, .int .i64 a2, .int .i64 a3, .int .i64 a4, .int .i64 a5] 45))
  by_cases q0 : x0 < a3
  · by_cases q1 : a0 < x3
    · by_cases q2 : x1 < a4
      · by_cases q3 : a1 < x4
        · by_cases q4 : x2 < a5
          · by_cases q5 : a2 < x5
            · exact absurd ⟨q0, q1, q2, q3, q4, q5⟩ h
            · have n5 : x5 ≤ a2 := by omega
              clear h
              go_enter Tryz.func18, Tryz.ntmps18
              go_wp2_with fail
              go_ret
              exact ⟨rfl, HB.out⟩
          · have n4 : a5 ≤ x2 := by omega
            clear h
            go_enter Tryz.func18, Tryz.ntmps18
            go_wp2_with fail
            go_ret
            exact ⟨rfl, HB.out⟩
        · have n3 : x4 ≤ a1 := by omega
          clear h
          go_enter Tryz.func18, Tryz.ntmps18
          go_wp2_with fail
          go_ret
          exact ⟨rfl, HB.out⟩
      · have n2 : a4 ≤ x1 := by omega
        clear h
        go_enter Tryz.func18, Tryz.ntmps18
        go_wp2_with fail
        go_ret
        exact ⟨rfl, HB.out⟩
    · have n1 : x3 ≤ a0 := by omega
      clear h
      go_enter Tryz.func18, Tryz.ntmps18
      go_wp2_with fail
      go_ret
      exact ⟨rfl, HB.out⟩
  · have n0 : a3 ≤ x0 := by omega
    clear h
    go_enter Tryz.func18, Tryz.ntmps18
    go_wp2_with fail
    go_ret
    exact ⟨rfl, HB.out⟩
end Go.Proofs.YtejhcbbfdfnfdaaGreatDoor.Yard

/- Stone: the item that has a stone. -/
namespace Go.Proofs.YtejhcbbfdfnfdaaGreatDoor.Yard
open Go.RowKit Go.Proofs.YtejhcbbfdfnfdaaGreatDoor.Base Go.Proofs.YtejhcbbfdfnfdaaGreatDoor.Mp
open Yp (It Yd Fact Bx)
set_option maxRecDepth 100000 in
set_option maxHeartbeats 4000000 in
theorem stone_any {w : World} {Y M : Nat} {FS : Value} {y : Yd} (hy : YAt w Y M FS y) (name : ByteArray) :
    Calls Tryz.prog 20 #[.pointer (some ⟨Y, 0, none⟩), .string name] w fun e w' =>
      ((∃ x ∈ y.items, name ≠ Yp.es ∧ x.stone = name ∧ e = .returned (.tuple #[.agg (itC x), .int .i64 0])) ∨ ((name = Yp.es ∨ ∀ x ∈ y.items, x.stone ≠ name) ∧ e = .returned (.tuple #[.agg #[.string ⟨#[]⟩, .string ⟨#[]⟩, .int .i64 0, .int .i64 0, .int .i64 0, .int .i64 0, .int .i64 0, .int .i64 0, .int .i64 0, .string ⟨#[]⟩], .int .i64 9]))) ∧ Below w.heap.size w w' := by
  have B1 := (Below.refl w.heap.size w).alloc (Nat.le_refl _) (.cells #[.string ⟨#[]⟩, .string ⟨#[]⟩, .int .i64 0, .int .i64 0, .int .i64 0, .int .i64 0, .int .i64 0, .int .i64 0, .int .i64 0, .string ⟨#[]⟩] 47)
  have HR := Lib.hid (new_block w (.cells #[.string ⟨#[]⟩, .string ⟨#[]⟩, .int .i64 0, .int .i64 0, .int .i64 0, .int .i64 0, .int .i64 0, .int .i64 0, .int .i64 0, .string ⟨#[]⟩] 47))
  have HY := Lib.hid (hy.below B1)
  have HB := Lib.hid B1
  have y0 := (row_cells HY.out.row).1 0
  have hW1 : Hid ((w.alloc (.cells #[.string ⟨#[]⟩, .string ⟨#[]⟩, .int .i64 0, .int .i64 0, .int .i64 0, .int .i64 0, .int .i64 0, .int .i64 0, .int .i64 0, .string ⟨#[]⟩] 47)).heap.size = w.heap.size + 1) := Lib.hid (by simp)
  clear B1 hy
  have hit : ∀ x : It, itC x = #[.string x.id, .string x.par, .int .i64 x.bx.x0, .int .i64 x.bx.y0, .int .i64 x.bx.z0, .int .i64 x.bx.x1, .int .i64 x.bx.y1, .int .i64 x.bx.z1, .int .i64 x.st, .string x.stone] := fun _ => rfl
  go_enter Tryz.func20, Tryz.ntmps20
  go_wp2_with (at_range; refine wpList_range_it _ rfl _ 70 9 47 rfl Tryz.underlying70 M y.items rfl HY.out.map ?_; intro w0 hi0 hb0)
  go_frame
  rw [hW1.out] at hi0 ⊢
  have HI0 := Lib.hid hi0
  have HB0 := Lib.hid (hb0.mono (Nat.le_of_eq hW1.out.symm))
  clear hi0 hb0 y0
  go_loopw [] (fun wr => ∃ left, ItIter wr (w.heap.size + 1) M y.items left ∧ (∀ z ∈ y.items, z ∈ left ∨ name = Yp.es ∨ z.stone ≠ name) ∧ Below (w.heap.size + 1) (w.alloc (.cells #[.string ⟨#[]⟩, .string ⟨#[]⟩, .int .i64 0, .int .i64 0, .int .i64 0, .int .i64 0, .int .i64 0, .int .i64 0, .int .i64 0, .string ⟨#[]⟩] 47)) wr) (fun wr => wr.rangeLeft M (w.heap.size + 1))
  case atStart => exact ⟨y.items, HI0.out, fun z hz => .inl hz, HB0.out⟩
  case round =>
    obtain ⟨left, hi, hall, hb⟩ := hrel
    have HI := Lib.hid hi
    have HA := Lib.hid hall
    have HB1 := Lib.hid hb
    have HR7 := Lib.hid ((hb.block w.heap.size (Nat.lt_succ_self _)).trans HR.out)
    have kz := row_cells HR7.out
    clear hi hall hb
    by_cases hn0 : name.toList = []
    · have HN := Lib.hid ((tl_nil _).1 hn0)
      go_wp2_with (at_next; refine wpList_next_it _ rfl _ rfl (w.heap.size + 1) M y.items left rfl HI.out ?hd ?hm; (case' hd => intro hd); (case' hm => intro A B x w' hl hi' hbut hen))
      · have hb2 : Below (w.heap.size + 1) (w.alloc (.cells #[.string ⟨#[]⟩, .string ⟨#[]⟩, .int .i64 0, .int .i64 0, .int .i64 0, .int .i64 0, .int .i64 0, .int .i64 0, .int .i64 0, .string ⟨#[]⟩] 47)) (w'.alloc (.cells #[.string x.id, .string x.par, .int .i64 x.bx.x0, .int .i64 x.bx.y0, .int .i64 x.bx.z0, .int .i64 x.bx.x1, .int .i64 x.bx.y1, .int .i64 x.bx.z1, .int .i64 x.st, .string x.stone] 47)) := (HB1.out.trans (hbut.below (Nat.le_refl _))).alloc (by have := HB1.out.size; have := hbut.size; simp at *; omega) _
        have hi2 := hi'.after ((Below.refl w'.heap.size w').alloc (Nat.le_refl _) (.cells #[.string x.id, .string x.par, .int .i64 x.bx.x0, .int .i64 x.bx.y0, .int .i64 x.bx.z0, .int .i64 x.bx.x1, .int .i64 x.bx.y1, .int .i64 x.bx.z1, .int .i64 x.st, .string x.stone] 47))
        exact ⟨⟨A ++ B, hi2, fun z hz => .inr (.inl HN.out), hb2⟩, by rw [HI.out.left_eq, hi2.left_eq, hl]; simp⟩
      · have hy9 := HB.out.trans (HB1.out.mono (Nat.le_succ _))
        refine bodyPost_ret (v := .tuple #[.agg #[.string ⟨#[]⟩, .string ⟨#[]⟩, .int .i64 0, .int .i64 0, .int .i64 0, .int .i64 0, .int .i64 0, .int .i64 0, .int .i64 0, .string ⟨#[]⟩], .int .i64 9]) ?_ rfl ⟨.inr ⟨.inl HN.out, rfl⟩, ?_⟩
        · simp [results, Tryz.results20, go_sem, *]
        · (repeat' (first | (with_reducible exact hy9) | (with_reducible refine Below.drew ?_) | (with_reducible refine Below.setCell ?_ ?_ _) | (with_reducible refine Below.alloc ?_ ?_ _) | (simp; done) | (simp; omega)))
    · have HN := Lib.hid (fun h : name = Yp.es => hn0 ((tl_nil _).2 h))
      have hne : name.toList.isEmpty = false := by simpa using hn0
      go_wp2_with (at_next; refine wpList_next_it _ rfl _ rfl (w.heap.size + 1) M y.items left rfl HI.out ?hd2 ?hm2; (case' hd2 => intro hd); (case' hm2 => intro A B x w' hl hi' hbut hen; have ks := fun O => row_cells (old_block ((hbut.block w.heap.size (Nat.ne_of_lt (Nat.lt_succ_self _))).trans HR7.out) O); have ks1 := fun O => (ks O).1; have ks2 := fun O => (ks O).2; clear ks; rcases Bool.eq_false_or_eq_true (x.stone.toList == name.toList) with he | he))
      · have hb2 : Below (w.heap.size + 1) (w.alloc (.cells #[.string ⟨#[]⟩, .string ⟨#[]⟩, .int .i64 0, .int .i64 0, .int .i64 0, .int .i64 0, .int .i64 0, .int .i64 0, .int .i64 0, .string ⟨#[]⟩] 47)) (w'.alloc (.cells #[.string x.id, .string x.par, .int .i64 x.bx.x0, .int .i64 x.bx.y0, .int .i64 x.bx.z0, .int .i64 x.bx.x1, .int .i64 x.bx.y1, .int .i64 x.bx.z1, .int .i64 x.st, .string x.stone] 47)) := (HB1.out.trans (hbut.below (Nat.le_refl _))).alloc (by have := HB1.out.size; have := hbut.size; simp at *; omega) _
        have hy9 := HB.out.trans (hb2.mono (Nat.le_succ _))
        have hs : x.stone = name := by rw [tl_beq] at he; simpa using he
        refine bodyPost_ret (v := .tuple #[.agg #[.string x.id, .string x.par, .int .i64 x.bx.x0, .int .i64 x.bx.y0, .int .i64 x.bx.z0, .int .i64 x.bx.x1, .int .i64 x.bx.y1, .int .i64 x.bx.z1, .int .i64 x.st, .string x.stone], .int .i64 0]) ?_ rfl ⟨.inl ⟨x, HI.out.sub x (by rw [hl]; simp), HN.out, hs, rfl⟩, ?_⟩
        · simp [results, Tryz.results20, go_sem, *]
        · (repeat' (first | (with_reducible exact hy9) | (with_reducible refine Below.drew ?_) | (with_reducible refine Below.setCell ?_ ?_ _) | (with_reducible refine Below.alloc ?_ ?_ _) | (simp; done) | (simp; omega)))
      · have hb2 : Below (w.heap.size + 1) (w.alloc (.cells #[.string ⟨#[]⟩, .string ⟨#[]⟩, .int .i64 0, .int .i64 0, .int .i64 0, .int .i64 0, .int .i64 0, .int .i64 0, .int .i64 0, .string ⟨#[]⟩] 47)) (w'.alloc (.cells #[.string x.id, .string x.par, .int .i64 x.bx.x0, .int .i64 x.bx.y0, .int .i64 x.bx.z0, .int .i64 x.bx.x1, .int .i64 x.bx.y1, .int .i64 x.bx.z1, .int .i64 x.st, .string x.stone] 47)) := (HB1.out.trans (hbut.below (Nat.le_refl _))).alloc (by have := HB1.out.size; have := hbut.size; simp at *; omega) _
        have hi2 := hi'.after ((Below.refl w'.heap.size w').alloc (Nat.le_refl _) (.cells #[.string x.id, .string x.par, .int .i64 x.bx.x0, .int .i64 x.bx.y0, .int .i64 x.bx.z0, .int .i64 x.bx.x1, .int .i64 x.bx.y1, .int .i64 x.bx.z1, .int .i64 x.st, .string x.stone] 47))
        have hs : x.stone ≠ name := by rw [tl_beq] at he; simpa using he
        refine ⟨⟨A ++ B, hi2, fun z hz => ?_, hb2⟩, by rw [HI.out.left_eq, hi2.left_eq, hl]; simp⟩
        rcases HA.out z hz with g | g
        · rw [hl] at g
          rcases List.mem_append.1 g with g | g
          · exact .inl (List.mem_append_left _ g)
          · rcases List.mem_cons.1 g with rfl | g
            · exact .inr (.inr hs)
            · exact .inl (List.mem_append_right _ g)
        · exact .inr g
      · have hy9 := HB.out.trans (HB1.out.mono (Nat.le_succ _))
        have hno : ∀ z ∈ y.items, z.stone ≠ name := fun z hz => by
          rcases HA.out z hz with g | g | g
          · rw [hd] at g; exact absurd g List.not_mem_nil
          · exact absurd g HN.out
          · exact g
        refine bodyPost_ret (v := .tuple #[.agg #[.string ⟨#[]⟩, .string ⟨#[]⟩, .int .i64 0, .int .i64 0, .int .i64 0, .int .i64 0, .int .i64 0, .int .i64 0, .int .i64 0, .string ⟨#[]⟩], .int .i64 9]) ?_ rfl ⟨.inr ⟨.inr hno, rfl⟩, ?_⟩
        · simp [results, Tryz.results20, go_sem, *]
        · (repeat' (first | (with_reducible exact hy9) | (with_reducible refine Below.drew ?_) | (with_reducible refine Below.setCell ?_ ?_ _) | (with_reducible refine Below.alloc ?_ ?_ _) | (simp; done) | (simp; omega)))
end Go.Proofs.YtejhcbbfdfnfdaaGreatDoor.Yard
