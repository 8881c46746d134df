/- lexer's classes, inner and Name$1: what they return. -/
import Derived.Test.YtejhcbbfdfnfdaaGreatDoorProg
import Derived.WalkKit
import Derived.Outline
import Derived.WalkLawsBesides
import Derived.WalkSpells
import Derived.KernelRfl
import Derived.Lib.Hide
import Derived.Laws.CopyOwn
/- lexer's table, classes, inner, run, Name: what they return. -/
namespace Go.Proofs.YtejhcbbfdfnfdaaGreatDoor.Lex
open Go.RowKit
noncomputable def tb1 : Nat → Array Value
  | 0 => Tryz.zeroCells158
  | k + 1 => ((tb1 k).setIfInBounds (97 + k) (.int .u8 1)).setIfInBounds (k + 65) (.int .u8 1)
theorem tb1_size : ∀ k, (tb1 k).size = 256
  | 0 => by kernel_rfl
  | k + 1 => by rw [tb1, Array.size_setIfInBounds, Array.size_setIfInBounds, tb1_size k]
noncomputable def tb2 : Nat → Array Value
  | 0 => tb1 26
  | k + 1 => (tb2 k).setIfInBounds (48 + k) (.int .u8 2)
theorem tb2_size : ∀ k, (tb2 k).size = 256
  | 0 => tb1_size 26
  | k + 1 => by rw [tb2, Array.size_setIfInBounds, tb2_size k]
def signs : ByteArray := ⟨#[40, 41, 44, 61, 58, 60, 62, 43, 47]⟩
def sg (k : Nat) : Nat := [40, 41, 44, 61, 58, 60, 62, 43, 47].getD k 0
theorem sg_lt (k : Nat) : sg k < 256 := by
  unfold sg
  by_cases h : k < 9
  · (obtain rfl | rfl | rfl | rfl | rfl | rfl | rfl | rfl | rfl : k = 0 ∨ k = 1 ∨ k = 2 ∨ k = 3 ∨ k = 4 ∨ k = 5 ∨ k = 6 ∨ k = 7 ∨ k = 8 := by omega) <;> decide
  · simp only [List.getD_eq_getElem?_getD]
    rw [List.getElem?_eq_none (by simp; omega)]; decide
noncomputable def tb3 : Nat → Array Value
  | 0 => (tb2 10).setIfInBounds 95 (.int .u8 3)
  | k + 1 => (tb3 k).setIfInBounds (sg k) (.int .u8 4)
theorem tb3_size : ∀ k, (tb3 k).size = 256
  | 0 => by rw [tb3, Array.size_setIfInBounds, tb2_size]
  | k + 1 => by rw [tb3, Array.size_setIfInBounds, tb3_size k]
theorem tb3_succ (k : Nat) : tb3 (k + 1) = (tb3 k).setIfInBounds (sg k) (.int .u8 4) := rfl
theorem dec_sign (k : Nat) (h : k < 9) : Utf8.decode signs k = (sg k, 1) := by
  (obtain rfl | rfl | rfl | rfl | rfl | rfl | rfl | rfl | rfl : k = 0 ∨ k = 1 ∨ k = 2 ∨ k = 3 ∨ k = 4 ∨ k = 5 ∨ k = 6 ∨ k = 7 ∨ k = 8 := by omega) <;> decide
theorem next_sign (w : World) (C : Array Value) (k : Nat) (h : k < 9) : (Instr.next (.pointer (some ⟨w.heap.size + 1 + 1, 0, none⟩)) true 0).run Tryz.prog (((w.alloc (.cells Tryz.zeroCells158 158)).alloc (.cells C 158)).iter signs k) =
    .ok (.tuple #[.bool true, .int .i64 k, .int .i32 (sg k)]) (((w.alloc (.cells Tryz.zeroCells158 158)).alloc (.cells C 158)).iter signs (k + 1)) := by
  have h1 := run_next_any (P := Tryz.prog) ((w.alloc (.cells Tryz.zeroCells158 158)).alloc (.cells C 158)) signs k 0 h
  rw [dec_sign k h] at h1
  simpa using h1
theorem iter_cell (w : World) (C : Array Value) (k i : Nat) : (((w.alloc (.cells Tryz.zeroCells158 158)).alloc (.cells C 158)).iter signs k).cell? ⟨w.heap.size + 1, i, none⟩ = C[i]? := by
  show (((w.alloc (.cells Tryz.zeroCells158 158)).alloc (.cells C 158)).alloc (.stringIter signs k)).cell? ⟨w.heap.size + 1, i, none⟩ = C[i]?
  rw [World.cell?_alloc_past _ _ _ (by simp), World.cell?_alloc_at _ _ _ _ (by simp)]
theorem iter_frozen (w : World) (C : Array Value) (k i : Nat) : (((w.alloc (.cells Tryz.zeroCells158 158)).alloc (.cells C 158)).iter signs k).frozen? ⟨w.heap.size + 1, i, none⟩ = false := by
  show (((w.alloc (.cells Tryz.zeroCells158 158)).alloc (.cells C 158)).alloc (.stringIter signs k)).frozen? ⟨w.heap.size + 1, i, none⟩ = false
  rw [World.frozen?_alloc_past _ _ _ (by simp), World.frozen?_alloc_at _ _ _ _ (by simp)]
theorem iter_set (w : World) (C : Array Value) (k i : Nat) (v : Value) : (((w.alloc (.cells Tryz.zeroCells158 158)).alloc (.cells C 158)).iter signs k).setCell ⟨w.heap.size + 1, i, none⟩ v = ((w.alloc (.cells Tryz.zeroCells158 158)).alloc (.cells (C.setIfInBounds i v) 158)).iter signs k := by
  show (((w.alloc (.cells Tryz.zeroCells158 158)).alloc (.cells C 158)).alloc (.stringIter signs k)).setCell ⟨w.heap.size + 1, i, none⟩ v = _
  rw [World.setCell_alloc_past _ _ _ _ (by simp), World.setCell_alloc_at _ _ _ _ _ (by simp)]
  rfl
theorem row_iter (w : World) (C : Array Value) (k : Nat) : (((w.alloc (.cells Tryz.zeroCells158 158)).alloc (.cells C 158)).iter signs k).heap[w.heap.size + 1]? = some (.cells C 158 (0, 0)) := by
  have h := heap_alloc2_new w (.cells Tryz.zeroCells158 158) (.cells C 158)
  show (((w.alloc (.cells Tryz.zeroCells158 158)).alloc (.cells C 158)).alloc (.stringIter signs k)).heap[w.heap.size + 1]? = _
  rw [heap_alloc_old (h := by simp)]
  exact h
theorem row_iter0 (w : World) (C : Array Value) (k : Nat) : (((w.alloc (.cells Tryz.zeroCells158 158)).alloc (.cells C 158)).iter signs k).heap[w.heap.size]? = some (.cells Tryz.zeroCells158 158 (0, 0)) := by
  have h := heap_alloc2_old w (.cells Tryz.zeroCells158 158) (.cells C 158)
  show (((w.alloc (.cells Tryz.zeroCells158 158)).alloc (.cells C 158)).alloc (.stringIter signs k)).heap[w.heap.size]? = _
  rw [heap_alloc_old (h := by simp; omega)]
  exact h
theorem tb3_one : (tb3 9).all (·.oneCell') = true := by kernel_rfl
theorem next_end (w : World) (C : Array Value) : (Instr.next (.pointer (some ⟨w.heap.size + 1 + 1, 0, none⟩)) true 0).run Tryz.prog (((w.alloc (.cells Tryz.zeroCells158 158)).alloc (.cells C 158)).iter signs 9) =
    .ok (.tuple #[.bool false]) (((w.alloc (.cells Tryz.zeroCells158 158)).alloc (.cells C 158)).iter signs 9) := by
  have e : ((w.alloc (.cells Tryz.zeroCells158 158)).alloc (.cells C 158)).heap.size = w.heap.size + 1 + 1 := by simp
  have h := World.iter_heap ((w.alloc (.cells Tryz.zeroCells158 158)).alloc (.cells C 158)) signs 9
  rw [e] at h
  simp only [Instr.next, getObj, Sem.run_bind, Sem.run, h, Result.andThen]
  rfl
theorem tb2_succ (k : Nat) : tb2 (k + 1) = (tb2 k).setIfInBounds (48 + k) (.int .u8 2) := rfl
theorem arr_at (a : Array Value) (i : Nat) (h : i < a.size) : ∃ v, a[i]? = some v := ⟨_, Array.getElem?_eq_getElem h⟩
/-- The table. -/
noncomputable def tbl : Array Value := tb3 9
theorem tbl_size : tbl.size = 256 := tb3_size 9
theorem tbl_one : tbl.all (·.oneCell') = true := tb3_one
set_option maxRecDepth 100000 in
set_option maxHeartbeats 400000 in
theorem table_any (w : World) : Calls Tryz.prog 139 #[] w fun e w' => e = .returned (.agg tbl) ∧ Below w.heap.size w w' := by
  go_enter Tryz.func139, Tryz.ntmps139
  go_wp2
  go_loopw [2] (fun c wr => ∃ k : Nat, k ≤ 26 ∧ c = .int .i32 (97 + k) ∧ wr = (w.alloc (.cells Tryz.zeroCells158 158)).alloc (.cells (tb1 k) 158)) (fun c _ => 26 + 97 - (intOf c).toNat)
  case atStart => exact ⟨0, by omega, rfl, rfl⟩
  case round =>
    obtain ⟨k, hk, rfl, rfl⟩ := hrel
    by_cases hlt : k < 26
    · obtain ⟨v1, e1⟩ := arr_at (tb1 k) (97 + k) (by rw [tb1_size]; omega)
      obtain ⟨v2, e2⟩ := arr_at ((tb1 k).setIfInBounds (97 + k) (.int .u8 1)) (k + 65) (by rw [Array.size_setIfInBounds, tb1_size]; omega)
      go_wp2
      go_roundw
      case rel => exact ⟨k + 1, by omega, by go_num, rfl⟩
      case measure => simp [intOf]; omega
    · obtain rfl : k = 26 := by omega
      have e0 : tb1 26 = tb2 0 := rfl
      rw [e0]; clear e0
      go_wp2
      go_loopw [3] (fun c wr => ∃ k : Nat, k ≤ 10 ∧ c = .int .i32 (48 + k) ∧ wr = (w.alloc (.cells Tryz.zeroCells158 158)).alloc (.cells (tb2 k) 158)) (fun c _ => 10 + 48 - (intOf c).toNat)
      case atStart => exact ⟨0, by omega, rfl, rfl⟩
      case round =>
        obtain ⟨k, hk, rfl, rfl⟩ := hrel
        by_cases hlt : k < 10
        · obtain ⟨v1, e1⟩ := arr_at (tb2 k) (48 + k) (by rw [tb2_size]; omega)
          have es := tb2_succ k
          go_wp2
          go_roundw
          case rel =>
            refine ⟨k + 1, by omega, ?_, ?_⟩
            · exact congrArg (Value.int .i32) (by omega)
            · rw [es]
          case measure => simp [intOf]; omega
        · obtain rfl : k = 10 := by omega
          obtain ⟨v1, e1⟩ := arr_at (tb2 10) 95 (by rw [tb2_size]; omega)
          go_wp2
          have e3 : (tb2 10).setIfInBounds 95 (.int .u8 3) = tb3 0 := rfl
          rw [e3]; clear e3
          go_loopw [5] (fun _ wr => ∃ k : Nat, k ≤ 9 ∧ wr = ((w.alloc (.cells Tryz.zeroCells158 158)).alloc (.cells (tb3 k) 158)).iter signs k) (fun _ wr => 9 - wr.iterPos (w.heap.size + 2))
          case atStart => exact ⟨0, by omega, rfl⟩
          case round =>
            obtain ⟨k, hk, rfl⟩ := hrel
            by_cases hlt : k < 9
            · have hn := next_sign w (tb3 k) k hlt
              have hb := sg_lt k
              obtain ⟨v1, e1⟩ := arr_at (tb3 k) (sg k) (by rw [tb3_size]; omega)
              have es := tb3_succ k
              have f1 := iter_cell w (tb3 k) (k + 1) (sg k)
              have f2 := iter_frozen w (tb3 k) (k + 1) (sg k)
              have f3 := iter_set w (tb3 k) (k + 1) (sg k) (.int .u8 4)
              rw [← es] at f3
              clear es
              go_wp2
              refine ⟨⟨k + 1, by omega, rfl⟩, ?_⟩
              have g1 := World.iterPos_iter ((w.alloc (.cells Tryz.zeroCells158 158)).alloc (.cells (tb3 (k + 1)) 158)) signs (k + 1)
              have g2 := World.iterPos_iter ((w.alloc (.cells Tryz.zeroCells158 158)).alloc (.cells (tb3 k) 158)) signs k
              simp only [World.size_alloc] at g1 g2
              rw [g1, g2]
              omega
            · obtain rfl : k = 9 := by omega
              have hn := next_end w (tb3 9)
              have hr := row_iter w (tb3 9) 9
              have hr0 := row_iter0 w (tb3 9) 9
              have HR := Lib.hid hr
              have HR0 := Lib.hid hr0
              clear hr hr0
              go_wp2_with (first | (refine wpList_load_row rfl 158 (.tmp 1) rfl (w.heap.size + 1) rfl 158 (tb3 9) (0, 0) _ HR.out Tryz.underlying158 rfl ?_ ?_; (rw [tb3_size]; kernel_rfl)) | (refine wpList_store_row rfl 158 (.tmp 0) (.tmp 29) rfl w.heap.size (tb3 9) rfl rfl 158 Tryz.zeroCells158 HR0.out ?_ ?_ ?_ ?_; (rw [tb3_size]; kernel_rfl); (rw [tb3_size]; kernel_rfl); (exact tb3_one)))
              refine bodyPost_ret (results_cell_row rfl _ _ w.heap.size 158 (tb3 9) (0, 0) _ rfl (setRow_heap _ _ Tryz.zeroCells158 _ _ _ HR0.out) Tryz.underlying158 rfl ?_) rfl ⟨rfl, ?_⟩
              · rw [tb3_size]; kernel_rfl
              · exact below_setRow ((((Below.refl _ _).alloc (Nat.le_refl _) _).alloc (by simp) _).alloc (by simp; omega) _) (Nat.le_refl _) _
/-- The class of a byte. -/
def clsL : List Nat := (List.range 256).map fun i => if 97 ≤ i ∧ i ≤ 122 ∨ 65 ≤ i ∧ i ≤ 90 then 1 else if 48 ≤ i ∧ i ≤ 57 then 2 else if i = 95 then 3 else if [40, 41, 44, 61, 58, 60, 62, 43, 47].contains i then 4 else 0
def cls (c : Nat) : Nat := if 97 ≤ c ∧ c ≤ 122 ∨ 65 ≤ c ∧ c ≤ 90 then 1 else if 48 ≤ c ∧ c ≤ 57 then 2 else if c = 95 then 3 else if [40, 41, 44, 61, 58, 60, 62, 43, 47].contains c then 4 else 0
theorem tbl_list : tbl = (clsL.map fun n : Nat => Value.int .u8 (n : Int)).toArray := by kernel_rfl
theorem tbl_at (c : Nat) (h : c < 256) : tbl[c]? = some (.int .u8 (cls c)) := by
  rw [tbl_list, List.getElem?_toArray, List.getElem?_map]
  unfold clsL
  rw [List.getElem?_map, List.getElem?_range h]
  rfl
end Go.Proofs.YtejhcbbfdfnfdaaGreatDoor.Lex

/- lexer's classes, inner and Name$1: what they return. -/
namespace Go.Proofs.YtejhcbbfdfnfdaaGreatDoor.Lex
open Go.RowKit
attribute [local irreducible] tbl
theorem classes_any (w : World) : Calls Tryz.prog 107 #[] w fun e w' => e = .returned (.agg tbl) ∧ Below w.heap.size w w' := by
  have h0 : ∀ w1, Below (w.alloc (.cells Tryz.zeroCells158 158)).heap.size (w.alloc (.cells Tryz.zeroCells158 158)) w1 → w1.heap[w.heap.size]? = some (.cells Tryz.zeroCells158 158 (0, 0)) := fun w1 hb => (hb.block w.heap.size (by simp)).trans (heap_alloc_new _ _)
  have H0 := Lib.hid h0
  clear h0
  go_enter Tryz.func107, Tryz.ntmps107
  go_wp2_with (first | (go_at_call 139; refine (table_any _).mono ?_; rintro e w1 ⟨rfl, hb⟩; have hr := Lib.hid (H0.out w1 hb)) | (refine wpList_store_row rfl 158 (.tmp 0) (.tmp 1) rfl w.heap.size tbl rfl rfl 158 Tryz.zeroCells158 hr.out ?_ ?_ ?_ ?_; (rw [tbl_size]; kernel_rfl); (rw [tbl_size]; kernel_rfl); (exact tbl_one)))
  refine bodyPost_ret (results_cell_row rfl _ _ w.heap.size 158 tbl (0, 0) _ rfl (setRow_heap _ _ Tryz.zeroCells158 _ _ _ hr.out) Tryz.underlying158 rfl ?_) rfl ⟨rfl, ?_⟩
  · rw [tbl_size]; kernel_rfl
  · exact below_setRow (((Below.refl _ _).alloc (Nat.le_refl _) _).trans (hb.mono (by simp))) (Nat.le_refl _) _

theorem index_tbl (c : Nat) (h : c < 256) (w : World) : (Instr.index 158 (.agg tbl) (.int .u8 c)).run Tryz.prog w = .ok (.int .u8 (cls c)) w := by
  have hs : (Go.sizeOf 5).run Tryz.prog w = .ok 1 w := by kernel_rfl
  have hp : (part 5 tbl (c * 1)).run Tryz.prog w = .ok (.int .u8 (cls c)) w := run_part_plain w (by kernel_rfl) (by rw [Nat.mul_one]; exact tbl_at c h)
  rw [Nat.mul_one] at hp
  simp [Instr.index, asIntOf, Sem.run_bind, run_underlying Tryz.underlying158, Result.andThen, h, hs, hp]
/-- A byte of a word. -/
def inr (c : Nat) : Bool := cls c == 1 || cls c == 2 || cls c == 3
theorem inner_any (c : Nat) (hc : c < 256) (w : World) : Calls Tryz.prog 72 #[.int .u8 c] w fun e w' => e = .returned (.bool (inr c)) ∧ Below w.heap.size w w' := by
  have hi := index_tbl c hc
  unfold inr
  generalize cls c = q at *
  by_cases h1 : q = 1
  · subst h1
    go_enter Tryz.func72, Tryz.ntmps72
    go_wp2_with (go_at_call 107; refine (classes_any _).mono ?_; rintro e w1 ⟨rfl, hb⟩)
    go_ret
    exact ⟨rfl, hb⟩
  · have e1 : ((q : Int) == 1) = false := by simp; omega
    by_cases h2 : q = 2
    · subst h2
      clear h1
      go_enter Tryz.func72, Tryz.ntmps72
      go_wp2_with fail
      refine (classes_any _).mono ?_; rintro e w1 ⟨rfl, hb⟩
      go_wp2_with fail
      refine (classes_any _).mono ?_; rintro e w2 ⟨rfl, hb2⟩
      go_wp2_with fail
      go_ret
      exact ⟨rfl, hb.trans (hb2.mono hb.size)⟩
    · have e2 : ((q : Int) == 2) = false := by simp; omega
      by_cases h3 : q = 3
      · subst h3
        clear h1 h2 e1 e2
        go_enter Tryz.func72, Tryz.ntmps72
        go_wp2_with fail
        refine (classes_any _).mono ?_; rintro e w1 ⟨rfl, hb⟩
        go_wp2_with fail
        refine (classes_any _).mono ?_; rintro e w2 ⟨rfl, hb2⟩
        go_wp2_with fail
        refine (classes_any _).mono ?_; rintro e w3 ⟨rfl, hb3⟩
        go_wp2_with fail
        go_ret
        exact ⟨rfl, (hb.trans (hb2.mono hb.size)).trans (hb3.mono (hb.trans (hb2.mono hb.size)).size)⟩
      · have e3 : ((q : Int) == 3) = false := by simp; omega
        have f1 : (q == 1) = false := by simp; omega
        have f2 : (q == 2) = false := by simp; omega
        have f3 : (q == 3) = false := by simp; omega
        rw [f1, f2, f3]
        clear h1 h2 h3 f1 f2 f3
        go_enter Tryz.func72, Tryz.ntmps72
        go_wp2_with fail
        refine (classes_any _).mono ?_; rintro e w1 ⟨rfl, hb⟩
        go_wp2_with fail
        refine (classes_any _).mono ?_; rintro e w2 ⟨rfl, hb2⟩
        go_wp2_with fail
        refine (classes_any _).mono ?_; rintro e w3 ⟨rfl, hb3⟩
        go_wp2_with fail
        go_ret
        exact ⟨rfl, (hb.trans (hb2.mono hb.size)).trans (hb3.mono (hb.trans (hb2.mono hb.size)).size)⟩
/-- A byte of a name behind its first. -/
def inName (c : Nat) : Bool := inr c && (decide (c < 65) || decide (90 < c))
theorem name1_any (c : Nat) (hc : c < 256) (w : World) : Calls Tryz.prog 71 #[.int .u8 c] w fun e w' => e = .returned (.bool (inName c)) ∧ Below w.heap.size w w' := by
  unfold inName
  have hi := inner_any c hc
  generalize inr c = q at *
  cases q
  · go_enter Tryz.func71, Tryz.ntmps71
    go_wp2_with fail
    refine (hi _).mono ?_; rintro e w1 ⟨rfl, hb⟩
    go_wp2_with fail
    go_ret
    exact ⟨rfl, hb⟩
  · by_cases h1 : c < 65
    · have e1 : decide ((c : Int) < 65) = true := by simp; omega
      go_enter Tryz.func71, Tryz.ntmps71
      go_wp2_with fail
      refine (hi _).mono ?_; rintro e w1 ⟨rfl, hb⟩
      go_wp2_with fail
      go_ret
      exact ⟨by simp [h1], hb⟩
    · have e1 : decide ((c : Int) < 65) = false := by simp; omega
      by_cases h2 : 90 < c
      · have e2 : decide ((90 : Int) < c) = true := by simp; omega
        go_enter Tryz.func71, Tryz.ntmps71
        go_wp2_with fail
        refine (hi _).mono ?_; rintro e w1 ⟨rfl, hb⟩
        go_wp2_with fail
        go_ret
        exact ⟨by simp [h1, h2], hb⟩
      · have e2 : decide ((90 : Int) < c) = false := by simp; omega
        go_enter Tryz.func71, Tryz.ntmps71
        go_wp2_with fail
        refine (hi _).mono ?_; rintro e w1 ⟨rfl, hb⟩
        go_wp2_with fail
        go_ret
        exact ⟨by simp [h1, h2], hb⟩
end Go.Proofs.YtejhcbbfdfnfdaaGreatDoor.Lex
