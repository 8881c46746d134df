/- The four closures of kinds that call change. -/
import Derived.Test.YtejhcbbfdfnfdaaGreatDoorR7
/- change, and the four closures that call it. -/
namespace Go.Proofs.YtejhcbbfdfnfdaaGreatDoor.Yard
open Go.RowKit Go.Proofs.YtejhcbbfdfnfdaaGreatDoor.Base Go.Proofs.YtejhcbbfdfnfdaaGreatDoor.Mp Go.Proofs.YtejhcbbfdfnfdaaGreatDoor.Lex
open Yp (It Yd Fact)
def Uniq (y : Yd) : Prop := y.items.Pairwise fun a b => a.id ≠ b.id
theorem uniq_right {A B : List It} {x : It} (h : (A ++ x :: B).Pairwise fun a b => a.id ≠ b.id) : ∀ z ∈ B, z.id ≠ x.id := fun z hz => by
  have := (List.pairwise_cons.1 (List.pairwise_append.1 h).2.1).1 z hz
  exact fun e => this e.symm
/-- The store of a turned item. -/
theorem put_item {w : World} {Y M : Nat} {FS : Value} {y : Yd} (hy : YAt w Y M FS y) (hu : Uniq y) {id : ByteArray} {x : It} (hx : Yp.look y.items id = some x) (st : Int) (stone : ByteArray) :
    ∃ w', (Instr.mapUpdate 70 (.map (some M)) (.string id) (.agg (itC { x with st := st, stone := stone }))).run Tryz.prog w = .ok () w' ∧ YAt w' Y M FS ⟨Yp.change y.items id st stone, y.facts, y.kerfs⟩ ∧ But M w w' := by
  obtain ⟨A, B, hl, hf, hid, hA⟩ := split_items hx
  have hB := uniq_right (A := A) (B := B) (x := x) (by have := hu; unfold Uniq at this; rwa [hl] at this)
  obtain ⟨w', h1, h2, h3⟩ := hy.map.put (P := Tryz.prog) Tryz.underlying70 Tryz.underlying9 id (.agg (itC { x with st := st, stone := stone })) (A := A.map itP) (B := B.map itP) (v := .agg (itC x)) (by rw [hl, List.map_append, List.map_cons]; simp only [itP, hid]) (by rw [hf, List.length_map])
  refine ⟨w', h1, hy.turn h3 ?_, h3⟩
  rw [hl, change_split hid hA (fun z hz => hid ▸ hB z hz), List.map_append, List.map_cons]
  simp only [itP, hid] at h2 ⊢
  exact h2
set_option maxRecDepth 100000 in
set_option maxHeartbeats 2000000 in
theorem change_any {w : World} {Y M : Nat} {FS : Value} {y : Yd} (hy : YAt w Y M FS y) (hu : Uniq y) {id : ByteArray} {x : It} (hx : Yp.look y.items id = some x) (st : Int) (stone : ByteArray) :
    Calls Tryz.prog 58 #[.pointer (some ⟨Y, 0, none⟩), .string id, .int .i64 st, .string stone] w fun e w' => e = .returned (.tuple #[]) ∧ YAt w' Y M FS ⟨Yp.change y.items id st stone, y.facts, y.kerfs⟩ ∧ Stay (fun i => i = M) w w' := by
  have hl := look_found hy.map hx false
  obtain ⟨x1, x2, ⟨b0, b1, b2, b3, b4, b5⟩, x3, x4⟩ := x
  have c0 := (row_cells hy.row).1 0
  have hYl := hy.ltY
  simp only [itC, Bool.false_eq_true, if_false] at hl
  have y1 : YAt (w.alloc (.cells #[.string x1, .string x2, .int .i64 b0, .int .i64 b1, .int .i64 b2, .int .i64 b3, .int .i64 b4, .int .i64 b5, .int .i64 st, .string stone] 47)) Y M FS y := hy.below ((Below.refl _ _).alloc (Nat.le_refl _) _)
  have r := new_block w (.cells #[.string x1, .string x2, .int .i64 b0, .int .i64 b1, .int .i64 b2, .int .i64 b3, .int .i64 b4, .int .i64 b5, .int .i64 st, .string stone] 47)
  have HY := Lib.hid y1
  have HR := Lib.hid r
  have HX := Lib.hid hx
  have HU := Lib.hid hu
  clear y1 r hy hx hu
  go_enter Tryz.func58, Tryz.ntmps58
  go_wp2_with fail
  have hY := HY.out.row
  have hM := HY.out
  have hW : Hid (But M (w.alloc (.cells #[.string x1, .string x2, .int .i64 b0, .int .i64 b1, .int .i64 b2, .int .i64 b3, .int .i64 b4, .int .i64 b5, .int .i64 st, .string stone] 47)) (w.alloc (.cells #[.string x1, .string x2, .int .i64 b0, .int .i64 b1, .int .i64 b2, .int .i64 b3, .int .i64 b4, .int .i64 b5, .int .i64 st, .string stone] 47)) → True) := Lib.hid fun _ => trivial
  have HS : Hid (Below w.heap.size w (w.alloc (.cells #[.string x1, .string x2, .int .i64 b0, .int .i64 b1, .int .i64 b2, .int .i64 b3, .int .i64 b4, .int .i64 b5, .int .i64 st, .string stone] 47))) := Lib.hid ((Below.refl _ _).alloc (Nat.le_refl _) _)
  clear hW hl c0
  generalize w.alloc (.cells #[.string x1, .string x2, .int .i64 b0, .int .i64 b1, .int .i64 b2, .int .i64 b3, .int .i64 b4, .int .i64 b5, .int .i64 st, .string stone] 47) = W at *
  obtain ⟨w', hrun, hy', hbut⟩ := put_item (w := W.drew) (Y := Y) (M := M) (FS := FS) (y := y) ⟨hM.row, hM.map, hM.fct⟩ HU.out HX.out st stone
  simp only [itC] at hrun
  have HY' := Lib.hid hy'
  have HBT := Lib.hid hbut
  clear hy' hbut hM
  have c0 := (row_cells hY).1 0
  obtain ⟨r1, _⟩ := row_cells HR.out
  have q0 := r1 0
  have q1 := r1 1
  have q2 := r1 2
  have q3 := r1 3
  have q4 := r1 4
  have q5 := r1 5
  have q6 := r1 6
  have q7 := r1 7
  have q8 := r1 8
  have q9 := r1 9
  clear r1 hY
  go_still_tail 6, (by kernel_rfl)
  go_wp2_with fail
  go_end0
  exact ⟨rfl, HY'.out, (Stay.of_below HS.out).trans (Stay.of_but ⟨HBT.out.os, HBT.out.tape, HBT.out.output, HBT.out.size, HBT.out.block⟩ rfl)⟩
end Go.Proofs.YtejhcbbfdfnfdaaGreatDoor.Yard

/- The four closures of kinds that call change. -/
namespace Go.Proofs.YtejhcbbfdfnfdaaGreatDoor.Yard
open Go.RowKit Go.Proofs.YtejhcbbfdfnfdaaGreatDoor.Base Go.Proofs.YtejhcbbfdfnfdaaGreatDoor.Mp Go.Proofs.YtejhcbbfdfnfdaaGreatDoor.Lex
open Yp (It Yd Fact)
set_option maxRecDepth 100000 in
theorem field_stone (a b : ByteArray) (c d e f g h i : Int) (j : ByteArray) (w : World) : (Instr.field 47 (.agg #[.string a, .string b, .int .i64 c, .int .i64 d, .int .i64 e, .int .i64 f, .int .i64 g, .int .i64 h, .int .i64 i, .string j]) 4).run Tryz.prog w = .ok (.string j) w := by rfl
set_option maxRecDepth 100000 in
theorem field_box (a b : ByteArray) (c d e f g h i : Int) (j : ByteArray) (w : World) : (Instr.field 47 (.agg #[.string a, .string b, .int .i64 c, .int .i64 d, .int .i64 e, .int .i64 f, .int .i64 g, .int .i64 h, .int .i64 i, .string j]) 2).run Tryz.prog w = .ok (.agg #[.int .i64 c, .int .i64 d, .int .i64 e, .int .i64 f, .int .i64 g, .int .i64 h]) w := by rfl
theorem rd_at {w : World} {X : Nat → Prop} {v : Value} {xs : List Value} (h : Rd w X v xs) (h0 : 0 < xs.length) : ∃ b o c, v = .slice (some ⟨b, o, none⟩) xs.length c ∧ xs.length ≤ c ∧ b < w.heap.size ∧ X b ∧ ∀ j u, xs[j]? = some u → w.cell? ⟨b, o + j, none⟩ = some u := by
  obtain ⟨A, c, rfl, hc, hx⟩ := h
  obtain ⟨b, o, rfl, hb, hX, hx⟩ := hx h0
  exact ⟨b, o, c, rfl, hc, hb, hX, hx⟩

set_option maxRecDepth 100000 in
set_option maxHeartbeats 2000000 in
theorem k1_any {w : World} {Y M : Nat} {FS : Value} {y : Yd} (hy : YAt w Y M FS y) (hu : Uniq y) (X : Nat → Prop) (kd n0 n1 : ByteArray) (nv vv : Value) (hn : Rd w X nv (strV [n0, n1])) {x : It} (hx : Yp.look y.items n0 = some x) :
    Calls Tryz.prog 57 #[.pointer (some ⟨Y, 0, none⟩), .agg #[.string kd, nv, vv]] w fun e w' => e = .returned (.tuple #[]) ∧ YAt w' Y M FS ⟨Yp.change y.items n0 3 n1, y.facts, y.kerfs⟩ ∧ Stay (fun i => i = M) w w' := by
  obtain ⟨b, o, c, rfl, hc, hbl, _, hcell⟩ := rd_at hn (by simp [strV])
  simp only [strV, List.length_map, List.length_cons, List.length_nil] at hc hcell ⊢
  have c0 := hcell 0 _ rfl
  have c1 := hcell 1 _ rfl
  simp only [Nat.add_zero] at c0
  clear hcell hn
  have B1 := (Below.refl w.heap.size w).alloc (Nat.le_refl _) (.cells #[.string kd, .slice (some ⟨b, o, none⟩) 2 c, vv] 39)
  have r := new_block w (.cells #[.string kd, .slice (some ⟨b, o, none⟩) 2 c, vv] 39)
  have c0 := (B1.cell (p := ⟨b, o, none⟩) hbl).trans c0
  have c1 := (B1.cell (p := ⟨b, o + 1, none⟩) hbl).trans c1
  have HY := Lib.hid (hy.below B1)
  have HB := Lib.hid B1
  have HR := Lib.hid r
  have HU := Lib.hid hu
  have HX := Lib.hid hx
  clear B1 r hu hx
  go_enter Tryz.func57, Tryz.ntmps57
  go_wp2_with fail
  generalize w.alloc (.cells #[.string kd, .slice (some ⟨b, o, none⟩) 2 c, vv] 39) = W at *
  have q1 := (row_cells HR.out).1 1
  go_still_tail 9, (by kernel_rfl)
  have HC := change_any (w := W.drew) (Y := Y) (M := M) (FS := FS) (y := y) ⟨HY.out.row, HY.out.map, HY.out.fct⟩ HU.out HX.out 3 n1
  go_wp2_with fail
  refine HC.mono ?_; rintro e w1 ⟨rfl, h1, h2⟩
  have H1 := Lib.hid h1
  have H2 := Lib.hid h2
  clear h1 h2 HC
  go_wp2_with fail
  go_end0
  exact ⟨rfl, H1.out, (Stay.of_below HB.out).trans (⟨H2.out.os, H2.out.tape, H2.out.output, H2.out.size, H2.out.block⟩ : Stay (fun i => i = M) W w1)⟩

set_option maxRecDepth 100000 in
set_option maxHeartbeats 2000000 in
theorem k2_any {w : World} {Y M : Nat} {FS : Value} {y : Yd} (hy : YAt w Y M FS y) (hu : Uniq y) (X : Nat → Prop) (kd n0 : ByteArray) (nv vv : Value) (hn : Rd w X nv (strV [n0])) {x : It} (hx : Yp.look y.items n0 = some x) :
    Calls Tryz.prog 59 #[.pointer (some ⟨Y, 0, none⟩), .agg #[.string kd, nv, vv]] w fun e w' => e = .returned (.tuple #[]) ∧ YAt w' Y M FS ⟨Yp.change y.items n0 1 ⟨#[]⟩, y.facts, y.kerfs⟩ ∧ Stay (fun i => i = M) w w' := by
  obtain ⟨b, o, c, rfl, hc, hbl, _, hcell⟩ := rd_at hn (by simp [strV])
  simp only [strV, List.length_map, List.length_cons, List.length_nil] at hc hcell ⊢
  have c0 := hcell 0 _ rfl
  simp only [Nat.add_zero] at c0
  clear hcell hn
  have B1 := (Below.refl w.heap.size w).alloc (Nat.le_refl _) (.cells #[.string kd, .slice (some ⟨b, o, none⟩) 1 c, vv] 39)
  have r := new_block w (.cells #[.string kd, .slice (some ⟨b, o, none⟩) 1 c, vv] 39)
  have c0 := (B1.cell (p := ⟨b, o, none⟩) hbl).trans c0
  have HY := Lib.hid (hy.below B1)
  have HB := Lib.hid B1
  have HR := Lib.hid r
  have HU := Lib.hid hu
  have HX := Lib.hid hx
  clear B1 r hu hx
  go_enter Tryz.func59, Tryz.ntmps59
  have HC := change_any HY.out HU.out HX.out 1 ⟨#[]⟩
  go_wp2_with fail
  refine HC.mono ?_; rintro e w1 ⟨rfl, h1, h2⟩
  have H1 := Lib.hid h1
  have H2 := Lib.hid h2
  clear h1 h2 HC
  go_wp2_with fail
  go_end0
  exact ⟨rfl, H1.out, (Stay.of_below HB.out).trans H2.out⟩

set_option maxRecDepth 100000 in
set_option maxHeartbeats 2000000 in
theorem k3_any {w : World} {Y M : Nat} {FS : Value} {y : Yd} (hy : YAt w Y M FS y) (hu : Uniq y) (X : Nat → Prop) (kd n0 : ByteArray) (nv vv : Value) (hn : Rd w X nv (strV [n0])) {x : It} (hx : Yp.look y.items n0 = some x) :
    Calls Tryz.prog 60 #[.pointer (some ⟨Y, 0, none⟩), .agg #[.string kd, nv, vv]] w fun e w' => e = .returned (.tuple #[]) ∧ YAt w' Y M FS ⟨Yp.change y.items n0 4 x.stone, y.facts, y.kerfs⟩ ∧ Stay (fun i => i = M) w w' := by
  obtain ⟨b, o, c, rfl, hc, hbl, _, hcell⟩ := rd_at hn (by simp [strV])
  simp only [strV, List.length_map, List.length_cons, List.length_nil] at hc hcell ⊢
  have c0 := hcell 0 _ rfl
  simp only [Nat.add_zero] at c0
  clear hcell hn
  have B1 := (Below.refl w.heap.size w).alloc (Nat.le_refl _) (.cells #[.string kd, .slice (some ⟨b, o, none⟩) 1 c, vv] 39)
  have r := new_block w (.cells #[.string kd, .slice (some ⟨b, o, none⟩) 1 c, vv] 39)
  have c0 := (B1.cell (p := ⟨b, o, none⟩) hbl).trans c0
  have HY := Lib.hid (hy.below B1)
  have HB := Lib.hid B1
  have HR := Lib.hid r
  have HU := Lib.hid hu
  have HX := Lib.hid hx
  clear B1 r hu hx
  go_enter Tryz.func60, Tryz.ntmps60
  go_wp2_with fail
  generalize w.alloc (.cells #[.string kd, .slice (some ⟨b, o, none⟩) 1 c, vv] 39) = W at *
  have q1 := (row_cells HR.out).1 1
  have y0 := (row_cells HY.out.row).1 0
  have hl := look_found (w := W.drew) (M := M) HY.out.map HX.out false
  obtain ⟨x1, x2, ⟨b0, b1, b2, b3, b4, b5⟩, x3, x4⟩ := x
  simp only [itC, Bool.false_eq_true, if_false] at hl
  have hfs := field_stone
  go_still_tail 15, (by kernel_rfl)
  have HC := change_any (w := W.drew) (Y := Y) (M := M) (FS := FS) (y := y) ⟨HY.out.row, HY.out.map, HY.out.fct⟩ HU.out HX.out 4 x4
  go_wp2_with fail
  refine HC.mono ?_; rintro e w1 ⟨rfl, h1, h2⟩
  have H1 := Lib.hid h1
  have H2 := Lib.hid h2
  clear h1 h2 HC
  go_wp2_with fail
  go_end0
  exact ⟨rfl, H1.out, (Stay.of_below HB.out).trans (⟨H2.out.os, H2.out.tape, H2.out.output, H2.out.size, H2.out.block⟩ : Stay (fun i => i = M) W w1)⟩

set_option maxRecDepth 100000 in
set_option maxHeartbeats 2000000 in
theorem k4_any {w : World} {Y M : Nat} {FS : Value} {y : Yd} (hy : YAt w Y M FS y) (hu : Uniq y) (X : Nat → Prop) (kd n0 : ByteArray) (nv vv : Value) (hn : Rd w X nv (strV [n0])) {x : It} (hx : Yp.look y.items n0 = some x) :
    Calls Tryz.prog 61 #[.pointer (some ⟨Y, 0, none⟩), .agg #[.string kd, nv, vv]] w fun e w' => e = .returned (.tuple #[]) ∧ YAt w' Y M FS ⟨Yp.change y.items n0 5 ⟨#[]⟩, y.facts, y.kerfs⟩ ∧ Stay (fun i => i = M) w w' := by
  obtain ⟨b, o, c, rfl, hc, hbl, _, hcell⟩ := rd_at hn (by simp [strV])
  simp only [strV, List.length_map, List.length_cons, List.length_nil] at hc hcell ⊢
  have c0 := hcell 0 _ rfl
  simp only [Nat.add_zero] at c0
  clear hcell hn
  have B1 := (Below.refl w.heap.size w).alloc (Nat.le_refl _) (.cells #[.string kd, .slice (some ⟨b, o, none⟩) 1 c, vv] 39)
  have r := new_block w (.cells #[.string kd, .slice (some ⟨b, o, none⟩) 1 c, vv] 39)
  have c0 := (B1.cell (p := ⟨b, o, none⟩) hbl).trans c0
  have HY := Lib.hid (hy.below B1)
  have HB := Lib.hid B1
  have HR := Lib.hid r
  have HU := Lib.hid hu
  have HX := Lib.hid hx
  clear B1 r hu hx
  go_enter Tryz.func61, Tryz.ntmps61
  have HC := change_any HY.out HU.out HX.out 5 ⟨#[]⟩
  go_wp2_with fail
  refine HC.mono ?_; rintro e w1 ⟨rfl, h1, h2⟩
  have H1 := Lib.hid h1
  have H2 := Lib.hid h2
  clear h1 h2 HC
  go_wp2_with fail
  go_end0
  exact ⟨rfl, H1.out, (Stay.of_below HB.out).trans H2.out⟩
end Go.Proofs.YtejhcbbfdfnfdaaGreatDoor.Yard
