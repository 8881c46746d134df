/- Ranging over the yard's items. -/
import Derived.Test.YtejhcbbfdfnfdaaGreatDoorR8
/- free: a new block. -/
namespace Go.Proofs.YtejhcbbfdfnfdaaGreatDoor.Yard
open Go.RowKit Go.Proofs.YtejhcbbfdfnfdaaGreatDoor.Base Go.Proofs.YtejhcbbfdfnfdaaGreatDoor.Mp Go.Proofs.YtejhcbbfdfnfdaaGreatDoor.Lex
open Yp (It Yd Fact)
theorem fnd_missed {l : List It} {id : ByteArray} (hx : Yp.look l id = none) : fnd id (l.map itP) 0 = none := by
  have h1 := fnd_items (l := l) id
  rw [hx] at h1
  simpa using h1
/-- The store of a new item. -/
theorem add_item {w : World} {Y M : Nat} {FS : Value} {y : Yd} (hy : YAt w Y M FS y) (x : It) (hx : Yp.look y.items x.id = none) :
    ∃ w', (Instr.mapUpdate 70 (.map (some M)) (.string x.id) (.agg (itC x))).run Tryz.prog w = .ok () w' ∧ YAt w' Y M FS ⟨y.items ++ [x], y.facts, y.kerfs⟩ ∧ But M w w' := by
  obtain ⟨w', h1, h2, h3⟩ := hy.map.add (P := Tryz.prog) Tryz.underlying70 Tryz.underlying9 x.id (.agg (itC x)) (fnd_missed hx)
  refine ⟨w', h1, hy.turn h3 ?_, h3⟩
  rw [List.map_append]
  exact h2
theorem YAt.drew {w : World} {Y M : Nat} {FS : Value} {y : Yd} (h : YAt w Y M FS y) : YAt w.drew Y M FS y := ⟨h.row, h.map, h.fct⟩
set_option maxRecDepth 100000 in
set_option maxHeartbeats 2000000 in
theorem free_any {w : World} {Y M : Nat} {FS : Value} {y : Yd} (hy : YAt w Y M FS y) (X : Nat → Prop) (kd n0 : ByteArray) (v0 v1 v2 v3 v4 v5 : Int) (nv vv : Value) (hn : Rd w X nv (strV [n0])) (hv : Rd w X vv (intV [v0, v1, v2, v3, v4, v5])) (hx : Yp.look y.items n0 = none) (hXM : ∀ b, X b → b ≠ M) :
    Calls Tryz.prog 53 #[.pointer (some ⟨Y, 0, none⟩), .agg #[.string kd, nv, vv]] w fun e w' => e = .returned (.tuple #[]) ∧ YAt w' Y M FS ⟨y.items ++ [⟨n0, Yp.es, ⟨v0, v1, v2, v3, v4, v5⟩, 1, Yp.es⟩], y.facts, y.kerfs⟩ ∧ Stay (fun i => i = M) w w' := by
  have B1 := (Below.refl w.heap.size w).alloc (Nat.le_refl _) (.cells #[.string kd, nv, vv] 39)
  have hbox := fun W (hW : Below w.heap.size w W) => boxOf_any X vv v0 v1 v2 v3 v4 v5 W (hv.below hW)
  obtain ⟨A', c', ev, _, _⟩ := id hv
  subst ev
  obtain ⟨b, o, c, rfl, hc, hbl, hXb, hcell⟩ := rd_at hn (by simp [strV])
  have HNE := Lib.hid (And.intro (hXM b hXb) (And.intro hy.ne (Nat.ne_of_gt hy.ltM)))
  clear hXM hXb
  simp only [strV, List.length_map, List.length_cons, List.length_nil] at hc hcell B1 ⊢
  have c0 := hcell 0 _ rfl
  simp only [Nat.add_zero] at c0
  have r := new_block w (.cells #[.string kd, .slice (some ⟨b, o, none⟩) 1 c, .slice A' (intV [v0, v1, v2, v3, v4, v5]).length c'] 39)
  have HC : Hid (∀ W, Below w.heap.size w W → W.cell? ⟨b, o, none⟩ = some (.string n0)) := Lib.hid fun W hW => (hW.cell (p := ⟨b, o, none⟩) hbl).trans c0
  have HYW : Hid (∀ W, Below w.heap.size w W → YAt W Y M FS y) := Lib.hid fun W hW => hy.below hW
  have HB := Lib.hid B1
  have HR := Lib.hid r
  have HX := Lib.hid hx
  clear B1 r hcell hn hv c0 hx hy
  go_enter Tryz.func53, Tryz.ntmps53
  go_wp2_with fail
  generalize w.alloc (.cells #[.string kd, .slice (some ⟨b, o, none⟩) 1 c, .slice A' (intV [v0, v1, v2, v3, v4, v5]).length c'] 39) = W at *
  have K : W.cell? ⟨w.heap.size, 1, none⟩ = some (.slice (some ⟨b, o, none⟩) 1 c) ∧ W.cell? ⟨w.heap.size, 2, none⟩ = some (.slice A' (intV [v0, v1, v2, v3, v4, v5]).length c') ∧ W.cell? ⟨b, o, none⟩ = some (.string n0) ∧ W.cell? ⟨Y, 0, none⟩ = some (.map (some M)) := ⟨(row_cells HR.out).1 1, (row_cells HR.out).1 2, HC.out _ HB.out, (row_cells (HYW.out _ HB.out).row).1 0⟩
  go_region_held3 (fun w' => w'.cell? ⟨w.heap.size, 1, none⟩ = some (.slice (some ⟨b, o, none⟩) 1 c) ∧ w'.cell? ⟨w.heap.size, 2, none⟩ = some (.slice A' (intV [v0, v1, v2, v3, v4, v5]).length c') ∧ w'.cell? ⟨b, o, none⟩ = some (.string n0) ∧ w'.cell? ⟨Y, 0, none⟩ = some (.map (some M))) ((first | (simp only [*, and_self]; done) | (simp [*, go_sem]; done)))
    (first
      | (go_at_call 88; ((with_reducible refine (hbox _ HB.out.drew).mono ?_); rintro e w6 ⟨rfl, hb⟩; have HR := Lib.hid (row_after hb HR.out); have HB := Lib.hid (HB.out.drew.trans (hb.mono HB.out.size)); clear hb; have K : w6.cell? ⟨w.heap.size, 1, none⟩ = some (.slice (some ⟨b, o, none⟩) 1 c) ∧ w6.cell? ⟨w.heap.size, 2, none⟩ = some (.slice A' (intV [v0, v1, v2, v3, v4, v5]).length c') ∧ w6.cell? ⟨b, o, none⟩ = some (.string n0) ∧ w6.cell? ⟨Y, 0, none⟩ = some (.map (some M)) := ⟨(row_cells HR.out).1 1, (row_cells HR.out).1 2, HC.out _ HB.out, (row_cells (HYW.out _ HB.out).row).1 0⟩; obtain ⟨w7, hrun, hy', hbut⟩ := add_item (HYW.out _ HB.out) ⟨n0, ⟨#[]⟩, ⟨v0, v1, v2, v3, v4, v5⟩, 1, ⟨#[]⟩⟩ HX.out; simp only [itC] at hrun; have K7 : w7.cell? ⟨w.heap.size, 1, none⟩ = some (.slice (some ⟨b, o, none⟩) 1 c) ∧ w7.cell? ⟨w.heap.size, 2, none⟩ = some (.slice A' (intV [v0, v1, v2, v3, v4, v5]).length c') ∧ w7.cell? ⟨b, o, none⟩ = some (.string n0) ∧ w7.cell? ⟨Y, 0, none⟩ = some (.map (some M)) := ⟨(World.cell?_of_block (a := ⟨w.heap.size, 1, none⟩) (hbut.block _ HNE.out.2.2)).trans K.1, (World.cell?_of_block (a := ⟨w.heap.size, 2, none⟩) (hbut.block _ HNE.out.2.2)).trans K.2.1, (World.cell?_of_block (a := ⟨b, o, none⟩) (hbut.block _ HNE.out.1)).trans K.2.2.1, (World.cell?_of_block (a := ⟨Y, 0, none⟩) (hbut.block _ HNE.out.2.1)).trans K.2.2.2⟩; have HY' := Lib.hid hy'; have HBT := Lib.hid hbut; clear hy' hbut)))
  go_wp2_with fail
  go_end0
  exact ⟨rfl, HY'.out, (Stay.of_below HB.out).trans (Stay.of_but HBT.out rfl)⟩
end Go.Proofs.YtejhcbbfdfnfdaaGreatDoor.Yard

/- Ranging over the yard's items. -/
namespace Go.Proofs.YtejhcbbfdfnfdaaGreatDoor.Yard
open Go.RowKit Go.Proofs.YtejhcbbfdfnfdaaGreatDoor.Base Go.Proofs.YtejhcbbfdfnfdaaGreatDoor.Mp
open Yp (It Yd Fact)
theorem IsIter.left_eq {w : World} {r b : Nat} {L left : Pairs} (h : IsIter w r b L left) : w.rangeLeft b r = left.length := by
  obtain ⟨es, clock, since, seen, c0, hr, hb, _, _, _, _, _, hl, _⟩ := h
  simp only [World.rangeLeft, hb, hr]
  simpa using congrArg List.length hl
def ItIter (w : World) (r M : Nat) (l left : List It) : Prop := IsIter w r M (l.map itP) (left.map itP)
section
variable {P : Program} (w : World) {ops : Array Oper} {rest : List Oper} {o : Oper} {a : Act} {Q : Exit → Act → World → Prop}
theorem wpList_range_it (hg : o.guard = none) (m : Operand) (t k e : TypeId) (hop : o.op = Op.range t m) (ht : P.underlying t = some (.map k e)) (M : Nat) (l : List It) (hm : a.eval m = .map (some M)) (h : IsMap w M (l.map itP))
    (hK : ∀ w', ItIter w' w.heap.size M l l → Below w.heap.size w w' → wpList P ops Q rest (a.put o.dst (.pointer (some ⟨w.heap.size, 0, none⟩))) w') :
    wpList P ops Q (o :: rest) a w := by
  refine wpList_plain hg fun K' hK' => ?_
  obtain ⟨w', hrun, r1, r2⟩ := h.range (P := P) ht
  unfold Oper.wp
  simp [execOp, hop, hm, hrun, Result.andThen]
  exact hK' _ _ (hK w' r1 r2)
theorem wpList_next_it (hg : o.guard = none) (it : Operand) (hop : o.op = Op.next it false) (r M : Nat) (l left : List It) (hit : a.eval it = .pointer (some ⟨r, 0, none⟩)) (h : ItIter w r M l left)
    (hDone : left = [] → wpList P ops Q rest (a.put o.dst (.tuple #[.bool false])) w)
    (hMore : ∀ (A B : List It) (x : It) (w' : World), left = A ++ x :: B → ItIter w' r M l (A ++ B) → But r w w' → (Instr.entry (.pointer (some ⟨r, 0, none⟩))).run P w' = .ok (.tuple #[.string x.id, .agg (itC x)]) w' →
      wpList P ops Q rest (a.put o.dst (.tuple #[.bool true, .string x.id, .agg (itC x)])) w') :
    wpList P ops Q (o :: rest) a w := by
  refine wpList_plain hg fun K' hK' => ?_
  unfold Oper.wp
  rcases IsIter.next (P := P) h o.type with ⟨h0, hrun⟩ | ⟨A, B, s, v, w', hl, hrun, hi, hb, hen⟩
  · simp [execOp, hop, hit, hrun, Result.andThen]
    exact hK' _ _ (hDone (by simpa using h0))
  · obtain ⟨A', C', rfl, hA, hC⟩ := List.map_eq_append_iff.1 hl
    obtain ⟨x, B', rfl, hx, hB⟩ := List.map_eq_cons_iff.1 hC
    have hs : s = x.id := (congrArg Prod.fst hx).symm
    have hv : v = .agg (itC x) := (congrArg Prod.snd hx).symm
    subst hs hv
    simp [execOp, hop, hit, hrun, Result.andThen]
    refine hK' _ _ (hMore A' B' x w' rfl ?_ hb hen)
    unfold ItIter
    rw [List.map_append, hA, hB]
    exact hi
end
theorem ItIter.left_eq {w : World} {r M : Nat} {l left : List It} (h : ItIter w r M l left) : w.rangeLeft M r = left.length := by
  have := IsIter.left_eq h
  simpa using this
theorem ItIter.after {w w' : World} {r M : Nat} {l left : List It} (h : ItIter w r M l left) (hb : Below w.heap.size w w') : ItIter w' r M l left := IsIter.after h hb
theorem ItIter.same {w w' : World} {r M : Nat} {l left : List It} (h : ItIter w r M l left) (h1 : w'.heap[r]? = w.heap[r]?) (h2 : w'.heap[M]? = w.heap[M]?) : ItIter w' r M l left := IsIter.same h h1 h2
theorem ItIter.ltr {w : World} {r M : Nat} {l left : List It} (h : ItIter w r M l left) : r < w.heap.size := IsIter.ltr h
theorem tl_beq (a b : ByteArray) : (a.toList == b.toList) = decide (a = b) := by
  rw [ByteArray.toList_eq, ByteArray.toList_eq]
  obtain ⟨⟨a⟩⟩ := a
  obtain ⟨⟨b⟩⟩ := b
  by_cases h : a = b
  · subst h; simp
  · simp [h]
theorem itP_inj {x z : It} (h : skv (itP x) = skv (itP z)) : x = z := by
  obtain ⟨a, b, ⟨c, d, e, f, g, i⟩, j, k⟩ := x
  obtain ⟨a', b', ⟨c', d', e', f', g', i'⟩, j', k'⟩ := z
  simp [skv, itP, itC] at h
  simp [h]
theorem ItIter.sub {w : World} {r M : Nat} {l left : List It} (h : ItIter w r M l left) : ∀ x ∈ left, x ∈ l := by
  obtain ⟨es, clock, since, seen, c0, hr, hb, he, _, _, _, _, hl, _⟩ := h
  intro x hx
  have h1 : skv (itP x) ∈ (leftOf es seen).toList.map ekv := by rw [hl]; exact List.mem_map_of_mem (List.mem_map_of_mem hx)
  obtain ⟨u, hu, e1⟩ := List.mem_map.1 h1
  have h2 : skv (itP x) ∈ es.toList.map ekv := e1 ▸ List.mem_map_of_mem (mem_left hu).1
  rw [he] at h2
  obtain ⟨q, hq, e2⟩ := List.mem_map.1 h2
  obtain ⟨z, hz, rfl⟩ := List.mem_map.1 hq
  rw [← itP_inj e2]
  exact hz
theorem ItIter.drewN {w : World} {r M : Nat} {l left : List It} (h : ItIter w r M l left) (n : Nat) : ItIter (w.drewN n) r M l left := h.same rfl rfl
set_option maxRecDepth 100000 in
set_option maxHeartbeats 2000000 in
theorem assignWrong_any {w : World} {Y M : Nat} {FS : Value} {y : Yd} (hy : YAt w Y M FS y) (X : Nat → Prop) (kd n0 n1 : ByteArray) (nv vv : Value) (hn : Rd w X nv (strV [n0, n1])) :
    Calls Tryz.prog 56 #[.pointer (some ⟨Y, 0, none⟩), .agg #[.string kd, nv, vv]] w fun e w' => e = .returned (.int .i64 (Yp.assignErr y.items n1)) ∧ Below w.heap.size w w' := by
  obtain ⟨b, o, c, rfl, hc, hbl, _, hcell⟩ := rd_at hn (by simp [strV])
  simp only [strV, List.length_map, List.length_cons, List.length_nil] at hc hcell ⊢
  have c1 := hcell 1 _ rfl
  have HC : Hid (∀ W, Below w.heap.size w W → W.cell? ⟨b, o + 1, none⟩ = some (.string n1)) := Lib.hid fun W hW => (hW.cell (p := ⟨b, o + 1, none⟩) hbl).trans c1
  have B1 := (Below.refl w.heap.size w).alloc (Nat.le_refl _) (.cells #[.string kd, .slice (some ⟨b, o, none⟩) 2 c, vv] 39)
  have HR := Lib.hid (new_block w (.cells #[.string kd, .slice (some ⟨b, o, none⟩) 2 c, vv] 39))
  have HY := Lib.hid (hy.below B1)
  have HB := Lib.hid B1
  have y0 := (row_cells HY.out.row).1 0
  clear B1 hcell hn c1 hy
  have hW1 : Hid ((w.alloc (.cells #[.string kd, .slice (some ⟨b, o, none⟩) 2 c, vv] 39)).heap.size = w.heap.size + 1) := Lib.hid (by simp)
  go_enter Tryz.func56, Tryz.ntmps56
  go_wp2_with (at_range; refine wpList_range_it _ rfl _ 70 9 47 rfl Tryz.underlying70 M y.items rfl HY.out.map ?_; intro w0 hi0 hb0)
  go_frame
  rw [hW1.out] at hi0 ⊢
  have HI0 := Lib.hid hi0
  have HB0 := Lib.hid (hb0.mono (Nat.le_of_eq hW1.out.symm))
  clear hi0 hb0 y0
  go_loopw [] (fun wr => ∃ left, ItIter wr (w.heap.size + 1) M y.items left ∧ (∀ z ∈ y.items, z ∈ left ∨ z.stone ≠ n1) ∧ Below (w.heap.size + 1) (w.alloc (.cells #[.string kd, .slice (some ⟨b, o, none⟩) 2 c, vv] 39)) wr) (fun wr => wr.rangeLeft M (w.heap.size + 1))
  case atStart => exact ⟨y.items, HI0.out, fun z hz => .inl hz, HB0.out⟩
  case round =>
    obtain ⟨left, hi, hall, hb⟩ := hrel
    have HI := Lib.hid hi
    have HA := Lib.hid hall
    have HB1 := Lib.hid hb
    clear hi hall hb
    have hit : ∀ x : It, itC x = #[.string x.id, .string x.par, .int .i64 x.bx.x0, .int .i64 x.bx.y0, .int .i64 x.bx.z0, .int .i64 x.bx.x1, .int .i64 x.bx.y1, .int .i64 x.bx.z1, .int .i64 x.st, .string x.stone] := fun _ => rfl
    go_wp2_with (at_next; refine wpList_next_it _ rfl _ rfl (w.heap.size + 1) M y.items left rfl HI.out (fun hd => ?_) (fun A B x w' hl hi' hbut hen => ?_))
    · go_ret
      refine ⟨Base.ret_int ?_, ?_⟩
      · subst hd
        unfold Yp.assignErr
        rw [if_neg]
        rw [Bool.not_eq_true, List.any_eq_false]
        intro z hz
        rcases HA.out z hz with g | g
        · exact absurd g List.not_mem_nil
        · simpa using g
      · exact HB.out.trans (HB1.out.mono (Nat.le_succ _))
    · have hb2 : Below (w.heap.size + 1) (w.alloc (.cells #[.string kd, .slice (some ⟨b, o, none⟩) 2 c, vv] 39)) (w'.alloc (.cells #[.string x.id, .string x.par, .int .i64 x.bx.x0, .int .i64 x.bx.y0, .int .i64 x.bx.z0, .int .i64 x.bx.x1, .int .i64 x.bx.y1, .int .i64 x.bx.z1, .int .i64 x.st, .string x.stone] 47)) := (HB1.out.trans (hbut.below (Nat.le_refl _))).alloc (by have := HB1.out.size; have := hbut.size; simp at *; omega) _
      have q9 := (row_cells (new_block w' (.cells #[.string x.id, .string x.par, .int .i64 x.bx.x0, .int .i64 x.bx.y0, .int .i64 x.bx.z0, .int .i64 x.bx.x1, .int .i64 x.bx.y1, .int .i64 x.bx.z1, .int .i64 x.st, .string x.stone] 47))).1 9
      have hi2 := hi'.after ((Below.refl w'.heap.size w').alloc (Nat.le_refl _) (.cells #[.string x.id, .string x.par, .int .i64 x.bx.x0, .int .i64 x.bx.y0, .int .i64 x.bx.z0, .int .i64 x.bx.x1, .int .i64 x.bx.y1, .int .i64 x.bx.z1, .int .i64 x.st, .string x.stone] 47))
      have hml : Hid (left.length = (A ++ B).length + 1) := Lib.hid (by rw [hl]; simp; omega)
      have HI2 := Lib.hid hi2
      have HB2 := Lib.hid hb2
      have HB3 := Lib.hid (HB.out.trans (hb2.mono (Nat.le_succ _)))
      have cn := HC.out _ HB3.out
      have cf := (row_cells ((hb2.block w.heap.size (Nat.lt_succ_self _)).trans HR.out)).1 1
      have hmz : Hid (wr.rangeLeft M (w.heap.size + 1) = left.length) := Lib.hid HI.out.left_eq
      have HL := Lib.hid hl
      have HXM := Lib.hid (HI.out.sub x (by rw [hl]; simp))
      clear hi2 hb2 hi' hbut hen hl
      generalize w'.alloc (.cells #[.string x.id, .string x.par, .int .i64 x.bx.x0, .int .i64 x.bx.y0, .int .i64 x.bx.z0, .int .i64 x.bx.x1, .int .i64 x.bx.y1, .int .i64 x.bx.z1, .int .i64 x.st, .string x.stone] 47) = W at *
      by_cases hs : x.stone = n1
      · have he : (x.stone.toList == n1.toList) = true := by rw [tl_beq]; simpa using hs
        go_quiet (fail)
        go_wp2_with fail
        go_ret
        refine ⟨Base.ret_int ?_, ?_⟩
        · unfold Yp.assignErr
          rw [if_pos]
          rw [List.any_eq_true]
          exact ⟨x, HXM.out, by simpa using hs⟩
        · exact below_drewN HB3.out _
      · have he : (x.stone.toList == n1.toList) = false := by rw [tl_beq]; simpa using hs
        have HSN := Lib.hid hs
        clear hs
        go_quiet (fail)
        go_wp2_with fail
        go_roundw
        case rel =>
          refine ⟨A ++ B, HI2.out.drewN _, fun z hz => ?_, below_drewN HB2.out _⟩
          rcases HA.out z hz with g | g
          · rw [HL.out] at g
            rcases List.mem_append.1 g with g | g
            · exact .inl (List.mem_append_left _ g)
            · rcases List.mem_cons.1 g with rfl | g
              · exact .inr HSN.out
              · exact .inl (List.mem_append_right _ g)
          · exact .inr g
        case measure => rw [hmz.out, hml.out, (HI2.out.drewN _).left_eq]; omega
end Go.Proofs.YtejhcbbfdfnfdaaGreatDoor.Yard
