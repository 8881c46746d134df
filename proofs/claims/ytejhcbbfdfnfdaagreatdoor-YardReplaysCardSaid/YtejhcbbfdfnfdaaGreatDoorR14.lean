/- freeWrong: what is wrong with a block that is freed. -/
import Derived.Test.YtejhcbbfdfnfdaaGreatDoorR5
import Derived.Test.YtejhcbbfdfnfdaaGreatDoorR12
import Derived.Test.YtejhcbbfdfnfdaaGreatDoorR13
import Derived.Test.YtejhcbbfdfnfdaaGreatDoorR2
import Derived.Test.YtejhcbbfdfnfdaaGreatDoorR9
/- What the walks name, in the yard's words. No program. -/
namespace Go.Proofs.YtejhcbbfdfnfdaaGreatDoor.Bridge
open Go.Proofs.YtejhcbbfdfnfdaaGreatDoor.Yp (Bx)
theorem inB_eq (n : Int) : Box.inB n = Yp.inR n := rfl
theorem check_eq (b : Bx) : Box.checkE b.x0 b.y0 b.z0 b.x1 b.y1 b.z1 = Yp.boxCheck b := by
  rfl
theorem over_eq (a b : Bx) (ha : a.ok) (hb : b.ok) : Box.overE a.x0 a.y0 a.z0 a.x1 a.y1 a.z1 b.x0 b.y0 b.z0 b.x1 b.y1 b.z1 = Yp.overB a b := by
  unfold Box.overE Yp.overB Box.mxi Box.mni
  unfold Bx.ok at ha hb
  rw [Bool.eq_iff_iff]
  simp only [Bool.and_eq_true, decide_eq_true_eq]
  constructor
  · rintro ⟨⟨h1, h2⟩, h3⟩
    refine ⟨⟨⟨⟨⟨?_, ?_⟩, ?_⟩, ?_⟩, ?_⟩, ?_⟩ <;> (split at h1 <;> split at h1 <;> split at h2 <;> split at h2 <;> split at h3 <;> split at h3 <;> omega)
  · rintro ⟨⟨⟨⟨⟨h1, h2⟩, h3⟩, h4⟩, h5⟩, h6⟩
    refine ⟨⟨?_, ?_⟩, ?_⟩ <;> (split <;> split <;> omega)
theorem kerf_eq (b : Bx) (a p k : Int) : Kerf.kcE b.x0 b.y0 b.z0 b.x1 b.y1 b.z1 a p k = Yp.kerfCheck b a p k := by
  unfold Kerf.kcE Yp.kerfCheck
  rw [check_eq]
  unfold Kerf.fsE Kerf.axE Kerf.swE Yp.axLo Yp.axHi Box.ax3
  by_cases h0 : Yp.boxCheck b = 0
  · simp only [h0, ne_eq, not_true_eq_false, if_false]
    by_cases h1 : a < 0
    · simp [h1]
    · by_cases h2 : 2 < a
      · simp [h1, h2]
      · have e0 : (a.toNat = 0) = (a = 0) := by apply propext; omega
        have e1 : (a.toNat = 1) = (a = 1) := by apply propext; omega
        by_cases h3 : k < 0
        · simp [h1, h2, h3]
        · by_cases h4 : 1000 < k
          · simp [h1, h2, h3, h4]
          · simp only [h1, h2, h3, h4, e0, e1, if_false, or_self, not_true_eq_false]
            by_cases h5 : p ≤ if a = 0 then b.x0 else if a = 1 then b.y0 else b.z0
            · simp [h5]
            · simp [h5]
  · simp [h0]
theorem set_lo (b : Bx) (n : Nat) (hn : n < 3) (p : Int) : Kerf.sLo b.x0 b.y0 b.z0 b.x1 b.y1 b.z1 n (Box.ax3 b.x0 b.y0 b.z0 n) p = (fun c : Bx => #[.int .i64 c.x0, .int .i64 c.y0, .int .i64 c.z0, .int .i64 c.x1, .int .i64 c.y1, .int .i64 c.z1]) (Yp.setHi b n p) := by
  obtain rfl | rfl | rfl : n = 0 ∨ n = 1 ∨ n = 2 := by omega
  · rfl
  · rfl
  · rfl
theorem set_hi (b : Bx) (n : Nat) (hn : n < 3) (p : Int) : Kerf.sLo b.x0 b.y0 b.z0 b.x1 b.y1 b.z1 n p (Box.ax3 b.x1 b.y1 b.z1 n) = (fun c : Bx => #[.int .i64 c.x0, .int .i64 c.y0, .int .i64 c.z0, .int .i64 c.x1, .int .i64 c.y1, .int .i64 c.z1]) (Yp.setLo b n p) := by
  obtain rfl | rfl | rfl : n = 0 ∨ n = 1 ∨ n = 2 := by omega
  · rfl
  · rfl
  · rfl
theorem gone_eq (b : Bx) (n : Nat) (hn : n < 3) (p k : Int) : Kerf.gnE b.x0 b.y0 b.z0 b.x1 b.y1 b.z1 n p k = (fun c : Bx => #[.int .i64 c.x0, .int .i64 c.y0, .int .i64 c.z0, .int .i64 c.x1, .int .i64 c.y1, .int .i64 c.z1]) (Yp.gone b n p k) := by
  unfold Kerf.gnE Yp.gone
  by_cases h : 0 < k
  · rw [if_pos h, if_pos h]
    obtain rfl | rfl | rfl : n = 0 ∨ n = 1 ∨ n = 2 := by omega
    · rfl
    · rfl
    · rfl
  · rw [if_neg h, if_neg h]; rfl
theorem in_table : (List.range 256).all (fun c => Lex.inName c == ((decide (97 ≤ c) && decide (c ≤ 122)) || (decide (48 ≤ c) && decide (c ≤ 57)) || decide (c = 95))) = true := by decide +kernel
theorem in_eq (c : UInt8) : Lex.inName c.toNat = Yp.isIn c := by
  have := List.all_eq_true.1 in_table c.toNat (List.mem_range.2 c.toNat_lt)
  simpa [Yp.isIn, Yp.isLow] using this
theorem lead_all : ∀ l : List UInt8, Lex.lead l = l.length ↔ l.all Yp.isIn = true
  | [] => by simp [Lex.lead]
  | c :: l => by
    unfold Lex.lead
    rw [in_eq]
    by_cases h : Yp.isIn c = true
    · rw [if_pos h]
      have := lead_all l
      simp only [List.length_cons, List.all_cons, h, Bool.true_and]
      rw [← this]
      omega
    · rw [if_neg h]
      simp [h]
theorem name_eq (s : ByteArray) : Lex.nameB s = Yp.isName s := by
  unfold Lex.nameB Yp.isName
  have hsz : s.size = s.data.toList.length := by simp
  rw [hsz]
  cases s.data.toList with
  | nil => simp
  | cons c l =>
    have hl : Lex.lead (c :: l) = l.length + 1 ↔ (Yp.isIn c && l.all Yp.isIn) = true := lead_all (c :: l)
    rw [Bool.eq_iff_iff]
    simp only [Bool.and_eq_true, decide_eq_true_eq, List.length_cons, hl, Yp.isLow]
    constructor
    · rintro ⟨⟨⟨h1, h2⟩, h3, h4⟩, h5, h6⟩
      exact ⟨⟨by omega, h3, h4⟩, h6⟩
    · rintro ⟨⟨h1, h2, h3⟩, h4⟩
      exact ⟨⟨⟨by omega, by omega⟩, h2, h3⟩, by simp [Yp.isIn, Yp.isLow, h2, h3], h4⟩
end Go.Proofs.YtejhcbbfdfnfdaaGreatDoor.Bridge

/- freeWrong: what is wrong with a block that is freed. -/
namespace Go.Proofs.YtejhcbbfdfnfdaaGreatDoor.Yard
open Go.RowKit Go.Proofs.YtejhcbbfdfnfdaaGreatDoor.Base Go.Proofs.YtejhcbbfdfnfdaaGreatDoor.Mp
open Yp (It Yd Fact Bx)
open Box (check_any overlap_any)
theorem tl_nil (a : ByteArray) : a.toList = [] ↔ a = Yp.es := by
  rw [ByteArray.toList_eq]
  obtain ⟨⟨a⟩⟩ := a
  simp [Yp.es]
set_option maxRecDepth 100000 in
set_option maxHeartbeats 4000000 in
theorem freeWrong_any {w : World} {Y M : Nat} {FS : Value} {y : Yd} (hy : YAt w Y M FS y) (hok : ∀ x ∈ y.items, x.bx.ok) (hlen : y.items.length < 4096) (X : Nat → Prop) (kd n0 : ByteArray) (v0 v1 v2 v3 v4 v5 : Int) (nv vv : Value) (hn : Rd w X nv (strV [n0])) (hv : Rd w X vv (intV [v0, v1, v2, v3, v4, v5])) :
    Calls Tryz.prog 52 #[.pointer (some ⟨Y, 0, none⟩), .agg #[.string kd, nv, vv]] w fun e w' => e = .returned (.int .i64 (Yp.freeErr y.items n0 ⟨v0, v1, v2, v3, v4, v5⟩)) ∧ Below w.heap.size w w' := by
  have hbox := fun W (hW : Below w.heap.size w W) => boxOf_any X vv v0 v1 v2 v3 v4 v5 W (hv.below hW)
  obtain ⟨A', c', ev, _, _⟩ := id hv
  subst ev
  obtain ⟨b, o, c, rfl, hc, hbl, hXb, hcell⟩ := rd_at hn (by simp [strV])
  simp only [strV, intV, List.length_map, List.length_cons, List.length_nil] at hc hcell hbox ⊢
  have c0 := hcell 0 _ rfl
  simp only [Nat.add_zero] at c0
  have HC : Hid (∀ W, Below w.heap.size w W → W.cell? ⟨b, o, none⟩ = some (.string n0)) := Lib.hid fun W hW => (hW.cell (p := ⟨b, o, none⟩) hbl).trans c0
  have HYW : Hid (∀ W, Below w.heap.size w W → YAt W Y M FS y) := Lib.hid fun W hW => hy.below hW
  have HOK := Lib.hid hok
  have HB := Lib.hid ((Below.refl w.heap.size w).alloc (Nat.le_refl _) (.cells #[.string kd, .slice (some ⟨b, o, none⟩) 1 c, .slice A' 6 c'] 39))
  have HR := Lib.hid (new_block w (.cells #[.string kd, .slice (some ⟨b, o, none⟩) 1 c, .slice A' 6 c'] 39))
  clear hcell hn hv c0 hy hXb hok
  have hchk := check_any v0 v1 v2 v3 v4 v5
  rw [Bridge.check_eq ⟨v0, v1, v2, v3, v4, v5⟩] at hchk
  have HSZ : Hid (w.heap.size < (w.alloc (.cells #[.string kd, .slice (some ⟨b, o, none⟩) 1 c, .slice A' 6 c'] 39)).heap.size) := Lib.hid (by simp)
  go_enter Tryz.func52, Tryz.ntmps52
  go_upto_region 1 with fail
  generalize w.alloc (.cells #[.string kd, .slice (some ⟨b, o, none⟩) 1 c, .slice A' 6 c'] 39) = W at *
  have hit : ∀ x : It, itC x = #[.string x.id, .string x.par, .int .i64 x.bx.x0, .int .i64 x.bx.y0, .int .i64 x.bx.z0, .int .i64 x.bx.x1, .int .i64 x.bx.y1, .int .i64 x.bx.z1, .int .i64 x.st, .string x.stone] := fun _ => rfl
  go_cut [6] (fun s6 wx => s6 = .bool (Yp.look y.items n0).isSome ∧ Below (w.heap.size + 1) W wx)
  case first =>
    have K : W.cell? ⟨w.heap.size, 1, none⟩ = some (.slice (some ⟨b, o, none⟩) 1 c) ∧ W.cell? ⟨b, o, none⟩ = some (.string n0) ∧ W.cell? ⟨Y, 0, none⟩ = some (.map (some M)) := ⟨(row_cells HR.out).1 1, HC.out _ HB.out, (row_cells (HYW.out _ HB.out).row).1 0⟩
    have KA : ∀ O, (W.alloc O).cell? ⟨w.heap.size, 1, none⟩ = some (.slice (some ⟨b, o, none⟩) 1 c) ∧ (W.alloc O).cell? ⟨b, o, none⟩ = some (.string n0) ∧ (W.alloc O).cell? ⟨Y, 0, none⟩ = some (.map (some M)) := fun O => ⟨(row_cells (old_block HR.out O)).1 1, HC.out _ (HB.out.alloc (Nat.le_of_lt HSZ.out) O), (row_cells (HYW.out _ (HB.out.alloc (Nat.le_of_lt HSZ.out) O)).row).1 0⟩
    cases hl : Yp.look y.items n0 with
    | some x =>
      have hlk := look_found (w := W.drew) (HYW.out _ HB.out.drew).map hl true
      have hlk2 := fun O => look_found (w := (W.alloc O).drew) (HYW.out _ (HB.out.alloc (Nat.le_of_lt HSZ.out) O).drew).map hl true
      simp only [hit, if_true] at hlk hlk2
      go_region_held3 (fun w' => w'.cell? ⟨w.heap.size, 1, none⟩ = some (.slice (some ⟨b, o, none⟩) 1 c) ∧ w'.cell? ⟨b, o, none⟩ = some (.string n0) ∧ w'.cell? ⟨Y, 0, none⟩ = some (.map (some M))) ((first | (simp only [*, and_self]; done) | (simp [*, go_sem]; done))) (fail)
      all_goals (go_wp2_with fail; go_meet; refine ⟨(by first | rfl | (simp [hl]; done)), ?_⟩; (repeat' (first | (with_reducible exact Below.refl _ _) | (with_reducible refine Below.drew ?_) | (with_reducible refine Below.setCell ?_ ?_ _) | (with_reducible refine Below.alloc ?_ ?_ _) | (exact HSZ.out) | (simp; done) | (simp; omega))))
    | none =>
      have hlk := look_missed (w := W.drew) (HYW.out _ HB.out.drew).map hl true
      have hlk2 := fun O => look_missed (w := (W.alloc O).drew) (HYW.out _ (HB.out.alloc (Nat.le_of_lt HSZ.out) O).drew).map hl true
      simp only [if_true] at hlk hlk2
      go_region_held3 (fun w' => w'.cell? ⟨w.heap.size, 1, none⟩ = some (.slice (some ⟨b, o, none⟩) 1 c) ∧ w'.cell? ⟨b, o, none⟩ = some (.string n0) ∧ w'.cell? ⟨Y, 0, none⟩ = some (.map (some M))) ((first | (simp only [*, and_self]; done) | (simp [*, go_sem]; done))) (fail)
      all_goals (go_wp2_with fail; go_meet; refine ⟨(by first | rfl | (simp [hl]; done)), ?_⟩; (repeat' (first | (with_reducible exact Below.refl _ _) | (with_reducible refine Below.drew ?_) | (with_reducible refine Below.setCell ?_ ?_ _) | (with_reducible refine Below.alloc ?_ ?_ _) | (exact HSZ.out) | (simp; done) | (simp; omega))))
  case rest =>
    obtain ⟨rfl, hb⟩ := hcut
    have HB2 := Lib.hid (HB.out.trans (hb.mono (Nat.le_succ _)))
    have HR2 := Lib.hid ((hb.block w.heap.size (Nat.lt_succ_self _)).trans HR.out)
    clear hb HB HR HSZ
    have y0 := (row_cells (HYW.out _ HB2.out).row).1 0
    have hln := fun ty => (HYW.out _ HB2.out).map.size (P := Tryz.prog) Tryz.underlying70 ty
    simp only [List.length_map] at hln
    have hl3 : ¬ ((4096 : Int) ≤ (y.items.length : Int)) := by omega
    cases hl : Yp.look y.items n0 with
    | some x =>
      have HE : Hid (Yp.freeErr y.items n0 ⟨v0, v1, v2, v3, v4, v5⟩ = 5) := Lib.hid (by unfold Yp.freeErr; rw [hl]; rfl)
      simp only [Option.isSome_some]
      go_wp2_with fail
      go_ret
      exact ⟨Base.ret_int HE.out.symm, HB2.out⟩
    | none =>
      have HE : Hid (Yp.freeErr y.items n0 ⟨v0, v1, v2, v3, v4, v5⟩ = if Yp.boxCheck ⟨v0, v1, v2, v3, v4, v5⟩ ≠ 0 then Yp.boxCheck ⟨v0, v1, v2, v3, v4, v5⟩ else if y.items.any (fun x => decide (x.par = Yp.es) && Yp.overB x.bx ⟨v0, v1, v2, v3, v4, v5⟩) then 11 else 0) := Lib.hid (by unfold Yp.freeErr; rw [hl]; rfl)
      simp only [Option.isSome_none]
      clear hl
      have c2 := (row_cells HR2.out).1 2
      have hb1 := hbox _ HB2.out
      clear hbox
      go_wp2_with fail
      refine hb1.mono ?_; rintro e w3 ⟨rfl, hb⟩
      have HB3 := Lib.hid (HB2.out.trans (hb.mono HB2.out.size))
      have HR3 := Lib.hid (row_after hb HR2.out)
      clear hb hb1 HB2 HR2 y0 hln hl3 c2
      have HR4 := Lib.hid (new_block w3 (.cells #[.int .i64 v0, .int .i64 v1, .int .i64 v2, .int .i64 v3, .int .i64 v4, .int .i64 v5] 45))
      have HB4 := Lib.hid (HB3.out.alloc HB3.out.size (.cells #[.int .i64 v0, .int .i64 v1, .int .i64 v2, .int .i64 v3, .int .i64 v4, .int .i64 v5] 45))
      have HGE := Lib.hid HB3.out.size
      go_wp2_with fail
      refine (hchk _).mono ?_; rintro e w4 ⟨rfl, hb⟩
      have HB5 := Lib.hid (HB4.out.trans (hb.mono HB4.out.size))
      have HR5 := Lib.hid (row_after hb HR4.out)
      have HLT := Lib.hid (block_lt HR5.out)
      clear hb hchk HB4 HR4 HB3 HR3
      have y0 := (row_cells (HYW.out _ HB5.out).row).1 0
      by_cases h0 : Yp.boxCheck ⟨v0, v1, v2, v3, v4, v5⟩ = 0
      · have HOKB := Lib.hid (Yp.boxCheck_ok h0)
        have HE : Hid (Yp.freeErr y.items n0 ⟨v0, v1, v2, v3, v4, v5⟩ = if y.items.any (fun x => decide (x.par = Yp.es) && Yp.overB x.bx ⟨v0, v1, v2, v3, v4, v5⟩) then 11 else 0) := Lib.hid (by rw [HE.out, if_neg (fun h => h h0)])
        rw [h0]
        clear h0
        go_wp2_with (at_range; refine wpList_range_it _ rfl _ 70 9 47 rfl Tryz.underlying70 M y.items rfl (HYW.out _ HB5.out).map ?_; intro w0 hi0 hb0)
        go_frame
        have HI0 := Lib.hid hi0
        have HB0 := Lib.hid hb0
        clear hi0 hb0 y0
        have hov := fun (x : It) W => overlap_any x.bx.x0 x.bx.y0 x.bx.z0 x.bx.x1 x.bx.y1 x.bx.z1 v0 v1 v2 v3 v4 v5 W
        go_loopw [] (fun wr => ∃ left, ItIter wr w4.heap.size M y.items left ∧ (∀ z ∈ y.items, z ∈ left ∨ ¬ (z.par = Yp.es ∧ Yp.overB z.bx ⟨v0, v1, v2, v3, v4, v5⟩ = true)) ∧ Below w4.heap.size w4 wr) (fun wr => wr.rangeLeft M w4.heap.size)
        case atStart => exact ⟨y.items, HI0.out, fun z hz => .inl hz, HB0.out⟩
        case round =>
          obtain ⟨left, hi, hall, hb⟩ := hrel
          have HI := Lib.hid hi
          have HA := Lib.hid hall
          have HB1 := Lib.hid hb
          have HR7 := Lib.hid ((hb.block _ HLT.out).trans HR5.out)
          clear hi hall hb
          go_wp2_with (at_next; refine wpList_next_it _ rfl _ rfl w4.heap.size M y.items left rfl HI.out ?hd ?hm; (case' hd => intro hd); (case' hm => intro A B x w' hl hi' hbut hen; have k7 := fun O => (row_cells (old_block ((hbut.block _ (Nat.ne_of_lt HLT.out)).trans HR7.out) O)).1; have hov := hov x; by_cases he : x.par.toList = []))
          · have hb2 : Below w4.heap.size w4 (w'.alloc (.cells #[.string x.id, .string x.par, .int .i64 x.bx.x0, .int .i64 x.bx.y0, .int .i64 x.bx.z0, .int .i64 x.bx.x1, .int .i64 x.bx.y1, .int .i64 x.bx.z1, .int .i64 x.st, .string x.stone] 47)) := (HB1.out.trans (hbut.below (Nat.le_refl _))).alloc (by have := HB1.out.size; have := hbut.size; omega) _
            have HI2 := Lib.hid (hi'.after ((Below.refl w'.heap.size w').alloc (Nat.le_refl _) (.cells #[.string x.id, .string x.par, .int .i64 x.bx.x0, .int .i64 x.bx.y0, .int .i64 x.bx.z0, .int .i64 x.bx.x1, .int .i64 x.bx.y1, .int .i64 x.bx.z1, .int .i64 x.st, .string x.stone] 47)))
            have HXM := Lib.hid (HI.out.sub x (by rw [hl]; simp))
            have hoe := Bridge.over_eq x.bx ⟨v0, v1, v2, v3, v4, v5⟩ (HOK.out x HXM.out) HOKB.out
            simp only at hoe
            have hmz : Hid (wr.rangeLeft M w4.heap.size = left.length) := Lib.hid HI.out.left_eq
            have hml : Hid (left.length = (A ++ B).length + 1) := Lib.hid (by rw [hl]; simp; omega)
            have HL := Lib.hid hl
            have HP := Lib.hid ((tl_nil _).1 he)
            rw [hoe] at hov
            clear hoe hi' hbut hen hl k7
            cases ho : Yp.overB x.bx ⟨v0, v1, v2, v3, v4, v5⟩ with
            | true =>
              rw [ho] at hov
              have HO := Lib.hid ho
              clear ho
              refine (hov _).mono ?_; rintro e w5 ⟨rfl, hb⟩
              have HB9 := Lib.hid (HB5.out.trans ((hb2.trans (hb.mono hb2.size)).mono HB5.out.size))
              clear hb hb2
              go_wp2_with fail
              go_ret
              refine ⟨Base.ret_int ?_, HB9.out⟩
              rw [HE.out, if_pos]
              rw [List.any_eq_true]
              exact ⟨x, HXM.out, by rw [HO.out, decide_eq_true HP.out]; rfl⟩
            | false =>
              rw [ho] at hov
              have HO := Lib.hid ho
              clear ho
              refine (hov _).mono ?_; rintro e w5 ⟨rfl, hb⟩
              have HB9 := Lib.hid (hb2.trans (hb.mono hb2.size))
              have HI3 := Lib.hid (HI2.out.after hb)
              clear hb hb2
              go_wp2_with fail
              go_roundw
              case rel =>
                refine ⟨A ++ B, HI3.out, fun z hz => ?_, HB9.out⟩
                rcases HA.out z hz with g | g
                · rw [HL.out] at g
                  rcases List.mem_append.1 g with g | g
                  · exact .inl (List.mem_append_left _ g)
                  · rcases List.mem_cons.1 g with rfl | g
                    · exact .inr (fun h => by rw [HO.out] at h; exact absurd h.2 (by decide))
                    · exact .inl (List.mem_append_right _ g)
                · exact .inr g
              case measure => rw [hmz.out, hml.out, HI3.out.left_eq]; omega
          · have hb2 : Below w4.heap.size w4 (w'.alloc (.cells #[.string x.id, .string x.par, .int .i64 x.bx.x0, .int .i64 x.bx.y0, .int .i64 x.bx.z0, .int .i64 x.bx.x1, .int .i64 x.bx.y1, .int .i64 x.bx.z1, .int .i64 x.st, .string x.stone] 47)) := (HB1.out.trans (hbut.below (Nat.le_refl _))).alloc (by have := HB1.out.size; have := hbut.size; omega) _
            have hi2 := hi'.after ((Below.refl w'.heap.size w').alloc (Nat.le_refl _) (.cells #[.string x.id, .string x.par, .int .i64 x.bx.x0, .int .i64 x.bx.y0, .int .i64 x.bx.z0, .int .i64 x.bx.x1, .int .i64 x.bx.y1, .int .i64 x.bx.z1, .int .i64 x.st, .string x.stone] 47))
            refine ⟨⟨A ++ B, hi2, fun z hz => ?_, hb2⟩, ?_⟩
            · rcases HA.out z hz with g | g
              · rw [hl] at g
                rcases List.mem_append.1 g with g | g
                · exact .inl (List.mem_append_left _ g)
                · rcases List.mem_cons.1 g with rfl | g
                  · exact .inr (fun h => he ((tl_nil _).2 h.1))
                  · exact .inl (List.mem_append_right _ g)
              · exact .inr g
            · rw [HI.out.left_eq, hi2.left_eq, hl]; simp
          · go_ret
            refine ⟨Base.ret_int ?_, HB5.out.trans (HB1.out.mono HB5.out.size)⟩
            rw [HE.out, if_neg]
            rw [Bool.not_eq_true, List.any_eq_false]
            intro z hz
            rcases HA.out z hz with g | g
            · rw [hd] at g; exact absurd g List.not_mem_nil
            · intro h
              simp only [Bool.and_eq_true, decide_eq_true_eq] at h
              exact g h
      · have hne : (Yp.boxCheck ⟨v0, v1, v2, v3, v4, v5⟩ == 0) = false := by simpa using h0
        have HE : Hid (Yp.freeErr y.items n0 ⟨v0, v1, v2, v3, v4, v5⟩ = Yp.boxCheck ⟨v0, v1, v2, v3, v4, v5⟩) := Lib.hid (by rw [HE.out, if_pos h0])
        generalize Yp.boxCheck ⟨v0, v1, v2, v3, v4, v5⟩ = q at *
        go_wp2_with fail
        go_ret
        exact ⟨Base.ret_int HE.out.symm, HB5.out⟩
end Go.Proofs.YtejhcbbfdfnfdaaGreatDoor.Yard
