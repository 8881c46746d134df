/- The law's own 'fact'. -/
import Derived.Test.YtejhcbbfdfnfdaaGreatDoorR25
/- SameFact: whether two facts are the same. -/
namespace Go.Proofs.YtejhcbbfdfnfdaaGreatDoor.Yard
open Go.RowKit Go.Proofs.YtejhcbbfdfnfdaaGreatDoor.Base Go.Proofs.YtejhcbbfdfnfdaaGreatDoor.Mp
open Yp (It Yd Fact Bx)
def sameF (a b : Fact) : Bool := decide (a.kind = b.kind) && decide (a.names = b.names) && decide (a.vals = b.vals)
theorem sameF_iff (a b : Fact) : sameF a b = true ↔ a = b := by
  unfold sameF
  rcases a with ⟨k, n, v⟩
  rcases b with ⟨k', n', v'⟩
  simp [and_assoc]
set_option maxRecDepth 100000 in
set_option maxHeartbeats 8000000 in
theorem same_any {w : World} {X Y : Nat → Prop} (a b : Fact) (an av bn bv : Value) (h1 : Rd w X an (strV a.names)) (h2 : Rd w X av (intV a.vals)) (h3 : Rd w Y bn (strV b.names)) (h4 : Rd w Y bv (intV b.vals)) (hl : a.names.length ≤ 1000000 ∧ a.vals.length ≤ 1000000) :
    Calls Tryz.prog 24 #[.agg #[.string a.kind, an, av], .agg #[.string b.kind, bn, bv]] w fun e w' => e = .returned (.bool (sameF a b)) ∧ Below w.heap.size w w' := by
  have ln : ∀ l : List ByteArray, (strV l).length = l.length := fun l => by simp [strV]
  have lv : ∀ l : List Int, (intV l).length = l.length := fun l => by simp [intV]
  obtain ⟨A1, c1, e1, _, r1⟩ := h1
  obtain ⟨A2, c2, e2, _, r2⟩ := h2
  obtain ⟨A3, c3, e3, _, r3⟩ := h3
  obtain ⟨A4, c4, e4, _, r4⟩ := h4
  rw [ln] at e1 e3 r1 r3
  rw [lv] at e2 e4 r2 r4
  subst e1 e2 e3 e4
  have R1 := Lib.hid r1
  have R2 := Lib.hid r2
  have R3 := Lib.hid r3
  have R4 := Lib.hid r4
  have hb1 := al_below w (.cells #[.string a.kind, .slice A1 a.names.length c1, .slice A2 a.vals.length c2] 39)
  have hb2 := hb1.trans ((al_below (w.alloc (.cells #[.string a.kind, .slice A1 a.names.length c1, .slice A2 a.vals.length c2] 39)) (.cells #[.string b.kind, .slice A3 b.names.length c3, .slice A4 b.vals.length c4] 39)).mono hb1.size)
  have p1 := row_after (al_below _ (.cells #[.string b.kind, .slice A3 b.names.length c3, .slice A4 b.vals.length c4] 39)) (new_block w (.cells #[.string a.kind, .slice A1 a.names.length c1, .slice A2 a.vals.length c2] 39))
  have p2 := new_block2 w (.cells #[.string a.kind, .slice A1 a.names.length c1, .slice A2 a.vals.length c2] 39) (.cells #[.string b.kind, .slice A3 b.names.length c3, .slice A4 b.vals.length c4] 39)
  have HB2 := Lib.hid hb2
  have P1 := Lib.hid p1
  have P2 := Lib.hid p2
  have HL := Lib.hid hl
  have hkk : (a.kind.toList == b.kind.toList) = decide (a.kind = b.kind) := tl_beq _ _
  clear r1 r2 r3 r4 hb1 hb2 p1 p2 ln lv hl
  by_cases hk : a.kind = b.kind
  · have hs : sameF a b = (decide (a.names = b.names) && decide (a.vals = b.vals)) := by unfold sameF; rw [decide_eq_true hk, Bool.true_and]
    rw [decide_eq_true hk] at hkk
    rw [hs]
    clear hs hk
    by_cases hn : a.names.length = b.names.length
    · by_cases hv : a.vals.length = b.vals.length
      · have HN := Lib.hid hn
        have HV := Lib.hid hv
        have hcn : ((a.names.length : Int) != (b.names.length : Int)) = false := by simp [hn]
        have hcv : ((a.vals.length : Int) != (b.vals.length : Int)) = false := by simp [hv]
        clear hn hv
        go_enter Tryz.func24, Tryz.ntmps24
        go_wp2_with fail
        go_loopw [5] (fun q wr => ∃ k : Nat, k ≤ a.names.length ∧ q = .int .i64 k ∧ a.names.take k = b.names.take k ∧ Below (w.heap.size + 2) ((w.alloc (.cells #[.string a.kind, .slice A1 a.names.length c1, .slice A2 a.vals.length c2] 39)).alloc (.cells #[.string b.kind, .slice A3 b.names.length c3, .slice A4 b.vals.length c4] 39)) wr) (fun q _ => a.names.length - (intOf q).toNat)
        case atStart => exact ⟨0, by omega, rfl, rfl, Below.refl _ _⟩
        case round =>
          obtain ⟨k, hk, rfl, hall, hb⟩ := hrel
          have HA := Lib.hid hall
          have HB := Lib.hid hb
          have HW : Hid (Below w.heap.size w wr) := Lib.hid (HB2.out.trans (hb.mono (by omega)))
          have za1 := (row_cells ((hb.block w.heap.size (by omega)).trans P1.out)).1 1
          have za2 := (row_cells ((hb.block w.heap.size (by omega)).trans P1.out)).1 2
          have zb1 := (row_cells ((hb.block (w.heap.size + 1) (by omega)).trans P2.out)).1 1
          have zb2 := (row_cells ((hb.block (w.heap.size + 1) (by omega)).trans P2.out)).1 2
          clear hall hb
          by_cases hlt : k < a.names.length
          · have hltb : k < b.names.length := by have := HN.out; omega
            obtain ⟨bb1, o1, rfl, hbl1, _, hx1⟩ := R1.out (by omega)
            obtain ⟨bb3, o3, rfl, hbl3, _, hx3⟩ := R3.out (by omega)
            have d1 : wr.cell? ⟨bb1, o1 + k, none⟩ = some (.string a.names[k]) := (HW.out.cell (p := ⟨bb1, _, none⟩) hbl1).trans (hx1 k _ (by simp [strV, List.getElem?_eq_getElem hlt]))
            have d3 : wr.cell? ⟨bb3, o3 + k, none⟩ = some (.string b.names[k]) := (HW.out.cell (p := ⟨bb3, _, none⟩) hbl3).trans (hx3 k _ (by simp [strV, List.getElem?_eq_getElem hltb]))
            have hk6 : k < 1000000 := by have := HL.out; omega
            have HTA : Hid (a.names.take (k + 1) = a.names.take k ++ [a.names[k]]) := Lib.hid (List.take_succ_eq_append_getElem hlt)
            have HTB : Hid (b.names.take (k + 1) = b.names.take k ++ [b.names[k]]) := Lib.hid (List.take_succ_eq_append_getElem hltb)
            have HAK : Hid (a.names[k]? = some a.names[k]) := Lib.hid (List.getElem?_eq_getElem hlt)
            have HBK : Hid (b.names[k]? = some b.names[k]) := Lib.hid (List.getElem?_eq_getElem hltb)
            clear hx1 hx3
            generalize a.names[k] = x1 at *
            generalize b.names[k] = x3 at *
            have hq : (x1.toList == x3.toList) = decide (x1 = x3) := tl_beq _ _
            by_cases he : x1 = x3
            · rw [decide_eq_true he] at hq
              have HE := Lib.hid he
              clear he
              go_wp2_with fail
              go_still_tail 10, (by kernel_rfl)
              go_wp2_with fail
              exact ⟨⟨k + 1, by omega, by go_num, by rw [HTA.out, HTB.out, HA.out, HE.out], HB.out.drew⟩, by simp [intOf]; omega⟩
            · rw [decide_eq_false he] at hq
              have HE : Hid (a.names ≠ b.names) := Lib.hid (fun h => he (by have h1 := HAK.out; rw [h, HBK.out] at h1; exact (Option.some.inj h1).symm))
              clear he
              go_wp2_with fail
              go_still_tail 10, (by kernel_rfl)
              go_wp2_with fail
              go_ret
              refine ⟨?_, HW.out.drew⟩
              rw [decide_eq_false HE.out, Bool.false_and]
              rfl
          · obtain rfl : k = a.names.length := by omega
            have HEQnames : Hid (a.names = b.names) := Lib.hid (by have h := HA.out; rwa [List.take_length, HN.out, List.take_length] at h)
            clear hlt
            go_wp2_with fail
            have HBB := Lib.hid HB.out
            clear za1 za2 zb1 zb2 HB HW
            go_loopw [6] (fun q wr => ∃ k : Nat, k ≤ a.vals.length ∧ q = .int .i64 k ∧ a.vals.take k = b.vals.take k ∧ Below (w.heap.size + 2) ((w.alloc (.cells #[.string a.kind, .slice A1 a.names.length c1, .slice A2 a.vals.length c2] 39)).alloc (.cells #[.string b.kind, .slice A3 b.names.length c3, .slice A4 b.vals.length c4] 39)) wr) (fun q _ => a.vals.length - (intOf q).toNat)
            case atStart => exact ⟨0, by omega, rfl, rfl, HBB.out⟩
            case round =>
              obtain ⟨k, hk, rfl, hall, hb⟩ := hrel
              have HA := Lib.hid hall
              have HB := Lib.hid hb
              have HW : Hid (Below w.heap.size w wr) := Lib.hid (HB2.out.trans (hb.mono (by omega)))
              have za1 := (row_cells ((hb.block w.heap.size (by omega)).trans P1.out)).1 1
              have za2 := (row_cells ((hb.block w.heap.size (by omega)).trans P1.out)).1 2
              have zb1 := (row_cells ((hb.block (w.heap.size + 1) (by omega)).trans P2.out)).1 1
              have zb2 := (row_cells ((hb.block (w.heap.size + 1) (by omega)).trans P2.out)).1 2
              clear hall hb
              by_cases hlt : k < a.vals.length
              · have hltb : k < b.vals.length := by have := HV.out; omega
                obtain ⟨bb1, o1, rfl, hbl1, _, hx1⟩ := R2.out (by omega)
                obtain ⟨bb3, o3, rfl, hbl3, _, hx3⟩ := R4.out (by omega)
                have d1 : wr.cell? ⟨bb1, o1 + k, none⟩ = some (.int .i64 a.vals[k]) := (HW.out.cell (p := ⟨bb1, _, none⟩) hbl1).trans (hx1 k _ (by simp [intV, List.getElem?_eq_getElem hlt]))
                have d3 : wr.cell? ⟨bb3, o3 + k, none⟩ = some (.int .i64 b.vals[k]) := (HW.out.cell (p := ⟨bb3, _, none⟩) hbl3).trans (hx3 k _ (by simp [intV, List.getElem?_eq_getElem hltb]))
                have hk6 : k < 1000000 := by have := HL.out; omega
                have HTA : Hid (a.vals.take (k + 1) = a.vals.take k ++ [a.vals[k]]) := Lib.hid (List.take_succ_eq_append_getElem hlt)
                have HTB : Hid (b.vals.take (k + 1) = b.vals.take k ++ [b.vals[k]]) := Lib.hid (List.take_succ_eq_append_getElem hltb)
                have HAK : Hid (a.vals[k]? = some a.vals[k]) := Lib.hid (List.getElem?_eq_getElem hlt)
                have HBK : Hid (b.vals[k]? = some b.vals[k]) := Lib.hid (List.getElem?_eq_getElem hltb)
                clear hx1 hx3
                generalize a.vals[k] = x1 at *
                generalize b.vals[k] = x3 at *
                have hq : (x1 != x3) = !decide (x1 = x3) := by by_cases h : x1 = x3 <;> simp [h]
                by_cases he : x1 = x3
                · rw [decide_eq_true he] at hq
                  have HE := Lib.hid he
                  clear he
                  go_wp2_with fail
                  go_still_tail 10, (by kernel_rfl)
                  go_wp2_with fail
                  exact ⟨⟨k + 1, by omega, by go_num, by rw [HTA.out, HTB.out, HA.out, HE.out], HB.out.drew⟩, by simp [intOf]; omega⟩
                · rw [decide_eq_false he] at hq
                  have HE : Hid (a.vals ≠ b.vals) := Lib.hid (fun h => he (by have h1 := HAK.out; rw [h, HBK.out] at h1; exact (Option.some.inj h1).symm))
                  clear he
                  go_wp2_with fail
                  go_still_tail 10, (by kernel_rfl)
                  go_wp2_with fail
                  go_ret
                  refine ⟨?_, HW.out.drew⟩
                  rw [decide_eq_false HE.out, Bool.and_false]
                  rfl
              · obtain rfl : k = a.vals.length := by omega
                have HEQvals : Hid (a.vals = b.vals) := Lib.hid (by have h := HA.out; rwa [List.take_length, HV.out, List.take_length] at h)
                clear hlt
                go_wp2_with fail
                go_ret
                refine ⟨?_, HW.out⟩
                rw [decide_eq_true HEQnames.out, decide_eq_true HEQvals.out]
                rfl
      · have hcn : ((a.names.length : Int) != (b.names.length : Int)) = false := by simp [hn]
        have hcv : ((a.vals.length : Int) != (b.vals.length : Int)) = true := by simp; omega
        have hne : a.vals ≠ b.vals := fun h => hv (congrArg List.length h)
        rw [decide_eq_false hne, Bool.and_false]
        clear hn hv hne
        go_enter Tryz.func24, Tryz.ntmps24
        go_wp2_with fail
        go_ret
        exact ⟨rfl, HB2.out⟩
    · have hcn : ((a.names.length : Int) != (b.names.length : Int)) = true := by simp; omega
      have hne : a.names ≠ b.names := fun h => hn (congrArg List.length h)
      rw [decide_eq_false hne, Bool.false_and]
      clear hn hne
      go_enter Tryz.func24, Tryz.ntmps24
      go_wp2_with fail
      go_ret
      exact ⟨rfl, HB2.out⟩
  · have hs : sameF a b = false := by unfold sameF; rw [decide_eq_false hk, Bool.false_and, Bool.false_and]
    rw [decide_eq_false hk] at hkk
    rw [hs]
    clear hs hk
    go_enter Tryz.func24, Tryz.ntmps24
    go_wp2_with fail
    go_ret
    exact ⟨rfl, HB2.out⟩
end Go.Proofs.YtejhcbbfdfnfdaaGreatDoor.Yard

/- The law's own 'fact'. -/
namespace Go.Proofs.YtejhcbbfdfnfdaaGreatDoor.Yard
open Go.RowKit Go.Proofs.YtejhcbbfdfnfdaaGreatDoor.Base Go.Proofs.YtejhcbbfdfnfdaaGreatDoor.Mp
open Yp (It Yd Fact Bx)
set_option maxRecDepth 100000 in
set_option maxHeartbeats 2000000 in
theorem fact_any (w : World) (k : ByteArray) (A A' : Option Addr) (n c n' c' : Nat) :
    Calls Tryz.prog 25 #[.string k, .slice A n c, .slice A' n' c'] w fun e w' => e = .returned (.agg #[.string k, .slice A n c, .slice A' n' c']) ∧ Below w.heap.size w w' := by
  go_enter Tryz.func25, Tryz.ntmps25
  go_wp2_with fail
  refine bodyPost_ret (v := .agg #[.string k, .slice A n c, .slice A' n' c']) (by simp [results, Tryz.results25, go_sem, *]) rfl ⟨rfl, ?_⟩
  (repeat' (first | (with_reducible exact Below.refl _ _) | (with_reducible refine Below.drew ?_) | (with_reducible refine Below.setCell ?_ ?_ _) | (with_reducible refine Below.alloc ?_ ?_ _) | (simp; done) | (simp; omega)))
end Go.Proofs.YtejhcbbfdfnfdaaGreatDoor.Yard
