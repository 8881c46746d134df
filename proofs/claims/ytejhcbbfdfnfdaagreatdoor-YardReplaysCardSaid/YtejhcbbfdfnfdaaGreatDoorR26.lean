/- Small: whether facts are few and short. -/
import Derived.Test.YtejhcbbfdfnfdaaGreatDoorCards
import Derived.Test.YtejhcbbfdfnfdaaGreatDoorTie
import Derived.Test.YtejhcbbfdfnfdaaGreatDoorR25
import Derived.Lib.LaidTab
import Derived.Stop.LaidErr
import Derived.MakeChecks
import Derived.Carry
import Derived.Test.YtejhcbbfdfnfdaaGreatDoorR21
/- What the row's list gives: what Go's library reads of its variables. -/
namespace Go.Proofs.YtejhcbbfdfnfdaaGreatDoor.Yard
open Go.ChangeShapes Go.WideShapes Go.ChangeAt Go.RowKit
theorem own : ownKnob Tryz.prog.godebug = none := by kernel_rfl
theorem laidOut : laidOutB Tryz.prog = true := by kernel_rfl
theorem star : ("*" ++ "errors.errorString" : String) = "*errors.errorString" := by decide
theorem row_es (u : TypeId) (h : Tryz.prog.typeName? 3 u = some "*errors.errorString") : u = 206 :=
  typeName_ptr_named (nm := "errors.errorString") (by rw [star]; kernel_rfl) (by kernel_rfl) (by decide) u (by rw [star]; exact h)
theorem env_of {W : World} (hL0 : laidMetH Tryz.prog Rows.yardDisjointRow.laid W) (hsh : W.ShapedOpen Tryz.prog) : Env W := by
  have hbig : 4 ≤ W.heap.size := by
    obtain ⟨m, hm⟩ := Tryz.laysM146.s1_3 W hsh
    unfold World.cell? at hm
    dsimp only at hm
    split at hm
    · rename_i hb
      exact (Array.getElem?_eq_some_iff.1 hb).1
    · cases hm
  rw [MakeChecks.laidMetH_plain _ _ _ (by kernel_rfl)] at hL0
  have h3 := hL0.tail.tail
  have h5 := h3.tail.tail
  have h6 := h5.tail
  refine ⟨Lib.tabBelow_of_tabIs (Lib.tabIs_of_head (k := .u64) (zs := Lib.pow10Tab) (g := 0) (by kernel_rfl) (by kernel_rfl) (t := 188) (e := 152) (n := 20) Tryz.underlying188 Tryz.underlying152 (by kernel_rfl) (by kernel_rfl) h3), hbig, Tryz.laysM146.s1_3 W hsh, ?_, ?_⟩
  · obtain ⟨a0, s0, hv0, _⟩ := laid_sentinel h6 (g := 1) (by kernel_rfl) (by kernel_rfl) Tryz.underlying93 row_es Tryz.underlying206 Tryz.underlying208 rfl rfl Tryz.underlying9 (by kernel_rfl) (by kernel_rfl)
    exact ⟨_, _, hv0⟩
  · obtain ⟨a0, s0, hv0, _⟩ := laid_sentinel h5 (g := 2) (by kernel_rfl) (by kernel_rfl) Tryz.underlying93 row_es Tryz.underlying206 Tryz.underlying208 rfl rfl Tryz.underlying9 (by kernel_rfl) (by kernel_rfl)
    exact ⟨_, _, hv0⟩
end Go.Proofs.YtejhcbbfdfnfdaaGreatDoor.Yard

/- Small: whether facts are few and short. -/
namespace Go.Proofs.YtejhcbbfdfnfdaaGreatDoor.Yard
open Go.RowKit Go.Proofs.YtejhcbbfdfnfdaaGreatDoor.Base Go.Proofs.YtejhcbbfdfnfdaaGreatDoor.Mp
open Yp (It Yd Fact Bx)
def smallF (f : Fact) : Bool := decide (f.kind.size ≤ 60) && decide (f.names.length ≤ 12) && decide (f.vals.length ≤ 12) && f.names.all fun s => decide (s.size ≤ 60)
def smallL (l : List Fact) (n : Nat) : Bool := decide (l.length ≤ n) && l.all smallF
theorem smallL_off {l : List Fact} {n k : Nat} (h : k < l.length) (hf : smallF l[k] = false) : smallL l n = false := by
  unfold smallL
  rw [Bool.and_eq_false_iff]
  exact .inr (List.all_eq_false.2 ⟨l[k], List.getElem_mem h, by rw [hf]; decide⟩)
theorem smallL_on {l : List Fact} {n : Nat} (hn : l.length ≤ n) (h : ∀ (j : Nat) (f : Fact), j < l.length → l[j]? = some f → smallF f = true) : smallL l n = true := by
  unfold smallL
  rw [decide_eq_true hn, Bool.true_and, List.all_eq_true]
  intro f hf
  obtain ⟨j, hj, e⟩ := List.getElem_of_mem hf
  exact h j f hj (by rw [← e]; exact List.getElem?_eq_getElem hj)
theorem smallF_names {f : Fact} (h1 : f.kind.size ≤ 60) (h2 : f.names.length ≤ 12) (h3 : f.vals.length ≤ 12) (h : ∀ (j : Nat) (s : ByteArray), j < f.names.length → f.names[j]? = some s → s.size ≤ 60) : smallF f = true := by
  unfold smallF
  rw [decide_eq_true h1, decide_eq_true h2, decide_eq_true h3, Bool.true_and, Bool.true_and, Bool.true_and, List.all_eq_true]
  intro s hs
  obtain ⟨j, hj, e⟩ := List.getElem_of_mem hs
  exact decide_eq_true (h j s hj (by rw [← e]; exact List.getElem?_eq_getElem hj))
set_option maxRecDepth 100000 in
set_option maxHeartbeats 8000000 in
theorem small_any {w : World} {X : Nat → Prop} {v : Value} {l : List Fact} (hv : FLs w X v l) (n : Nat) (hn : n ≤ 1000) :
    Calls Tryz.prog 9 #[v, .int .i64 n] w fun e w' => e = .returned (.bool (smallL l n)) ∧ w' = w := by
  obtain ⟨A, c, rfl, hc, hcell⟩ := hv
  by_cases hl : l.length ≤ n
  rotate_left
  · have h1 : (n : Int) < (l.length : Int) := by omega
    have h2 : smallL l n = false := by unfold smallL; rw [decide_eq_false hl, Bool.false_and]
    rw [h2]
    clear hcell hc hl h2
    go_enter Tryz.func9, Tryz.ntmps9
    go_wp2_with fail
    go_ret
    exact ⟨rfl, rfl⟩
  have HC := Lib.hid hcell
  have HL := Lib.hid (And.intro hl hn)
  have h1 : decide (n < l.length) = false := by simp; omega
  clear hcell hl
  go_enter Tryz.func9, Tryz.ntmps9
  go_wp2_with fail
  go_loopw [5] (fun i wr => ∃ k : Nat, k ≤ l.length ∧ i = .int .i64 k ∧ (∀ (j : Nat) (f : Fact), j < k → l[j]? = some f → smallF f = true) ∧ w = wr) (fun i _ => l.length - (intOf i).toNat)
  case atStart => exact ⟨0, by omega, rfl, fun j f hj => by omega, rfl⟩
  case round =>
    obtain ⟨k, hk, rfl, hall, rfl⟩ := hrel
    have HA := Lib.hid hall
    clear hall
    by_cases hlt : k < l.length
    · have hlk := List.getElem?_eq_getElem hlt
      obtain ⟨b, o, rfl, hbl, _, hx⟩ := HC.out (by omega)
      obtain ⟨nv, vv, d0, d1, d2, hnn, hvv⟩ := hx k _ hlk
      obtain ⟨A1, c1, rfl, _, hnc⟩ := id hnn
      obtain ⟨A2, c2, rfl, _⟩ := id hvv
      have ln : ∀ l : List ByteArray, (strV l).length = l.length := fun l => by simp [strV]
      have lv : ∀ l : List Int, (intV l).length = l.length := fun l => by simp [intV]
      rw [ln] at d1 hnc
      rw [lv] at d2
      have HOFF : Hid (smallF l[k] = false → smallL l n = false) := Lib.hid (smallL_off hlt)
      have HLK := Lib.hid hlk
      have HNC := Lib.hid hnc
      have hk6 : k < 1000 := by have := HL.out; omega
      clear hx hlk hnn hvv ln lv hnc
      generalize l[k] = f at *
      by_cases q1 : f.kind.size ≤ 60
      · have q1' : (f.kind.size : Int) ≤ 60 := by omega
        by_cases q2 : f.names.length ≤ 12
        · have q2' : (f.names.length : Int) ≤ 12 := by omega
          by_cases q3 : f.vals.length ≤ 12
          · have q3' : (f.vals.length : Int) ≤ 12 := by omega
            go_wp2_with fail
            go_loopw [6] (fun i wr => ∃ m : Nat, m ≤ f.names.length ∧ i = .int .i64 m ∧ (∀ (j : Nat) (s : ByteArray), j < m → f.names[j]? = some s → s.size ≤ 60) ∧ w = wr) (fun i _ => f.names.length - (intOf i).toNat)
            case atStart => exact ⟨0, by omega, rfl, fun j f hj => by omega, rfl⟩
            case round =>
              obtain ⟨m, hm, rfl, hall2, rfl⟩ := hrel
              have HA2 := Lib.hid hall2
              clear hall2
              by_cases hlt2 : m < f.names.length
              · have hsk := List.getElem?_eq_getElem hlt2
                obtain ⟨b2, o2, rfl, hbl2, _, hx2⟩ := HNC.out (by omega)
                have d3 := hx2 m _ (by rw [strV, List.getElem?_map, hsk]; rfl)
                have HSK := Lib.hid hsk
                have HSM := Lib.hid (List.getElem_mem hlt2)
                clear hx2 hsk
                generalize f.names[m] = s at *
                by_cases q4 : s.size ≤ 60
                · have q4' : (s.size : Int) ≤ 60 := by omega
                  go_wp2_with fail
                  refine ⟨⟨m + 1, by omega, by go_num, fun j t hj ht => ?_, trivial⟩, by simp [intOf]; omega⟩
                  rcases Nat.lt_or_ge j m with g | g
                  · exact HA2.out j t g ht
                  · obtain rfl : j = m := by omega
                    rw [HSK.out] at ht
                    injection ht with ht
                    rw [← ht]; exact q4
                · have q4' : (60 : Int) < (s.size : Int) := by omega
                  have HF : Hid (smallL l n = false) := Lib.hid (HOFF.out (by
                    unfold smallF
                    rw [Bool.and_eq_false_iff]
                    exact .inr (List.all_eq_false.2 ⟨s, HSM.out, by rw [decide_eq_false q4]; decide⟩)))
                  go_wp2_with fail
                  go_ret
                  rw [HF.out]
                  exact ⟨rfl, rfl⟩
              · obtain rfl : m = f.names.length := by omega
                have HF : Hid (smallF f = true) := Lib.hid (smallF_names q1 q2 q3 HA2.out)
                go_wp2_with fail
                refine ⟨⟨k + 1, by omega, by go_num, fun j t hj ht => ?_, trivial⟩, by simp [intOf]; omega⟩
                rcases Nat.lt_or_ge j k with g | g
                · exact HA.out j t g ht
                · obtain rfl : j = k := by omega
                  rw [HLK.out] at ht
                  injection ht with ht
                  rw [← ht]; exact HF.out
          · have q3' : (12 : Int) < (f.vals.length : Int) := by omega
            have HF : Hid (smallL l n = false) := Lib.hid (HOFF.out (by unfold smallF; rw [decide_eq_false q3, Bool.and_false, Bool.false_and]))
            go_wp2_with fail
            go_ret
            rw [HF.out]
            exact ⟨rfl, rfl⟩
        · have q2' : (12 : Int) < (f.names.length : Int) := by omega
          have HF : Hid (smallL l n = false) := Lib.hid (HOFF.out (by unfold smallF; rw [decide_eq_false q2, Bool.and_false, Bool.false_and, Bool.false_and]))
          go_wp2_with fail
          go_ret
          rw [HF.out]
          exact ⟨rfl, rfl⟩
      · have q1' : (60 : Int) < (f.kind.size : Int) := by omega
        have HF : Hid (smallL l n = false) := Lib.hid (HOFF.out (by unfold smallF; rw [decide_eq_false q1, Bool.false_and, Bool.false_and, Bool.false_and]))
        go_wp2_with fail
        go_ret
        rw [HF.out]
        exact ⟨rfl, rfl⟩
    · obtain rfl : k = l.length := by omega
      have HF : Hid (smallL l n = true) := Lib.hid (smallL_on HL.out.1 HA.out)
      go_wp2_with fail
      go_ret
      rw [HF.out]
      exact ⟨rfl, rfl⟩
end Go.Proofs.YtejhcbbfdfnfdaaGreatDoor.Yard
