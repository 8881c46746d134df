/- YardReplays. -/
import Derived.Test.YtejhcbbfdfnfdaaGreatDoorR43
import Derived.Test.YtejhcbbfdfnfdaaGreatDoorR32
import Derived.Test.YtejhcbbfdfnfdaaGreatDoorR37
import Derived.Test.YtejhcbbfdfnfdaaGreatDoorR27
import Derived.Test.YtejhcbbfdfnfdaaGreatDoorR42
/- The law's same: the yard's items and facts are the reference's. -/
namespace Go.Proofs.YtejhcbbfdfnfdaaGreatDoor.Yard
open Go.RowKit Go.Proofs.YtejhcbbfdfnfdaaGreatDoor.Base Go.Proofs.YtejhcbbfdfnfdaaGreatDoor.Mp
open Yp (It Yd Fact Bx)
theorem RAt.facts {W : World} {R : Nat} {s : List It} {fs : List Fact} (h : RAt W R s fs) : ∃ A5 c5, (∀ W', Below W.heap.size W W' → W'.cell? ⟨R, 1, none⟩ = some (.slice A5 fs.length c5)) ∧ FLs W (fun b => b ≠ R) (.slice A5 fs.length c5) fs := by
  obtain ⟨IV, FV, h1, _, h3, _⟩ := h
  obtain ⟨A5, c5, rfl, _⟩ := id h3
  exact ⟨A5, c5, fun W' hb => (row_cells (row_after hb h1)).1 1, h3⟩
/-- One fact's cells in every later world. -/
theorem FLs.at_ {W : World} {X : Nat → Prop} {A : Option Addr} {n c : Nat} {l : List Fact} (h : FLs W X (.slice A n c) l) (h0 : 0 < l.length) : ∃ b o, A = some ⟨b, o, none⟩ ∧ ∀ (j : Nat) (f : Fact), l[j]? = some f → ∃ N1 M1 d1 N2 M2 d2, (∀ W', Below W.heap.size W W' → W'.cell? ⟨b, o + j * 3, none⟩ = some (.string f.kind) ∧ W'.cell? ⟨b, o + j * 3 + 1, none⟩ = some (.slice N1 M1 d1) ∧ W'.cell? ⟨b, o + j * 3 + 2, none⟩ = some (.slice N2 M2 d2)) ∧ Rd W X (.slice N1 M1 d1) (strV f.names) ∧ Rd W X (.slice N2 M2 d2) (intV f.vals) := by
  obtain ⟨A', c', e, _, hx⟩ := h
  injection e with e1 _ _
  subst e1
  obtain ⟨b, o, rfl, hb, _, hc⟩ := hx h0
  refine ⟨b, o, rfl, fun j f hj => ?_⟩
  obtain ⟨nv, vv, c0, c1, c2, r1, r2⟩ := hc j f hj
  obtain ⟨N1, d1, rfl, _⟩ := id r1
  obtain ⟨N2, d2, rfl, _⟩ := id r2
  exact ⟨N1, _, d1, N2, _, d2, fun W' hW => ⟨(hW.cell (p := ⟨b, _, none⟩) hb).trans c0, (hW.cell (p := ⟨b, _, none⟩) hb).trans c1, (hW.cell (p := ⟨b, _, none⟩) hb).trans c2⟩, r1, r2⟩
set_option maxRecDepth 100000 in
set_option maxHeartbeats 16000000 in
theorem samelaw_any {w : World} {Y M R : Nat} {FS : Value} {y : Yd} {s : List It} {fs : List Fact} (hy : YAt w Y M FS y) (hi : Yp.Inv y) (hlen : y.items.length < 4000) (hfl : y.facts.length < 4096) (hsh : ∀ f ∈ y.facts, f.names.length ≤ 1000000 ∧ f.vals.length ≤ 1000000) (hr : RAt w R s fs) (hs : Sim y s fs) :
    Calls Tryz.prog 12 #[.pointer (some ⟨Y, 0, none⟩), .pointer (some ⟨R, 0, none⟩)] w fun e w' => e = .returned (.bool true) ∧ Below w.heap.size w w' := by
  obtain ⟨hs1, hs2, rfl⟩ := hs
  have hit := items_any sort_said hy (by omega)
  have HFA := Lib.hid fun W (hb : Below w.heap.size w W) => facts_any (hy.below hb) hfl hsh
  have HR := Lib.hid hr
  have HSH := Lib.hid hsh
  clear hy hr hsh
  go_enter Tryz.func12, Tryz.ntmps12
  go_wp2_with fail
  refine hit.mono ?_; rintro e w1 ⟨v1, l1, rfl, hperm, hsort, hrow, hb1⟩
  obtain ⟨A1, c1, rfl, hcells⟩ := irow_slice hrow
  obtain rfl : l1 = s := sorted_eq hperm hs1 hsort hs2 hi.uniq
  have HLS : Hid (l1.length < 4000) := Lib.hid (by rw [hperm.length_eq]; exact hlen)
  have hfa := HFA.out w1 hb1
  have HC1 := Lib.hid hcells
  have HB1 := Lib.hid hb1
  clear hit hrow hperm hsort hcells hb1 HFA hs1 hs2
  go_wp2_with fail
  refine hfa.mono ?_; rintro e w2 ⟨v2, rfl, hf2, hb2⟩
  obtain ⟨A3, c3, rfl, _⟩ := id hf2
  have HB2 := Lib.hid (HB1.out.trans (hb2.mono HB1.out.size))
  have HB12 := Lib.hid hb2
  have hr2 := HR.out.below HB2.out
  obtain ⟨A2, c2, _, hy0, hx2⟩ := hr2.open
  obtain ⟨A5, c5, hy1, hf5⟩ := hr2.facts
  have HY0 := Lib.hid hy0
  have HY1 := Lib.hid hy1
  have HX2 := Lib.hid hx2
  have HF3 := Lib.hid hf2
  have HF5 := Lib.hid hf5
  have y0 := hy0 w2 (Below.refl _ _)
  have y1 := hy1 w2 (Below.refl _ _)
  have hls := HLS.out
  clear hfa hf2 hb2 hr2 hy0 hy1 hx2 hf5 HR
  go_wp2_with fail
  clear y0 y1
  go_loopw [7] (fun i wr => ∃ k : Nat, k ≤ l1.length ∧ i = .int .i64 k ∧ Below w2.heap.size w2 wr) (fun i _ => l1.length - (intOf i).toNat)
  case atStart => exact ⟨0, by omega, rfl, by first | exact Below.refl _ _ | exact (Below.refl _ _).drew⟩
  case round =>
    obtain ⟨k, hk, rfl, hb⟩ := hrel
    have HB := Lib.hid hb
    clear hb
    by_cases hlt : k < l1.length
    · obtain ⟨g1, rfl, _, hx1⟩ := HC1.out (by omega)
      obtain ⟨g2, rfl, hx2⟩ := HX2.out (by omega)
      have HL : Hid (l1[k]? = some l1[k]) := Lib.hid (List.getElem?_eq_getElem hlt)
      have HX1 := Lib.hid hx1
      have HXX2 := Lib.hid hx2
      clear hx1 hx2
      generalize l1[k] = x at *
      have him := item_any x
      rw [show itC x = #[.string x.id, .string x.par, .int .i64 x.bx.x0, .int .i64 x.bx.y0, .int .i64 x.bx.z0, .int .i64 x.bx.x1, .int .i64 x.bx.y1, .int .i64 x.bx.z1, .int .i64 x.st, .string x.stone] from rfl] at him
      have KK : wr.cell? ⟨R, 0, none⟩ = some (.slice (some ⟨g2, 0, none⟩) l1.length c2) ∧ (wr.cell? ⟨g1, k * 10, none⟩ = some (.string x.id) ∧ wr.cell? ⟨g1, k * 10 + 1, none⟩ = some (.string x.par) ∧ wr.cell? ⟨g1, k * 10 + 2, none⟩ = some (.int .i64 x.bx.x0) ∧ wr.cell? ⟨g1, k * 10 + 3, none⟩ = some (.int .i64 x.bx.y0) ∧ wr.cell? ⟨g1, k * 10 + 4, none⟩ = some (.int .i64 x.bx.z0) ∧ wr.cell? ⟨g1, k * 10 + 5, none⟩ = some (.int .i64 x.bx.x1) ∧ wr.cell? ⟨g1, k * 10 + 6, none⟩ = some (.int .i64 x.bx.y1) ∧ wr.cell? ⟨g1, k * 10 + 7, none⟩ = some (.int .i64 x.bx.z1) ∧ wr.cell? ⟨g1, k * 10 + 8, none⟩ = some (.int .i64 x.st) ∧ wr.cell? ⟨g1, k * 10 + 9, none⟩ = some (.string x.stone)) ∧ wr.cell? ⟨g2, k * 10, none⟩ = some (.string x.id) ∧ wr.cell? ⟨g2, k * 10 + 1, none⟩ = some (.string x.par) ∧ wr.cell? ⟨g2, k * 10 + 2, none⟩ = some (.int .i64 x.bx.x0) ∧ wr.cell? ⟨g2, k * 10 + 3, none⟩ = some (.int .i64 x.bx.y0) ∧ wr.cell? ⟨g2, k * 10 + 4, none⟩ = some (.int .i64 x.bx.z0) ∧ wr.cell? ⟨g2, k * 10 + 5, none⟩ = some (.int .i64 x.bx.x1) ∧ wr.cell? ⟨g2, k * 10 + 6, none⟩ = some (.int .i64 x.bx.y1) ∧ wr.cell? ⟨g2, k * 10 + 7, none⟩ = some (.int .i64 x.bx.z1) ∧ wr.cell? ⟨g2, k * 10 + 8, none⟩ = some (.int .i64 x.st) ∧ wr.cell? ⟨g2, k * 10 + 9, none⟩ = some (.string x.stone) := ⟨HY0.out _ HB.out, HX1.out _ (HB12.out.trans (HB.out.mono HB12.out.size)) k x HL.out, HXX2.out _ HB.out k x HL.out⟩
      go_wp2_with fail
      go_region_held3 (fun w' => w'.cell? ⟨R, 0, none⟩ = some (.slice (some ⟨g2, 0, none⟩) l1.length c2) ∧ (w'.cell? ⟨g1, k * 10, none⟩ = some (.string x.id) ∧ w'.cell? ⟨g1, k * 10 + 1, none⟩ = some (.string x.par) ∧ w'.cell? ⟨g1, k * 10 + 2, none⟩ = some (.int .i64 x.bx.x0) ∧ w'.cell? ⟨g1, k * 10 + 3, none⟩ = some (.int .i64 x.bx.y0) ∧ w'.cell? ⟨g1, k * 10 + 4, none⟩ = some (.int .i64 x.bx.z0) ∧ w'.cell? ⟨g1, k * 10 + 5, none⟩ = some (.int .i64 x.bx.x1) ∧ w'.cell? ⟨g1, k * 10 + 6, none⟩ = some (.int .i64 x.bx.y1) ∧ w'.cell? ⟨g1, k * 10 + 7, none⟩ = some (.int .i64 x.bx.z1) ∧ w'.cell? ⟨g1, k * 10 + 8, none⟩ = some (.int .i64 x.st) ∧ w'.cell? ⟨g1, k * 10 + 9, none⟩ = some (.string x.stone)) ∧ w'.cell? ⟨g2, k * 10, none⟩ = some (.string x.id) ∧ w'.cell? ⟨g2, k * 10 + 1, none⟩ = some (.string x.par) ∧ w'.cell? ⟨g2, k * 10 + 2, none⟩ = some (.int .i64 x.bx.x0) ∧ w'.cell? ⟨g2, k * 10 + 3, none⟩ = some (.int .i64 x.bx.y0) ∧ w'.cell? ⟨g2, k * 10 + 4, none⟩ = some (.int .i64 x.bx.z0) ∧ w'.cell? ⟨g2, k * 10 + 5, none⟩ = some (.int .i64 x.bx.x1) ∧ w'.cell? ⟨g2, k * 10 + 6, none⟩ = some (.int .i64 x.bx.y1) ∧ w'.cell? ⟨g2, k * 10 + 7, none⟩ = some (.int .i64 x.bx.z1) ∧ w'.cell? ⟨g2, k * 10 + 8, none⟩ = some (.int .i64 x.st) ∧ w'.cell? ⟨g2, k * 10 + 9, none⟩ = some (.string x.stone)) ((first | (simp only [*, and_self]; done) | (simp [*, go_sem]; done)))
        (first
          | (go_at_call 29; ((with_reducible refine (him _).mono ?_); rintro e w6 ⟨rfl, hb⟩; have HB := Lib.hid (HB.out.trans ((Below.refl _ _).drew.trans hb |>.mono HB.out.size)); clear hb; have KK : w6.cell? ⟨R, 0, none⟩ = some (.slice (some ⟨g2, 0, none⟩) l1.length c2) ∧ (w6.cell? ⟨g1, k * 10, none⟩ = some (.string x.id) ∧ w6.cell? ⟨g1, k * 10 + 1, none⟩ = some (.string x.par) ∧ w6.cell? ⟨g1, k * 10 + 2, none⟩ = some (.int .i64 x.bx.x0) ∧ w6.cell? ⟨g1, k * 10 + 3, none⟩ = some (.int .i64 x.bx.y0) ∧ w6.cell? ⟨g1, k * 10 + 4, none⟩ = some (.int .i64 x.bx.z0) ∧ w6.cell? ⟨g1, k * 10 + 5, none⟩ = some (.int .i64 x.bx.x1) ∧ w6.cell? ⟨g1, k * 10 + 6, none⟩ = some (.int .i64 x.bx.y1) ∧ w6.cell? ⟨g1, k * 10 + 7, none⟩ = some (.int .i64 x.bx.z1) ∧ w6.cell? ⟨g1, k * 10 + 8, none⟩ = some (.int .i64 x.st) ∧ w6.cell? ⟨g1, k * 10 + 9, none⟩ = some (.string x.stone)) ∧ w6.cell? ⟨g2, k * 10, none⟩ = some (.string x.id) ∧ w6.cell? ⟨g2, k * 10 + 1, none⟩ = some (.string x.par) ∧ w6.cell? ⟨g2, k * 10 + 2, none⟩ = some (.int .i64 x.bx.x0) ∧ w6.cell? ⟨g2, k * 10 + 3, none⟩ = some (.int .i64 x.bx.y0) ∧ w6.cell? ⟨g2, k * 10 + 4, none⟩ = some (.int .i64 x.bx.z0) ∧ w6.cell? ⟨g2, k * 10 + 5, none⟩ = some (.int .i64 x.bx.x1) ∧ w6.cell? ⟨g2, k * 10 + 6, none⟩ = some (.int .i64 x.bx.y1) ∧ w6.cell? ⟨g2, k * 10 + 7, none⟩ = some (.int .i64 x.bx.z1) ∧ w6.cell? ⟨g2, k * 10 + 8, none⟩ = some (.int .i64 x.st) ∧ w6.cell? ⟨g2, k * 10 + 9, none⟩ = some (.string x.stone) := ⟨HY0.out _ HB.out, HX1.out _ (HB12.out.trans (HB.out.mono HB12.out.size)) k x HL.out, HXX2.out _ HB.out k x HL.out⟩)))
      clear KK him
      go_wp2_with fail
      exact ⟨⟨k + 1, hlt, by go_num, HB.out⟩, by simp [intOf]; omega⟩
    · obtain rfl : k = l1.length := by omega
      go_wp2_with fail
      go_loopw [8] (fun i wr => ∃ k : Nat, k ≤ y.facts.length ∧ i = .int .i64 k ∧ Below w2.heap.size w2 wr) (fun i _ => y.facts.length - (intOf i).toNat)
      case atStart => exact ⟨0, by omega, rfl, HB.out⟩
      case round =>
        obtain ⟨k, hk, rfl, hb⟩ := hrel
        have HB := Lib.hid hb
        clear hb
        by_cases hlt : k < y.facts.length
        · obtain ⟨b3, o3, rfl, hc3⟩ := HF3.out.at_ (by omega)
          obtain ⟨b5, o5, rfl, hc5⟩ := HF5.out.at_ (by omega)
          obtain ⟨N1, M1, d1, N2, M2, d2, hk3, r1, r2⟩ := hc3 k _ (List.getElem?_eq_getElem hlt)
          obtain ⟨N3, M3, d3, N4, M4, d4, hk5, r3, r4⟩ := hc5 k _ (List.getElem?_eq_getElem hlt)
          have HK3 := Lib.hid hk3
          have HK5 := Lib.hid hk5
          have hsa := fun W (hb : Below w2.heap.size w2 W) => same_any y.facts[k] y.facts[k] _ _ _ _ (r1.below hb) (r2.below hb) (r3.below hb) (r4.below hb) (HSH.out _ (List.getElem_mem hlt))
          rw [show sameF y.facts[k] y.facts[k] = true from (sameF_iff _ _).2 rfl] at hsa
          have HSA := Lib.hid hsa
          clear hc3 hc5 hk3 hk5 r1 r2 r3 r4 hsa
          generalize y.facts[k] = f at *
          have KK : wr.cell? ⟨R, 1, none⟩ = some (.slice (some ⟨b5, o5, none⟩) y.facts.length c5) ∧ wr.cell? ⟨b3, o3 + k * 3, none⟩ = some (.string f.kind) ∧ wr.cell? ⟨b3, o3 + k * 3 + 1, none⟩ = some (.slice N1 M1 d1) ∧ wr.cell? ⟨b3, o3 + k * 3 + 2, none⟩ = some (.slice N2 M2 d2) ∧ wr.cell? ⟨b5, o5 + k * 3, none⟩ = some (.string f.kind) ∧ wr.cell? ⟨b5, o5 + k * 3 + 1, none⟩ = some (.slice N3 M3 d3) ∧ wr.cell? ⟨b5, o5 + k * 3 + 2, none⟩ = some (.slice N4 M4 d4) := ⟨HY1.out _ HB.out, (HK3.out _ HB.out).1, (HK3.out _ HB.out).2.1, (HK3.out _ HB.out).2.2, (HK5.out _ HB.out).1, (HK5.out _ HB.out).2.1, (HK5.out _ HB.out).2.2⟩
          go_wp2_with fail
          go_region_held3 (fun w' => w'.cell? ⟨R, 1, none⟩ = some (.slice (some ⟨b5, o5, none⟩) y.facts.length c5) ∧ w'.cell? ⟨b3, o3 + k * 3, none⟩ = some (.string f.kind) ∧ w'.cell? ⟨b3, o3 + k * 3 + 1, none⟩ = some (.slice N1 M1 d1) ∧ w'.cell? ⟨b3, o3 + k * 3 + 2, none⟩ = some (.slice N2 M2 d2) ∧ w'.cell? ⟨b5, o5 + k * 3, none⟩ = some (.string f.kind) ∧ w'.cell? ⟨b5, o5 + k * 3 + 1, none⟩ = some (.slice N3 M3 d3) ∧ w'.cell? ⟨b5, o5 + k * 3 + 2, none⟩ = some (.slice N4 M4 d4)) ((first | (simp only [*, and_self]; done) | (simp [*, go_sem]; done)))
            (first
              | (go_at_call 24; ((with_reducible refine (HSA.out _ (HB.out.trans ((Below.refl _ _).drew.mono HB.out.size))).mono ?_); rintro e w6 ⟨rfl, hb⟩; have HB := Lib.hid (HB.out.trans ((Below.refl _ _).drew.trans hb |>.mono HB.out.size)); clear hb; have KK : w6.cell? ⟨R, 1, none⟩ = some (.slice (some ⟨b5, o5, none⟩) y.facts.length c5) ∧ w6.cell? ⟨b3, o3 + k * 3, none⟩ = some (.string f.kind) ∧ w6.cell? ⟨b3, o3 + k * 3 + 1, none⟩ = some (.slice N1 M1 d1) ∧ w6.cell? ⟨b3, o3 + k * 3 + 2, none⟩ = some (.slice N2 M2 d2) ∧ w6.cell? ⟨b5, o5 + k * 3, none⟩ = some (.string f.kind) ∧ w6.cell? ⟨b5, o5 + k * 3 + 1, none⟩ = some (.slice N3 M3 d3) ∧ w6.cell? ⟨b5, o5 + k * 3 + 2, none⟩ = some (.slice N4 M4 d4) := ⟨HY1.out _ HB.out, (HK3.out _ HB.out).1, (HK3.out _ HB.out).2.1, (HK3.out _ HB.out).2.2, (HK5.out _ HB.out).1, (HK5.out _ HB.out).2.1, (HK5.out _ HB.out).2.2⟩)))
          clear KK
          go_wp2_with fail
          exact ⟨⟨k + 1, hlt, by go_num, HB.out⟩, by simp [intOf]; omega⟩
        · obtain rfl : k = y.facts.length := by omega
          have HBW := Lib.hid (HB2.out.trans (HB.out.mono HB2.out.size))
          go_wp2_with fail
          go_ret
          exact ⟨rfl, HBW.out⟩
end Go.Proofs.YtejhcbbfdfnfdaaGreatDoor.Yard

/- YardReplays. -/
namespace Go.Proofs.YtejhcbbfdfnfdaaGreatDoor.Yard
open Go.RowKit Go.Proofs.YtejhcbbfdfnfdaaGreatDoor.Base Go.Proofs.YtejhcbbfdfnfdaaGreatDoor.Mp
open Yp (It Yd Fact Bx)
/-- The yard behind a replay is one that steps lead to. -/
theorem rep_steps (l : List Fact) : ∀ (y : Yd) (i : Nat), ∃ m, (rep y i l).1 = Yp.steps y m ∧ ∀ f ∈ m, f ∈ l := by
  induction l with
  | nil => intro y i; exact ⟨[], rfl, fun f hf => hf⟩
  | cons f l ih =>
    intro y i
    rw [rep]
    split
    · obtain ⟨m, h1, h2⟩ := ih (Yp.step y f) (i + 1)
      refine ⟨f :: m, h1, fun g hg => ?_⟩
      rcases List.mem_cons.1 hg with rfl | hg
      · exact List.mem_cons_self
      · exact List.mem_cons_of_mem _ (h2 g hg)
    · exact ⟨[], rfl, fun f hf => absurd hf List.not_mem_nil⟩
theorem rep_bounds (l : List Fact) : ∀ (y : Yd) (i : Nat), (rep y i l).1.items.length ≤ y.items.length + 2 * l.length ∧ (rep y i l).1.facts.length ≤ y.facts.length + l.length := by
  induction l with
  | nil => intro y i; exact ⟨Nat.le_refl _, Nat.le_refl _⟩
  | cons f l ih =>
    intro y i
    rw [rep]
    split
    · rename_i hc
      have h1 := ih (Yp.step y f) (i + 1)
      have h2 := Yp.items_step y f
      have h3 : (Yp.step y f).facts.length = y.facts.length + 1 := by rw [Yp.step_facts hc]; simp
      simp only [List.length_cons]
      omega
    · exact ⟨by simp, by simp⟩
set_option maxRecDepth 100000 in
set_option maxHeartbeats 16000000 in
theorem replays_any {w : World} (hE : Env w) {X : Nat → Prop} {v : Value} {l : List Fact} (hv : FLs w X v l) :
    Calls Tryz.prog 3 #[v] w fun e w' => e = .returned (.bool true) ∧ Below w.heap.size w w' := by
  have haw := awake_any hE
  have HV := Lib.hid hv
  obtain ⟨A, c, rfl, _⟩ := id hv
  clear hE hv
  go_enter Tryz.func3, Tryz.ntmps3
  go_wp2_with fail
  refine haw.mono ?_; rintro e w1 ⟨rfl, hb1⟩
  have HB1 := Lib.hid hb1
  have hsm := small_any (HV.out.below hb1) 40 (by decide)
  clear haw hb1
  cases hs : smallL l 40 with
  | false =>
    rw [hs] at hsm
    clear hs
    go_wp2_with fail
    refine hsm.mono ?_; rintro e w2 ⟨rfl, rfl⟩
    clear hsm
    go_wp2_with fail
    go_ret
    exact ⟨rfl, HB1.out⟩
  | true =>
    obtain ⟨hshort, hlen⟩ := small_short hs
    rw [hs] at hsm
    have HLENS := Lib.hid (small_lens hs)
    clear hs
    go_wp2_with fail
    refine hsm.mono ?_; rintro e w2 ⟨rfl, rfl⟩
    clear hsm
    have hrp := replay_any (HV.out.below HB1.out) (by omega) hshort
    obtain ⟨m, hm1, hm2⟩ := rep_steps l Yp.yNew 0
    have hbd := rep_bounds l Yp.yNew 0
    have hi0 : Yp.yNew.items.length = 0 := rfl
    have hf0 : Yp.yNew.facts.length = 0 := rfl
    have HINV : Hid (Yp.Inv (rep Yp.yNew 0 l).1) := Lib.hid (by rw [hm1]; exact Yp.inv_steps _ Yp.inv_new)
    have HSH : Hid (∀ f ∈ (rep Yp.yNew 0 l).1.facts, f.names.length ≤ 1000000 ∧ f.vals.length ≤ 1000000) := Lib.hid (fun f hf => by
      rw [hm1] at hf
      rcases facts_sub m Yp.yNew f hf with h | h
      · exact absurd h List.not_mem_nil
      · exact HLENS.out f (hm2 f h))
    have HBD : Hid ((rep Yp.yNew 0 l).1.items.length < 4000 ∧ (rep Yp.yNew 0 l).1.facts.length < 4096) := Lib.hid (by omega)
    have HRR := Lib.hid fun W (hb : Below w.heap.size w W) => rreplay_any (HV.out.below hb) (show l.length ≤ 1000 by omega)
    clear hshort hlen HLENS hm1 hm2 hbd hi0 hf0 m
    generalize rep Yp.yNew 0 l = ry at *
    obtain ⟨y, n⟩ := ry
    go_wp2_with fail
    refine hrp.mono ?_; rintro e w3 ⟨Y, M, rfl, hy, hb3⟩
    have HY := Lib.hid hy
    have HB3 := Lib.hid (HB1.out.trans (hb3.mono HB1.out.size))
    clear hrp hy hb3
    have hrr := HRR.out w3 HB3.out
    go_wp2_with fail
    refine hrr.mono ?_; rintro e w4 ⟨s, fs, rfl, hra, hsim, hb4⟩
    have HY4 := Lib.hid (HY.out.below hb4)
    have HB4 := Lib.hid (HB3.out.trans (hb4.mono HB3.out.size))
    obtain ⟨⟨FS, hyat, _⟩, _, _⟩ := HY4.out
    have hsa := samelaw_any hyat HINV.out HBD.out.1 HBD.out.2 HSH.out hra hsim
    generalize w3.heap.size = R at *
    clear hrr hra hsim hb4 hyat HRR
    go_wp2_with fail
    refine hsa.mono ?_; rintro e w5 ⟨rfl, hb5⟩
    have HB5 := Lib.hid (HB4.out.trans (hb5.mono HB4.out.size))
    clear hsa hb5
    go_wp2_with fail
    go_ret
    exact ⟨rfl, HB5.out⟩
end Go.Proofs.YtejhcbbfdfnfdaaGreatDoor.Yard
