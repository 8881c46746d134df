/- The examples of the chapter. No program. -/
import Derived.Test.YtejhcbbfdfnfdaaGreatDoorK26
import Derived.Test.YtejhcbbfdfnfdaaGreatDoorK21
import Derived.Test.YtejhcbbfdfnfdaaGreatDoorK24
/- The law's own 'fact'. -/
namespace Go.Proofs.YtejhcbbfdfnfdaaGreatDoor.Yard
open Go.RowKit Go.Proofs.YtejhcbbfdfnfdaaGreatDoor.Base Go.Proofs.YtejhcbbfdfnfdaaGreatDoor.Mp
open Yp (It Yd Fact Bx)
set_option maxRecDepth 100000 in
set_option maxHeartbeats 2000000 in
theorem fact_any (w : World) (k : ByteArray) (A A' : Option Addr) (n c n' c' : Nat) :
    Calls Tryz.prog 25 #[.string k, .slice A n c, .slice A' n' c'] w fun e w' => e = .returned (.agg #[.string k, .slice A n c, .slice A' n' c']) ∧ Below w.heap.size w w' := by
  go_enter Tryz.func25, Tryz.ntmps25
  go_wp2_with fail
  refine bodyPost_ret (v := .agg #[.string k, .slice A n c, .slice A' n' c']) (by simp [results, Tryz.results25, go_sem, *]) rfl ⟨rfl, ?_⟩
  (repeat' (first | (with_reducible exact Below.refl _ _) | (with_reducible refine Below.drew ?_) | (with_reducible refine Below.setCell ?_ ?_ _) | (with_reducible refine Below.alloc ?_ ?_ _) | (simp; done) | (simp; omega)))
end Go.Proofs.YtejhcbbfdfnfdaaGreatDoor.Yard

/- The examples of the chapter. No program. -/
namespace Go.Proofs.YtejhcbbfdfnfdaaGreatDoor.Yp
open Go
def sB : ByteArray := ⟨#[98]⟩
def sL : ByteArray := ⟨#[108]⟩
def sR : ByteArray := ⟨#[114]⟩
def sS : ByteArray := ⟨#[115]⟩
def sCut : ByteArray := ⟨#[99, 117, 116, 32, 98, 32, 108, 32, 114, 32, 48, 32, 52, 48, 32, 56]⟩
def freeF : Fact := ⟨⟨#[102, 114, 101, 101]⟩, [sB], [0, 0, 0, 100, 10, 10]⟩
def cutF : Fact := ⟨⟨#[99, 117, 116]⟩, [sB, sL, sR], [0, 40, 8]⟩
def asgF : Fact := ⟨⟨#[97, 115, 115, 105, 103, 110]⟩, [sL, sS], []⟩
def setF : Fact := ⟨⟨#[115, 101, 116]⟩, [sL], []⟩
def asg2F : Fact := ⟨⟨#[97, 115, 115, 105, 103, 110]⟩, [sR, sS], []⟩
def relF : Fact := ⟨⟨#[114, 101, 108, 101, 97, 115, 101]⟩, [sL], []⟩
def itB : It := ⟨sB, es, ⟨0, 0, 0, 100, 10, 10⟩, 2, es⟩
def itL (st : Int) (s : ByteArray) : It := ⟨sL, sB, ⟨0, 0, 0, 40, 10, 10⟩, st, s⟩
def itR : It := ⟨sR, sB, ⟨48, 0, 0, 100, 10, 10⟩, 1, es⟩
def aw1 : Yd := ⟨[itB, itL 1 es, itR], [freeF, cutF], 800⟩
def aw2 : Yd := ⟨[itB, itL 3 sS, itR], [freeF, cutF, asgF], 800⟩
def aw3 : Yd := ⟨[itB, itL 4 sS, itR], [freeF, cutF, asgF, setF], 800⟩
set_option maxRecDepth 100000 in
theorem aw_rep : Yard.rep yNew 0 [freeF, cutF] = (aw1, -1) := by kernel_rfl
theorem aw_asg : check aw1 asgF = 0 := by kernel_rfl
theorem aw_asg2 : step aw1 asgF = aw2 := by kernel_rfl
theorem aw_set : check aw2 setF = 0 := by kernel_rfl
theorem aw_set2 : step aw2 setF = aw3 := by kernel_rfl
theorem aw_dup : check aw3 asg2F = 5 := by kernel_rfl
theorem aw_rel : check aw3 relF = 8 := by kernel_rfl
theorem aw_rel2 : step aw3 relF = aw3 := by kernel_rfl
theorem aw_enc : encE cutF = (sCut, 0) := by kernel_rfl
theorem aw_dec : decE sCut = (cutF, 0) := by kernel_rfl
theorem aw_inv1 : Inv aw1 := by
  have h : step (step yNew freeF) cutF = aw1 := by kernel_rfl
  rw [← h]
  exact inv_step (inv_step inv_new _) _
theorem aw_inv2 : Inv aw2 := by
  rw [← aw_asg2]
  exact inv_step aw_inv1 _
theorem aw_inv3 : Inv aw3 := by
  rw [← aw_set2]
  exact inv_step aw_inv2 _
theorem aw_s2 : ∀ s ∈ asgF.names, s.size ≤ 140737488351232 := by
  intro s hs
  simp only [asgF, List.mem_cons, List.not_mem_nil, or_false] at hs
  rcases hs with rfl | rfl <;> decide
theorem aw_s3 : ∀ s ∈ setF.names, s.size ≤ 140737488351232 := by
  intro s hs
  simp only [setF, List.mem_cons, List.not_mem_nil, or_false] at hs
  subst hs; decide
theorem aw_s4 : ∀ s ∈ asg2F.names, s.size ≤ 140737488351232 := by
  intro s hs
  simp only [asg2F, List.mem_cons, List.not_mem_nil, or_false] at hs
  rcases hs with rfl | rfl <;> decide
theorem aw_s5 : ∀ s ∈ relF.names, s.size ≤ 140737488351232 := by
  intro s hs
  simp only [relF, List.mem_cons, List.not_mem_nil, or_false] at hs
  subst hs; decide
theorem aw_s6 : ∀ s ∈ cutF.kind :: cutF.names, s.size ≤ 140737488351232 := by
  intro s hs
  simp only [cutF, List.mem_cons, List.not_mem_nil, or_false] at hs
  rcases hs with rfl | rfl | rfl | rfl <;> decide
theorem aw_i6 : ∀ n ∈ cutF.vals, I64 n := by
  intro n hn
  simp only [cutF, List.mem_cons, List.not_mem_nil, or_false] at hn
  rcases hn with rfl | rfl | rfl <;> exact ⟨by decide, by decide⟩
theorem aw_fs : ∀ f ∈ aw3.facts, f.names.length ≤ 1000000 ∧ f.vals.length ≤ 1000000 := by
  intro f hf
  simp only [aw3, List.mem_cons, List.not_mem_nil, or_false] at hf
  rcases hf with rfl | rfl | rfl | rfl <;> exact ⟨by decide, by decide⟩
end Go.Proofs.YtejhcbbfdfnfdaaGreatDoor.Yp
