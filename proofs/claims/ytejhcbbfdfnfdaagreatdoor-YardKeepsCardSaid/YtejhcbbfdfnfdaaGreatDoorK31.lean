/- cmp.Compare at strings. -/
import Derived.Test.YtejhcbbfdfnfdaaGreatDoorK29
import Derived.Test.YtejhcbbfdfnfdaaGreatDoorK21
import Derived.Maps.AppendAt
import Derived.Test.YtejhcbbfdfnfdaaGreatDoorK5
/- Items: the items collected and sorted. -/
namespace Go.Proofs.YtejhcbbfdfnfdaaGreatDoor.Yard
open Go.RowKit Go.Proofs.YtejhcbbfdfnfdaaGreatDoor.Base Go.Proofs.YtejhcbbfdfnfdaaGreatDoor.Mp
open Yp (It Yd Fact Bx)
def itL (x : It) : List Value := (itC x).toList
/-- v is a row of the call's own that holds the items l. -/
def IRow (w : World) (base : Nat) (v : Value) (l : List It) : Prop := w.ownsRow base 47 10 v l.length (l.flatMap itL)
def lessI (a b : It) : Bool := Op.bytesLess a.id.toList b.id.toList
/-- What the sort does. -/
def SortSaid : Prop := ∀ (w : World) (base : Nat) (v : Value) (l : List It), IRow w base v l → l.length ≤ 1000000 →
  Calls Tryz.prog 32 #[v, .func (.func 33) #[] #[]] w fun e w' => e = .returned (.tuple #[]) ∧ ∃ l' : List It, l'.Perm l ∧ (l'.Pairwise fun a b => lessI b a = false) ∧ IRow w' base v l' ∧ Stay (fun i => v.ownBlock = some i) w w'
theorem irow_lt {w : World} {base : Nat} {v : Value} {l : List It} (h : IRow w base v l) : ∀ g, v.ownBlock = some g → base ≤ g ∧ g < w.heap.size := by
  intro g hg
  rcases h.2 with ⟨rfl, _⟩ | ⟨g', cap, cur, rfl, hb, hh, _⟩
  · cases hg
  · have : g' = g := by simpa [Value.ownBlock] using hg
    subst this
    exact ⟨hb, block_lt hh⟩
theorem IRow.after {w w' : World} {base : Nat} {v : Value} {l : List It} (h : IRow w base v l) (hb : ∀ g, base ≤ g → g < w.heap.size → w'.heap[g]? = w.heap[g]?) : IRow w' base v l := by
  refine ⟨h.1, ?_⟩
  rcases h.2 with hn | ⟨g, cap, cur, rfl, h1, h2, h3⟩
  · exact .inl hn
  · exact .inr ⟨g, cap, cur, rfl, h1, (hb g h1 (block_lt h2)).trans h2, h3⟩
theorem irow_alloc2 {w w' : World} {r : Nat} {v : Value} {l : List It} (h : IRow w (r + 1) v l) (hb : But r w w') (o o' : Obj) : IRow ((w'.alloc o).alloc o') (r + 1) v l :=
  h.after fun g h1 h2 => by
    have e : ((w'.alloc o).alloc o').heap[g]? = w'.heap[g]? := (((Below.refl w'.heap.size w').alloc (Nat.le_refl _) o).alloc (by simp) o').block g (by rw [hb.size]; exact h2)
    rw [e, hb.block g (by omega)]
set_option maxRecDepth 100000 in
set_option maxHeartbeats 4000000 in
theorem items_any (hs : SortSaid) {w : World} {Y M : Nat} {FS : Value} {y : Yd} (hy : YAt w Y M FS y) (hlen : y.items.length ≤ 100000) :
    Calls Tryz.prog 15 #[.pointer (some ⟨Y, 0, none⟩)] w fun e w' => ∃ v l, e = .returned v ∧ l.Perm y.items ∧ (l.Pairwise fun a b => lessI b a = false) ∧ IRow w' w.heap.size v l ∧ Below w.heap.size w w' := by
  have HY := Lib.hid hy
  have y0 := (row_cells hy.row).1 0
  have tS := Tryz.underlying40
  obtain ⟨i0, hi, hz0, hz1, hz2⟩ : ∃ i, Tryz.prog.info? 47 = some i ∧ i.zero = some (.agg #[.string ⟨#[]⟩, .string ⟨#[]⟩, .int .i64 0, .int .i64 0, .int .i64 0, .int .i64 0, .int .i64 0, .int .i64 0, .int .i64 0, .string ⟨#[]⟩]) ∧ i.size = 10 ∧ i.bytes = 104 := ⟨_, rfl, rfl, rfl, rfl⟩
  have HI0 := Lib.hid (And.intro hi (And.intro hz0 (And.intro hz1 hz2)))
  have HLEN := Lib.hid hlen
  have HSORT := Lib.hid hs
  clear hy hi hz0 hz1 hz2 hlen hs
  go_enter Tryz.func15, Tryz.ntmps15
  go_wp2_with (at_range; refine wpList_range_it _ rfl _ 70 9 47 rfl Tryz.underlying70 M y.items rfl HY.out.map ?_; intro w0 hi0 hb0)
  go_frame
  have HIT := Lib.hid hi0
  have HB0 := Lib.hid hb0
  have HR0 : Hid (w.heap.size + 1 ≤ w0.heap.size) := Lib.hid (IsIter.ltr hi0)
  clear hi0 hb0 y0
  go_loopw [3] (fun v wr => ∃ dn left : List It, ItIter wr w.heap.size M y.items left ∧ (dn ++ left).Perm y.items ∧ IRow wr (w.heap.size + 1) v dn ∧ w.heap.size + 1 ≤ wr.heap.size ∧ Below w.heap.size w wr) (fun _ wr => wr.rangeLeft M w.heap.size)
  case atStart => exact ⟨[], y.items, HIT.out, .refl _, World.ownsRow_nil _ _ _ _, HR0.out, HB0.out⟩
  case round =>
    obtain ⟨dn, left, hi, hp, ho, hb, hbw⟩ := hrel
    have HI := Lib.hid hi
    have HP := Lib.hid hp
    have HO := Lib.hid ho
    have HB1 := Lib.hid hb
    have HBW := Lib.hid hbw
    clear hi hp ho hb hbw
    have hdl : dn.length ≤ 100000 := by have h1 := HP.out.length_eq; rw [List.length_append] at h1; have := HLEN.out; omega
    have hit : ∀ x : It, itC x = #[.string x.id, .string x.par, .int .i64 x.bx.x0, .int .i64 x.bx.y0, .int .i64 x.bx.z0, .int .i64 x.bx.x1, .int .i64 x.bx.y1, .int .i64 x.bx.z1, .int .i64 x.st, .string x.stone] := fun _ => rfl
    go_wp2_with (at_next; refine wpList_next_it _ rfl _ rfl w.heap.size M y.items left rfl HI.out ?hd ?hm)
    case hm =>
      intro A B x w' hl hi' hbut hen
      have HL := Lib.hid hl
      have HI' := Lib.hid hi'
      have HBUT := Lib.hid hbut
      clear hl hi' hbut
      go_wp2_with (at_builtin; refine wpList_append_own_at _ rfl _ _ 40 rfl (w.heap.size + 1) 47 i0 _ 10 104 tS HI0.out.1 HI0.out.2.1 HI0.out.2.2.1 HI0.out.2.2.2 rfl (by decide) _ dn.length (dn.flatMap itL) rfl (irow_alloc2 HO.out HBUT.out _ _) ⟨w'.heap.size + 1, 0, none⟩ 1 1 (itL x) rfl rfl ?qa ?qb ?qc ?qd ?qe ?_)
      case qa =>
        intro j u hj
        rw [add_lit, Nat.zero_add, (row_cells (new_block2 w' (.cells #[.string x.id, .string x.par, .int .i64 x.bx.x0, .int .i64 x.bx.y0, .int .i64 x.bx.z0, .int .i64 x.bx.x1, .int .i64 x.bx.y1, .int .i64 x.bx.z1, .int .i64 x.st, .string x.stone] 47) (.cells #[.string x.id, .string x.par, .int .i64 x.bx.x0, .int .i64 x.bx.y0, .int .i64 x.bx.z0, .int .i64 x.bx.x1, .int .i64 x.bx.y1, .int .i64 x.bx.z1, .int .i64 x.st, .string x.stone] 47))).1 j]
        simpa [itL, itC] using hj
      case qb =>
        intro u hu
        simp only [itL, itC, List.mem_cons, List.not_mem_nil, or_false] at hu
        rcases hu with rfl | rfl | rfl | rfl | rfl | rfl | rfl | rfl | rfl | rfl <;> rfl
      case qc => unfold maxLen; omega
      case qd => omega
      case qe =>
        have h1 := HB1.out
        have h2 := HBUT.out.size
        simp
        omega
      intro v' w2 hown hgrow hnil hat
      have HW2 := Lib.hid hown
      have HG2 := Lib.hid hgrow
      clear hown hgrow hnil hat hen
      have HSZ2 : Hid (Below w'.heap.size w' ((w'.alloc (.cells #[.string x.id, .string x.par, .int .i64 x.bx.x0, .int .i64 x.bx.y0, .int .i64 x.bx.z0, .int .i64 x.bx.x1, .int .i64 x.bx.y1, .int .i64 x.bx.z1, .int .i64 x.st, .string x.stone] 47)).alloc (.cells #[.string x.id, .string x.par, .int .i64 x.bx.x0, .int .i64 x.bx.y0, .int .i64 x.bx.z0, .int .i64 x.bx.x1, .int .i64 x.bx.y1, .int .i64 x.bx.z1, .int .i64 x.st, .string x.stone] 47))) := Lib.hid (((Below.refl w'.heap.size w').alloc (Nat.le_refl _) _).alloc (by simp) _)
      go_wp2_with fail
      have hown := irow_lt HO.out
      have hb2 : ∀ i, i ≤ w.heap.size → i < w'.heap.size → w2.heap[i]? = w'.heap[i]? := fun i hi hlt =>
        (HG2.out.block i (Nat.lt_of_lt_of_le hlt HSZ2.out.size) (fun e => by have := (hown i e.symm).1; omega)).trans (HSZ2.out.block i hlt)
      have hsz' := HBUT.out.size
      have h1 := HB1.out
      have hit2 : ItIter w2 w.heap.size M y.items (A ++ B) := HI'.out.same (hb2 _ (Nat.le_refl _) HI'.out.ltr) (hb2 M (Nat.le_of_lt HY.out.ltM) HI'.out.ltb)
      refine ⟨⟨dn ++ [x], A ++ B, hit2, ?_, ?_, ?_, ?_⟩, ?_⟩
      · refine List.Perm.trans ?_ HP.out
        rw [HL.out, List.append_assoc]
        refine List.Perm.append_left dn ?_
        rw [List.singleton_append]
        exact (List.perm_middle).symm
      · unfold IRow
        rw [List.length_append, List.flatMap_append]
        simpa using HW2.out
      · have := HG2.out.size
        have := HSZ2.out.size
        omega
      · refine HBW.out.trans ((HBUT.out.below (Nat.le_refl _)).trans ⟨HG2.out.os.trans HSZ2.out.os, HG2.out.tape.trans HSZ2.out.tape, HG2.out.output.trans HSZ2.out.output, Nat.le_trans HSZ2.out.size HG2.out.size, fun i hi => hb2 i (Nat.le_of_lt hi) (by omega)⟩)
      · rw [HI.out.left_eq, hit2.left_eq, HL.out]; simp
    case hd =>
      intro hd
      have HD := Lib.hid hd
      clear hd
      have hsort := HSORT.out wr (w.heap.size + 1) u3 dn HO.out (by omega)
      have HOWN := Lib.hid (irow_lt HO.out)
      go_wp2_with fail
      refine hsort.mono ?_; rintro e w2 ⟨rfl, l', hp, hs, ho, hst⟩
      have HP2 := Lib.hid hp
      have HS2 := Lib.hid hs
      have HO2 := Lib.hid ho
      have HST := Lib.hid hst
      clear hp hs ho hst hsort
      go_wp2_with fail
      go_ret
      refine ⟨_, l', rfl, ?_, HS2.out, ?_, ?_⟩
      · have := HP.out
        rw [HD.out, List.append_nil] at this
        exact HP2.out.trans this
      · have := HO2.out
        refine ⟨this.1, this.2.imp id ?_⟩
        rintro ⟨g, cap, cur, e, h1, h2⟩
        exact ⟨g, cap, cur, e, by omega, h2⟩
      · exact HBW.out.trans (HST.out.below HBW.out.size fun i hi => by have := (HOWN.out i hi).1; omega)
end Go.Proofs.YtejhcbbfdfnfdaaGreatDoor.Yard

/- cmp.Compare at strings. -/
namespace Go.Proofs.YtejhcbbfdfnfdaaGreatDoor.Yard
open Go.RowKit Go.Proofs.YtejhcbbfdfnfdaaGreatDoor.Base
set_option maxHeartbeats 1000000 in
theorem isNaN_any (a : ByteArray) (w : World) : Calls Tryz.prog 66 #[.string a] w fun e w' => e = .returned (.bool false) ∧ w' = w := by
  go_enter Tryz.func66, Tryz.ntmps66
  go_wp2_with fail
  go_ret
  exact ⟨rfl, rfl⟩
def cmpE (a b : ByteArray) : Int := if Op.bytesLess a.toList b.toList = true then -1 else if a.toList = b.toList then 0 else 1
set_option maxHeartbeats 1000000 in
theorem compare_any (a b : ByteArray) (w : World) : Calls Tryz.prog 34 #[.string a, .string b] w fun e w' => e = .returned (.int .i64 (cmpE a b)) ∧ w' = w := by
  have h1 := isNaN_any a
  have h2 := isNaN_any b
  have HE : Hid (cmpE a b = if Op.bytesLess a.toList b.toList = true then -1 else if a.toList = b.toList then 0 else 1) := Lib.hid rfl
  generalize cmpE a b = n at *
  cases hl : Op.bytesLess a.toList b.toList with
  | true =>
    rw [hl] at HE
    go_enter Tryz.func34, Tryz.ntmps34
    go_wp2_with fail
    refine (h1 _).mono ?_; rintro e w1 ⟨rfl, rfl⟩
    go_wp2_with fail
    refine (h2 _).mono ?_; rintro e w2 ⟨rfl, rfl⟩
    go_wp2_with fail
    go_ret
    exact ⟨Base.ret_int HE.out.symm, rfl⟩
  | false =>
    rw [hl] at HE
    by_cases he : a.toList = b.toList
    · have hb : (a.toList == b.toList) = true := by simpa using he
      have HE : Hid (n = 0) := Lib.hid (by rw [HE.out]; simp [he])
      clear he
      go_enter Tryz.func34, Tryz.ntmps34
      go_wp2_with fail
      refine (h1 _).mono ?_; rintro e w1 ⟨rfl, rfl⟩
      go_wp2_with fail
      refine (h2 _).mono ?_; rintro e w2 ⟨rfl, rfl⟩
      go_wp2_with fail
      go_ret
      exact ⟨Base.ret_int HE.out.symm, rfl⟩
    · have hb : (a.toList == b.toList) = false := by simpa using he
      have HE : Hid (n = 1) := Lib.hid (by rw [HE.out]; simp [he])
      clear he
      go_enter Tryz.func34, Tryz.ntmps34
      go_wp2_with fail
      refine (h1 _).mono ?_; rintro e w1 ⟨rfl, rfl⟩
      go_wp2_with fail
      refine (h2 _).mono ?_; rintro e w2 ⟨rfl, rfl⟩
      go_wp2_with fail
      go_ret
      exact ⟨Base.ret_int HE.out.symm, rfl⟩
end Go.Proofs.YtejhcbbfdfnfdaaGreatDoor.Yard
