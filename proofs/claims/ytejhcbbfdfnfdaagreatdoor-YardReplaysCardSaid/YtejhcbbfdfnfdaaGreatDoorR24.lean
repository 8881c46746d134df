/- Contracts of Go's library at this translation, laid by the kit's shelf. -/
import Derived.Test.YtejhcbbfdfnfdaaGreatDoorR22
import Derived.Lib.ParseIntB
import Derived.Lib.SplitLaws
import Derived.Shelf.Strings.Split
import Derived.Test.YtejhcbbfdfnfdaaGreatDoorProg
/- What Decode computes. No program. -/
namespace Go.Proofs.YtejhcbbfdfnfdaaGreatDoor.Yp
open Go
def sp : ByteArray := ⟨#[32]⟩
def pieces (s : ByteArray) : List ByteArray := Lib.splitB sp 0 (Lib.countB s sp) s
def numOf (s : ByteArray) : Option Int := match Lib.parseIntB 64 s.data.toList with | .ok v => some v | _ => none
def rawF (l : List ByteArray) : Fact := ⟨l.headD es, l.tail.filter fun s => (numOf s).isNone, l.tail.filterMap numOf⟩
def zeroF : Fact := ⟨es, [], []⟩
def decE (s : ByteArray) : Fact × Int := if (encE (rawF (pieces s))).2 = 0 ∧ (encE (rawF (pieces s))).1 = s then (rawF (pieces s), 0) else (zeroF, 2)
theorem pieces_len (s : ByteArray) : (pieces s).length = Lib.countB s sp + 1 := Lib.splitB_all sp (by decide) 0 _ s rfl
theorem rawF_first (l : List ByteArray) (h : 0 < l.length) : rawF (l.take 1) = ⟨l[0], [], []⟩ := by
  cases l with
  | nil => simp at h
  | cons a l => rfl
theorem take_tail (l : List ByteArray) (k : Nat) (hk : 0 < k) (h : k < l.length) : (l.take (k + 1)).tail = (l.take k).tail ++ [l[k]] ∧ (l.take (k + 1)).headD es = (l.take k).headD es := by
  cases l with
  | nil => simp at h
  | cons a l =>
    obtain ⟨k, rfl⟩ : ∃ m, k = m + 1 := ⟨k - 1, by omega⟩
    refine ⟨?_, rfl⟩
    simp only [List.length_cons] at h
    have : k < l.length := by omega
    show l.take (k + 1) = l.take k ++ [l[k]]
    exact List.take_succ_eq_append_getElem this
theorem rawF_num (l : List ByteArray) (k : Nat) (hk : 0 < k) (h : k < l.length) (v : Int) (hv : numOf l[k] = some v) : rawF (l.take (k + 1)) = ⟨(rawF (l.take k)).kind, (rawF (l.take k)).names, (rawF (l.take k)).vals ++ [v]⟩ := by
  obtain ⟨h1, h2⟩ := take_tail l k hk h
  unfold rawF
  rw [h1, h2]
  simp [hv]
theorem rawF_name (l : List ByteArray) (k : Nat) (hk : 0 < k) (h : k < l.length) (hv : numOf l[k] = none) : rawF (l.take (k + 1)) = ⟨(rawF (l.take k)).kind, (rawF (l.take k)).names ++ [l[k]], (rawF (l.take k)).vals⟩ := by
  obtain ⟨h1, h2⟩ := take_tail l k hk h
  unfold rawF
  rw [h1, h2]
  simp [hv]
theorem rawF_len (l : List ByteArray) : (rawF l).names.length ≤ l.length ∧ (rawF l).vals.length ≤ l.length := by
  have h1 := List.length_filter_le (fun s => (numOf s).isNone) l.tail
  have h2 := List.length_filterMap_le numOf l.tail
  have h3 : l.tail.length ≤ l.length := by simp
  exact ⟨Nat.le_trans h1 h3, Nat.le_trans h2 h3⟩
theorem rawF_mem (l : List ByteArray) : ∀ s ∈ (rawF l).kind :: (rawF l).names, s ∈ l ∨ s = es := by
  intro s hs
  rcases List.mem_cons.1 hs with rfl | hs
  · cases l with
    | nil => exact .inr rfl
    | cons a l => exact .inl List.mem_cons_self
  · exact .inl (List.mem_of_mem_tail (List.mem_filter.1 hs).1)
theorem numOf_range {s : ByteArray} {v : Int} (h : numOf s = some v) : I64 v := by
  unfold numOf at h
  split at h
  · rename_i u hu
    injection h with h
    subst h
    unfold Lib.parseIntB at hu
    split at hu
    · cases hu
    · dsimp only at hu
      split at hu
      · cases hu
      · cases hu
      · rename_i x hx
        split at hu
        · cases hu
        · split at hu
          · cases hu
          · injection hu with hu
            unfold I64
            split at hu <;> omega
  · cases h
theorem rawF_i64 (l : List ByteArray) : ∀ n ∈ (rawF l).vals, I64 n := by
  intro n hn
  obtain ⟨s, _, hs⟩ := List.mem_filterMap.1 hn
  exact numOf_range hs
theorem splitB_size (sep : ByteArray) : ∀ (k : Nat) (s : ByteArray), ∀ x ∈ Lib.splitB sep 0 k s, x.size ≤ s.size
  | 0, s, x, hx => by
    rw [Lib.splitB_zero] at hx
    simp at hx; subst hx; exact Nat.le_refl _
  | k + 1, s, x, hx => by
    unfold Lib.splitB at hx
    split at hx
    · simp at hx; subst hx; exact Nat.le_refl _
    · rcases List.mem_cons.1 hx with rfl | hx
      · rw [ByteArray.size_extract]; omega
      · have := splitB_size sep k _ x hx
        rw [ByteArray.size_extract] at this
        omega
theorem pieces_size (s : ByteArray) : ∀ x ∈ pieces s, x.size ≤ s.size := splitB_size _ _ _
theorem pieces_le (s : ByteArray) : (pieces s).length ≤ s.size + 1 := by
  rw [pieces_len]
  have : Lib.countB s sp ≤ s.size := Lib.countB_le sp (by decide) s.size s (Nat.le_refl _)
  omega
end Go.Proofs.YtejhcbbfdfnfdaaGreatDoor.Yp

/- Contracts of Go's library at this translation, laid by the kit's shelf. -/
namespace Go.Proofs
open Go.Shelf
def Tryz.lays146_ren : Go.Shelf.Ren := ⟨fun | 146 => 41 | 221 => 77 | 268 => 114 | 138 => 115 | 143 => 116 | 195 => 146 | 197 => 147 | 218 => 148 | 219 => 149 | 260 => 160 | 217 => 161 | 225 => 162 | 224 => 163 | 267 => 164 | 266 => 166 | 314 => 167 | n => n, fun | 9 => 9 | 31 => 36 | 3 => 3 | 4 => 4 | 0 => 0 | 105 => 193 | 21 => 21 | 5 => 5 | 46 => 113 | 119 => 158 | 139 => 214 | 138 => 213 | 146 => 215 | 51 => 150 | n => n, fun | 1 => 3 | 3 => 6 | 4 => 7 | n => n⟩
theorem Tryz.lays146 : Go.Proofs.Lays.n146 Tryz.prog Tryz.lays146_ren := {
  mixed := by kernel_rfl
  f138 := Tryz.func115.trans (congrArg some (by kernel_rfl))
  f143 := Tryz.func116.trans (congrArg some (by kernel_rfl))
  f146 := Tryz.func41.trans (congrArg some (by kernel_rfl))
  f195 := Tryz.func146.trans (congrArg some (by kernel_rfl))
  f197 := Tryz.func147.trans (congrArg some (by kernel_rfl))
  f217 := Tryz.func161.trans (congrArg some (by kernel_rfl))
  f218 := Tryz.func148.trans (congrArg some (by kernel_rfl))
  f219 := Tryz.func149.trans (congrArg some (by kernel_rfl))
  f221 := Tryz.func77.trans (congrArg some (by kernel_rfl))
  f224 := Tryz.func163.trans (congrArg some (by kernel_rfl))
  f225 := Tryz.func162.trans (congrArg some (by kernel_rfl))
  f260 := Tryz.func160.trans (congrArg some (by kernel_rfl))
  f266 := Tryz.func166.trans (congrArg some (by kernel_rfl))
  f267 := Tryz.func164.trans (congrArg some (by kernel_rfl))
  f268 := Tryz.func114.trans (congrArg some (by kernel_rfl))
  f314 := Tryz.func167.trans (congrArg some (by kernel_rfl))
  t0 := Tryz.underlying0
  a0 := Tryz.isAgg0
  z0 := Tryz.sizeOf0
  v0 := Tryz.zeroValue0
  t3 := Tryz.underlying3
  a3 := Tryz.isAgg3
  z3 := Tryz.sizeOf3
  v3 := Tryz.zeroValue3
  t4 := Tryz.underlying4
  a4 := Tryz.isAgg4
  z4 := Tryz.sizeOf4
  v4 := Tryz.zeroValue4
  t5 := Tryz.underlying5
  a5 := Tryz.isAgg5
  z5 := Tryz.sizeOf5
  v5 := Tryz.zeroValue5
  t9 := Tryz.underlying9
  a9 := Tryz.isAgg9
  z9 := Tryz.sizeOf9
  v9 := Tryz.zeroValue9
  t21 := Tryz.underlying21
  a21 := Tryz.isAgg21
  z21 := Tryz.sizeOf21
  v21 := Tryz.zeroValue21
  t31 := Tryz.underlying36
  a31 := Tryz.isAgg36
  z31 := Tryz.sizeOf36
  v31 := Tryz.zeroValue36
  t46 := Tryz.underlying113
  a46 := Tryz.isAgg113
  z46 := Tryz.sizeOf113
  v46 := Tryz.zeroValue113
  t51 := Tryz.underlying150
  a51 := Tryz.isAgg150
  z51 := Tryz.sizeOf150
  v51 := Tryz.zeroValue150
  t105 := Tryz.underlying193
  a105 := Tryz.isAgg193
  z105 := Tryz.sizeOf193
  v105 := Tryz.zeroValue193
  t119 := Tryz.underlying158
  a119 := Tryz.isAgg158
  z119 := Tryz.sizeOf158
  t138 := Tryz.underlying213
  a138 := Tryz.isAgg213
  z138 := Tryz.sizeOf213
  v138 := Tryz.zeroValue213
  t139 := Tryz.underlying214
  a139 := Tryz.isAgg214
  z139 := Tryz.sizeOf214
  v139 := Tryz.zeroValue214
  t146 := Tryz.underlying215
  a146 := Tryz.isAgg215
  z146 := Tryz.sizeOf215
  v146 := Tryz.zeroValue215
  g1 := by kernel_rfl
  g3 := by kernel_rfl
  g4 := by kernel_rfl }
open Go.RowKit Go.Lib in
theorem Tryz.strings_Split (s sep : ByteArray) (m : Int) (w : World) (hs : s.size < 4294967281) (hm : w.cell? ⟨3, 0, none⟩ = some (.int .i64 m)) (h1 : 1 ≤ sep.size) :
    Calls Tryz.prog 41 #[.string s, .string sep] w fun e w' =>
      e = .returned (.slice (some ⟨w.heap.size, 0, none⟩) (Lib.countB s sep + 1) (Lib.countB s sep + 1)) ∧ w' = w.alloc (.cells ((Lib.splitB sep 0 (Lib.countB s sep) s).map Value.string).toArray 9) := Any.strings_Split Tryz.lays146 (by kernel_rfl) s sep m w hs hm h1
end Go.Proofs
