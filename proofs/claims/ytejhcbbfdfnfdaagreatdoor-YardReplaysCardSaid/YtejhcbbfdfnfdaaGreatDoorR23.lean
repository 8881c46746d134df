/- Encode: the record of a fact. -/
import Derived.Shelf.Strings.Builder1
import Derived.Shelf.Strings.Builder2
import Derived.Shelf.Strings.OnBuilder
import Derived.Shelf.Small.Bits
import Derived.Shelf.Strings.BuilderF
import Derived.Shelf.Strings.BuilderK
import Derived.Shelf.Utf8.RuneCount
import Derived.Shelf.Strconv.Itoa0
import Derived.Shelf.Strconv.Itoa1
import Derived.Shelf.LaysM
import Derived.Shelf.Strconv.Itoa2
import Derived.Shelf.Strconv.Itoa3
import Derived.Shelf.Strconv.Itoa4
import Derived.Shelf.Strconv.ParseIntEmpty
import Derived.Shelf.Strconv.Clone
import Derived.Shelf.Strconv.SyntaxError
import Derived.Shelf.LaysC
import Derived.Shelf.Strconv.ToError
import Derived.Shelf.Strconv.Lower
import Derived.Shelf.Strconv.ParseUint10
import Derived.Shelf.Strconv.ParseUint10Empty
import Derived.Shelf.Strconv.ParseUint10Any
import Derived.Shelf.Strconv.ParseInt10
import Derived.Shelf.Strconv.RangeError
import Derived.Shelf.Strconv.ToErrorRange
import Derived.Shelf.Strconv.ParseUintEmpty
import Derived.Shelf.Strconv.ParseUint10b64
import Derived.Shelf.Strconv.ParseUint10b32
import Derived.Shelf.Strconv.ParseUint10b16
import Derived.Shelf.Strconv.ParseUint10b8
import Derived.Shelf.Strconv.ParseUint10At
import Derived.Shelf.Strconv.ParseInt10At64
import Derived.Shelf.Strconv.ParseInt10At32
import Derived.Shelf.Strconv.ParseInt10At16
import Derived.Shelf.Strconv.ParseInt10At8
import Derived.Shelf.Strconv.ParseInt10All
import Derived.Shelf.Strconv.ParseIntPublic10
import Derived.Shelf.Strconv.ErrVarParseInt
import Derived.Shelf.Strings.Search1
import Derived.Shelf.Strings.Search2
import Derived.Shelf.Strings.Search3
import Derived.Shelf.Strings.Count
import Derived.Shelf.Strings.Shaped
import Derived.Shelf.Strings.Split
import Derived.Shelf.Strings.SplitShaped
import Derived.Shelf.Unicode.Decode
import Derived.Shelf.Strings.RuneCount
import Derived.Shelf.Strings.Explode
import Derived.Shelf.Unicode.DecodeSlow
import Derived.Shelf.Unicode.DecodeAny
import Derived.Ground.Names2Prog
import Derived.Shelf.Slices.ReverseS
import Derived.Shelf.Slices.Clone
import Derived.Shelf.Slices.Cells
import Derived.Ground.SlgnProg
import Derived.Shelf.SlSortCmp.WholeK
import Derived.Ground.SlsfProg
import Derived.Shelf.SlicesE.Clone
import Derived.Test.YtejhcbbfdfnfdaaGreatDoorProg
import Derived.Test.YtejhcbbfdfnfdaaGreatDoorR22
import Derived.Lib.AppendIntMem
/- Contracts of Go's library at this translation, laid by the kit's shelf. -/
namespace Go.Proofs
open Go.Shelf
def Tryz.lays156_ren : Go.Shelf.Ren := ⟨fun | 156 => 40 | 165 => 74 | 166 => 75 | 169 => 76 | 240 => 112 | 241 => 113 | 276 => 144 | 277 => 145 | n => n, fun | 31 => 36 | 9 => 9 | 3 => 3 | 4 => 4 | 0 => 0 | 20 => 20 | 72 => 122 | 76 => 124 | 70 => 119 | 37 => 120 | 75 => 93 | 127 => 165 | 164 => 190 | 5 => 5 | 80 => 126 | n => n, fun | n => n⟩
theorem Tryz.lays156 : Go.Proofs.Lays.n156 Tryz.prog Tryz.lays156_ren := {
  mixed := by kernel_rfl
  f156 := Tryz.func40.trans (congrArg some (by kernel_rfl))
  f165 := Tryz.func74.trans (congrArg some (by kernel_rfl))
  f166 := Tryz.func75.trans (congrArg some (by kernel_rfl))
  f169 := Tryz.func76.trans (congrArg some (by kernel_rfl))
  f240 := Tryz.func112.trans (congrArg some (by kernel_rfl))
  f241 := Tryz.func113.trans (congrArg some (by kernel_rfl))
  f276 := Tryz.func144.trans (congrArg some (by kernel_rfl))
  f277 := Tryz.func145.trans (congrArg some (by kernel_rfl))
  t0 := Tryz.underlying0
  a0 := Tryz.isAgg0
  z0 := Tryz.sizeOf0
  v0 := Tryz.zeroValue0
  t3 := Tryz.underlying3
  a3 := Tryz.isAgg3
  z3 := Tryz.sizeOf3
  v3 := Tryz.zeroValue3
  t4 := Tryz.underlying4
  a4 := Tryz.isAgg4
  z4 := Tryz.sizeOf4
  v4 := Tryz.zeroValue4
  t9 := Tryz.underlying9
  a9 := Tryz.isAgg9
  z9 := Tryz.sizeOf9
  v9 := Tryz.zeroValue9
  t20 := Tryz.underlying20
  a20 := Tryz.isAgg20
  z20 := Tryz.sizeOf20
  v20 := Tryz.zeroValue20
  t31 := Tryz.underlying36
  a31 := Tryz.isAgg36
  z31 := Tryz.sizeOf36
  v31 := Tryz.zeroValue36
  t37 := Tryz.underlying120
  a37 := Tryz.isAgg120
  z37 := Tryz.sizeOf120
  v37 := Tryz.zeroValue120
  t70 := Tryz.underlying119
  a70 := Tryz.isAgg119
  z70 := Tryz.sizeOf119
  v70 := Tryz.zeroValue119
  t72 := Tryz.underlying122
  a72 := Tryz.isAgg122
  z72 := Tryz.sizeOf122
  v72 := Tryz.zeroValue122
  t75 := Tryz.underlying93
  a75 := Tryz.isAgg93
  z75 := Tryz.sizeOf93
  v75 := Tryz.zeroValue93
  t76 := Tryz.underlying124
  a76 := Tryz.isAgg124
  z76 := Tryz.sizeOf124
  v76 := Tryz.zeroValue124
  t127 := Tryz.underlying165
  a127 := Tryz.isAgg165
  z127 := Tryz.sizeOf165
  v127 := Tryz.zeroValue165
  t164 := Tryz.underlying190
  a164 := Tryz.isAgg190
  z164 := Tryz.sizeOf190
  v164 := Tryz.zeroValue190 }
theorem Tryz.Builder_Extra_156 : Builder.Extra Tryz.prog Tryz.lays156_ren := {
  sizeBuilder := by kernel_rfl
  liesBuilder := by kernel_rfl
  t5 := Tryz.underlying5
  a5 := Tryz.isAgg5
  z5 := Tryz.sizeOf5
  v5 := Tryz.zeroValue5
  infoByte := by kernel_rfl
  cellsByte := by kernel_rfl
  sizeByte := by kernel_rfl
  neB5 := by decide }
open Go.RowKit in
theorem Tryz.strings_Join (bk o c : Nat) (xs : List ByteArray) (sep : ByteArray) (w : World) (hcells : ∀ (j : Nat) x, xs[j]? = some x → w.cell? ⟨bk, o + j, none⟩ = some (.string x)) (hbk : bk < w.heap.size) (hN : xs.length ≤ 140737488355328) (hcap : xs.length ≤ c) (hlen : (Lib.join (xs.map (·.data.toList)) sep.data.toList).length ≤ 140737488355328) :
    Calls Tryz.prog 40 #[.slice (some ⟨bk, o, none⟩) xs.length c, .string sep] w fun e w' => e = .returned (.string ⟨(Lib.join (xs.map (·.data.toList)) sep.data.toList).toArray⟩) ∧ Below w.heap.size w w' := Any.strings_Join Tryz.lays156 Tryz.Builder_Extra_156 bk o c xs sep w hcells hbk hN hcap hlen
def Tryz.laysM173_ren : Go.Shelf.Ren := ⟨fun | 173 => 39 | 246 => 73 | 283 => 108 | 284 => 109 | 285 => 110 | 286 => 111 | 129 => 103 | 317 => 140 | 318 => 141 | 319 => 142 | 320 => 143 | 337 => 158 | 338 => 159 | n => n, fun | 2 => 2 | 3 => 3 | 9 => 9 | 4 => 4 | 171 => 161 | 0 => 0 | 53 => 152 | 37 => 120 | 5 => 5 | 173 => 163 | 212 => 188 | 51 => 150 | 20 => 20 | 213 => 189 | 46 => 113 | 232 => 210 | 233 => 211 | n => n, fun | 17 => 0 | 18 => 4 | 19 => 5 | n => n⟩
theorem Tryz.laysM173 : Go.Proofs.LaysM.n173 Tryz.prog Tryz.laysM173_ren := {
  mixed := by kernel_rfl
  f129 := Tryz.func103.trans (congrArg some (by kernel_rfl))
  f173 := Tryz.func39.trans (congrArg some (by kernel_rfl))
  f246 := Tryz.func73.trans (congrArg some (by kernel_rfl))
  f283 := Tryz.func108.trans (congrArg some (by kernel_rfl))
  f284 := Tryz.func109.trans (congrArg some (by kernel_rfl))
  f285 := Tryz.func110.trans (congrArg some (by kernel_rfl))
  f286 := Tryz.func111.trans (congrArg some (by kernel_rfl))
  f317 := Tryz.func140.trans (congrArg some (by kernel_rfl))
  f318 := Tryz.func141.trans (congrArg some (by kernel_rfl))
  f319 := Tryz.func142.trans (congrArg some (by kernel_rfl))
  f320 := Tryz.func143.trans (congrArg some (by kernel_rfl))
  f337 := Tryz.func158.trans (congrArg some (by kernel_rfl))
  f338 := Tryz.func159.trans (congrArg some (by kernel_rfl))
  t0 := Tryz.underlying0
  a0 := Tryz.isAgg0
  z0 := Tryz.sizeOf0
  v0 := Tryz.zeroValue0
  t2 := Tryz.underlying2
  a2 := Tryz.isAgg2
  z2 := Tryz.sizeOf2
  v2 := Tryz.zeroValue2
  t3 := Tryz.underlying3
  a3 := Tryz.isAgg3
  z3 := Tryz.sizeOf3
  v3 := Tryz.zeroValue3
  t4 := Tryz.underlying4
  a4 := Tryz.isAgg4
  z4 := Tryz.sizeOf4
  v4 := Tryz.zeroValue4
  t5 := Tryz.underlying5
  a5 := Tryz.isAgg5
  z5 := Tryz.sizeOf5
  v5 := Tryz.zeroValue5
  t9 := Tryz.underlying9
  a9 := Tryz.isAgg9
  z9 := Tryz.sizeOf9
  v9 := Tryz.zeroValue9
  t20 := Tryz.underlying20
  a20 := Tryz.isAgg20
  z20 := Tryz.sizeOf20
  v20 := Tryz.zeroValue20
  t37 := Tryz.underlying120
  a37 := Tryz.isAgg120
  z37 := Tryz.sizeOf120
  v37 := Tryz.zeroValue120
  t46 := Tryz.underlying113
  a46 := Tryz.isAgg113
  z46 := Tryz.sizeOf113
  v46 := Tryz.zeroValue113
  t51 := Tryz.underlying150
  a51 := Tryz.isAgg150
  z51 := Tryz.sizeOf150
  v51 := Tryz.zeroValue150
  t53 := Tryz.underlying152
  a53 := Tryz.isAgg152
  z53 := Tryz.sizeOf152
  v53 := Tryz.zeroValue152
  t171 := Tryz.underlying161
  a171 := Tryz.isAgg161
  z171 := Tryz.sizeOf161
  v171 := Tryz.zeroValue161
  t173 := Tryz.underlying163
  a173 := Tryz.isAgg163
  z173 := Tryz.sizeOf163
  v173 := Tryz.zeroValue163
  t212 := Tryz.underlying188
  a212 := Tryz.isAgg188
  z212 := Tryz.sizeOf188
  v212 := Tryz.zeroValue188
  t213 := Tryz.underlying189
  a213 := Tryz.isAgg189
  z213 := Tryz.sizeOf189
  t232 := Tryz.underlying210
  a232 := Tryz.isAgg210
  z232 := Tryz.sizeOf210
  v232 := Tryz.zeroValue210
  t233 := Tryz.underlying211
  a233 := Tryz.isAgg211
  z233 := Tryz.sizeOf211
  v233 := Tryz.zeroValue211
  g17 := by kernel_rfl
  g18 := by kernel_rfl
  g19 := by kernel_rfl
  i0 := by kernel_rfl
  i2 := by kernel_rfl
  i3 := by kernel_rfl
  i4 := by kernel_rfl
  i5 := by kernel_rfl
  i9 := by kernel_rfl
  i20 := by kernel_rfl
  i37 := by kernel_rfl
  i46 := by kernel_rfl
  i51 := by kernel_rfl
  i53 := by kernel_rfl
  i171 := by kernel_rfl
  i173 := by kernel_rfl
  i212 := by kernel_rfl
  i232 := by kernel_rfl
  i233 := by kernel_rfl
  m17 := by kernel_rfl
  m18 := by kernel_rfl
  m19 := by kernel_rfl }
open Go.RowKit Go.Sort Go.Lib in
theorem Tryz.strconv_FormatInt_10 (n : Int) (h0 : -9223372036854775808 ≤ n) (h1 : n ≤ 9223372036854775807) (w : World) (htab : Lib.TabIs Tryz.prog w "internal/strconv.uint64pow10" .u64 Lib.pow10Tab) :
    Calls Tryz.prog 39 #[.int .i64 n, .int .i64 10] w fun e w' => e = .returned (.string ⟨(Lib.itoa n).toArray⟩) ∧ ∃ k os, w' = grow (w.drewN k) os := Any.strconv_FormatInt_10 Tryz.laysM173 n h0 h1 w htab
def Tryz.laysC174_ren : Go.Shelf.Ren := ⟨fun | 174 => 42 | 247 => 78 | 245 => 79 | 287 => 117 | 279 => 118 | 280 => 119 | 281 => 120 | 282 => 121 | 321 => 150 | 322 => 151 | 316 => 152 | 171 => 154 | 205 => 153 | 243 => 165 | 246 => 73 | 283 => 108 | 284 => 109 | 285 => 110 | 286 => 111 | 129 => 103 | 317 => 140 | 318 => 141 | 319 => 142 | 320 => 143 | 337 => 158 | 338 => 159 | n => n, fun | 9 => 9 | 3 => 3 | 2 => 2 | 75 => 93 | 85 => 94 | 4 => 4 | 167 => 167 | 5 => 5 | 53 => 152 | 175 => 168 | 46 => 113 | 168 => 170 | 37 => 120 | 0 => 0 | 210 => 199 | 21 => 21 | 127 => 165 | 145 => 208 | 143 => 206 | 171 => 161 | 173 => 163 | 212 => 188 | 51 => 150 | 20 => 20 | 213 => 189 | 232 => 210 | 233 => 211 | 80 => 126 | n => n, fun | 15 => 1 | 16 => 2 | 17 => 0 | 18 => 4 | 19 => 5 | n => n⟩
theorem Tryz.laysC174 : Go.Proofs.LaysC.n174 Tryz.prog Tryz.laysC174_ren := {
  mixed := by kernel_rfl
  f129 := Tryz.func103.trans (congrArg some (by kernel_rfl))
  f171 := Tryz.func154.trans (congrArg some (by kernel_rfl))
  f174 := Tryz.func42.trans (congrArg some (by kernel_rfl))
  f205 := Tryz.func153.trans (congrArg some (by kernel_rfl))
  f243 := Tryz.func165.trans (congrArg some (by kernel_rfl))
  f245 := Tryz.func79.trans (congrArg some (by kernel_rfl))
  f246 := Tryz.func73.trans (congrArg some (by kernel_rfl))
  f247 := Tryz.func78.trans (congrArg some (by kernel_rfl))
  f279 := Tryz.func118.trans (congrArg some (by kernel_rfl))
  f280 := Tryz.func119.trans (congrArg some (by kernel_rfl))
  f281 := Tryz.func120.trans (congrArg some (by kernel_rfl))
  f282 := Tryz.func121.trans (congrArg some (by kernel_rfl))
  f283 := Tryz.func108.trans (congrArg some (by kernel_rfl))
  f284 := Tryz.func109.trans (congrArg some (by kernel_rfl))
  f285 := Tryz.func110.trans (congrArg some (by kernel_rfl))
  f286 := Tryz.func111.trans (congrArg some (by kernel_rfl))
  f287 := Tryz.func117.trans (congrArg some (by kernel_rfl))
  f316 := Tryz.func152.trans (congrArg some (by kernel_rfl))
  f317 := Tryz.func140.trans (congrArg some (by kernel_rfl))
  f318 := Tryz.func141.trans (congrArg some (by kernel_rfl))
  f319 := Tryz.func142.trans (congrArg some (by kernel_rfl))
  f320 := Tryz.func143.trans (congrArg some (by kernel_rfl))
  f321 := Tryz.func150.trans (congrArg some (by kernel_rfl))
  f322 := Tryz.func151.trans (congrArg some (by kernel_rfl))
  f337 := Tryz.func158.trans (congrArg some (by kernel_rfl))
  f338 := Tryz.func159.trans (congrArg some (by kernel_rfl))
  t0 := Tryz.underlying0
  a0 := Tryz.isAgg0
  z0 := Tryz.sizeOf0
  v0 := Tryz.zeroValue0
  t2 := Tryz.underlying2
  a2 := Tryz.isAgg2
  z2 := Tryz.sizeOf2
  v2 := Tryz.zeroValue2
  t3 := Tryz.underlying3
  a3 := Tryz.isAgg3
  z3 := Tryz.sizeOf3
  v3 := Tryz.zeroValue3
  t4 := Tryz.underlying4
  a4 := Tryz.isAgg4
  z4 := Tryz.sizeOf4
  v4 := Tryz.zeroValue4
  t5 := Tryz.underlying5
  a5 := Tryz.isAgg5
  z5 := Tryz.sizeOf5
  v5 := Tryz.zeroValue5
  t9 := Tryz.underlying9
  a9 := Tryz.isAgg9
  z9 := Tryz.sizeOf9
  v9 := Tryz.zeroValue9
  t20 := Tryz.underlying20
  a20 := Tryz.isAgg20
  z20 := Tryz.sizeOf20
  v20 := Tryz.zeroValue20
  t21 := Tryz.underlying21
  a21 := Tryz.isAgg21
  z21 := Tryz.sizeOf21
  v21 := Tryz.zeroValue21
  t37 := Tryz.underlying120
  a37 := Tryz.isAgg120
  z37 := Tryz.sizeOf120
  v37 := Tryz.zeroValue120
  t46 := Tryz.underlying113
  a46 := Tryz.isAgg113
  z46 := Tryz.sizeOf113
  v46 := Tryz.zeroValue113
  t51 := Tryz.underlying150
  a51 := Tryz.isAgg150
  z51 := Tryz.sizeOf150
  v51 := Tryz.zeroValue150
  t53 := Tryz.underlying152
  a53 := Tryz.isAgg152
  z53 := Tryz.sizeOf152
  v53 := Tryz.zeroValue152
  t75 := Tryz.underlying93
  a75 := Tryz.isAgg93
  z75 := Tryz.sizeOf93
  v75 := Tryz.zeroValue93
  t85 := Tryz.underlying94
  a85 := Tryz.isAgg94
  z85 := Tryz.sizeOf94
  v85 := Tryz.zeroValue94
  t127 := Tryz.underlying165
  a127 := Tryz.isAgg165
  z127 := Tryz.sizeOf165
  v127 := Tryz.zeroValue165
  t143 := Tryz.underlying206
  a143 := Tryz.isAgg206
  z143 := Tryz.sizeOf206
  v143 := Tryz.zeroValue206
  t145 := Tryz.underlying208
  a145 := Tryz.isAgg208
  z145 := Tryz.sizeOf208
  v145 := Tryz.zeroValue208
  t167 := Tryz.underlying167
  a167 := Tryz.isAgg167
  z167 := Tryz.sizeOf167
  v167 := Tryz.zeroValue167
  t168 := Tryz.underlying170
  a168 := Tryz.isAgg170
  z168 := Tryz.sizeOf170
  v168 := Tryz.zeroValue170
  t171 := Tryz.underlying161
  a171 := Tryz.isAgg161
  z171 := Tryz.sizeOf161
  v171 := Tryz.zeroValue161
  t173 := Tryz.underlying163
  a173 := Tryz.isAgg163
  z173 := Tryz.sizeOf163
  v173 := Tryz.zeroValue163
  t175 := Tryz.underlying168
  a175 := Tryz.isAgg168
  z175 := Tryz.sizeOf168
  v175 := Tryz.zeroValue168
  t210 := Tryz.underlying199
  a210 := Tryz.isAgg199
  z210 := Tryz.sizeOf199
  v210 := Tryz.zeroValue199
  t212 := Tryz.underlying188
  a212 := Tryz.isAgg188
  z212 := Tryz.sizeOf188
  v212 := Tryz.zeroValue188
  t213 := Tryz.underlying189
  a213 := Tryz.isAgg189
  z213 := Tryz.sizeOf189
  t232 := Tryz.underlying210
  a232 := Tryz.isAgg210
  z232 := Tryz.sizeOf210
  v232 := Tryz.zeroValue210
  t233 := Tryz.underlying211
  a233 := Tryz.isAgg211
  z233 := Tryz.sizeOf211
  v233 := Tryz.zeroValue211
  g15 := by kernel_rfl
  g16 := by kernel_rfl
  g17 := by kernel_rfl
  g18 := by kernel_rfl
  g19 := by kernel_rfl
  t80 := Tryz.underlying126
  a80 := Tryz.isAgg126
  z80 := Tryz.sizeOf126
  v80 := Tryz.zeroValue126
  i0 := by kernel_rfl
  i2 := by kernel_rfl
  i3 := by kernel_rfl
  i4 := by kernel_rfl
  i5 := by kernel_rfl
  i9 := by kernel_rfl
  i20 := by kernel_rfl
  i21 := by kernel_rfl
  i37 := by kernel_rfl
  i46 := by kernel_rfl
  i51 := by kernel_rfl
  i53 := by kernel_rfl
  i75 := by kernel_rfl
  i80 := by kernel_rfl
  i85 := by kernel_rfl
  i127 := by kernel_rfl
  i143 := by kernel_rfl
  i145 := by kernel_rfl
  i167 := by kernel_rfl
  i168 := by kernel_rfl
  i171 := by kernel_rfl
  i173 := by kernel_rfl
  i175 := by kernel_rfl
  i210 := by kernel_rfl
  i212 := by kernel_rfl
  i232 := by kernel_rfl
  i233 := by kernel_rfl
  m15 := by kernel_rfl
  m16 := by kernel_rfl
  m17 := by kernel_rfl
  m18 := by kernel_rfl
  m19 := by kernel_rfl
  c0 := by kernel_rfl
  c2 := by kernel_rfl
  c3 := by kernel_rfl
  c4 := by kernel_rfl
  c5 := by kernel_rfl
  c9 := by kernel_rfl
  c20 := by kernel_rfl
  c21 := by kernel_rfl
  c37 := by kernel_rfl
  c46 := by kernel_rfl
  c51 := by kernel_rfl
  c53 := by kernel_rfl
  c75 := by kernel_rfl
  c80 := by kernel_rfl
  c85 := by kernel_rfl
  c127 := by kernel_rfl
  c143 := by kernel_rfl
  c145 := by kernel_rfl
  c167 := by kernel_rfl
  c168 := by kernel_rfl
  c171 := by kernel_rfl
  c173 := by kernel_rfl
  c175 := by kernel_rfl
  c210 := by kernel_rfl
  c212 := by kernel_rfl
  c213 := by kernel_rfl
  c232 := by kernel_rfl
  c233 := by kernel_rfl }
open Go.RowKit in
theorem Tryz.strconv_ParseInt_10_at64_ok (s : ByteArray) (hmax : s.size ≤ 9223372036854775806) (v : Int) (h : Lib.parseIntB 64 s.data.toList = .ok v) (w : World) :
    Calls Tryz.prog 42 #[.string s, .int .i64 10, .int .i64 64] w fun e w' => e = .returned (.tuple #[.int .i64 v, .nilIface]) ∧ (w' = w ∨ ∃ t, w' = Lib.bytesWorld w 5 t) := Any.strconv_ParseInt_10_at64_ok Tryz.laysC174 s hmax v h w
open Go.RowKit in
theorem Tryz.strconv_ParseInt_10_at64_range_var (s : ByteArray) (hlim : s.size ≤ 281474976710656) (h : Lib.parseIntB 64 s.data.toList = .range) (tp : TypeId) (p : Value) (w : World) (hvar : w.var? Tryz.prog "strconv.ErrRange" = some #[.iface tp p]) :
    Calls Tryz.prog 42 #[.string s, .int .i64 10, .int .i64 64] w fun e w' => ∃ N, e = .returned (.tuple #[.int .i64 (Lib.intSat 64 s.data.toList), .iface 170 (.pointer (some ⟨N, 0, none⟩))]) ∧ w.heap.size ≤ N ∧ w'.heap[N]? = some (.cells #[.string ⟨#[80, 97, 114, 115, 101, 73, 110, 116]⟩, .string s, .iface tp p] 199 (0, 0)) ∧ Below w.heap.size w w' := Any.strconv_ParseInt_10_at64_range_var Tryz.laysC174 s hlim h tp p w hvar
def Tryz.laysM146_ren : Go.Shelf.Ren := ⟨fun | 146 => 41 | 221 => 77 | 268 => 114 | 138 => 115 | 143 => 116 | 195 => 146 | 197 => 147 | 218 => 148 | 219 => 149 | 260 => 160 | 217 => 161 | 225 => 162 | 224 => 163 | 267 => 164 | 266 => 166 | 314 => 167 | n => n, fun | 9 => 9 | 31 => 36 | 3 => 3 | 4 => 4 | 0 => 0 | 105 => 193 | 21 => 21 | 5 => 5 | 46 => 113 | 119 => 158 | 139 => 214 | 138 => 213 | 146 => 215 | 51 => 150 | n => n, fun | 1 => 3 | 3 => 6 | 4 => 7 | n => n⟩
theorem Tryz.laysM146 : Go.Proofs.LaysM.n146 Tryz.prog Tryz.laysM146_ren := {
  mixed := by kernel_rfl
  f138 := Tryz.func115.trans (congrArg some (by kernel_rfl))
  f143 := Tryz.func116.trans (congrArg some (by kernel_rfl))
  f146 := Tryz.func41.trans (congrArg some (by kernel_rfl))
  f195 := Tryz.func146.trans (congrArg some (by kernel_rfl))
  f197 := Tryz.func147.trans (congrArg some (by kernel_rfl))
  f217 := Tryz.func161.trans (congrArg some (by kernel_rfl))
  f218 := Tryz.func148.trans (congrArg some (by kernel_rfl))
  f219 := Tryz.func149.trans (congrArg some (by kernel_rfl))
  f221 := Tryz.func77.trans (congrArg some (by kernel_rfl))
  f224 := Tryz.func163.trans (congrArg some (by kernel_rfl))
  f225 := Tryz.func162.trans (congrArg some (by kernel_rfl))
  f260 := Tryz.func160.trans (congrArg some (by kernel_rfl))
  f266 := Tryz.func166.trans (congrArg some (by kernel_rfl))
  f267 := Tryz.func164.trans (congrArg some (by kernel_rfl))
  f268 := Tryz.func114.trans (congrArg some (by kernel_rfl))
  f314 := Tryz.func167.trans (congrArg some (by kernel_rfl))
  t0 := Tryz.underlying0
  a0 := Tryz.isAgg0
  z0 := Tryz.sizeOf0
  v0 := Tryz.zeroValue0
  t3 := Tryz.underlying3
  a3 := Tryz.isAgg3
  z3 := Tryz.sizeOf3
  v3 := Tryz.zeroValue3
  t4 := Tryz.underlying4
  a4 := Tryz.isAgg4
  z4 := Tryz.sizeOf4
  v4 := Tryz.zeroValue4
  t5 := Tryz.underlying5
  a5 := Tryz.isAgg5
  z5 := Tryz.sizeOf5
  v5 := Tryz.zeroValue5
  t9 := Tryz.underlying9
  a9 := Tryz.isAgg9
  z9 := Tryz.sizeOf9
  v9 := Tryz.zeroValue9
  t21 := Tryz.underlying21
  a21 := Tryz.isAgg21
  z21 := Tryz.sizeOf21
  v21 := Tryz.zeroValue21
  t31 := Tryz.underlying36
  a31 := Tryz.isAgg36
  z31 := Tryz.sizeOf36
  v31 := Tryz.zeroValue36
  t46 := Tryz.underlying113
  a46 := Tryz.isAgg113
  z46 := Tryz.sizeOf113
  v46 := Tryz.zeroValue113
  t51 := Tryz.underlying150
  a51 := Tryz.isAgg150
  z51 := Tryz.sizeOf150
  v51 := Tryz.zeroValue150
  t105 := Tryz.underlying193
  a105 := Tryz.isAgg193
  z105 := Tryz.sizeOf193
  v105 := Tryz.zeroValue193
  t119 := Tryz.underlying158
  a119 := Tryz.isAgg158
  z119 := Tryz.sizeOf158
  t138 := Tryz.underlying213
  a138 := Tryz.isAgg213
  z138 := Tryz.sizeOf213
  v138 := Tryz.zeroValue213
  t139 := Tryz.underlying214
  a139 := Tryz.isAgg214
  z139 := Tryz.sizeOf214
  v139 := Tryz.zeroValue214
  t146 := Tryz.underlying215
  a146 := Tryz.isAgg215
  z146 := Tryz.sizeOf215
  v146 := Tryz.zeroValue215
  g1 := by kernel_rfl
  g3 := by kernel_rfl
  g4 := by kernel_rfl
  i0 := by kernel_rfl
  i3 := by kernel_rfl
  i4 := by kernel_rfl
  i5 := by kernel_rfl
  i9 := by kernel_rfl
  i21 := by kernel_rfl
  i31 := by kernel_rfl
  i46 := by kernel_rfl
  i51 := by kernel_rfl
  i105 := by kernel_rfl
  i138 := by kernel_rfl
  i139 := by kernel_rfl
  i146 := by kernel_rfl
  m1 := by kernel_rfl
  s1_3 := fun w h => Go.Proofs.cell_of_shapedOpen_int (zero := #[.int .i64 0]) (t := 3) h (of_decide_eq_true (by kernel_rfl)) (by kernel_rfl) rfl (by kernel_rfl) (by kernel_rfl) Tryz.underlying3
  m3 := by kernel_rfl
  m4 := by kernel_rfl }
open Go.RowKit Go.Lib in
theorem Tryz.strings_Split_shaped (s sep : ByteArray) (w : World) (h : w.ShapedOpen Tryz.prog) (hs : s.size < 4294967281) (h1 : 1 ≤ sep.size) :
    Calls Tryz.prog 41 #[.string s, .string sep] w fun e w' =>
      e = .returned (.slice (some ⟨w.heap.size, 0, none⟩) (Lib.countB s sep + 1) (Lib.countB s sep + 1)) ∧ w' = w.alloc (.cells ((Lib.splitB sep 0 (Lib.countB s sep) s).map Value.string).toArray 9) := Any.strings_Split_shaped Tryz.laysM146 s sep w h hs h1
def Tryz.laysNm217_ren : Go.Shelf.Ren := ⟨fun | 17 => 43 | n => n, fun | 24 => 36 | 9 => 9 | 3 => 3 | 4 => 4 | 0 => 0 | n => n, fun | n => n⟩
theorem Tryz.laysNm217 : Go.Proofs.Lays2.n17 Tryz.prog Tryz.laysNm217_ren := {
  mixed := by kernel_rfl
  f17 := Tryz.func43.trans (congrArg some (by kernel_rfl))
  t0 := Tryz.underlying0
  a0 := Tryz.isAgg0
  z0 := Tryz.sizeOf0
  v0 := Tryz.zeroValue0
  t3 := Tryz.underlying3
  a3 := Tryz.isAgg3
  z3 := Tryz.sizeOf3
  v3 := Tryz.zeroValue3
  t4 := Tryz.underlying4
  a4 := Tryz.isAgg4
  z4 := Tryz.sizeOf4
  v4 := Tryz.zeroValue4
  t9 := Tryz.underlying9
  a9 := Tryz.isAgg9
  z9 := Tryz.sizeOf9
  v9 := Tryz.zeroValue9
  t24 := Tryz.underlying36
  a24 := Tryz.isAgg36
  z24 := Tryz.sizeOf36
  v24 := Tryz.zeroValue36 }
open Go.RowKit Go.Lib Go.Sort in
theorem Tryz.slices_Reverse_string (blk off cap : Nat) (zs : List (List UInt8)) (w : World) (hH : Holds encStr w blk off zs.toArray) (hsz : zs.length ≤ 9223372036854775807) :
    Calls Tryz.prog 43 #[.slice (some ⟨blk, off, none⟩) zs.length cap] w fun e w' => e = .returned (.tuple #[]) ∧ ∃ n, w' = putRow encStr (Sort.ahead w n) blk off zs.reverse.toArray := Any.slices_Reverse_string Tryz.laysNm217 blk off cap zs w hH hsz
open Go.RowKit Go.Lib Go.Sort in
theorem Tryz.slices_Reverse_string_empty (a : Option Addr) (cap : Nat) (w : World) :
    Calls Tryz.prog 43 #[.slice a 0 cap] w fun e w' => e = .returned (.tuple #[]) ∧ w' = w := Any.slices_Reverse_string_empty Tryz.laysNm217 a cap w
def Tryz.sortI_ren : Go.Shelf.Ren := ⟨fun | 6 => 32 | 15 => 65 | 14 => 64 | 28 => 102 | 29 => 103 | 20 => 94 | 21 => 95 | 22 => 96 | 23 => 97 | 24 => 98 | 25 => 99 | 26 => 100 | 27 => 101 | 46 => 134 | 47 => 135 | 48 => 136 | 49 => 137 | 50 => 138 | 57 => 157 | n => n, fun | 22 => 40 | 24 => 47 | 25 => 83 | 3 => 3 | 39 => 113 | 0 => 0 | 53 => 150 | 55 => 152 | 4 => 4 | 46 => 143 | 45 => 142 | 50 => 147 | 5 => 5 | 9 => 9 | 66 => 180 | 70 => 184 | 76 => 204 | 77 => 177 | n => n, fun | n => n⟩
theorem Tryz.sortI : Go.Proofs.SlLaysF0.n6 Tryz.prog Tryz.sortI_ren := {
  mixed := by kernel_rfl
  f6 := ⟨Tryz.f32.name, by decide, Tryz.func32.trans (congrArg some (by kernel_rfl))⟩
  f14 := ⟨Tryz.f64.name, by decide, Tryz.func64.trans (congrArg some (by kernel_rfl))⟩
  f15 := Tryz.func65.trans (congrArg some (by kernel_rfl))
  f20 := ⟨Tryz.f94.name, by decide, Tryz.func94.trans (congrArg some (by kernel_rfl))⟩
  f21 := ⟨Tryz.f95.name, by decide, Tryz.func95.trans (congrArg some (by kernel_rfl))⟩
  f22 := ⟨Tryz.f96.name, by decide, Tryz.func96.trans (congrArg some (by kernel_rfl))⟩
  f23 := ⟨Tryz.f97.name, by decide, Tryz.func97.trans (congrArg some (by kernel_rfl))⟩
  f24 := ⟨Tryz.f98.name, by decide, Tryz.func98.trans (congrArg some (by kernel_rfl))⟩
  f25 := ⟨Tryz.f99.name, by decide, Tryz.func99.trans (congrArg some (by kernel_rfl))⟩
  f26 := ⟨Tryz.f100.name, by decide, Tryz.func100.trans (congrArg some (by kernel_rfl))⟩
  f27 := ⟨Tryz.f101.name, by decide, Tryz.func101.trans (congrArg some (by kernel_rfl))⟩
  f28 := Tryz.func102.trans (congrArg some (by kernel_rfl))
  f29 := Tryz.func103.trans (congrArg some (by kernel_rfl))
  f46 := ⟨Tryz.f134.name, by decide, Tryz.func134.trans (congrArg some (by kernel_rfl))⟩
  f47 := Tryz.func135.trans (congrArg some (by kernel_rfl))
  f48 := Tryz.func136.trans (congrArg some (by kernel_rfl))
  f49 := ⟨Tryz.f137.name, by decide, Tryz.func137.trans (congrArg some (by kernel_rfl))⟩
  f50 := ⟨Tryz.f138.name, by decide, Tryz.func138.trans (congrArg some (by kernel_rfl))⟩
  f57 := ⟨Tryz.f157.name, by decide, Tryz.func157.trans (congrArg some (by kernel_rfl))⟩
  t0 := Tryz.underlying0
  a0 := Tryz.isAgg0
  z0 := Tryz.sizeOf0
  v0 := Tryz.zeroValue0
  t3 := Tryz.underlying3
  a3 := Tryz.isAgg3
  z3 := Tryz.sizeOf3
  v3 := Tryz.zeroValue3
  t4 := Tryz.underlying4
  a4 := Tryz.isAgg4
  z4 := Tryz.sizeOf4
  v4 := Tryz.zeroValue4
  t5 := Tryz.underlying5
  a5 := Tryz.isAgg5
  z5 := Tryz.sizeOf5
  v5 := Tryz.zeroValue5
  t9 := Tryz.underlying9
  a9 := Tryz.isAgg9
  z9 := Tryz.sizeOf9
  v9 := Tryz.zeroValue9
  t22 := Tryz.underlying40
  a22 := Tryz.isAgg40
  z22 := Tryz.sizeOf40
  v22 := Tryz.zeroValue40
  t25 := Tryz.underlying83
  a25 := Tryz.isAgg83
  z25 := Tryz.sizeOf83
  v25 := Tryz.zeroValue83
  t39 := Tryz.underlying113
  a39 := Tryz.isAgg113
  z39 := Tryz.sizeOf113
  v39 := Tryz.zeroValue113
  t45 := Tryz.underlying142
  a45 := Tryz.isAgg142
  z45 := Tryz.sizeOf142
  v45 := Tryz.zeroValue142
  t46 := Tryz.underlying143
  a46 := Tryz.isAgg143
  z46 := Tryz.sizeOf143
  v46 := Tryz.zeroValue143
  t50 := Tryz.underlying147
  a50 := Tryz.isAgg147
  z50 := Tryz.sizeOf147
  v50 := Tryz.zeroValue147
  t53 := Tryz.underlying150
  a53 := Tryz.isAgg150
  z53 := Tryz.sizeOf150
  v53 := Tryz.zeroValue150
  t55 := Tryz.underlying152
  a55 := Tryz.isAgg152
  z55 := Tryz.sizeOf152
  v55 := Tryz.zeroValue152
  t66 := Tryz.underlying180
  a66 := Tryz.isAgg180
  z66 := Tryz.sizeOf180
  v66 := Tryz.zeroValue180
  t70 := Tryz.underlying184
  a70 := Tryz.isAgg184
  z70 := Tryz.sizeOf184
  v70 := Tryz.zeroValue184
  t76 := Tryz.underlying204
  a76 := Tryz.isAgg204
  z76 := Tryz.sizeOf204
  v76 := Tryz.zeroValue204
  t77 := Tryz.underlying177
  a77 := Tryz.isAgg177
  z77 := Tryz.sizeOf177
  v77 := Tryz.zeroValue177 }
end Go.Proofs

/- Encode: the record of a fact. -/
namespace Go.Proofs.YtejhcbbfdfnfdaaGreatDoor.Yard
open Go.RowKit Go.Proofs.YtejhcbbfdfnfdaaGreatDoor.Base Go.Proofs.YtejhcbbfdfnfdaaGreatDoor.Mp
open Yp (It Yd Fact Bx)
/-- Go's table of powers, wherever the call has come to. -/
def Tab (B : Nat) (w : World) : Prop := Lib.TabBelow Tryz.prog B w "internal/strconv.uint64pow10" .u64 Lib.pow10Tab
theorem below_grow (w : World) (k : Nat) (os : Array Obj) : Below w.heap.size w (Go.Sort.grow (w.drewN k) os) :=
  ⟨rfl, rfl, rfl, by show w.heap.size ≤ (w.heap ++ os).size; simp, fun i hi => by show (w.heap ++ os)[i]? = _; rw [Array.getElem?_append, if_pos hi]⟩
theorem format_any {B : Nat} {w : World} (ht : Tab B w) (n : Int) (hn : Yp.I64 n) : Calls Tryz.prog 39 #[.int .i64 n, .int .i64 10] w fun e w' => e = .returned (.string (Yp.itoaB n)) ∧ Below w.heap.size w w' :=
  (Go.Proofs.Tryz.strconv_FormatInt_10 n hn.1 hn.2 w ht.here).mono fun _ _ ⟨he, k, os, hw⟩ => ⟨he, hw ▸ below_grow w k os⟩
set_option maxRecDepth 100000 in
set_option maxHeartbeats 4000000 in
theorem enc_many {w : World} {X : Nat → Prop} (f : Fact) (nv vv : Value) (hn : Rd w X nv (strV f.names)) (hv : Rd w X vv (intV f.vals)) (hm : 8 < f.names.length ∨ 8 < f.vals.length) :
    Calls Tryz.prog 22 #[.agg #[.string f.kind, nv, vv]] w fun e w' => e = .returned (.tuple #[.string ⟨#[]⟩, .int .i64 7]) ∧ Below w.heap.size w w' := by
  obtain ⟨A, c, en, _⟩ := id hn
  obtain ⟨A', c', ev, _⟩ := id hv
  have lns : (strV f.names).length = f.names.length := by simp [strV]
  have lvs : (intV f.vals).length = f.vals.length := by simp [intV]
  rw [lns] at en
  rw [lvs] at ev
  subst en ev
  have HB := Lib.hid ((Below.refl w.heap.size w).alloc (Nat.le_refl _) (.cells #[.string f.kind, .slice A f.names.length c, .slice A' f.vals.length c'] 39))
  clear hn hv lns lvs
  by_cases h1 : 8 < f.names.length
  · have hd : decide ((f.names.length : Int) > 8) = true := by simp; omega
    have h1' : (8 : Int) < (f.names.length : Int) := by omega
    clear hm
    go_enter Tryz.func22, Tryz.ntmps22
    go_wp2_with fail
    go_ret2
    exact ⟨rfl, HB.out⟩
  · have h2 : 8 < f.vals.length := hm.resolve_left h1
    have hd : decide ((f.names.length : Int) > 8) = false := by simp; omega
    have hd2 : decide ((f.vals.length : Int) > 8) = true := by simp; omega
    have h1' : (f.names.length : Int) ≤ 8 := by omega
    have h2' : (8 : Int) < (f.vals.length : Int) := by omega
    clear hm
    go_enter Tryz.func22, Tryz.ntmps22
    go_wp2_with fail
    go_ret2
    exact ⟨rfl, HB.out⟩
/-- A slice of one cell that the call has just made. -/
theorem own_one {w : World} {base g : Nat} {e : TypeId} {u : Value} (h : w.heap[g]? = some (.cells #[u] e (0, 0))) (hg : base ≤ g) : w.ownsRow base e 1 (.slice (some ⟨g, 0, none⟩) 1 1) 1 [u] :=
  ⟨rfl, .inr ⟨g, 1, #[u], rfl, hg, h, Nat.le_refl _, by unfold maxLen; omega, rfl, rfl⟩⟩
theorem strV_one (l : List ByteArray) : ∀ u ∈ strV l, u.oneCell' = true := by
  intro u hu
  obtain ⟨x, _, rfl⟩ := List.mem_map.1 hu
  rfl
theorem own_slice {w : World} {base n : Nat} {e : TypeId} {v : Value} {xs : List Value} (h : w.ownsRow base e 1 v n xs) (hn : 0 < n) : ∃ g c, v = .slice (some ⟨g, 0, none⟩) n c ∧ base ≤ g ∧ g < w.heap.size := by
  rcases h.2 with ⟨_, h0⟩ | ⟨g, cap, cur, rfl, hb, hg, _⟩
  · omega
  · exact ⟨g, cap, rfl, hb, block_lt hg⟩
theorem grown_of_below {w w' : World} {row : Option Nat} (h : Below w.heap.size w w') : w.grownBy w' row :=
  ⟨h.os, h.tape, h.output, h.size, fun i hi _ => h.block i hi⟩
set_option maxRecDepth 100000 in
set_option maxHeartbeats 8000000 in
theorem enc_few {w : World} {X : Nat → Prop} (f : Fact) (nv vv : Value) (hn : Rd w X nv (strV f.names)) (hv : Rd w X vv (intV f.vals)) (h1 : f.names.length ≤ 8) (h2 : f.vals.length ≤ 8) (hs : ∀ s ∈ f.kind :: f.names, s.size ≤ 140737488351232) (hi : ∀ n ∈ f.vals, Yp.I64 n) (ht : Tab w.heap.size w) :
    Calls Tryz.prog 22 #[.agg #[.string f.kind, nv, vv]] w fun e w' => e = .returned (.tuple #[.string (Yp.encE f).1, .int .i64 (Yp.encE f).2]) ∧ Below w.heap.size w w' := by
  have tS := Tryz.underlying36
  obtain ⟨i0, hi0, hz0, hz1, hz2⟩ : ∃ i, Tryz.prog.info? 9 = some i ∧ i.zero = some (.string { data := #[] }) ∧ i.size = 1 ∧ i.bytes = 16 := ⟨_, rfl, rfl, rfl, rfl⟩
  have lns : (strV f.names).length = f.names.length := by simp [strV]
  have lvs : (intV f.vals).length = f.vals.length := by simp [intV]
  -- the list of names and the kind
  have hB1 := al_below w (.cells #[.string f.kind, nv, vv] 39)
  have hB2 := hB1.trans ((al_below (w.alloc (.cells #[.string f.kind, nv, vv] 39)) (.cells #[.string f.kind] 9)).mono hB1.size)
  have hrow0 := new_block2 w (.cells #[.string f.kind, nv, vv] 39) (.cells #[.string f.kind] 9)
  obtain ⟨v4, w4, hrun, hown, hgr, hat⟩ := append_rd (P := Tryz.prog) w.heap.size 36 36 9 i0 _ 16 tS hi0 hz0 hz1 hz2 rfl (own_one hrow0 (Nat.le_succ _)) (hn.below hB2) (strV_one _) (by unfold maxLen; omega) (by omega) hB2.size
  rw [lns] at hown
  obtain ⟨g4, c4, rfl, hg4, _⟩ := own_slice hown (by omega)
  have hB4 : Below w.heap.size w w4 := hB2.trans (below_grown hgr (fun g e => by have : w.heap.size + 1 = g := (by simpa [Value.ownBlock] using e); omega) hB2.size)
  have hown' : w4.ownsRow w.heap.size 9 1 (.slice (some ⟨g4, 0, none⟩) (1 + f.names.length) c4) (1 + f.names.length) (strV (f.kind :: f.names)) := hown
  have hcon := containsE_any _ _ (f.kind :: f.names) w4 (rd_own hown') hs (by simp; omega)
  simp only [Bridge.name_eq] at hcon
  have hHE : Yp.encE f = if ((f.kind :: f.names).any fun s => !Yp.isName s) = true then (Yp.es, 4) else (Yp.encS f, 0) := by unfold Yp.encE; rw [if_neg (by omega)]
  obtain ⟨A, c, en, _⟩ := id hn
  obtain ⟨A', c', ev, hc', hcell⟩ := id hv
  rw [lns] at en
  rw [lvs] at ev hc' hcell
  subst en ev
  have HE := Lib.hid hHE
  have HOWN := Lib.hid hown'
  have HB4 := Lib.hid hB4
  have HCV := Lib.hid hcell
  have HT := Lib.hid ht
  have HI := Lib.hid hi
  have HF4 := Lib.hid ((row_after (al_below _ _) (new_block w (.cells #[.string f.kind, .slice A f.names.length c, .slice A' f.vals.length c'] 39) ) : ((w.alloc (.cells #[.string f.kind, .slice A f.names.length c, .slice A' f.vals.length c'] 39)).alloc (.cells #[.string f.kind] 9)).heap[w.heap.size]? = _))
  have hd1 : decide ((f.names.length : Int) > 8) = false := by simp; omega
  have hd2 : decide ((f.vals.length : Int) > 8) = false := by simp; omega
  have h1' : (f.names.length : Int) ≤ 8 := by omega
  have h2' : (f.vals.length : Int) ≤ 8 := by omega
  have HI0 := Lib.hid (And.intro hi0 (And.intro hz0 (And.intro hz1 hz2)))
  have HPL := Lib.hid (fun hb => Yp.parts_len h1 h2 hb hi)
  have HSZ4 : Hid (w.heap.size + 2 ≤ w4.heap.size) := Lib.hid (by have := hgr.size; simp at this; omega)
  have HG4 : Hid (w4.heap[w.heap.size]? = some (.cells #[.string f.kind, .slice A f.names.length c, .slice A' f.vals.length c'] 39 (0, 0))) := Lib.hid ((hgr.block w.heap.size (by simp; omega) (by intro e; have : w.heap.size + 1 = w.heap.size := Option.some.inj e.symm; omega)).trans HF4.out)
  generalize hbad : ((f.kind :: f.names).any fun s => !Yp.isName s) = bad at hcon
  have HBAD := Lib.hid hbad
  clear hbad hHE hown hown' hB1 hB2 hB4 hcell hn hv ht hi hi0 hz0 hz1 hz2 hrow0 hgr hat hs lns lvs
  go_enter Tryz.func22, Tryz.ntmps22
  go_wp2_with (at_builtin; refine wpList_append_run rfl _ _ _ rfl rfl rfl hrun ?_)
  refine hcon.mono ?_; rintro e w5 ⟨rfl, hb5⟩
  have HB5 := Lib.hid (HB4.out.trans (hb5.mono HB4.out.size))
  have HO5 := Lib.hid (HOWN.out.kept (grown_of_below (row := none) hb5) (.inr (by simp [Value.ownBlock])))
  have HG5 := Lib.hid ((hb5.block w.heap.size (by have := HSZ4.out; omega)).trans HG4.out)
  have y2 := (row_cells HG5.out).1 2
  clear hb5 hcon hrun
  cases bad with
  | true =>
    go_wp2_with fail
    go_ret2
    rw [HE.out, HBAD.out]
    exact ⟨rfl, HB5.out⟩
  | false =>
    go_wp2_with fail
    go_loopw [4, 28] (fun v i wr => ∃ k : Nat, k ≤ f.vals.length ∧ i = .int .i64 k ∧ (∃ g c, v = .slice (some ⟨g, 0, none⟩) (1 + f.names.length + k) c ∧ w.heap.size ≤ g ∧ g < wr.heap.size) ∧ wr.ownsRow w.heap.size 9 1 v (1 + f.names.length + k) (strV (f.kind :: f.names ++ (f.vals.take k).map Yp.itoaB)) ∧ Below w.heap.size w wr) (fun _ i _ => f.vals.length - (intOf i).toNat)
    case atStart =>
      refine ⟨0, by omega, rfl, ⟨g4, c4, rfl, hg4, (HO5.out.lt _ rfl).2⟩, ?_, HB5.out⟩
      rw [List.take_zero, List.map_nil, List.append_nil]
      exact HO5.out
    case round =>
      obtain ⟨k, hk, rfl, ⟨g, cq, rfl, hg, hgl⟩, ho, hb⟩ := hrel
      have HO := Lib.hid ho
      have HBK := Lib.hid hb
      clear ho hb
      by_cases hlt : k < f.vals.length
      · obtain ⟨b, o, rfl, hbl, _, hx⟩ := HCV.out (by omega)
        have e0 : wr.cell? ⟨b, o + k, none⟩ = some (.int .i64 f.vals[k]) := (HBK.out.cell (p := ⟨b, _, none⟩) hbl).trans (hx k _ (by simp [intV, List.getElem?_eq_getElem hlt]))
        have hfm := format_any (B := wr.heap.size) (w := wr) (fun W h => HT.out W (HBK.out.trans (h.mono HBK.out.size))) f.vals[k] (HI.out _ (List.getElem_mem hlt))
        have HTK : Hid ((f.vals.take (k + 1)).map Yp.itoaB = (f.vals.take k).map Yp.itoaB ++ [Yp.itoaB f.vals[k]]) := Lib.hid (by rw [List.take_succ_eq_append_getElem hlt, List.map_append]; rfl)
        generalize f.vals[k] = n at *
        clear hx
        go_wp2_with fail
        refine hfm.mono ?_; rintro e w6 ⟨rfl, hb6⟩
        have hb7 := al_below w6 (.cells #[.string (Yp.itoaB n)] 9)
        have hb67 : Below wr.heap.size wr (w6.alloc (.cells #[.string (Yp.itoaB n)] 9)) := hb6.trans (hb7.mono hb6.size)
        have ho7 := HO.out.kept (grown_of_below (row := none) hb67) (.inr (by simp [Value.ownBlock]))
        obtain ⟨i0, hi0, hz0, hz1, hz2⟩ : ∃ i, Tryz.prog.info? 9 = some i ∧ i.zero = some (.string { data := #[] }) ∧ i.size = 1 ∧ i.bytes = 16 := ⟨_, rfl, rfl, rfl, rfl⟩
        obtain ⟨v8, w8, hrun8, hown8, hgr8, hat8⟩ := append_rd (P := Tryz.prog) w.heap.size 36 36 9 i0 _ 16 Tryz.underlying36 hi0 hz0 hz1 hz2 rfl ho7 (rd_own (own_one (u := .string (Yp.itoaB n)) (new_block w6 _) (Nat.le_refl _))) (by intro u hu; simp at hu; subst hu; rfl) (by unfold maxLen; simp only [List.length_singleton]; omega) (by simp only [List.length_singleton]; omega) (by have := HBK.out.size; have := hb67.size; omega)
        obtain ⟨g8, c8, rfl, hg8, hgl8⟩ := own_slice hown8 (by simp only [List.length_singleton]; omega)
        have HB8 := Lib.hid (HBK.out.trans ((hb67.mono HBK.out.size).trans (below_grown hgr8 (fun g' e => by have : g = g' := (by simpa [Value.ownBlock] using e); omega) (by have := HBK.out.size; have := hb67.size; omega))))
        have HO8 := Lib.hid hown8
        have HG8 := Lib.hid (And.intro hg8 hgl8)
        clear hb7 hb67 ho7 hi0 hz0 hz1 hz2 hown8 hgr8 hat8 hb6 hfm hg8 hgl8
        go_wp2_with (at_builtin; refine wpList_append_run rfl _ _ _ rfl rfl rfl hrun8 ?_)
        refine ⟨⟨k + 1, by omega, by go_num, ⟨g8, c8, rfl, HG8.out.1, HG8.out.2⟩, ?_, HB8.out⟩, by simp [intOf]; omega⟩
        rw [HTK.out]
        have := HO8.out
        rw [List.length_singleton] at this
        rw [← List.append_assoc]
        unfold strV at this ⊢
        rw [List.map_append (l₂ := [Yp.itoaB n])]
        exact this
      · obtain rfl : k = f.vals.length := by omega
        have hlen : (f.kind :: f.names ++ (f.vals.take f.vals.length).map Yp.itoaB).length = 1 + f.names.length + f.vals.length := by simp; omega
        have hparts : f.kind :: f.names ++ (f.vals.take f.vals.length).map Yp.itoaB = Yp.partsOf f := by rw [List.take_length]; rfl
        have hjn := Go.Proofs.Tryz.strings_Join g 0 cq (f.kind :: f.names ++ (f.vals.take f.vals.length).map Yp.itoaB) ⟨#[32]⟩ wr (fun j x hx => by
            have := World.ownsRow.cells HO.out (g := g) rfl j (.string x) (by rw [strV, List.getElem?_map, hx]; rfl)
            rwa [add_lit] at this) hgl (by rw [hlen]; omega) (by
            rw [hlen]
            rcases HO.out.2 with ⟨h, _⟩ | ⟨g', cap, cur, hv, _, _, hcc, _⟩
            · cases h
            · injection hv with _ _ h3
              omega) (by rw [hparts]; have := (HPL.out HBAD.out).1; exact Nat.le_trans this (by decide))
        rw [hlen, hparts] at hjn
        have HJ := Lib.hid hjn
        clear hjn hlen hparts
        go_wp2_with fail
        refine HJ.out.mono ?_; rintro e w7 ⟨rfl, hb7⟩
        have HB7 := Lib.hid (HBK.out.trans (hb7.mono HBK.out.size))
        clear hb7
        go_wp2_with fail
        go_ret2
        rw [HE.out, HBAD.out]
        exact ⟨rfl, HB7.out⟩
theorem enc_any {w : World} {X : Nat → Prop} (f : Fact) (nv vv : Value) (hn : Rd w X nv (strV f.names)) (hv : Rd w X vv (intV f.vals)) (hs : ∀ s ∈ f.kind :: f.names, s.size ≤ 140737488351232) (hi : ∀ n ∈ f.vals, Yp.I64 n) (ht : Tab w.heap.size w) :
    Calls Tryz.prog 22 #[.agg #[.string f.kind, nv, vv]] w fun e w' => e = .returned (.tuple #[.string (Yp.encE f).1, .int .i64 (Yp.encE f).2]) ∧ Below w.heap.size w w' := by
  by_cases h : 8 < f.names.length ∨ 8 < f.vals.length
  · unfold Yp.encE
    rw [if_pos h]
    exact enc_many f nv vv hn hv h
  · exact enc_few f nv vv hn hv (by omega) (by omega) hs hi ht
end Go.Proofs.YtejhcbbfdfnfdaaGreatDoor.Yard
