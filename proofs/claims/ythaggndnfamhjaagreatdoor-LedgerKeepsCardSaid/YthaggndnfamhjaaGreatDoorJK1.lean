/- Texts, joined. -/
import Derived.Shelf.Strings.Builder1
import Derived.Shelf.Strings.Builder2
import Derived.Shelf.Strings.OnBuilder
import Derived.Shelf.Small.Utf8
import Derived.Shelf.Small.Bits
import Derived.Shelf.Small.Strs
import Derived.Shelf.Small.Wraps
import Derived.Shelf.Strings.BuilderF
import Derived.Shelf.Strings.BuilderK
import Derived.Shelf.Utf8.RuneCount
import Derived.Shelf.Strings.Builder2Cap
import Derived.Shelf.Strconv.Atoi
import Derived.Shelf.Strconv.Itoa0
import Derived.Shelf.Strconv.Itoa1
import Derived.Shelf.LaysM
import Derived.Shelf.Strconv.Itoa2
import Derived.Shelf.Strconv.Itoa3
import Derived.Shelf.Strconv.AtoiErrFast
import Derived.Shelf.Strconv.ParseIntEmpty
import Derived.Shelf.Strconv.AtoiFail
import Derived.Shelf.Strconv.Clone
import Derived.Shelf.Strconv.SyntaxError
import Derived.Shelf.LaysC
import Derived.Shelf.Strconv.ToError
import Derived.Shelf.Strconv.AtoiErr
import Derived.Shelf.Strconv.ErrVar
import Derived.Shelf.Strconv.Lower
import Derived.Shelf.Strconv.ParseUint10
import Derived.Shelf.Strconv.ParseUint10Empty
import Derived.Shelf.Strconv.ParseUint10Any
import Derived.Shelf.Strconv.ParseInt10
import Derived.Shelf.Strconv.AtoiLong
import Derived.Shelf.Strconv.AtoiInnerAll
import Derived.Shelf.Strconv.RangeError
import Derived.Shelf.Strconv.ToErrorRange
import Derived.Shelf.Strconv.AtoiAll
import Derived.Shelf.Strconv.ErrVarAll
import Derived.Shelf.Strconv.ParseUintEmpty
import Derived.Shelf.Strconv.ParseUint10b64
import Derived.Shelf.Strconv.ParseUint10b32
import Derived.Shelf.Strconv.ParseUint10b16
import Derived.Shelf.Strconv.ParseUint10b8
import Derived.Shelf.Strconv.ParseUint10At
import Derived.Shelf.Strconv.ParseInt10At64
import Derived.Shelf.Strconv.ParseInt10At32
import Derived.Shelf.Strconv.ParseInt10At16
import Derived.Shelf.Strconv.ParseInt10At8
import Derived.Shelf.Strconv.ParseInt10All
import Derived.Shelf.Strings.Search1
import Derived.Shelf.Strings.Search2
import Derived.Shelf.Strings.Search3
import Derived.Shelf.Strings.Count
import Derived.Shelf.Strings.Shaped
import Derived.Shelf.Strings.Split
import Derived.Shelf.Strings.SplitShaped
import Derived.Shelf.Unicode.Decode
import Derived.Shelf.Strings.Runes
import Derived.Shelf.Strings.RuneCount
import Derived.Shelf.Strings.IndexAny
import Derived.Shelf.Strings.AsciiSet
import Derived.Shelf.Strings.IndexAnyAll
import Derived.Shelf.Strings.Explode
import Derived.Shelf.Unicode.DecodeSlow
import Derived.Shelf.Unicode.DecodeAny
import Derived.Shelf.Strings.BuilderCap
import Derived.Ground.Names2Prog
import Derived.Shelf.Slices.SearchI
import Derived.Ground.SlgnProg
import Derived.Shelf.SlicesE.Clone
import Derived.Shelf.SlicesQ.Reverse
import Derived.Ground.SlsfProg
import Derived.Shelf.SlSortCmp.InsertionK
import Derived.Shelf.SlSortCmp.SiftDownK
import Derived.Shelf.SlSortCmp.HeapSortK
import Derived.Shelf.SlSortCmp.MedianK
import Derived.Shelf.SlSortCmp.PivotK
import Derived.Shelf.SlSortCmp.ReverseRangeK
import Derived.Shelf.SlSortCmp.PartialInsertionK
import Derived.Shelf.SlSortCmp.PartitionEqualK
import Derived.Shelf.SlSortCmp.PartitionK
import Derived.Shelf.SlSortCmp.PdqK
import Derived.Shelf.SlSortCmp.WholeK
import Derived.Shelf.SlSortCmp.NoneTotal
import Derived.Test.YthaggndnfamhjaaGreatDoorProg

set_option linter.unusedSimpArgs false
set_option linter.unusedVariables false
set_option maxRecDepth 100000
set_option maxHeartbeats 16000000
namespace Go.Proofs
open Go.Shelf
def Tryz.lays156_ren : Go.Shelf.Ren := ⟨fun | 156 => 99 | 165 => 134 | 166 => 135 | 169 => 136 | 240 => 170 | 241 => 171 | 276 => 203 | 277 => 204 | n => n, fun | 31 => 117 | 9 => 9 | 3 => 3 | 4 => 4 | 0 => 0 | 20 => 20 | 72 => 181 | 76 => 174 | 70 => 178 | 37 => 179 | 75 => 173 | 127 => 209 | 164 => 241 | 5 => 5 | 80 => 176 | n => n, fun | n => n⟩
theorem Tryz.lays156 : Go.Proofs.Lays.n156 Tryz.prog Tryz.lays156_ren := {
  mixed := by kernel_rfl
  f156 := Tryz.func99.trans (congrArg some (by kernel_rfl))
  f165 := Tryz.func134.trans (congrArg some (by kernel_rfl))
  f166 := Tryz.func135.trans (congrArg some (by kernel_rfl))
  f169 := Tryz.func136.trans (congrArg some (by kernel_rfl))
  f240 := Tryz.func170.trans (congrArg some (by kernel_rfl))
  f241 := Tryz.func171.trans (congrArg some (by kernel_rfl))
  f276 := Tryz.func203.trans (congrArg some (by kernel_rfl))
  f277 := Tryz.func204.trans (congrArg some (by kernel_rfl))
  t0 := Tryz.underlying0
  a0 := Tryz.isAgg0
  z0 := Tryz.sizeOf0
  v0 := Tryz.zeroValue0
  t3 := Tryz.underlying3
  a3 := Tryz.isAgg3
  z3 := Tryz.sizeOf3
  v3 := Tryz.zeroValue3
  t4 := Tryz.underlying4
  a4 := Tryz.isAgg4
  z4 := Tryz.sizeOf4
  v4 := Tryz.zeroValue4
  t9 := Tryz.underlying9
  a9 := Tryz.isAgg9
  z9 := Tryz.sizeOf9
  v9 := Tryz.zeroValue9
  t20 := Tryz.underlying20
  a20 := Tryz.isAgg20
  z20 := Tryz.sizeOf20
  v20 := Tryz.zeroValue20
  t31 := Tryz.underlying117
  a31 := Tryz.isAgg117
  z31 := Tryz.sizeOf117
  v31 := Tryz.zeroValue117
  t37 := Tryz.underlying179
  a37 := Tryz.isAgg179
  z37 := Tryz.sizeOf179
  v37 := Tryz.zeroValue179
  t70 := Tryz.underlying178
  a70 := Tryz.isAgg178
  z70 := Tryz.sizeOf178
  v70 := Tryz.zeroValue178
  t72 := Tryz.underlying181
  a72 := Tryz.isAgg181
  z72 := Tryz.sizeOf181
  v72 := Tryz.zeroValue181
  t75 := Tryz.underlying173
  a75 := Tryz.isAgg173
  z75 := Tryz.sizeOf173
  v75 := Tryz.zeroValue173
  t76 := Tryz.underlying174
  a76 := Tryz.isAgg174
  z76 := Tryz.sizeOf174
  v76 := Tryz.zeroValue174
  t127 := Tryz.underlying209
  a127 := Tryz.isAgg209
  z127 := Tryz.sizeOf209
  v127 := Tryz.zeroValue209
  t164 := Tryz.underlying241
  a164 := Tryz.isAgg241
  z164 := Tryz.sizeOf241
  v164 := Tryz.zeroValue241 }
theorem Tryz.Builder_Extra_156 : Builder.Extra Tryz.prog Tryz.lays156_ren := {
  sizeBuilder := by kernel_rfl
  liesBuilder := by kernel_rfl
  t5 := Tryz.underlying5
  a5 := Tryz.isAgg5
  z5 := Tryz.sizeOf5
  v5 := Tryz.zeroValue5
  infoByte := by kernel_rfl
  cellsByte := by kernel_rfl
  sizeByte := by kernel_rfl
  neB5 := by decide }
open Go.RowKit in
theorem Tryz.strings_Join_none(a : Option Addr)(c : Nat)(sep : ByteArray)(w : World) :
    Calls Tryz.prog 99 #[.slice a 0 c, .string sep] w fun e w' => e = .returned (.string ⟨#[]⟩) ∧ w' = w := Any.strings_Join_none Tryz.lays156 Tryz.Builder_Extra_156 a c sep w
open Go.RowKit in
theorem Tryz.strings_Join(bk o c : Nat)(xs : List ByteArray)(sep : ByteArray)(w : World)(hcells : ∀ (j : Nat) x, xs[j]? = some x → w.cell? ⟨bk, o + j, none⟩ = some (.string x))(hbk : bk < w.heap.size)(hN : xs.length ≤ 140737488355328)(hcap : xs.length ≤ c)(hlen : (Lib.join (xs.map (·.data.toList)) sep.data.toList).length ≤ 140737488355328) :
    Calls Tryz.prog 99 #[.slice (some ⟨bk, o, none⟩) xs.length c, .string sep] w fun e w' => e = .returned (.string ⟨(Lib.join (xs.map (·.data.toList)) sep.data.toList).toArray⟩) ∧ Below w.heap.size w w' := Any.strings_Join Tryz.lays156 Tryz.Builder_Extra_156 bk o c xs sep w hcells hbk hN hcap hlen
def Tryz.laysM171_ren : Go.Shelf.Ren := ⟨fun | 171 => 97 | 243 => 132 | 246 => 169 | 283 => 199 | 284 => 200 | 285 => 201 | 286 => 202 | 129 => 224 | 317 => 223 | 318 => 225 | 319 => 226 | 320 => 227 | 337 => 237 | 338 => 238 | n => n, fun | 3 => 3 | 9 => 9 | 2 => 2 | 4 => 4 | 171 => 236 | 0 => 0 | 53 => 28 | 37 => 179 | 5 => 5 | 173 => 239 | 212 => 266 | 51 => 254 | 20 => 20 | 213 => 267 | 46 => 211 | 232 => 287 | 233 => 288 | n => n, fun | 17 => 5 | 18 => 6 | 19 => 7 | n => n⟩
theorem Tryz.laysM171 : Go.Proofs.LaysM.n171 Tryz.prog Tryz.laysM171_ren := {
  mixed := by kernel_rfl
  f129 := Tryz.func224.trans (congrArg some (by kernel_rfl))
  f171 := Tryz.func97.trans (congrArg some (by kernel_rfl))
  f243 := Tryz.func132.trans (congrArg some (by kernel_rfl))
  f246 := Tryz.func169.trans (congrArg some (by kernel_rfl))
  f283 := Tryz.func199.trans (congrArg some (by kernel_rfl))
  f284 := Tryz.func200.trans (congrArg some (by kernel_rfl))
  f285 := Tryz.func201.trans (congrArg some (by kernel_rfl))
  f286 := Tryz.func202.trans (congrArg some (by kernel_rfl))
  f317 := Tryz.func223.trans (congrArg some (by kernel_rfl))
  f318 := Tryz.func225.trans (congrArg some (by kernel_rfl))
  f319 := Tryz.func226.trans (congrArg some (by kernel_rfl))
  f320 := Tryz.func227.trans (congrArg some (by kernel_rfl))
  f337 := Tryz.func237.trans (congrArg some (by kernel_rfl))
  f338 := Tryz.func238.trans (congrArg some (by kernel_rfl))
  t0 := Tryz.underlying0
  a0 := Tryz.isAgg0
  z0 := Tryz.sizeOf0
  v0 := Tryz.zeroValue0
  t2 := Tryz.underlying2
  a2 := Tryz.isAgg2
  z2 := Tryz.sizeOf2
  v2 := Tryz.zeroValue2
  t3 := Tryz.underlying3
  a3 := Tryz.isAgg3
  z3 := Tryz.sizeOf3
  v3 := Tryz.zeroValue3
  t4 := Tryz.underlying4
  a4 := Tryz.isAgg4
  z4 := Tryz.sizeOf4
  v4 := Tryz.zeroValue4
  t5 := Tryz.underlying5
  a5 := Tryz.isAgg5
  z5 := Tryz.sizeOf5
  v5 := Tryz.zeroValue5
  t9 := Tryz.underlying9
  a9 := Tryz.isAgg9
  z9 := Tryz.sizeOf9
  v9 := Tryz.zeroValue9
  t20 := Tryz.underlying20
  a20 := Tryz.isAgg20
  z20 := Tryz.sizeOf20
  v20 := Tryz.zeroValue20
  t37 := Tryz.underlying179
  a37 := Tryz.isAgg179
  z37 := Tryz.sizeOf179
  v37 := Tryz.zeroValue179
  t46 := Tryz.underlying211
  a46 := Tryz.isAgg211
  z46 := Tryz.sizeOf211
  v46 := Tryz.zeroValue211
  t51 := Tryz.underlying254
  a51 := Tryz.isAgg254
  z51 := Tryz.sizeOf254
  v51 := Tryz.zeroValue254
  t53 := Tryz.underlying28
  a53 := Tryz.isAgg28
  z53 := Tryz.sizeOf28
  v53 := Tryz.zeroValue28
  t171 := Tryz.underlying236
  a171 := Tryz.isAgg236
  z171 := Tryz.sizeOf236
  v171 := Tryz.zeroValue236
  t173 := Tryz.underlying239
  a173 := Tryz.isAgg239
  z173 := Tryz.sizeOf239
  v173 := Tryz.zeroValue239
  t212 := Tryz.underlying266
  a212 := Tryz.isAgg266
  z212 := Tryz.sizeOf266
  v212 := Tryz.zeroValue266
  t213 := Tryz.underlying267
  a213 := Tryz.isAgg267
  z213 := Tryz.sizeOf267
  t232 := Tryz.underlying287
  a232 := Tryz.isAgg287
  z232 := Tryz.sizeOf287
  v232 := Tryz.zeroValue287
  t233 := Tryz.underlying288
  a233 := Tryz.isAgg288
  z233 := Tryz.sizeOf288
  v233 := Tryz.zeroValue288
  g17 := by kernel_rfl
  g18 := by kernel_rfl
  g19 := by kernel_rfl
  i0 := by kernel_rfl
  i2 := by kernel_rfl
  i3 := by kernel_rfl
  i4 := by kernel_rfl
  i5 := by kernel_rfl
  i9 := by kernel_rfl
  i20 := by kernel_rfl
  i37 := by kernel_rfl
  i46 := by kernel_rfl
  i51 := by kernel_rfl
  i53 := by kernel_rfl
  i171 := by kernel_rfl
  i173 := by kernel_rfl
  i212 := by kernel_rfl
  i232 := by kernel_rfl
  i233 := by kernel_rfl
  m17 := by kernel_rfl
  m18 := by kernel_rfl
  m19 := by kernel_rfl }
open Go.RowKit Go.Sort Go.Lib in
theorem Tryz.strconv_Itoa(n : Int)(h0 : -9223372036854775808 ≤ n)(h1 : n ≤ 9223372036854775807)(w : World)(htab : Lib.TabIs Tryz.prog w "internal/strconv.uint64pow10" .u64 Lib.pow10Tab) :
    Calls Tryz.prog 97 #[.int .i64 n] w fun e w' => e = .returned (.string ⟨(Lib.itoa n).toArray⟩) ∧ ∃ k os, w' = grow (w.drewN k) os := Any.strconv_Itoa Tryz.laysM171 n h0 h1 w htab
def Tryz.laysC172_ren : Go.Shelf.Ren := ⟨fun | 172 => 129 | 244 => 166 | 245 => 167 | 247 => 190 | 279 => 191 | 280 => 192 | 281 => 193 | 282 => 194 | 287 => 218 | 316 => 219 | 171 => 97 | 205 => 220 | 321 => 235 | 322 => 236 | 243 => 132 | 246 => 169 | 283 => 199 | 284 => 200 | 285 => 201 | 286 => 202 | 129 => 224 | 317 => 223 | 318 => 225 | 319 => 226 | 320 => 227 | 337 => 237 | 338 => 238 | n => n, fun | 9 => 9 | 3 => 3 | 75 => 173 | 76 => 174 | 4 => 4 | 5 => 5 | 167 => 224 | 37 => 179 | 0 => 0 | 85 => 225 | 2 => 2 | 168 => 227 | 53 => 28 | 175 => 257 | 46 => 211 | 210 => 261 | 127 => 209 | 145 => 277 | 143 => 275 | 21 => 21 | 171 => 236 | 173 => 239 | 212 => 266 | 51 => 254 | 20 => 20 | 213 => 267 | 232 => 287 | 233 => 288 | 80 => 176 | n => n, fun | 15 => 3 | 16 => 4 | 17 => 5 | 18 => 6 | 19 => 7 | n => n⟩
theorem Tryz.laysC172 : Go.Proofs.LaysC.n172 Tryz.prog Tryz.laysC172_ren := {
  mixed := by kernel_rfl
  f129 := Tryz.func224.trans (congrArg some (by kernel_rfl))
  f171 := Tryz.func97.trans (congrArg some (by kernel_rfl))
  f172 := Tryz.func129.trans (congrArg some (by kernel_rfl))
  f205 := Tryz.func220.trans (congrArg some (by kernel_rfl))
  f243 := Tryz.func132.trans (congrArg some (by kernel_rfl))
  f244 := Tryz.func166.trans (congrArg some (by kernel_rfl))
  f245 := Tryz.func167.trans (congrArg some (by kernel_rfl))
  f246 := Tryz.func169.trans (congrArg some (by kernel_rfl))
  f247 := Tryz.func190.trans (congrArg some (by kernel_rfl))
  f279 := Tryz.func191.trans (congrArg some (by kernel_rfl))
  f280 := Tryz.func192.trans (congrArg some (by kernel_rfl))
  f281 := Tryz.func193.trans (congrArg some (by kernel_rfl))
  f282 := Tryz.func194.trans (congrArg some (by kernel_rfl))
  f283 := Tryz.func199.trans (congrArg some (by kernel_rfl))
  f284 := Tryz.func200.trans (congrArg some (by kernel_rfl))
  f285 := Tryz.func201.trans (congrArg some (by kernel_rfl))
  f286 := Tryz.func202.trans (congrArg some (by kernel_rfl))
  f287 := Tryz.func218.trans (congrArg some (by kernel_rfl))
  f316 := Tryz.func219.trans (congrArg some (by kernel_rfl))
  f317 := Tryz.func223.trans (congrArg some (by kernel_rfl))
  f318 := Tryz.func225.trans (congrArg some (by kernel_rfl))
  f319 := Tryz.func226.trans (congrArg some (by kernel_rfl))
  f320 := Tryz.func227.trans (congrArg some (by kernel_rfl))
  f321 := Tryz.func235.trans (congrArg some (by kernel_rfl))
  f322 := Tryz.func236.trans (congrArg some (by kernel_rfl))
  f337 := Tryz.func237.trans (congrArg some (by kernel_rfl))
  f338 := Tryz.func238.trans (congrArg some (by kernel_rfl))
  t0 := Tryz.underlying0
  a0 := Tryz.isAgg0
  z0 := Tryz.sizeOf0
  v0 := Tryz.zeroValue0
  t2 := Tryz.underlying2
  a2 := Tryz.isAgg2
  z2 := Tryz.sizeOf2
  v2 := Tryz.zeroValue2
  t3 := Tryz.underlying3
  a3 := Tryz.isAgg3
  z3 := Tryz.sizeOf3
  v3 := Tryz.zeroValue3
  t4 := Tryz.underlying4
  a4 := Tryz.isAgg4
  z4 := Tryz.sizeOf4
  v4 := Tryz.zeroValue4
  t5 := Tryz.underlying5
  a5 := Tryz.isAgg5
  z5 := Tryz.sizeOf5
  v5 := Tryz.zeroValue5
  t9 := Tryz.underlying9
  a9 := Tryz.isAgg9
  z9 := Tryz.sizeOf9
  v9 := Tryz.zeroValue9
  t20 := Tryz.underlying20
  a20 := Tryz.isAgg20
  z20 := Tryz.sizeOf20
  v20 := Tryz.zeroValue20
  t21 := Tryz.underlying21
  a21 := Tryz.isAgg21
  z21 := Tryz.sizeOf21
  v21 := Tryz.zeroValue21
  t37 := Tryz.underlying179
  a37 := Tryz.isAgg179
  z37 := Tryz.sizeOf179
  v37 := Tryz.zeroValue179
  t46 := Tryz.underlying211
  a46 := Tryz.isAgg211
  z46 := Tryz.sizeOf211
  v46 := Tryz.zeroValue211
  t51 := Tryz.underlying254
  a51 := Tryz.isAgg254
  z51 := Tryz.sizeOf254
  v51 := Tryz.zeroValue254
  t53 := Tryz.underlying28
  a53 := Tryz.isAgg28
  z53 := Tryz.sizeOf28
  v53 := Tryz.zeroValue28
  t75 := Tryz.underlying173
  a75 := Tryz.isAgg173
  z75 := Tryz.sizeOf173
  v75 := Tryz.zeroValue173
  t76 := Tryz.underlying174
  a76 := Tryz.isAgg174
  z76 := Tryz.sizeOf174
  v76 := Tryz.zeroValue174
  t85 := Tryz.underlying225
  a85 := Tryz.isAgg225
  z85 := Tryz.sizeOf225
  v85 := Tryz.zeroValue225
  t127 := Tryz.underlying209
  a127 := Tryz.isAgg209
  z127 := Tryz.sizeOf209
  v127 := Tryz.zeroValue209
  t143 := Tryz.underlying275
  a143 := Tryz.isAgg275
  z143 := Tryz.sizeOf275
  v143 := Tryz.zeroValue275
  t145 := Tryz.underlying277
  a145 := Tryz.isAgg277
  z145 := Tryz.sizeOf277
  v145 := Tryz.zeroValue277
  t167 := Tryz.underlying224
  a167 := Tryz.isAgg224
  z167 := Tryz.sizeOf224
  v167 := Tryz.zeroValue224
  t168 := Tryz.underlying227
  a168 := Tryz.isAgg227
  z168 := Tryz.sizeOf227
  v168 := Tryz.zeroValue227
  t171 := Tryz.underlying236
  a171 := Tryz.isAgg236
  z171 := Tryz.sizeOf236
  v171 := Tryz.zeroValue236
  t173 := Tryz.underlying239
  a173 := Tryz.isAgg239
  z173 := Tryz.sizeOf239
  v173 := Tryz.zeroValue239
  t175 := Tryz.underlying257
  a175 := Tryz.isAgg257
  z175 := Tryz.sizeOf257
  v175 := Tryz.zeroValue257
  t210 := Tryz.underlying261
  a210 := Tryz.isAgg261
  z210 := Tryz.sizeOf261
  v210 := Tryz.zeroValue261
  t212 := Tryz.underlying266
  a212 := Tryz.isAgg266
  z212 := Tryz.sizeOf266
  v212 := Tryz.zeroValue266
  t213 := Tryz.underlying267
  a213 := Tryz.isAgg267
  z213 := Tryz.sizeOf267
  t232 := Tryz.underlying287
  a232 := Tryz.isAgg287
  z232 := Tryz.sizeOf287
  v232 := Tryz.zeroValue287
  t233 := Tryz.underlying288
  a233 := Tryz.isAgg288
  z233 := Tryz.sizeOf288
  v233 := Tryz.zeroValue288
  g15 := by kernel_rfl
  g16 := by kernel_rfl
  g17 := by kernel_rfl
  g18 := by kernel_rfl
  g19 := by kernel_rfl
  t80 := Tryz.underlying176
  a80 := Tryz.isAgg176
  z80 := Tryz.sizeOf176
  v80 := Tryz.zeroValue176
  i0 := by kernel_rfl
  i2 := by kernel_rfl
  i3 := by kernel_rfl
  i4 := by kernel_rfl
  i5 := by kernel_rfl
  i9 := by kernel_rfl
  i20 := by kernel_rfl
  i21 := by kernel_rfl
  i37 := by kernel_rfl
  i46 := by kernel_rfl
  i51 := by kernel_rfl
  i53 := by kernel_rfl
  i75 := by kernel_rfl
  i76 := by kernel_rfl
  i80 := by kernel_rfl
  i85 := by kernel_rfl
  i127 := by kernel_rfl
  i143 := by kernel_rfl
  i145 := by kernel_rfl
  i167 := by kernel_rfl
  i168 := by kernel_rfl
  i171 := by kernel_rfl
  i173 := by kernel_rfl
  i175 := by kernel_rfl
  i210 := by kernel_rfl
  i212 := by kernel_rfl
  i232 := by kernel_rfl
  i233 := by kernel_rfl
  m15 := by kernel_rfl
  m16 := by kernel_rfl
  m17 := by kernel_rfl
  m18 := by kernel_rfl
  m19 := by kernel_rfl
  c0 := by kernel_rfl
  c2 := by kernel_rfl
  c3 := by kernel_rfl
  c4 := by kernel_rfl
  c5 := by kernel_rfl
  c9 := by kernel_rfl
  c20 := by kernel_rfl
  c21 := by kernel_rfl
  c37 := by kernel_rfl
  c46 := by kernel_rfl
  c51 := by kernel_rfl
  c53 := by kernel_rfl
  c75 := by kernel_rfl
  c76 := by kernel_rfl
  c80 := by kernel_rfl
  c85 := by kernel_rfl
  c127 := by kernel_rfl
  c143 := by kernel_rfl
  c145 := by kernel_rfl
  c167 := by kernel_rfl
  c168 := by kernel_rfl
  c171 := by kernel_rfl
  c173 := by kernel_rfl
  c175 := by kernel_rfl
  c210 := by kernel_rfl
  c212 := by kernel_rfl
  c213 := by kernel_rfl
  c232 := by kernel_rfl
  c233 := by kernel_rfl }
def Tryz.lays146_ren : Go.Shelf.Ren := ⟨fun | 146 => 68 | 221 => 94 | 268 => 126 | 138 => 127 | 143 => 128 | 195 => 162 | 197 => 163 | 218 => 164 | 219 => 165 | 260 => 185 | 217 => 186 | 225 => 187 | 224 => 188 | 267 => 189 | 266 => 216 | 314 => 217 | n => n, fun | 9 => 9 | 31 => 117 | 3 => 3 | 4 => 4 | 0 => 0 | 105 => 204 | 21 => 21 | 5 => 5 | 46 => 211 | 119 => 250 | 139 => 253 | 138 => 252 | 146 => 255 | 51 => 254 | n => n, fun | 1 => 0 | 3 => 1 | 4 => 2 | n => n⟩
theorem Tryz.lays146 : Go.Proofs.Lays.n146 Tryz.prog Tryz.lays146_ren := {
  mixed := by kernel_rfl
  f138 := Tryz.func127.trans (congrArg some (by kernel_rfl))
  f143 := Tryz.func128.trans (congrArg some (by kernel_rfl))
  f146 := Tryz.func68.trans (congrArg some (by kernel_rfl))
  f195 := Tryz.func162.trans (congrArg some (by kernel_rfl))
  f197 := Tryz.func163.trans (congrArg some (by kernel_rfl))
  f217 := Tryz.func186.trans (congrArg some (by kernel_rfl))
  f218 := Tryz.func164.trans (congrArg some (by kernel_rfl))
  f219 := Tryz.func165.trans (congrArg some (by kernel_rfl))
  f221 := Tryz.func94.trans (congrArg some (by kernel_rfl))
  f224 := Tryz.func188.trans (congrArg some (by kernel_rfl))
  f225 := Tryz.func187.trans (congrArg some (by kernel_rfl))
  f260 := Tryz.func185.trans (congrArg some (by kernel_rfl))
  f266 := Tryz.func216.trans (congrArg some (by kernel_rfl))
  f267 := Tryz.func189.trans (congrArg some (by kernel_rfl))
  f268 := Tryz.func126.trans (congrArg some (by kernel_rfl))
  f314 := Tryz.func217.trans (congrArg some (by kernel_rfl))
  t0 := Tryz.underlying0
  a0 := Tryz.isAgg0
  z0 := Tryz.sizeOf0
  v0 := Tryz.zeroValue0
  t3 := Tryz.underlying3
  a3 := Tryz.isAgg3
  z3 := Tryz.sizeOf3
  v3 := Tryz.zeroValue3
  t4 := Tryz.underlying4
  a4 := Tryz.isAgg4
  z4 := Tryz.sizeOf4
  v4 := Tryz.zeroValue4
  t5 := Tryz.underlying5
  a5 := Tryz.isAgg5
  z5 := Tryz.sizeOf5
  v5 := Tryz.zeroValue5
  t9 := Tryz.underlying9
  a9 := Tryz.isAgg9
  z9 := Tryz.sizeOf9
  v9 := Tryz.zeroValue9
  t21 := Tryz.underlying21
  a21 := Tryz.isAgg21
  z21 := Tryz.sizeOf21
  v21 := Tryz.zeroValue21
  t31 := Tryz.underlying117
  a31 := Tryz.isAgg117
  z31 := Tryz.sizeOf117
  v31 := Tryz.zeroValue117
  t46 := Tryz.underlying211
  a46 := Tryz.isAgg211
  z46 := Tryz.sizeOf211
  v46 := Tryz.zeroValue211
  t51 := Tryz.underlying254
  a51 := Tryz.isAgg254
  z51 := Tryz.sizeOf254
  v51 := Tryz.zeroValue254
  t105 := Tryz.underlying204
  a105 := Tryz.isAgg204
  z105 := Tryz.sizeOf204
  v105 := Tryz.zeroValue204
  t119 := Tryz.underlying250
  a119 := Tryz.isAgg250
  z119 := Tryz.sizeOf250
  t138 := Tryz.underlying252
  a138 := Tryz.isAgg252
  z138 := Tryz.sizeOf252
  v138 := Tryz.zeroValue252
  t139 := Tryz.underlying253
  a139 := Tryz.isAgg253
  z139 := Tryz.sizeOf253
  v139 := Tryz.zeroValue253
  t146 := Tryz.underlying255
  a146 := Tryz.isAgg255
  z146 := Tryz.sizeOf255
  v146 := Tryz.zeroValue255
  g1 := by kernel_rfl
  g3 := by kernel_rfl
  g4 := by kernel_rfl }
open Go.RowKit Go.Lib in
theorem Tryz.strings_Split(s sep : ByteArray)(m : Int)(w : World)(hs : s.size < 4294967281)(hm : w.cell? ⟨0, 0, none⟩ = some (.int .i64 m))(h1 : 1 ≤ sep.size) :
    Calls Tryz.prog 68 #[.string s, .string sep] w fun e w' =>
      e = .returned (.slice (some ⟨w.heap.size, 0, none⟩) (Lib.countB s sep + 1) (Lib.countB s sep + 1)) ∧ w' = w.alloc (.cells ((Lib.splitB sep 0 (Lib.countB s sep) s).map Value.string).toArray 9) := Any.strings_Split Tryz.lays146 (by kernel_rfl) s sep m w hs hm h1
def Tryz.lays153_ren : Go.Shelf.Ren := ⟨fun | 153 => 168 | 152 => 195 | 226 => 196 | 227 => 197 | 228 => 198 | 137 => 221 | 119 => 222 | 224 => 188 | 225 => 187 | 217 => 186 | 266 => 216 | n => n, fun | 9 => 9 | 3 => 3 | 4 => 4 | 5 => 5 | 21 => 21 | 117 => 233 | 116 => 232 | 0 => 0 | 46 => 211 | 124 => 264 | n => n, fun | n => n⟩
theorem Tryz.lays153 : Go.Proofs.Lays.n153 Tryz.prog Tryz.lays153_ren := {
  mixed := by kernel_rfl
  f119 := Tryz.func222.trans (congrArg some (by kernel_rfl))
  f137 := Tryz.func221.trans (congrArg some (by kernel_rfl))
  f152 := Tryz.func195.trans (congrArg some (by kernel_rfl))
  f153 := Tryz.func168.trans (congrArg some (by kernel_rfl))
  f217 := Tryz.func186.trans (congrArg some (by kernel_rfl))
  f224 := Tryz.func188.trans (congrArg some (by kernel_rfl))
  f225 := Tryz.func187.trans (congrArg some (by kernel_rfl))
  f226 := Tryz.func196.trans (congrArg some (by kernel_rfl))
  f227 := Tryz.func197.trans (congrArg some (by kernel_rfl))
  f228 := Tryz.func198.trans (congrArg some (by kernel_rfl))
  f266 := Tryz.func216.trans (congrArg some (by kernel_rfl))
  t0 := Tryz.underlying0
  a0 := Tryz.isAgg0
  z0 := Tryz.sizeOf0
  v0 := Tryz.zeroValue0
  t3 := Tryz.underlying3
  a3 := Tryz.isAgg3
  z3 := Tryz.sizeOf3
  v3 := Tryz.zeroValue3
  t4 := Tryz.underlying4
  a4 := Tryz.isAgg4
  z4 := Tryz.sizeOf4
  v4 := Tryz.zeroValue4
  t5 := Tryz.underlying5
  a5 := Tryz.isAgg5
  z5 := Tryz.sizeOf5
  v5 := Tryz.zeroValue5
  t9 := Tryz.underlying9
  a9 := Tryz.isAgg9
  z9 := Tryz.sizeOf9
  v9 := Tryz.zeroValue9
  t21 := Tryz.underlying21
  a21 := Tryz.isAgg21
  z21 := Tryz.sizeOf21
  v21 := Tryz.zeroValue21
  t46 := Tryz.underlying211
  a46 := Tryz.isAgg211
  z46 := Tryz.sizeOf211
  v46 := Tryz.zeroValue211
  t116 := Tryz.underlying232
  a116 := Tryz.isAgg232
  z116 := Tryz.sizeOf232
  t117 := Tryz.underlying233
  a117 := Tryz.isAgg233
  z117 := Tryz.sizeOf233
  v117 := Tryz.zeroValue233
  t124 := Tryz.underlying264
  a124 := Tryz.isAgg264
  z124 := Tryz.sizeOf264
  v124 := Tryz.zeroValue264 }
open Go.RowKit Go.Lib in
theorem Tryz.strings_IndexAny_laid(s chars : ByteArray)(w : World)(hs : s.size < 4294967281)(hcs : chars.size < 4294967281)(has : ∀ (j : Nat) b, s.data.toList[j]? = some b → b.toNat < 128)(hac : ∀ (j : Nat) b, chars.data.toList[j]? = some b → b.toNat < 128) :
    Calls Tryz.prog 168 #[.string s, .string chars] w fun e w' => e = .returned (.int .i64 (Lib.indexAny s.data.toList chars.data.toList)) ∧ Below w.heap.size w w' := Any.strings_IndexAny_laid Tryz.lays153 (by kernel_rfl) s chars w hs hcs has hac
def Tryz.laysSlF06_f211_ren : Go.Shelf.Ren := ⟨fun | 6 => 211 | 15 => 231 | 14 => 230 | 28 => 247 | 29 => 224 | 20 => 239 | 21 => 240 | 22 => 241 | 23 => 242 | 24 => 243 | 25 => 244 | 26 => 245 | 27 => 246 | 46 => 249 | 47 => 250 | 48 => 251 | 49 => 252 | 50 => 253 | 57 => 254 | n => n, fun | 22 => 27 | 24 => 67 | 25 => 246 | 3 => 3 | 39 => 211 | 0 => 0 | 53 => 254 | 55 => 28 | 4 => 4 | 46 => 281 | 45 => 280 | 50 => 184 | 5 => 5 | 9 => 9 | 66 => 289 | 70 => 293 | 76 => 295 | 77 => 97 | n => n, fun | n => n⟩
theorem Tryz.laysSlF06_f211 : Go.Proofs.SlLaysF0.n6 Tryz.prog Tryz.laysSlF06_f211_ren := {
  mixed := by kernel_rfl
  f6 := ⟨Tryz.f211.name, by decide, Tryz.func211.trans (congrArg some (by kernel_rfl))⟩
  f14 := ⟨Tryz.f230.name, by decide, Tryz.func230.trans (congrArg some (by kernel_rfl))⟩
  f15 := Tryz.func231.trans (congrArg some (by kernel_rfl))
  f20 := ⟨Tryz.f239.name, by decide, Tryz.func239.trans (congrArg some (by kernel_rfl))⟩
  f21 := ⟨Tryz.f240.name, by decide, Tryz.func240.trans (congrArg some (by kernel_rfl))⟩
  f22 := ⟨Tryz.f241.name, by decide, Tryz.func241.trans (congrArg some (by kernel_rfl))⟩
  f23 := ⟨Tryz.f242.name, by decide, Tryz.func242.trans (congrArg some (by kernel_rfl))⟩
  f24 := ⟨Tryz.f243.name, by decide, Tryz.func243.trans (congrArg some (by kernel_rfl))⟩
  f25 := ⟨Tryz.f244.name, by decide, Tryz.func244.trans (congrArg some (by kernel_rfl))⟩
  f26 := ⟨Tryz.f245.name, by decide, Tryz.func245.trans (congrArg some (by kernel_rfl))⟩
  f27 := ⟨Tryz.f246.name, by decide, Tryz.func246.trans (congrArg some (by kernel_rfl))⟩
  f28 := Tryz.func247.trans (congrArg some (by kernel_rfl))
  f29 := Tryz.func224.trans (congrArg some (by kernel_rfl))
  f46 := ⟨Tryz.f249.name, by decide, Tryz.func249.trans (congrArg some (by kernel_rfl))⟩
  f47 := Tryz.func250.trans (congrArg some (by kernel_rfl))
  f48 := Tryz.func251.trans (congrArg some (by kernel_rfl))
  f49 := ⟨Tryz.f252.name, by decide, Tryz.func252.trans (congrArg some (by kernel_rfl))⟩
  f50 := ⟨Tryz.f253.name, by decide, Tryz.func253.trans (congrArg some (by kernel_rfl))⟩
  f57 := ⟨Tryz.f254.name, by decide, Tryz.func254.trans (congrArg some (by kernel_rfl))⟩
  t0 := Tryz.underlying0
  a0 := Tryz.isAgg0
  z0 := Tryz.sizeOf0
  v0 := Tryz.zeroValue0
  t3 := Tryz.underlying3
  a3 := Tryz.isAgg3
  z3 := Tryz.sizeOf3
  v3 := Tryz.zeroValue3
  t4 := Tryz.underlying4
  a4 := Tryz.isAgg4
  z4 := Tryz.sizeOf4
  v4 := Tryz.zeroValue4
  t5 := Tryz.underlying5
  a5 := Tryz.isAgg5
  z5 := Tryz.sizeOf5
  v5 := Tryz.zeroValue5
  t9 := Tryz.underlying9
  a9 := Tryz.isAgg9
  z9 := Tryz.sizeOf9
  v9 := Tryz.zeroValue9
  t22 := Tryz.underlying27
  a22 := Tryz.isAgg27
  z22 := Tryz.sizeOf27
  v22 := Tryz.zeroValue27
  t25 := Tryz.underlying246
  a25 := Tryz.isAgg246
  z25 := Tryz.sizeOf246
  v25 := Tryz.zeroValue246
  t39 := Tryz.underlying211
  a39 := Tryz.isAgg211
  z39 := Tryz.sizeOf211
  v39 := Tryz.zeroValue211
  t45 := Tryz.underlying280
  a45 := Tryz.isAgg280
  z45 := Tryz.sizeOf280
  v45 := Tryz.zeroValue280
  t46 := Tryz.underlying281
  a46 := Tryz.isAgg281
  z46 := Tryz.sizeOf281
  v46 := Tryz.zeroValue281
  t50 := Tryz.underlying184
  a50 := Tryz.isAgg184
  z50 := Tryz.sizeOf184
  v50 := Tryz.zeroValue184
  t53 := Tryz.underlying254
  a53 := Tryz.isAgg254
  z53 := Tryz.sizeOf254
  v53 := Tryz.zeroValue254
  t55 := Tryz.underlying28
  a55 := Tryz.isAgg28
  z55 := Tryz.sizeOf28
  v55 := Tryz.zeroValue28
  t66 := Tryz.underlying289
  a66 := Tryz.isAgg289
  z66 := Tryz.sizeOf289
  v66 := Tryz.zeroValue289
  t70 := Tryz.underlying293
  a70 := Tryz.isAgg293
  z70 := Tryz.sizeOf293
  v70 := Tryz.zeroValue293
  t76 := Tryz.underlying295
  a76 := Tryz.isAgg295
  z76 := Tryz.sizeOf295
  v76 := Tryz.zeroValue295
  t77 := Tryz.underlying97
  a77 := Tryz.isAgg97
  z77 := Tryz.sizeOf97
  v77 := Tryz.zeroValue97 }
open Go.RowKit Go.Lib Go.Sort in
theorem Tryz.slices_SortFunc_none{α : Type}[Inhabited α](p : Option Addr)(cap : Nat)(fv : Value)(w : World) :
    Calls Tryz.prog 211 #[.slice p 0 cap, fv] w fun e w' => e = .returned (.tuple #[]) ∧ w' = w := AnyF.slices_SortFunc_none Tryz.laysSlF06_f211 p cap fv w
open Go.RowKit Go.Lib Go.Sort in
theorem Tryz.slices_SortFunc_total{α : Type}[Inhabited α](k : Nat)(aE : ∀ w, (isAgg (Tryz.laysSlF06_f211_ren.t 24)).run Tryz.prog w = .ok true w)(zE : ∀ w, (Go.sizeOf (Tryz.laysSlF06_f211_ren.t 24)).run Tryz.prog w = .ok k w)(enc : α → List Value)(hk : ∀ x, (enc x).length = k)(h1 : ∀ x, ∀ v ∈ enc x, v.oneCell' = true)(cf : α → α → Int)(hO : SWO (ltOf cf))(g : Nat)(cb : Array Value)(blk off cap : Nat)(d : Array α)(w : World)(eg : ∀ args w, (callFunc g args).run Tryz.prog w = .ok (.enter g args) w)(hcmp : CmpLays Tryz.prog g cb enc k cf blk off d.size w)(hH : HoldsK enc k w blk off d)(hblk : blk < w.heap.size)(hsz : d.size < 4611686018427387904)(hT : ∀ x y, (ltOf cf) x y = false → (ltOf cf) y x = false → x = y) :
    Calls Tryz.prog 211 #[.slice (some ⟨blk, off, none⟩) d.size cap, .func (.func g) #[] cb] w fun e w' =>
      e = .returned (.tuple #[]) ∧ ∃ n os, w' = sortWorldK enc k w blk off n (d.toList.mergeSort fun x y => !(ltOf cf) y x).toArray os := AnyQ.slices_SortFunc_total Tryz.laysSlF06_f211 k aE zE enc hk h1 cf hO g cb blk off cap d w eg hcmp hH hblk hsz hT
end Go.Proofs
