/-
  DERIVED: THE SHELF's CONTRACTS AT THIS DUMP, IN PLAIN WORDS (tools/lay-plain.mjs out of 'TryzShelf.lean', which tools/lay-shelf.mjs wrote): THE SAME DECLARATIONS UNDER THE SAME NAMES: 'import', 'namespace', 'open', 'def', 'theorem' AND NOTHING ELSE: no command of the shelf's: FOR A HAND-IN. Each laying: the table of numbers ('.._ren') and one theorem, a field a fact of the dump's own or the kernel's comparison; each contract: ONE APPLICATION.
-/
import Derived.Shelf.Strings.Builder1
import Derived.Shelf.Strings.Builder2
import Derived.Shelf.Strings.OnBuilder
import Derived.Shelf.Small.Bits
import Derived.Shelf.Small.Strs
import Derived.Shelf.Small.Wraps
import Derived.Shelf.Strings.BuilderF
import Derived.Shelf.Strings.BuilderK
import Derived.Shelf.Utf8.RuneCount
import Derived.Shelf.Strings.Builder2Cap
import Derived.Shelf.Strconv.Atoi
import Derived.Shelf.Strconv.Itoa0
import Derived.Shelf.Strconv.Itoa1
import Derived.Shelf.LaysM
import Derived.Shelf.Strconv.Itoa2
import Derived.Shelf.Strconv.Itoa3
import Derived.Shelf.Strconv.AtoiErrFast
import Derived.Shelf.Strconv.ParseIntEmpty
import Derived.Shelf.Strconv.AtoiFail
import Derived.Shelf.Strconv.Clone
import Derived.Shelf.Strconv.SyntaxError
import Derived.Shelf.LaysC
import Derived.Shelf.Strconv.ToError
import Derived.Shelf.Strconv.AtoiErr
import Derived.Shelf.Strconv.Lower
import Derived.Shelf.Strconv.ParseUint10
import Derived.Shelf.Strconv.ParseUint10Empty
import Derived.Shelf.Strconv.ParseUint10Any
import Derived.Shelf.Strconv.ParseInt10
import Derived.Shelf.Strconv.AtoiLong
import Derived.Shelf.Strconv.AtoiInnerAll
import Derived.Shelf.Strconv.RangeError
import Derived.Shelf.Strconv.ToErrorRange
import Derived.Shelf.Strconv.AtoiAll
import Derived.Shelf.Strconv.ErrVarAll
import Derived.Shelf.Strconv.ParseUintEmpty
import Derived.Shelf.Strconv.ParseUint10b64
import Derived.Shelf.Strconv.ParseUint10b32
import Derived.Shelf.Strconv.ParseUint10b16
import Derived.Shelf.Strconv.ParseUint10b8
import Derived.Shelf.Strconv.ParseUint10At
import Derived.Shelf.Strconv.ParseInt10At64
import Derived.Shelf.Strconv.ParseInt10At32
import Derived.Shelf.Strconv.ParseInt10At16
import Derived.Shelf.Strconv.ParseInt10At8
import Derived.Shelf.Strconv.ParseInt10All
import Derived.Shelf.Strings.Search1
import Derived.Shelf.Strings.Search2
import Derived.Shelf.Strings.Search3
import Derived.Shelf.Strings.Cut
import Derived.Shelf.Strings.Count
import Derived.Shelf.Strings.Shaped
import Derived.Shelf.Sort.Plain
import Derived.Shelf.Strings.LastIndex
import Derived.Shelf.Strings.Prefix
import Derived.Shelf.Strings.Split
import Derived.Shelf.Strings.SplitShaped
import Derived.Shelf.Unicode.Decode
import Derived.Shelf.Strings.RuneCount
import Derived.Shelf.Strings.Explode
import Derived.Shelf.Bits.Mul64
import Derived.Shelf.Strings.Repeat
import Derived.Shelf.Unicode.DecodeSlow
import Derived.Shelf.Unicode.DecodeAny
import Derived.Shelf.Strings.BuilderCap
import Derived.Ground.Names2Prog
import Derived.Shelf.Slices.Clone
import Derived.Shelf.Slices.SearchI
import Derived.Shelf.Slices.In.SortNone
import Derived.Ground.SlgnProg
import Derived.Shelf.SlicesE.Equal
import Derived.Shelf.SlicesE.Clone
import Derived.Ground.SlgfProg
import Derived.Shelf.SlicesE.IndexFunc
import Derived.Ground.SlsfProg
import Derived.Shelf.SlSortCmp.InsertionK
import Derived.Shelf.SlSortCmp.SiftDownK
import Derived.Shelf.SlSortCmp.HeapSortK
import Derived.Shelf.SlSortCmp.MedianK
import Derived.Shelf.SlSortCmp.PivotK
import Derived.Shelf.SlSortCmp.ReverseRangeK
import Derived.Shelf.SlSortCmp.PartialInsertionK
import Derived.Shelf.SlSortCmp.PartitionEqualK
import Derived.Shelf.SlSortCmp.PartitionK
import Derived.Shelf.SlSortCmp.PdqK
import Derived.Shelf.SlSortCmp.WholeK
import Derived.Shelf.SlSortCmp.NoneTotal
import Derived.Test.YtpdhckbiioobhaaGreatDoorProg
namespace Go.Proofs
open Go.Shelf
def Tryz.lays156_ren : Go.Shelf.Ren := ⟨fun | 156 => 205 | 165 => 153 | 166 => 110 | 169 => 111 | 240 => 163 | 241 => 202 | 276 => 206 | 277 => 243 | n => n, fun | 31 => 36 | 9 => 9 | 3 => 3 | 4 => 4 | 0 => 0 | 20 => 20 | 72 => 121 | 76 => 122 | 70 => 119 | 37 => 35 | 75 => 111 | 127 => 161 | 164 => 192 | 5 => 5 | 80 => 124 | n => n, fun | n => n⟩
theorem Tryz.lays156 : Go.Proofs.Lays.n156 Tryz.prog Tryz.lays156_ren := {
  mixed := by kernel_rfl
  f156 := Tryz.func205.trans (congrArg some (by kernel_rfl))
  f165 := Tryz.func153.trans (congrArg some (by kernel_rfl))
  f166 := Tryz.func110.trans (congrArg some (by kernel_rfl))
  f169 := Tryz.func111.trans (congrArg some (by kernel_rfl))
  f240 := Tryz.func163.trans (congrArg some (by kernel_rfl))
  f241 := Tryz.func202.trans (congrArg some (by kernel_rfl))
  f276 := Tryz.func206.trans (congrArg some (by kernel_rfl))
  f277 := Tryz.func243.trans (congrArg some (by kernel_rfl))
  t0 := Tryz.underlying0
  a0 := Tryz.isAgg0
  z0 := Tryz.sizeOf0
  v0 := Tryz.zeroValue0
  t3 := Tryz.underlying3
  a3 := Tryz.isAgg3
  z3 := Tryz.sizeOf3
  v3 := Tryz.zeroValue3
  t4 := Tryz.underlying4
  a4 := Tryz.isAgg4
  z4 := Tryz.sizeOf4
  v4 := Tryz.zeroValue4
  t9 := Tryz.underlying9
  a9 := Tryz.isAgg9
  z9 := Tryz.sizeOf9
  v9 := Tryz.zeroValue9
  t20 := Tryz.underlying20
  a20 := Tryz.isAgg20
  z20 := Tryz.sizeOf20
  v20 := Tryz.zeroValue20
  t31 := Tryz.underlying36
  a31 := Tryz.isAgg36
  z31 := Tryz.sizeOf36
  v31 := Tryz.zeroValue36
  t37 := Tryz.underlying35
  a37 := Tryz.isAgg35
  z37 := Tryz.sizeOf35
  v37 := Tryz.zeroValue35
  t70 := Tryz.underlying119
  a70 := Tryz.isAgg119
  z70 := Tryz.sizeOf119
  v70 := Tryz.zeroValue119
  t72 := Tryz.underlying121
  a72 := Tryz.isAgg121
  z72 := Tryz.sizeOf121
  v72 := Tryz.zeroValue121
  t75 := Tryz.underlying111
  a75 := Tryz.isAgg111
  z75 := Tryz.sizeOf111
  v75 := Tryz.zeroValue111
  t76 := Tryz.underlying122
  a76 := Tryz.isAgg122
  z76 := Tryz.sizeOf122
  v76 := Tryz.zeroValue122
  t127 := Tryz.underlying161
  a127 := Tryz.isAgg161
  z127 := Tryz.sizeOf161
  v127 := Tryz.zeroValue161
  t164 := Tryz.underlying192
  a164 := Tryz.isAgg192
  z164 := Tryz.sizeOf192
  v164 := Tryz.zeroValue192 }
theorem Tryz.Builder_Extra_156 : Builder.Extra Tryz.prog Tryz.lays156_ren := {
  sizeBuilder := by kernel_rfl
  liesBuilder := by kernel_rfl
  t5 := Tryz.underlying5
  a5 := Tryz.isAgg5
  z5 := Tryz.sizeOf5
  v5 := Tryz.zeroValue5
  infoByte := by kernel_rfl
  cellsByte := by kernel_rfl
  sizeByte := by kernel_rfl
  neB5 := by decide }
open Go.RowKit in
theorem Tryz.strings_Join_none (a : Option Addr) (c : Nat) (sep : ByteArray) (w : World) :
    Calls Tryz.prog 205 #[.slice a 0 c, .string sep] w fun e w' => e = .returned (.string ⟨#[]⟩) ∧ w' = w := Any.strings_Join_none Tryz.lays156 Tryz.Builder_Extra_156 a c sep w
open Go.RowKit in
theorem Tryz.strings_Join (bk o c : Nat) (xs : List ByteArray) (sep : ByteArray) (w : World) (hcells : ∀ (j : Nat) x, xs[j]? = some x → w.cell? ⟨bk, o + j, none⟩ = some (.string x)) (hbk : bk < w.heap.size) (hN : xs.length ≤ 140737488355328) (hcap : xs.length ≤ c) (hlen : (Lib.join (xs.map (·.data.toList)) sep.data.toList).length ≤ 140737488355328) :
    Calls Tryz.prog 205 #[.slice (some ⟨bk, o, none⟩) xs.length c, .string sep] w fun e w' => e = .returned (.string ⟨(Lib.join (xs.map (·.data.toList)) sep.data.toList).toArray⟩) ∧ Below w.heap.size w w' := Any.strings_Join Tryz.lays156 Tryz.Builder_Extra_156 bk o c xs sep w hcells hbk hN hcap hlen
def Tryz.lays137_ren : Go.Shelf.Ren := ⟨fun | 137 => 193 | 217 => 238 | 266 => 257 | n => n, fun | 9 => 9 | 5 => 5 | 3 => 3 | n => n, fun | n => n⟩
theorem Tryz.lays137 : Go.Proofs.Lays.n137 Tryz.prog Tryz.lays137_ren := {
  mixed := by kernel_rfl
  f137 := Tryz.func193.trans (congrArg some (by kernel_rfl))
  f217 := Tryz.func238.trans (congrArg some (by kernel_rfl))
  f266 := Tryz.func257.trans (congrArg some (by kernel_rfl))
  t3 := Tryz.underlying3
  a3 := Tryz.isAgg3
  z3 := Tryz.sizeOf3
  v3 := Tryz.zeroValue3
  t5 := Tryz.underlying5
  a5 := Tryz.isAgg5
  z5 := Tryz.sizeOf5
  v5 := Tryz.zeroValue5
  t9 := Tryz.underlying9
  a9 := Tryz.isAgg9
  z9 := Tryz.sizeOf9
  v9 := Tryz.zeroValue9 }
open Go.RowKit in
theorem Tryz.strings_IndexByte (s : ByteArray) (c : Int) (w : World) :
    Calls Tryz.prog 193 #[.string s, .int .u8 c] w fun e w' => e = .returned (.int .i64 (Lib.indexByte s.data.toList c.toNat.toUInt8)) ∧ w' = w := Any.strings_IndexByte Tryz.lays137 s c w
def Tryz.lays103_ren : Go.Shelf.Ren := ⟨fun | 103 => 127 | 210 => 173 | 206 => 184 | n => n, fun | 9 => 9 | 4 => 4 | 24 => 135 | 3 => 3 | n => n, fun | n => n⟩
theorem Tryz.lays103 : Go.Proofs.Lays.n103 Tryz.prog Tryz.lays103_ren := {
  mixed := by kernel_rfl
  f103 := Tryz.func127.trans (congrArg some (by kernel_rfl))
  f206 := Tryz.func184.trans (congrArg some (by kernel_rfl))
  f210 := Tryz.func173.trans (congrArg some (by kernel_rfl))
  t3 := Tryz.underlying3
  a3 := Tryz.isAgg3
  z3 := Tryz.sizeOf3
  v3 := Tryz.zeroValue3
  t4 := Tryz.underlying4
  a4 := Tryz.isAgg4
  z4 := Tryz.sizeOf4
  v4 := Tryz.zeroValue4
  t9 := Tryz.underlying9
  a9 := Tryz.isAgg9
  z9 := Tryz.sizeOf9
  v9 := Tryz.zeroValue9
  t24 := Tryz.underlying135
  a24 := Tryz.isAgg135
  z24 := Tryz.sizeOf135
  v24 := Tryz.zeroValue135 }
open Go.RowKit in
theorem Tryz.strings_CutPrefix (s p : ByteArray) (w : World) :
    Calls Tryz.prog 127 #[.string s, .string p] w fun e w' => e = .returned (.tuple #[.string ⟨(Lib.trimPrefix s.data.toList p.data.toList).toArray⟩, .bool (Lib.hasPrefix s.data.toList p.data.toList)]) ∧ w' = w := Any.strings_CutPrefix Tryz.lays103 s p w
def Tryz.lays172_ren : Go.Shelf.Ren := ⟨fun | 172 => 143 | 244 => 186 | 245 => 146 | 247 => 235 | 279 => 189 | 280 => 190 | 281 => 191 | 282 => 192 | 287 => 145 | 316 => 236 | 171 => 74 | 205 => 237 | 321 => 187 | 322 => 188 | 243 => 123 | 246 => 168 | 283 => 196 | 284 => 197 | 285 => 198 | 286 => 199 | 129 => 226 | 317 => 239 | 318 => 240 | 319 => 241 | 320 => 242 | 337 => 258 | 338 => 259 | n => n, fun | 9 => 9 | 3 => 3 | 75 => 111 | 76 => 122 | 4 => 4 | 5 => 5 | 167 => 174 | 37 => 35 | 0 => 0 | 85 => 212 | 2 => 2 | 168 => 176 | 53 => 59 | 175 => 112 | 46 => 132 | 210 => 215 | 127 => 161 | 145 => 231 | 143 => 229 | 21 => 21 | 171 => 180 | 173 => 183 | 212 => 217 | 51 => 185 | 20 => 20 | 213 => 218 | 232 => 241 | 233 => 242 | 80 => 124 | n => n, fun | 15 => 1 | 16 => 2 | 17 => 3 | 18 => 6 | 19 => 7 | n => n⟩
theorem Tryz.lays172 : Go.Proofs.Lays.n172 Tryz.prog Tryz.lays172_ren := {
  mixed := by kernel_rfl
  f129 := Tryz.func226.trans (congrArg some (by kernel_rfl))
  f171 := Tryz.func74.trans (congrArg some (by kernel_rfl))
  f172 := Tryz.func143.trans (congrArg some (by kernel_rfl))
  f205 := Tryz.func237.trans (congrArg some (by kernel_rfl))
  f243 := Tryz.func123.trans (congrArg some (by kernel_rfl))
  f244 := Tryz.func186.trans (congrArg some (by kernel_rfl))
  f245 := Tryz.func146.trans (congrArg some (by kernel_rfl))
  f246 := Tryz.func168.trans (congrArg some (by kernel_rfl))
  f247 := Tryz.func235.trans (congrArg some (by kernel_rfl))
  f279 := Tryz.func189.trans (congrArg some (by kernel_rfl))
  f280 := Tryz.func190.trans (congrArg some (by kernel_rfl))
  f281 := Tryz.func191.trans (congrArg some (by kernel_rfl))
  f282 := Tryz.func192.trans (congrArg some (by kernel_rfl))
  f283 := Tryz.func196.trans (congrArg some (by kernel_rfl))
  f284 := Tryz.func197.trans (congrArg some (by kernel_rfl))
  f285 := Tryz.func198.trans (congrArg some (by kernel_rfl))
  f286 := Tryz.func199.trans (congrArg some (by kernel_rfl))
  f287 := Tryz.func145.trans (congrArg some (by kernel_rfl))
  f316 := Tryz.func236.trans (congrArg some (by kernel_rfl))
  f317 := Tryz.func239.trans (congrArg some (by kernel_rfl))
  f318 := Tryz.func240.trans (congrArg some (by kernel_rfl))
  f319 := Tryz.func241.trans (congrArg some (by kernel_rfl))
  f320 := Tryz.func242.trans (congrArg some (by kernel_rfl))
  f321 := Tryz.func187.trans (congrArg some (by kernel_rfl))
  f322 := Tryz.func188.trans (congrArg some (by kernel_rfl))
  f337 := Tryz.func258.trans (congrArg some (by kernel_rfl))
  f338 := Tryz.func259.trans (congrArg some (by kernel_rfl))
  t0 := Tryz.underlying0
  a0 := Tryz.isAgg0
  z0 := Tryz.sizeOf0
  v0 := Tryz.zeroValue0
  t2 := Tryz.underlying2
  a2 := Tryz.isAgg2
  z2 := Tryz.sizeOf2
  v2 := Tryz.zeroValue2
  t3 := Tryz.underlying3
  a3 := Tryz.isAgg3
  z3 := Tryz.sizeOf3
  v3 := Tryz.zeroValue3
  t4 := Tryz.underlying4
  a4 := Tryz.isAgg4
  z4 := Tryz.sizeOf4
  v4 := Tryz.zeroValue4
  t5 := Tryz.underlying5
  a5 := Tryz.isAgg5
  z5 := Tryz.sizeOf5
  v5 := Tryz.zeroValue5
  t9 := Tryz.underlying9
  a9 := Tryz.isAgg9
  z9 := Tryz.sizeOf9
  v9 := Tryz.zeroValue9
  t20 := Tryz.underlying20
  a20 := Tryz.isAgg20
  z20 := Tryz.sizeOf20
  v20 := Tryz.zeroValue20
  t21 := Tryz.underlying21
  a21 := Tryz.isAgg21
  z21 := Tryz.sizeOf21
  v21 := Tryz.zeroValue21
  t37 := Tryz.underlying35
  a37 := Tryz.isAgg35
  z37 := Tryz.sizeOf35
  v37 := Tryz.zeroValue35
  t46 := Tryz.underlying132
  a46 := Tryz.isAgg132
  z46 := Tryz.sizeOf132
  v46 := Tryz.zeroValue132
  t51 := Tryz.underlying185
  a51 := Tryz.isAgg185
  z51 := Tryz.sizeOf185
  v51 := Tryz.zeroValue185
  t53 := Tryz.underlying59
  a53 := Tryz.isAgg59
  z53 := Tryz.sizeOf59
  v53 := Tryz.zeroValue59
  t75 := Tryz.underlying111
  a75 := Tryz.isAgg111
  z75 := Tryz.sizeOf111
  v75 := Tryz.zeroValue111
  t76 := Tryz.underlying122
  a76 := Tryz.isAgg122
  z76 := Tryz.sizeOf122
  v76 := Tryz.zeroValue122
  t85 := Tryz.underlying212
  a85 := Tryz.isAgg212
  z85 := Tryz.sizeOf212
  v85 := Tryz.zeroValue212
  t127 := Tryz.underlying161
  a127 := Tryz.isAgg161
  z127 := Tryz.sizeOf161
  v127 := Tryz.zeroValue161
  t143 := Tryz.underlying229
  a143 := Tryz.isAgg229
  z143 := Tryz.sizeOf229
  v143 := Tryz.zeroValue229
  t145 := Tryz.underlying231
  a145 := Tryz.isAgg231
  z145 := Tryz.sizeOf231
  v145 := Tryz.zeroValue231
  t167 := Tryz.underlying174
  a167 := Tryz.isAgg174
  z167 := Tryz.sizeOf174
  v167 := Tryz.zeroValue174
  t168 := Tryz.underlying176
  a168 := Tryz.isAgg176
  z168 := Tryz.sizeOf176
  v168 := Tryz.zeroValue176
  t171 := Tryz.underlying180
  a171 := Tryz.isAgg180
  z171 := Tryz.sizeOf180
  v171 := Tryz.zeroValue180
  t173 := Tryz.underlying183
  a173 := Tryz.isAgg183
  z173 := Tryz.sizeOf183
  v173 := Tryz.zeroValue183
  t175 := Tryz.underlying112
  a175 := Tryz.isAgg112
  z175 := Tryz.sizeOf112
  v175 := Tryz.zeroValue112
  t210 := Tryz.underlying215
  a210 := Tryz.isAgg215
  z210 := Tryz.sizeOf215
  v210 := Tryz.zeroValue215
  t212 := Tryz.underlying217
  a212 := Tryz.isAgg217
  z212 := Tryz.sizeOf217
  v212 := Tryz.zeroValue217
  t213 := Tryz.underlying218
  a213 := Tryz.isAgg218
  z213 := Tryz.sizeOf218
  t232 := Tryz.underlying241
  a232 := Tryz.isAgg241
  z232 := Tryz.sizeOf241
  v232 := Tryz.zeroValue241
  t233 := Tryz.underlying242
  a233 := Tryz.isAgg242
  z233 := Tryz.sizeOf242
  v233 := Tryz.zeroValue242
  g15 := by kernel_rfl
  g16 := by kernel_rfl
  g17 := by kernel_rfl
  g18 := by kernel_rfl
  g19 := by kernel_rfl }
open Go.RowKit in
theorem Tryz.strconv_Atoi (s : ByteArray) (n : Int) (hl : s.size ≤ 18) (h : Lib.atoi s.data.toList = some n) (w : World) :
    Calls Tryz.prog 143 #[.string s] w fun e w' => e = .returned (.tuple #[.int .i64 n, .nilIface]) ∧ ∃ t, w' = Lib.bytesWorld w 5 t := Any.strconv_Atoi Tryz.lays172 s n hl h w
def Tryz.laysM171_ren : Go.Shelf.Ren := ⟨fun | 171 => 74 | 243 => 123 | 246 => 168 | 283 => 196 | 284 => 197 | 285 => 198 | 286 => 199 | 129 => 226 | 317 => 239 | 318 => 240 | 319 => 241 | 320 => 242 | 337 => 258 | 338 => 259 | n => n, fun | 3 => 3 | 9 => 9 | 2 => 2 | 4 => 4 | 171 => 180 | 0 => 0 | 53 => 59 | 37 => 35 | 5 => 5 | 173 => 183 | 212 => 217 | 51 => 185 | 20 => 20 | 213 => 218 | 46 => 132 | 232 => 241 | 233 => 242 | n => n, fun | 17 => 3 | 18 => 6 | 19 => 7 | n => n⟩
theorem Tryz.laysM171 : Go.Proofs.LaysM.n171 Tryz.prog Tryz.laysM171_ren := {
  mixed := by kernel_rfl
  f129 := Tryz.func226.trans (congrArg some (by kernel_rfl))
  f171 := Tryz.func74.trans (congrArg some (by kernel_rfl))
  f243 := Tryz.func123.trans (congrArg some (by kernel_rfl))
  f246 := Tryz.func168.trans (congrArg some (by kernel_rfl))
  f283 := Tryz.func196.trans (congrArg some (by kernel_rfl))
  f284 := Tryz.func197.trans (congrArg some (by kernel_rfl))
  f285 := Tryz.func198.trans (congrArg some (by kernel_rfl))
  f286 := Tryz.func199.trans (congrArg some (by kernel_rfl))
  f317 := Tryz.func239.trans (congrArg some (by kernel_rfl))
  f318 := Tryz.func240.trans (congrArg some (by kernel_rfl))
  f319 := Tryz.func241.trans (congrArg some (by kernel_rfl))
  f320 := Tryz.func242.trans (congrArg some (by kernel_rfl))
  f337 := Tryz.func258.trans (congrArg some (by kernel_rfl))
  f338 := Tryz.func259.trans (congrArg some (by kernel_rfl))
  t0 := Tryz.underlying0
  a0 := Tryz.isAgg0
  z0 := Tryz.sizeOf0
  v0 := Tryz.zeroValue0
  t2 := Tryz.underlying2
  a2 := Tryz.isAgg2
  z2 := Tryz.sizeOf2
  v2 := Tryz.zeroValue2
  t3 := Tryz.underlying3
  a3 := Tryz.isAgg3
  z3 := Tryz.sizeOf3
  v3 := Tryz.zeroValue3
  t4 := Tryz.underlying4
  a4 := Tryz.isAgg4
  z4 := Tryz.sizeOf4
  v4 := Tryz.zeroValue4
  t5 := Tryz.underlying5
  a5 := Tryz.isAgg5
  z5 := Tryz.sizeOf5
  v5 := Tryz.zeroValue5
  t9 := Tryz.underlying9
  a9 := Tryz.isAgg9
  z9 := Tryz.sizeOf9
  v9 := Tryz.zeroValue9
  t20 := Tryz.underlying20
  a20 := Tryz.isAgg20
  z20 := Tryz.sizeOf20
  v20 := Tryz.zeroValue20
  t37 := Tryz.underlying35
  a37 := Tryz.isAgg35
  z37 := Tryz.sizeOf35
  v37 := Tryz.zeroValue35
  t46 := Tryz.underlying132
  a46 := Tryz.isAgg132
  z46 := Tryz.sizeOf132
  v46 := Tryz.zeroValue132
  t51 := Tryz.underlying185
  a51 := Tryz.isAgg185
  z51 := Tryz.sizeOf185
  v51 := Tryz.zeroValue185
  t53 := Tryz.underlying59
  a53 := Tryz.isAgg59
  z53 := Tryz.sizeOf59
  v53 := Tryz.zeroValue59
  t171 := Tryz.underlying180
  a171 := Tryz.isAgg180
  z171 := Tryz.sizeOf180
  v171 := Tryz.zeroValue180
  t173 := Tryz.underlying183
  a173 := Tryz.isAgg183
  z173 := Tryz.sizeOf183
  v173 := Tryz.zeroValue183
  t212 := Tryz.underlying217
  a212 := Tryz.isAgg217
  z212 := Tryz.sizeOf217
  v212 := Tryz.zeroValue217
  t213 := Tryz.underlying218
  a213 := Tryz.isAgg218
  z213 := Tryz.sizeOf218
  t232 := Tryz.underlying241
  a232 := Tryz.isAgg241
  z232 := Tryz.sizeOf241
  v232 := Tryz.zeroValue241
  t233 := Tryz.underlying242
  a233 := Tryz.isAgg242
  z233 := Tryz.sizeOf242
  v233 := Tryz.zeroValue242
  g17 := by kernel_rfl
  g18 := by kernel_rfl
  g19 := by kernel_rfl
  i0 := by kernel_rfl
  i2 := by kernel_rfl
  i3 := by kernel_rfl
  i4 := by kernel_rfl
  i5 := by kernel_rfl
  i9 := by kernel_rfl
  i20 := by kernel_rfl
  i37 := by kernel_rfl
  i46 := by kernel_rfl
  i51 := by kernel_rfl
  i53 := by kernel_rfl
  i171 := by kernel_rfl
  i173 := by kernel_rfl
  i212 := by kernel_rfl
  i232 := by kernel_rfl
  i233 := by kernel_rfl
  m17 := by kernel_rfl
  m18 := by kernel_rfl
  m19 := by kernel_rfl }
open Go.RowKit Go.Sort Go.Lib in
theorem Tryz.strconv_Itoa (n : Int) (h0 : -9223372036854775808 ≤ n) (h1 : n ≤ 9223372036854775807) (w : World) (htab : Lib.TabIs Tryz.prog w "internal/strconv.uint64pow10" .u64 Lib.pow10Tab) :
    Calls Tryz.prog 74 #[.int .i64 n] w fun e w' => e = .returned (.string ⟨(Lib.itoa n).toArray⟩) ∧ ∃ k os, w' = grow (w.drewN k) os := Any.strconv_Itoa Tryz.laysM171 n h0 h1 w htab
def Tryz.lays171_ren : Go.Shelf.Ren := ⟨fun | 171 => 74 | 243 => 123 | 246 => 168 | 283 => 196 | 284 => 197 | 285 => 198 | 286 => 199 | 129 => 226 | 317 => 239 | 318 => 240 | 319 => 241 | 320 => 242 | 337 => 258 | 338 => 259 | n => n, fun | 3 => 3 | 9 => 9 | 2 => 2 | 4 => 4 | 171 => 180 | 0 => 0 | 53 => 59 | 37 => 35 | 5 => 5 | 173 => 183 | 212 => 217 | 51 => 185 | 20 => 20 | 213 => 218 | 46 => 132 | 232 => 241 | 233 => 242 | n => n, fun | 17 => 3 | 18 => 6 | 19 => 7 | n => n⟩
theorem Tryz.lays171 : Go.Proofs.Lays.n171 Tryz.prog Tryz.lays171_ren := {
  mixed := by kernel_rfl
  f129 := Tryz.func226.trans (congrArg some (by kernel_rfl))
  f171 := Tryz.func74.trans (congrArg some (by kernel_rfl))
  f243 := Tryz.func123.trans (congrArg some (by kernel_rfl))
  f246 := Tryz.func168.trans (congrArg some (by kernel_rfl))
  f283 := Tryz.func196.trans (congrArg some (by kernel_rfl))
  f284 := Tryz.func197.trans (congrArg some (by kernel_rfl))
  f285 := Tryz.func198.trans (congrArg some (by kernel_rfl))
  f286 := Tryz.func199.trans (congrArg some (by kernel_rfl))
  f317 := Tryz.func239.trans (congrArg some (by kernel_rfl))
  f318 := Tryz.func240.trans (congrArg some (by kernel_rfl))
  f319 := Tryz.func241.trans (congrArg some (by kernel_rfl))
  f320 := Tryz.func242.trans (congrArg some (by kernel_rfl))
  f337 := Tryz.func258.trans (congrArg some (by kernel_rfl))
  f338 := Tryz.func259.trans (congrArg some (by kernel_rfl))
  t0 := Tryz.underlying0
  a0 := Tryz.isAgg0
  z0 := Tryz.sizeOf0
  v0 := Tryz.zeroValue0
  t2 := Tryz.underlying2
  a2 := Tryz.isAgg2
  z2 := Tryz.sizeOf2
  v2 := Tryz.zeroValue2
  t3 := Tryz.underlying3
  a3 := Tryz.isAgg3
  z3 := Tryz.sizeOf3
  v3 := Tryz.zeroValue3
  t4 := Tryz.underlying4
  a4 := Tryz.isAgg4
  z4 := Tryz.sizeOf4
  v4 := Tryz.zeroValue4
  t5 := Tryz.underlying5
  a5 := Tryz.isAgg5
  z5 := Tryz.sizeOf5
  v5 := Tryz.zeroValue5
  t9 := Tryz.underlying9
  a9 := Tryz.isAgg9
  z9 := Tryz.sizeOf9
  v9 := Tryz.zeroValue9
  t20 := Tryz.underlying20
  a20 := Tryz.isAgg20
  z20 := Tryz.sizeOf20
  v20 := Tryz.zeroValue20
  t37 := Tryz.underlying35
  a37 := Tryz.isAgg35
  z37 := Tryz.sizeOf35
  v37 := Tryz.zeroValue35
  t46 := Tryz.underlying132
  a46 := Tryz.isAgg132
  z46 := Tryz.sizeOf132
  v46 := Tryz.zeroValue132
  t51 := Tryz.underlying185
  a51 := Tryz.isAgg185
  z51 := Tryz.sizeOf185
  v51 := Tryz.zeroValue185
  t53 := Tryz.underlying59
  a53 := Tryz.isAgg59
  z53 := Tryz.sizeOf59
  v53 := Tryz.zeroValue59
  t171 := Tryz.underlying180
  a171 := Tryz.isAgg180
  z171 := Tryz.sizeOf180
  v171 := Tryz.zeroValue180
  t173 := Tryz.underlying183
  a173 := Tryz.isAgg183
  z173 := Tryz.sizeOf183
  v173 := Tryz.zeroValue183
  t212 := Tryz.underlying217
  a212 := Tryz.isAgg217
  z212 := Tryz.sizeOf217
  v212 := Tryz.zeroValue217
  t213 := Tryz.underlying218
  a213 := Tryz.isAgg218
  z213 := Tryz.sizeOf218
  t232 := Tryz.underlying241
  a232 := Tryz.isAgg241
  z232 := Tryz.sizeOf241
  v232 := Tryz.zeroValue241
  t233 := Tryz.underlying242
  a233 := Tryz.isAgg242
  z233 := Tryz.sizeOf242
  v233 := Tryz.zeroValue242
  g17 := by kernel_rfl
  g18 := by kernel_rfl
  g19 := by kernel_rfl }
open Go.RowKit Go.Sort Go.Lib in
theorem Tryz.strconv_Itoa_small (i : Nat) (hi : i < 100) (w : World) :
    Calls Tryz.prog 74 #[.int .i64 i] w fun e w' => e = .returned (.string ⟨(Lib.decDigits i).toArray⟩) ∧ w' = w := Any.strconv_Itoa_small Tryz.lays171 i hi w
def Tryz.lays217_ren : Go.Shelf.Ren := ⟨fun | 217 => 238 | 266 => 257 | n => n, fun | 9 => 9 | 5 => 5 | 3 => 3 | n => n, fun | n => n⟩
theorem Tryz.lays217 : Go.Proofs.Lays.n217 Tryz.prog Tryz.lays217_ren := {
  mixed := by kernel_rfl
  f217 := Tryz.func238.trans (congrArg some (by kernel_rfl))
  f266 := Tryz.func257.trans (congrArg some (by kernel_rfl))
  t3 := Tryz.underlying3
  a3 := Tryz.isAgg3
  z3 := Tryz.sizeOf3
  v3 := Tryz.zeroValue3
  t5 := Tryz.underlying5
  a5 := Tryz.isAgg5
  z5 := Tryz.sizeOf5
  v5 := Tryz.zeroValue5
  t9 := Tryz.underlying9
  a9 := Tryz.isAgg9
  z9 := Tryz.sizeOf9
  v9 := Tryz.zeroValue9 }
open Go.RowKit Go.Lib in
theorem Tryz.stringslite_IndexByte (s : ByteArray) (c : Int) (w : World) :
    Calls Tryz.prog 238 #[.string s, .int .u8 c] w fun e w' => e = .returned (.int .i64 (Lib.indexByte s.data.toList c.toNat.toUInt8)) ∧ w' = w := Any.stringslite_IndexByte Tryz.lays217 s c w
def Tryz.lays219_ren : Go.Shelf.Ren := ⟨fun | 219 => 211 | 217 => 238 | 225 => 245 | 224 => 246 | 267 => 247 | 266 => 257 | 314 => 260 | n => n, fun | 9 => 9 | 3 => 3 | 4 => 4 | 5 => 5 | 46 => 132 | 146 => 186 | 51 => 185 | n => n, fun | 1 => 0 | n => n⟩
theorem Tryz.lays219 : Go.Proofs.Lays.n219 Tryz.prog Tryz.lays219_ren := {
  mixed := by kernel_rfl
  f217 := Tryz.func238.trans (congrArg some (by kernel_rfl))
  f219 := Tryz.func211.trans (congrArg some (by kernel_rfl))
  f224 := Tryz.func246.trans (congrArg some (by kernel_rfl))
  f225 := Tryz.func245.trans (congrArg some (by kernel_rfl))
  f266 := Tryz.func257.trans (congrArg some (by kernel_rfl))
  f267 := Tryz.func247.trans (congrArg some (by kernel_rfl))
  f314 := Tryz.func260.trans (congrArg some (by kernel_rfl))
  t3 := Tryz.underlying3
  a3 := Tryz.isAgg3
  z3 := Tryz.sizeOf3
  v3 := Tryz.zeroValue3
  t4 := Tryz.underlying4
  a4 := Tryz.isAgg4
  z4 := Tryz.sizeOf4
  v4 := Tryz.zeroValue4
  t5 := Tryz.underlying5
  a5 := Tryz.isAgg5
  z5 := Tryz.sizeOf5
  v5 := Tryz.zeroValue5
  t9 := Tryz.underlying9
  a9 := Tryz.isAgg9
  z9 := Tryz.sizeOf9
  v9 := Tryz.zeroValue9
  t46 := Tryz.underlying132
  a46 := Tryz.isAgg132
  z46 := Tryz.sizeOf132
  v46 := Tryz.zeroValue132
  t51 := Tryz.underlying185
  a51 := Tryz.isAgg185
  z51 := Tryz.sizeOf185
  v51 := Tryz.zeroValue185
  t146 := Tryz.underlying186
  a146 := Tryz.isAgg186
  z146 := Tryz.sizeOf186
  v146 := Tryz.zeroValue186
  g1 := by kernel_rfl }
open Go.RowKit Go.Lib in
theorem Tryz.stringslite_Index_one (s : ByteArray) (c : UInt8) (w : World) :
    Calls Tryz.prog 211 #[.string s, .string ⟨#[c]⟩] w fun e w' => e = .returned (.int .i64 (Lib.indexByte s.data.toList c)) ∧ w' = w := Any.stringslite_Index_one Tryz.lays219 s c w
def Tryz.lays189_ren : Go.Shelf.Ren := ⟨fun | 189 => 137 | 125 => 182 | 257 => 181 | 128 => 225 | 129 => 226 | 294 => 216 | 295 => 217 | 296 => 218 | 297 => 219 | 298 => 220 | 299 => 221 | 216 => 222 | 300 => 223 | 301 => 224 | 328 => 249 | 329 => 250 | 330 => 251 | 331 => 252 | 332 => 253 | 215 => 140 | 343 => 261 | n => n, fun | 28 => 22 | 3 => 3 | 46 => 132 | 0 => 0 | 51 => 185 | 53 => 59 | 4 => 4 | 183 => 201 | 182 => 200 | 131 => 149 | 5 => 5 | 9 => 9 | 218 => 221 | 222 => 225 | 228 => 237 | 229 => 238 | n => n, fun | n => n⟩
theorem Tryz.lays189 : Go.Proofs.Lays.n189 Tryz.prog Tryz.lays189_ren := {
  mixed := by kernel_rfl
  f125 := Tryz.func182.trans (congrArg some (by kernel_rfl))
  f128 := Tryz.func225.trans (congrArg some (by kernel_rfl))
  f129 := Tryz.func226.trans (congrArg some (by kernel_rfl))
  f189 := Tryz.func137.trans (congrArg some (by kernel_rfl))
  f215 := Tryz.func140.trans (congrArg some (by kernel_rfl))
  f216 := Tryz.func222.trans (congrArg some (by kernel_rfl))
  f257 := Tryz.func181.trans (congrArg some (by kernel_rfl))
  f294 := Tryz.func216.trans (congrArg some (by kernel_rfl))
  f295 := Tryz.func217.trans (congrArg some (by kernel_rfl))
  f296 := Tryz.func218.trans (congrArg some (by kernel_rfl))
  f297 := Tryz.func219.trans (congrArg some (by kernel_rfl))
  f298 := Tryz.func220.trans (congrArg some (by kernel_rfl))
  f299 := Tryz.func221.trans (congrArg some (by kernel_rfl))
  f300 := Tryz.func223.trans (congrArg some (by kernel_rfl))
  f301 := Tryz.func224.trans (congrArg some (by kernel_rfl))
  f328 := Tryz.func249.trans (congrArg some (by kernel_rfl))
  f329 := Tryz.func250.trans (congrArg some (by kernel_rfl))
  f330 := Tryz.func251.trans (congrArg some (by kernel_rfl))
  f331 := Tryz.func252.trans (congrArg some (by kernel_rfl))
  f332 := Tryz.func253.trans (congrArg some (by kernel_rfl))
  f343 := Tryz.func261.trans (congrArg some (by kernel_rfl))
  t0 := Tryz.underlying0
  a0 := Tryz.isAgg0
  z0 := Tryz.sizeOf0
  v0 := Tryz.zeroValue0
  t3 := Tryz.underlying3
  a3 := Tryz.isAgg3
  z3 := Tryz.sizeOf3
  v3 := Tryz.zeroValue3
  t4 := Tryz.underlying4
  a4 := Tryz.isAgg4
  z4 := Tryz.sizeOf4
  v4 := Tryz.zeroValue4
  t5 := Tryz.underlying5
  a5 := Tryz.isAgg5
  z5 := Tryz.sizeOf5
  v5 := Tryz.zeroValue5
  t9 := Tryz.underlying9
  a9 := Tryz.isAgg9
  z9 := Tryz.sizeOf9
  v9 := Tryz.zeroValue9
  t28 := Tryz.underlying22
  a28 := Tryz.isAgg22
  z28 := Tryz.sizeOf22
  v28 := Tryz.zeroValue22
  t46 := Tryz.underlying132
  a46 := Tryz.isAgg132
  z46 := Tryz.sizeOf132
  v46 := Tryz.zeroValue132
  t51 := Tryz.underlying185
  a51 := Tryz.isAgg185
  z51 := Tryz.sizeOf185
  v51 := Tryz.zeroValue185
  t53 := Tryz.underlying59
  a53 := Tryz.isAgg59
  z53 := Tryz.sizeOf59
  v53 := Tryz.zeroValue59
  t131 := Tryz.underlying149
  a131 := Tryz.isAgg149
  z131 := Tryz.sizeOf149
  v131 := Tryz.zeroValue149
  t182 := Tryz.underlying200
  a182 := Tryz.isAgg200
  z182 := Tryz.sizeOf200
  v182 := Tryz.zeroValue200
  t183 := Tryz.underlying201
  a183 := Tryz.isAgg201
  z183 := Tryz.sizeOf201
  v183 := Tryz.zeroValue201
  t218 := Tryz.underlying221
  a218 := Tryz.isAgg221
  z218 := Tryz.sizeOf221
  v218 := Tryz.zeroValue221
  t222 := Tryz.underlying225
  a222 := Tryz.isAgg225
  z222 := Tryz.sizeOf225
  v222 := Tryz.zeroValue225
  t228 := Tryz.underlying237
  a228 := Tryz.isAgg237
  z228 := Tryz.sizeOf237
  v228 := Tryz.zeroValue237
  t229 := Tryz.underlying238
  a229 := Tryz.isAgg238
  z229 := Tryz.sizeOf238
  v229 := Tryz.zeroValue238 }
open Go.Sort Go.RowKit in
theorem Tryz.slices_Sort_int (blk off cap : Nat) (zs : List Int) (w : World) (hH : Holds (Value.int .i64) w blk off zs.toArray) (hblk : blk < w.heap.size) (hsz : zs.length < 4611686018427387904) :
    Calls Tryz.prog 137 #[.slice (some ⟨blk, off, none⟩) zs.length cap] w fun e w' =>
      e = .returned (.tuple #[]) ∧ ∃ n os, w' = grow (putRow (Value.int .i64) (Sort.ahead w n) blk off (zs.mergeSort fun x y => decide (x ≤ y)).toArray) os := Any.slices_Sort_int Tryz.lays189 blk off cap zs w hH hblk hsz
def Tryz.lays149_ren : Go.Shelf.Ren := ⟨fun | 149 => 97 | 222 => 144 | n => n, fun | 9 => 9 | 5 => 5 | 3 => 3 | 4 => 4 | n => n, fun | n => n⟩
theorem Tryz.lays149 : Go.Proofs.Lays.n149 Tryz.prog Tryz.lays149_ren := {
  mixed := by kernel_rfl
  f149 := Tryz.func97.trans (congrArg some (by kernel_rfl))
  f222 := Tryz.func144.trans (congrArg some (by kernel_rfl))
  t3 := Tryz.underlying3
  a3 := Tryz.isAgg3
  z3 := Tryz.sizeOf3
  v3 := Tryz.zeroValue3
  t4 := Tryz.underlying4
  a4 := Tryz.isAgg4
  z4 := Tryz.sizeOf4
  v4 := Tryz.zeroValue4
  t5 := Tryz.underlying5
  a5 := Tryz.isAgg5
  z5 := Tryz.sizeOf5
  v5 := Tryz.zeroValue5
  t9 := Tryz.underlying9
  a9 := Tryz.isAgg9
  z9 := Tryz.sizeOf9
  v9 := Tryz.zeroValue9 }
open Go.RowKit Go.Lib in
theorem Tryz.strings_LastIndexByte (s : ByteArray) (c : Int) (hs : s.size < 4611686018427387904) (w : World) :
    Calls Tryz.prog 97 #[.string s, .int .u8 c] w fun e w' => e = .returned (.int .i64 (Lib.lastIndexByte s c)) ∧ w' = w := Any.strings_LastIndexByte Tryz.lays149 s c hs w
def Tryz.lays99_ren : Go.Shelf.Ren := ⟨fun | 99 => 152 | 206 => 184 | n => n, fun | 9 => 9 | 4 => 4 | 3 => 3 | n => n, fun | n => n⟩
theorem Tryz.lays99 : Go.Proofs.Lays.n99 Tryz.prog Tryz.lays99_ren := {
  mixed := by kernel_rfl
  f99 := Tryz.func152.trans (congrArg some (by kernel_rfl))
  f206 := Tryz.func184.trans (congrArg some (by kernel_rfl))
  t3 := Tryz.underlying3
  a3 := Tryz.isAgg3
  z3 := Tryz.sizeOf3
  v3 := Tryz.zeroValue3
  t4 := Tryz.underlying4
  a4 := Tryz.isAgg4
  z4 := Tryz.sizeOf4
  v4 := Tryz.zeroValue4
  t9 := Tryz.underlying9
  a9 := Tryz.isAgg9
  z9 := Tryz.sizeOf9
  v9 := Tryz.zeroValue9 }
open Go.RowKit Go.Lib in
theorem Tryz.strings_HasPrefix (s p : ByteArray) (w : World) :
    Calls Tryz.prog 152 #[.string s, .string p] w fun e w' => e = .returned (.bool (Lib.hasPrefix s.data.toList p.data.toList)) ∧ w' = w := Any.strings_HasPrefix Tryz.lays99 s p w
def Tryz.lays101_ren : Go.Shelf.Ren := ⟨fun | 101 => 95 | 208 => 141 | 206 => 184 | n => n, fun | 9 => 9 | 4 => 4 | 3 => 3 | n => n, fun | n => n⟩
theorem Tryz.lays101 : Go.Proofs.Lays.n101 Tryz.prog Tryz.lays101_ren := {
  mixed := by kernel_rfl
  f101 := Tryz.func95.trans (congrArg some (by kernel_rfl))
  f206 := Tryz.func184.trans (congrArg some (by kernel_rfl))
  f208 := Tryz.func141.trans (congrArg some (by kernel_rfl))
  t3 := Tryz.underlying3
  a3 := Tryz.isAgg3
  z3 := Tryz.sizeOf3
  v3 := Tryz.zeroValue3
  t4 := Tryz.underlying4
  a4 := Tryz.isAgg4
  z4 := Tryz.sizeOf4
  v4 := Tryz.zeroValue4
  t9 := Tryz.underlying9
  a9 := Tryz.isAgg9
  z9 := Tryz.sizeOf9
  v9 := Tryz.zeroValue9 }
open Go.RowKit Go.Lib in
theorem Tryz.strings_TrimPrefix (s p : ByteArray) (w : World) :
    Calls Tryz.prog 95 #[.string s, .string p] w fun e w' => e = .returned (.string ⟨(Lib.trimPrefix s.data.toList p.data.toList).toArray⟩) ∧ w' = w := Any.strings_TrimPrefix Tryz.lays101 s p w
def Tryz.lays102_ren : Go.Shelf.Ren := ⟨fun | 102 => 77 | 209 => 126 | 207 => 172 | n => n, fun | 9 => 9 | 4 => 4 | 3 => 3 | n => n, fun | n => n⟩
theorem Tryz.lays102 : Go.Proofs.Lays.n102 Tryz.prog Tryz.lays102_ren := {
  mixed := by kernel_rfl
  f102 := Tryz.func77.trans (congrArg some (by kernel_rfl))
  f207 := Tryz.func172.trans (congrArg some (by kernel_rfl))
  f209 := Tryz.func126.trans (congrArg some (by kernel_rfl))
  t3 := Tryz.underlying3
  a3 := Tryz.isAgg3
  z3 := Tryz.sizeOf3
  v3 := Tryz.zeroValue3
  t4 := Tryz.underlying4
  a4 := Tryz.isAgg4
  z4 := Tryz.sizeOf4
  v4 := Tryz.zeroValue4
  t9 := Tryz.underlying9
  a9 := Tryz.isAgg9
  z9 := Tryz.sizeOf9
  v9 := Tryz.zeroValue9 }
open Go.RowKit Go.Lib in
theorem Tryz.strings_TrimSuffix (s p : ByteArray) (w : World) (hs : s.size ≤ 9223372036854775807) :
    Calls Tryz.prog 77 #[.string s, .string p] w fun e w' => e = .returned (.string ⟨(Lib.trimSuffix s.data.toList p.data.toList).toArray⟩) ∧ w' = w := Any.strings_TrimSuffix Tryz.lays102 s p w hs
def Tryz.lays146_ren : Go.Shelf.Ren := ⟨fun | 146 => 76 | 221 => 125 | 268 => 169 | 138 => 170 | 143 => 171 | 195 => 208 | 197 => 209 | 218 => 210 | 219 => 211 | 260 => 244 | 217 => 238 | 225 => 245 | 224 => 246 | 267 => 247 | 266 => 257 | 314 => 260 | n => n, fun | 9 => 9 | 31 => 36 | 3 => 3 | 4 => 4 | 0 => 0 | 105 => 194 | 21 => 21 | 5 => 5 | 46 => 132 | 119 => 232 | 139 => 235 | 138 => 234 | 146 => 186 | 51 => 185 | n => n, fun | 1 => 0 | 3 => 4 | 4 => 5 | n => n⟩
theorem Tryz.lays146 : Go.Proofs.Lays.n146 Tryz.prog Tryz.lays146_ren := {
  mixed := by kernel_rfl
  f138 := Tryz.func170.trans (congrArg some (by kernel_rfl))
  f143 := Tryz.func171.trans (congrArg some (by kernel_rfl))
  f146 := Tryz.func76.trans (congrArg some (by kernel_rfl))
  f195 := Tryz.func208.trans (congrArg some (by kernel_rfl))
  f197 := Tryz.func209.trans (congrArg some (by kernel_rfl))
  f217 := Tryz.func238.trans (congrArg some (by kernel_rfl))
  f218 := Tryz.func210.trans (congrArg some (by kernel_rfl))
  f219 := Tryz.func211.trans (congrArg some (by kernel_rfl))
  f221 := Tryz.func125.trans (congrArg some (by kernel_rfl))
  f224 := Tryz.func246.trans (congrArg some (by kernel_rfl))
  f225 := Tryz.func245.trans (congrArg some (by kernel_rfl))
  f260 := Tryz.func244.trans (congrArg some (by kernel_rfl))
  f266 := Tryz.func257.trans (congrArg some (by kernel_rfl))
  f267 := Tryz.func247.trans (congrArg some (by kernel_rfl))
  f268 := Tryz.func169.trans (congrArg some (by kernel_rfl))
  f314 := Tryz.func260.trans (congrArg some (by kernel_rfl))
  t0 := Tryz.underlying0
  a0 := Tryz.isAgg0
  z0 := Tryz.sizeOf0
  v0 := Tryz.zeroValue0
  t3 := Tryz.underlying3
  a3 := Tryz.isAgg3
  z3 := Tryz.sizeOf3
  v3 := Tryz.zeroValue3
  t4 := Tryz.underlying4
  a4 := Tryz.isAgg4
  z4 := Tryz.sizeOf4
  v4 := Tryz.zeroValue4
  t5 := Tryz.underlying5
  a5 := Tryz.isAgg5
  z5 := Tryz.sizeOf5
  v5 := Tryz.zeroValue5
  t9 := Tryz.underlying9
  a9 := Tryz.isAgg9
  z9 := Tryz.sizeOf9
  v9 := Tryz.zeroValue9
  t21 := Tryz.underlying21
  a21 := Tryz.isAgg21
  z21 := Tryz.sizeOf21
  v21 := Tryz.zeroValue21
  t31 := Tryz.underlying36
  a31 := Tryz.isAgg36
  z31 := Tryz.sizeOf36
  v31 := Tryz.zeroValue36
  t46 := Tryz.underlying132
  a46 := Tryz.isAgg132
  z46 := Tryz.sizeOf132
  v46 := Tryz.zeroValue132
  t51 := Tryz.underlying185
  a51 := Tryz.isAgg185
  z51 := Tryz.sizeOf185
  v51 := Tryz.zeroValue185
  t105 := Tryz.underlying194
  a105 := Tryz.isAgg194
  z105 := Tryz.sizeOf194
  v105 := Tryz.zeroValue194
  t119 := Tryz.underlying232
  a119 := Tryz.isAgg232
  z119 := Tryz.sizeOf232
  t138 := Tryz.underlying234
  a138 := Tryz.isAgg234
  z138 := Tryz.sizeOf234
  v138 := Tryz.zeroValue234
  t139 := Tryz.underlying235
  a139 := Tryz.isAgg235
  z139 := Tryz.sizeOf235
  v139 := Tryz.zeroValue235
  t146 := Tryz.underlying186
  a146 := Tryz.isAgg186
  z146 := Tryz.sizeOf186
  v146 := Tryz.zeroValue186
  g1 := by kernel_rfl
  g3 := by kernel_rfl
  g4 := by kernel_rfl }
open Go.RowKit Go.Lib in
theorem Tryz.strings_Split (s sep : ByteArray) (m : Int) (w : World) (hs : s.size < 4294967281) (hm : w.cell? ⟨0, 0, none⟩ = some (.int .i64 m)) (h1 : 1 ≤ sep.size) :
    Calls Tryz.prog 76 #[.string s, .string sep] w fun e w' =>
      e = .returned (.slice (some ⟨w.heap.size, 0, none⟩) (Lib.countB s sep + 1) (Lib.countB s sep + 1)) ∧ w' = w.alloc (.cells ((Lib.splitB sep 0 (Lib.countB s sep) s).map Value.string).toArray 9) := Any.strings_Split Tryz.lays146 (by kernel_rfl) s sep m w hs hm h1
def Tryz.lays105_ren : Go.Shelf.Ren := ⟨fun | 105 => 101 | 212 => 151 | 99 => 152 | 165 => 153 | 166 => 110 | 170 => 154 | 169 => 111 | 263 => 200 | 264 => 201 | 206 => 184 | 240 => 163 | 241 => 202 | 276 => 206 | 277 => 243 | n => n, fun | 9 => 9 | 3 => 3 | 4 => 4 | 20 => 20 | 0 => 0 | 46 => 132 | 109 => 153 | 5 => 5 | 72 => 121 | 76 => 122 | 51 => 185 | 146 => 186 | 53 => 59 | 148 => 188 | 70 => 119 | 37 => 35 | 75 => 111 | 127 => 161 | 164 => 192 | 80 => 124 | n => n, fun | n => n⟩
theorem Tryz.lays105 : Go.Proofs.Lays.n105 Tryz.prog Tryz.lays105_ren := {
  mixed := by kernel_rfl
  f99 := Tryz.func152.trans (congrArg some (by kernel_rfl))
  f105 := Tryz.func101.trans (congrArg some (by kernel_rfl))
  f165 := Tryz.func153.trans (congrArg some (by kernel_rfl))
  f166 := Tryz.func110.trans (congrArg some (by kernel_rfl))
  f169 := Tryz.func111.trans (congrArg some (by kernel_rfl))
  f170 := Tryz.func154.trans (congrArg some (by kernel_rfl))
  f206 := Tryz.func184.trans (congrArg some (by kernel_rfl))
  f212 := Tryz.func151.trans (congrArg some (by kernel_rfl))
  f240 := Tryz.func163.trans (congrArg some (by kernel_rfl))
  f241 := Tryz.func202.trans (congrArg some (by kernel_rfl))
  f263 := Tryz.func200.trans (congrArg some (by kernel_rfl))
  f264 := Tryz.func201.trans (congrArg some (by kernel_rfl))
  f276 := Tryz.func206.trans (congrArg some (by kernel_rfl))
  f277 := Tryz.func243.trans (congrArg some (by kernel_rfl))
  t0 := Tryz.underlying0
  a0 := Tryz.isAgg0
  z0 := Tryz.sizeOf0
  v0 := Tryz.zeroValue0
  t3 := Tryz.underlying3
  a3 := Tryz.isAgg3
  z3 := Tryz.sizeOf3
  v3 := Tryz.zeroValue3
  t4 := Tryz.underlying4
  a4 := Tryz.isAgg4
  z4 := Tryz.sizeOf4
  v4 := Tryz.zeroValue4
  t5 := Tryz.underlying5
  a5 := Tryz.isAgg5
  z5 := Tryz.sizeOf5
  v5 := Tryz.zeroValue5
  t9 := Tryz.underlying9
  a9 := Tryz.isAgg9
  z9 := Tryz.sizeOf9
  v9 := Tryz.zeroValue9
  t20 := Tryz.underlying20
  a20 := Tryz.isAgg20
  z20 := Tryz.sizeOf20
  v20 := Tryz.zeroValue20
  t37 := Tryz.underlying35
  a37 := Tryz.isAgg35
  z37 := Tryz.sizeOf35
  v37 := Tryz.zeroValue35
  t46 := Tryz.underlying132
  a46 := Tryz.isAgg132
  z46 := Tryz.sizeOf132
  v46 := Tryz.zeroValue132
  t51 := Tryz.underlying185
  a51 := Tryz.isAgg185
  z51 := Tryz.sizeOf185
  v51 := Tryz.zeroValue185
  t53 := Tryz.underlying59
  a53 := Tryz.isAgg59
  z53 := Tryz.sizeOf59
  v53 := Tryz.zeroValue59
  t70 := Tryz.underlying119
  a70 := Tryz.isAgg119
  z70 := Tryz.sizeOf119
  v70 := Tryz.zeroValue119
  t72 := Tryz.underlying121
  a72 := Tryz.isAgg121
  z72 := Tryz.sizeOf121
  v72 := Tryz.zeroValue121
  t75 := Tryz.underlying111
  a75 := Tryz.isAgg111
  z75 := Tryz.sizeOf111
  v75 := Tryz.zeroValue111
  t76 := Tryz.underlying122
  a76 := Tryz.isAgg122
  z76 := Tryz.sizeOf122
  v76 := Tryz.zeroValue122
  t109 := Tryz.underlying153
  a109 := Tryz.isAgg153
  z109 := Tryz.sizeOf153
  v109 := Tryz.zeroValue153
  t127 := Tryz.underlying161
  a127 := Tryz.isAgg161
  z127 := Tryz.sizeOf161
  v127 := Tryz.zeroValue161
  t146 := Tryz.underlying186
  a146 := Tryz.isAgg186
  z146 := Tryz.sizeOf186
  v146 := Tryz.zeroValue186
  t148 := Tryz.underlying188
  a148 := Tryz.isAgg188
  z148 := Tryz.sizeOf188
  v148 := Tryz.zeroValue188
  t164 := Tryz.underlying192
  a164 := Tryz.isAgg192
  z164 := Tryz.sizeOf192
  v164 := Tryz.zeroValue192 }
theorem Tryz.Builder_Extra_105 : Builder.Extra Tryz.prog Tryz.lays105_ren := {
  sizeBuilder := by kernel_rfl
  liesBuilder := by kernel_rfl
  t5 := Tryz.underlying5
  a5 := Tryz.isAgg5
  z5 := Tryz.sizeOf5
  v5 := Tryz.zeroValue5
  infoByte := by kernel_rfl
  cellsByte := by kernel_rfl
  sizeByte := by kernel_rfl
  neB5 := by decide }
open Go.RowKit Go.Lib in
theorem Tryz.strings_Repeat (s : ByteArray) (c : Nat) (w : World) (hc : c ≤ 9223372036854775807) (hlen : s.size * c ≤ 140737488355328) :
    Calls Tryz.prog 101 #[.string s, .int .i64 c] w fun e w' => e = .returned (.string ⟨(Lib.repeatL s.data.toList c).toArray⟩) ∧ Below w.heap.size w w' := Any.strings_Repeat Tryz.lays105 Tryz.Builder_Extra_105 s c w hc hlen
def Tryz.laysNm215_ren : Go.Shelf.Ren := ⟨fun | 15 => 131 | n => n, fun | 22 => 22 | 3 => 3 | 4 => 4 | n => n, fun | n => n⟩
theorem Tryz.laysNm215 : Go.Proofs.Lays2.n15 Tryz.prog Tryz.laysNm215_ren := {
  mixed := by kernel_rfl
  f15 := Tryz.func131.trans (congrArg some (by kernel_rfl))
  t3 := Tryz.underlying3
  a3 := Tryz.isAgg3
  z3 := Tryz.sizeOf3
  v3 := Tryz.zeroValue3
  t4 := Tryz.underlying4
  a4 := Tryz.isAgg4
  z4 := Tryz.sizeOf4
  v4 := Tryz.zeroValue4
  t22 := Tryz.underlying22
  a22 := Tryz.isAgg22
  z22 := Tryz.sizeOf22
  v22 := Tryz.zeroValue22
  i3 := by kernel_rfl }
open Go.RowKit Go.Lib in
theorem Tryz.slices_Clone_int (b off n c : Nat) (zs : List Int) (w : World) (hz : n ≤ zs.length) (hbig : n * 8 ≤ 140737488355328) (hc : ∀ j, j < zs.length → w.cell? ⟨b, off + j, none⟩ = some (.int .i64 (zs.getD j 0))) :
    Calls Tryz.prog 131 #[.slice (some ⟨b, off, none⟩) n c] w fun e w' => ∃ v', e = .returned v' ∧ w'.ownsRow w.heap.size 3 1 v' n ((zs.take n).map (Value.int .i64)) ∧ v' ≠ .slice none 0 0 ∧ Below w.heap.size w w' := Any.slices_Clone_int Tryz.laysNm215 b off n c zs w hz hbig hc
open Go.RowKit Go.Lib in
theorem Tryz.slices_Clone_int_nil (n c : Nat) (w : World) :
    Calls Tryz.prog 131 #[.slice none n c] w fun e w' => e = .returned (.slice none 0 0) ∧ w' = w := Any.slices_Clone_int_nil Tryz.laysNm215 n c w
open Go.RowKit Go.Lib in
theorem Tryz.slices_Clone_int_zero (a : Addr) (c : Nat) (w : World) :
    Calls Tryz.prog 131 #[.slice (some a) 0 c] w fun e w' => ∃ v', e = .returned v' ∧ w'.ownsRow w.heap.size 3 1 v' 0 [] ∧ v' ≠ .slice none 0 0 ∧ Below w.heap.size w w' := Any.slices_Clone_int_zero Tryz.laysNm215 a c w
def Tryz.laysSlF06_f138_ren : Go.Shelf.Ren := ⟨fun | 6 => 138 | 15 => 182 | 14 => 183 | 28 => 225 | 29 => 226 | 20 => 227 | 21 => 228 | 22 => 229 | 23 => 230 | 24 => 231 | 25 => 232 | 26 => 233 | 27 => 234 | 46 => 254 | 47 => 250 | 48 => 251 | 49 => 255 | 50 => 256 | 57 => 262 | n => n, fun | 22 => 29 | 24 => 31 | 25 => 53 | 3 => 3 | 39 => 132 | 0 => 0 | 53 => 185 | 55 => 59 | 4 => 4 | 46 => 201 | 45 => 200 | 50 => 149 | 5 => 5 | 9 => 9 | 66 => 221 | 70 => 225 | 76 => 237 | 77 => 238 | n => n, fun | n => n⟩
theorem Tryz.laysSlF06_f138 : Go.Proofs.SlLaysF0.n6 Tryz.prog Tryz.laysSlF06_f138_ren := {
  mixed := by kernel_rfl
  f6 := ⟨Tryz.f138.name, by decide, Tryz.func138.trans (congrArg some (by kernel_rfl))⟩
  f14 := ⟨Tryz.f183.name, by decide, Tryz.func183.trans (congrArg some (by kernel_rfl))⟩
  f15 := Tryz.func182.trans (congrArg some (by kernel_rfl))
  f20 := ⟨Tryz.f227.name, by decide, Tryz.func227.trans (congrArg some (by kernel_rfl))⟩
  f21 := ⟨Tryz.f228.name, by decide, Tryz.func228.trans (congrArg some (by kernel_rfl))⟩
  f22 := ⟨Tryz.f229.name, by decide, Tryz.func229.trans (congrArg some (by kernel_rfl))⟩
  f23 := ⟨Tryz.f230.name, by decide, Tryz.func230.trans (congrArg some (by kernel_rfl))⟩
  f24 := ⟨Tryz.f231.name, by decide, Tryz.func231.trans (congrArg some (by kernel_rfl))⟩
  f25 := ⟨Tryz.f232.name, by decide, Tryz.func232.trans (congrArg some (by kernel_rfl))⟩
  f26 := ⟨Tryz.f233.name, by decide, Tryz.func233.trans (congrArg some (by kernel_rfl))⟩
  f27 := ⟨Tryz.f234.name, by decide, Tryz.func234.trans (congrArg some (by kernel_rfl))⟩
  f28 := Tryz.func225.trans (congrArg some (by kernel_rfl))
  f29 := Tryz.func226.trans (congrArg some (by kernel_rfl))
  f46 := ⟨Tryz.f254.name, by decide, Tryz.func254.trans (congrArg some (by kernel_rfl))⟩
  f47 := Tryz.func250.trans (congrArg some (by kernel_rfl))
  f48 := Tryz.func251.trans (congrArg some (by kernel_rfl))
  f49 := ⟨Tryz.f255.name, by decide, Tryz.func255.trans (congrArg some (by kernel_rfl))⟩
  f50 := ⟨Tryz.f256.name, by decide, Tryz.func256.trans (congrArg some (by kernel_rfl))⟩
  f57 := ⟨Tryz.f262.name, by decide, Tryz.func262.trans (congrArg some (by kernel_rfl))⟩
  t0 := Tryz.underlying0
  a0 := Tryz.isAgg0
  z0 := Tryz.sizeOf0
  v0 := Tryz.zeroValue0
  t3 := Tryz.underlying3
  a3 := Tryz.isAgg3
  z3 := Tryz.sizeOf3
  v3 := Tryz.zeroValue3
  t4 := Tryz.underlying4
  a4 := Tryz.isAgg4
  z4 := Tryz.sizeOf4
  v4 := Tryz.zeroValue4
  t5 := Tryz.underlying5
  a5 := Tryz.isAgg5
  z5 := Tryz.sizeOf5
  v5 := Tryz.zeroValue5
  t9 := Tryz.underlying9
  a9 := Tryz.isAgg9
  z9 := Tryz.sizeOf9
  v9 := Tryz.zeroValue9
  t22 := Tryz.underlying29
  a22 := Tryz.isAgg29
  z22 := Tryz.sizeOf29
  v22 := Tryz.zeroValue29
  t25 := Tryz.underlying53
  a25 := Tryz.isAgg53
  z25 := Tryz.sizeOf53
  v25 := Tryz.zeroValue53
  t39 := Tryz.underlying132
  a39 := Tryz.isAgg132
  z39 := Tryz.sizeOf132
  v39 := Tryz.zeroValue132
  t45 := Tryz.underlying200
  a45 := Tryz.isAgg200
  z45 := Tryz.sizeOf200
  v45 := Tryz.zeroValue200
  t46 := Tryz.underlying201
  a46 := Tryz.isAgg201
  z46 := Tryz.sizeOf201
  v46 := Tryz.zeroValue201
  t50 := Tryz.underlying149
  a50 := Tryz.isAgg149
  z50 := Tryz.sizeOf149
  v50 := Tryz.zeroValue149
  t53 := Tryz.underlying185
  a53 := Tryz.isAgg185
  z53 := Tryz.sizeOf185
  v53 := Tryz.zeroValue185
  t55 := Tryz.underlying59
  a55 := Tryz.isAgg59
  z55 := Tryz.sizeOf59
  v55 := Tryz.zeroValue59
  t66 := Tryz.underlying221
  a66 := Tryz.isAgg221
  z66 := Tryz.sizeOf221
  v66 := Tryz.zeroValue221
  t70 := Tryz.underlying225
  a70 := Tryz.isAgg225
  z70 := Tryz.sizeOf225
  v70 := Tryz.zeroValue225
  t76 := Tryz.underlying237
  a76 := Tryz.isAgg237
  z76 := Tryz.sizeOf237
  v76 := Tryz.zeroValue237
  t77 := Tryz.underlying238
  a77 := Tryz.isAgg238
  z77 := Tryz.sizeOf238
  v77 := Tryz.zeroValue238 }
open Go.RowKit Go.Lib Go.Sort in
theorem Tryz.slices_SortFunc_Trust {α : Type} [Inhabited α] (k : Nat) (aE : ∀ w, (isAgg (Tryz.laysSlF06_f138_ren.t 24)).run Tryz.prog w = .ok true w) (zE : ∀ w, (Go.sizeOf (Tryz.laysSlF06_f138_ren.t 24)).run Tryz.prog w = .ok k w) (enc : α → List Value) (hk : ∀ x, (enc x).length = k) (h1 : ∀ x, ∀ v ∈ enc x, v.oneCell' = true) (cf : α → α → Int) (hO : SWO (ltOf cf)) (g : Nat) (cb : Array Value) (blk off cap : Nat) (d : Array α) (w : World) (eg : ∀ args w, (callFunc g args).run Tryz.prog w = .ok (.enter g args) w) (hcmp : CmpLays Tryz.prog g cb enc k cf blk off d.size w) (hH : HoldsK enc k w blk off d) (hblk : blk < w.heap.size) (hsz : d.size < 4611686018427387904) :
    Calls Tryz.prog 138 #[.slice (some ⟨blk, off, none⟩) d.size cap, .func (.func g) #[] cb] w fun e w' =>
      e = .returned (.tuple #[]) ∧ ∃ d' n os, PermIn 0 d.size d d' ∧ SortedIn (ltOf cf) 0 d.size d' ∧ w' = sortWorldK enc k w blk off n d' os := AnyQ.slices_SortFunc Tryz.laysSlF06_f138 k aE zE enc hk h1 cf hO g cb blk off cap d w eg hcmp hH hblk hsz
open Go.RowKit Go.Lib Go.Sort in
theorem Tryz.slices_SortFunc_none_Trust {α : Type} [Inhabited α] (p : Option Addr) (cap : Nat) (fv : Value) (w : World) :
    Calls Tryz.prog 138 #[.slice p 0 cap, fv] w fun e w' => e = .returned (.tuple #[]) ∧ w' = w := AnyF.slices_SortFunc_none Tryz.laysSlF06_f138 p cap fv w
open Go.RowKit Go.Lib Go.Sort in
theorem Tryz.slices_SortFunc_total_Trust {α : Type} [Inhabited α] (k : Nat) (aE : ∀ w, (isAgg (Tryz.laysSlF06_f138_ren.t 24)).run Tryz.prog w = .ok true w) (zE : ∀ w, (Go.sizeOf (Tryz.laysSlF06_f138_ren.t 24)).run Tryz.prog w = .ok k w) (enc : α → List Value) (hk : ∀ x, (enc x).length = k) (h1 : ∀ x, ∀ v ∈ enc x, v.oneCell' = true) (cf : α → α → Int) (hO : SWO (ltOf cf)) (g : Nat) (cb : Array Value) (blk off cap : Nat) (d : Array α) (w : World) (eg : ∀ args w, (callFunc g args).run Tryz.prog w = .ok (.enter g args) w) (hcmp : CmpLays Tryz.prog g cb enc k cf blk off d.size w) (hH : HoldsK enc k w blk off d) (hblk : blk < w.heap.size) (hsz : d.size < 4611686018427387904) (hT : ∀ x y, (ltOf cf) x y = false → (ltOf cf) y x = false → x = y) :
    Calls Tryz.prog 138 #[.slice (some ⟨blk, off, none⟩) d.size cap, .func (.func g) #[] cb] w fun e w' =>
      e = .returned (.tuple #[]) ∧ ∃ n os, w' = sortWorldK enc k w blk off n (d.toList.mergeSort fun x y => !(ltOf cf) y x).toArray os := AnyQ.slices_SortFunc_total Tryz.laysSlF06_f138 k aE zE enc hk h1 cf hO g cb blk off cap d w eg hcmp hH hblk hsz hT
end Go.Proofs
