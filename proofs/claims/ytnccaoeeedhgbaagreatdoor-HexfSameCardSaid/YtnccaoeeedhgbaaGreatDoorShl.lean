/- The library's contracts that are used here, laid at this program's numbers (written by the kit's shelf tools). -/
import Derived.Shelf.Strings.Builder1
import Derived.Shelf.Strings.Builder2
import Derived.Shelf.Small.Utf8
import Derived.Shelf.Small.Bits
import Derived.Shelf.Small.Strs
import Derived.Shelf.Small.Wraps
import Derived.Shelf.Strings.BuilderF
import Derived.Shelf.Strings.BuilderK
import Derived.Shelf.Strconv.Atoi
import Derived.Shelf.Strconv.Itoa0
import Derived.Shelf.Strconv.Itoa1
import Derived.Shelf.LaysM
import Derived.Shelf.Strconv.Itoa2
import Derived.Shelf.Strconv.Itoa3
import Derived.Shelf.Strconv.AtoiErrFast
import Derived.Shelf.Strconv.ParseIntEmpty
import Derived.Shelf.Strconv.AtoiFail
import Derived.Shelf.Strconv.Clone
import Derived.Shelf.Strconv.SyntaxError
import Derived.Shelf.LaysC
import Derived.Shelf.Strconv.ToError
import Derived.Shelf.Strconv.Lower
import Derived.Shelf.Strconv.ParseUint10
import Derived.Shelf.Strconv.ParseUint10Empty
import Derived.Shelf.Strconv.ParseUint10Any
import Derived.Shelf.Strconv.ParseInt10
import Derived.Shelf.Strconv.AtoiLong
import Derived.Shelf.Strconv.AtoiInnerAll
import Derived.Shelf.Strconv.RangeError
import Derived.Shelf.Strconv.ToErrorRange
import Derived.Shelf.Strconv.AtoiAll
import Derived.Shelf.Strconv.ErrVarAll
import Derived.Shelf.Strconv.ParseUintEmpty
import Derived.Shelf.Strconv.ParseUint10b64
import Derived.Shelf.Strconv.ParseUint10b32
import Derived.Shelf.Strconv.ParseUint10b16
import Derived.Shelf.Strconv.ParseUint10b8
import Derived.Shelf.Strconv.ParseUint10At
import Derived.Shelf.Strconv.ParseInt10At64
import Derived.Shelf.Strconv.ParseInt10At32
import Derived.Shelf.Strconv.ParseInt10At16
import Derived.Shelf.Strconv.ParseInt10At8
import Derived.Shelf.Strconv.ParseInt10All
import Derived.Ground.MpProg
import Derived.Shelf.Pu.ParseUintPublic10
import Derived.Shelf.Pu.ErrVarParseUint
import Derived.Shelf.Strings.Search1
import Derived.Shelf.Strings.Search2
import Derived.Shelf.Strings.Cut
import Derived.Shelf.Strings.Shaped
import Derived.Shelf.Strings.Prefix
import Derived.Shelf.Unicode.Decode
import Derived.Shelf.Strings.Runes
import Derived.Shelf.Strings.AsciiSet
import Derived.Shelf.Bits.Mul64
import Derived.Shelf.Strings.Repeat
import Derived.Shelf.Unicode.DecodeSlow
import Derived.Shelf.Unicode.DecodeAny
import Derived.Shelf.Unicode.DecodeLast
import Derived.Ground.Names2Prog
import Derived.Shelf.Slices.SearchI
import Derived.Ground.SlgnProg
import Derived.Shelf.SlicesE.Clone
import Derived.Test.YtnccaoeeedhgbaaGreatDoorProg
namespace Go.Proofs
open Go.Shelf
def Tryz.lays169_ren : Go.Shelf.Ren := ⟨fun | 169 => 158 | n => n, fun | 70 => 202 | 9 => 9 | 0 => 0 | 72 => 204 | 37 => 65 | 127 => 234 | 3 => 3 | 5 => 5 | n => n, fun | n => n⟩
theorem Tryz.lays169 : Go.Proofs.Lays.n169 Tryz.prog Tryz.lays169_ren := {
  mixed := by kernel_rfl
  f169 := Tryz.func158.trans (congrArg some (by kernel_rfl))
  t0 := Tryz.underlying0
  a0 := Tryz.isAgg0
  z0 := Tryz.sizeOf0
  v0 := Tryz.zeroValue0
  t3 := Tryz.underlying3
  a3 := Tryz.isAgg3
  z3 := Tryz.sizeOf3
  v3 := Tryz.zeroValue3
  t9 := Tryz.underlying9
  a9 := Tryz.isAgg9
  z9 := Tryz.sizeOf9
  v9 := Tryz.zeroValue9
  t37 := Tryz.underlying65
  a37 := Tryz.isAgg65
  z37 := Tryz.sizeOf65
  v37 := Tryz.zeroValue65
  t70 := Tryz.underlying202
  a70 := Tryz.isAgg202
  z70 := Tryz.sizeOf202
  v70 := Tryz.zeroValue202
  t72 := Tryz.underlying204
  a72 := Tryz.isAgg204
  z72 := Tryz.sizeOf204
  v72 := Tryz.zeroValue204
  t127 := Tryz.underlying234
  a127 := Tryz.isAgg234
  z127 := Tryz.sizeOf234
  v127 := Tryz.zeroValue234 }
theorem Tryz.Builder_Extra_169 : Builder.Extra Tryz.prog Tryz.lays169_ren := {
  sizeBuilder := by kernel_rfl
  liesBuilder := by kernel_rfl
  t5 := Tryz.underlying5
  a5 := Tryz.isAgg5
  z5 := Tryz.sizeOf5
  v5 := Tryz.zeroValue5
  infoByte := by kernel_rfl
  cellsByte := by kernel_rfl
  sizeByte := by kernel_rfl
  neB5 := by decide }
open Go.RowKit in
theorem Tryz.Builder_String_any_k (B b : Nat) (l : List UInt8) (w : World) (h : Lib.IsBuilderF 204 5 B b (Lib.byteCells l) w) (hBw : B ≤ w.heap.size) :
    Calls Tryz.prog 158 #[.pointer (some ⟨b, 0, none⟩)] w fun e w' => e = .returned (.string ⟨l.toArray⟩) ∧ (Lib.IsBuilderF 204 5 B b (Lib.byteCells l) w' ∧ Below B w w' ∧ Lib.OthersKept 5 (some b) w w') := Any.Builder_String_any_k Tryz.lays169 Tryz.Builder_Extra_169 B b l w h hBw
def Tryz.lays172_ren : Go.Shelf.Ren := ⟨fun | 172 => 84 | 244 => 132 | 245 => 133 | 247 => 171 | 279 => 172 | 280 => 173 | 281 => 174 | 282 => 175 | 287 => 147 | 316 => 202 | 171 => 52 | 205 => 203 | 321 => 182 | 322 => 183 | 243 => 103 | 246 => 146 | 283 => 142 | 284 => 143 | 285 => 144 | 286 => 145 | 129 => 97 | 317 => 178 | 318 => 179 | 319 => 180 | 320 => 181 | 337 => 206 | 338 => 198 | n => n, fun | 9 => 9 | 3 => 3 | 75 => 132 | 76 => 133 | 4 => 4 | 5 => 5 | 167 => 212 | 37 => 65 | 0 => 0 | 85 => 213 | 2 => 2 | 168 => 215 | 53 => 23 | 175 => 154 | 46 => 54 | 210 => 240 | 127 => 234 | 145 => 254 | 143 => 252 | 21 => 21 | 171 => 187 | 173 => 189 | 212 => 220 | 51 => 136 | 20 => 20 | 213 => 221 | 232 => 255 | 233 => 247 | 80 => 205 | n => n, fun | 15 => 3 | 16 => 4 | 17 => 2 | 18 => 10 | 19 => 7 | n => n⟩
theorem Tryz.lays172 : Go.Proofs.Lays.n172 Tryz.prog Tryz.lays172_ren := {
  mixed := by kernel_rfl
  f129 := Tryz.func97.trans (congrArg some (by kernel_rfl))
  f171 := Tryz.func52.trans (congrArg some (by kernel_rfl))
  f172 := Tryz.func84.trans (congrArg some (by kernel_rfl))
  f205 := Tryz.func203.trans (congrArg some (by kernel_rfl))
  f243 := Tryz.func103.trans (congrArg some (by kernel_rfl))
  f244 := Tryz.func132.trans (congrArg some (by kernel_rfl))
  f245 := Tryz.func133.trans (congrArg some (by kernel_rfl))
  f246 := Tryz.func146.trans (congrArg some (by kernel_rfl))
  f247 := Tryz.func171.trans (congrArg some (by kernel_rfl))
  f279 := Tryz.func172.trans (congrArg some (by kernel_rfl))
  f280 := Tryz.func173.trans (congrArg some (by kernel_rfl))
  f281 := Tryz.func174.trans (congrArg some (by kernel_rfl))
  f282 := Tryz.func175.trans (congrArg some (by kernel_rfl))
  f283 := Tryz.func142.trans (congrArg some (by kernel_rfl))
  f284 := Tryz.func143.trans (congrArg some (by kernel_rfl))
  f285 := Tryz.func144.trans (congrArg some (by kernel_rfl))
  f286 := Tryz.func145.trans (congrArg some (by kernel_rfl))
  f287 := Tryz.func147.trans (congrArg some (by kernel_rfl))
  f316 := Tryz.func202.trans (congrArg some (by kernel_rfl))
  f317 := Tryz.func178.trans (congrArg some (by kernel_rfl))
  f318 := Tryz.func179.trans (congrArg some (by kernel_rfl))
  f319 := Tryz.func180.trans (congrArg some (by kernel_rfl))
  f320 := Tryz.func181.trans (congrArg some (by kernel_rfl))
  f321 := Tryz.func182.trans (congrArg some (by kernel_rfl))
  f322 := Tryz.func183.trans (congrArg some (by kernel_rfl))
  f337 := Tryz.func206.trans (congrArg some (by kernel_rfl))
  f338 := Tryz.func198.trans (congrArg some (by kernel_rfl))
  t0 := Tryz.underlying0
  a0 := Tryz.isAgg0
  z0 := Tryz.sizeOf0
  v0 := Tryz.zeroValue0
  t2 := Tryz.underlying2
  a2 := Tryz.isAgg2
  z2 := Tryz.sizeOf2
  v2 := Tryz.zeroValue2
  t3 := Tryz.underlying3
  a3 := Tryz.isAgg3
  z3 := Tryz.sizeOf3
  v3 := Tryz.zeroValue3
  t4 := Tryz.underlying4
  a4 := Tryz.isAgg4
  z4 := Tryz.sizeOf4
  v4 := Tryz.zeroValue4
  t5 := Tryz.underlying5
  a5 := Tryz.isAgg5
  z5 := Tryz.sizeOf5
  v5 := Tryz.zeroValue5
  t9 := Tryz.underlying9
  a9 := Tryz.isAgg9
  z9 := Tryz.sizeOf9
  v9 := Tryz.zeroValue9
  t20 := Tryz.underlying20
  a20 := Tryz.isAgg20
  z20 := Tryz.sizeOf20
  v20 := Tryz.zeroValue20
  t21 := Tryz.underlying21
  a21 := Tryz.isAgg21
  z21 := Tryz.sizeOf21
  v21 := Tryz.zeroValue21
  t37 := Tryz.underlying65
  a37 := Tryz.isAgg65
  z37 := Tryz.sizeOf65
  v37 := Tryz.zeroValue65
  t46 := Tryz.underlying54
  a46 := Tryz.isAgg54
  z46 := Tryz.sizeOf54
  v46 := Tryz.zeroValue54
  t51 := Tryz.underlying136
  a51 := Tryz.isAgg136
  z51 := Tryz.sizeOf136
  v51 := Tryz.zeroValue136
  t53 := Tryz.underlying23
  a53 := Tryz.isAgg23
  z53 := Tryz.sizeOf23
  v53 := Tryz.zeroValue23
  t75 := Tryz.underlying132
  a75 := Tryz.isAgg132
  z75 := Tryz.sizeOf132
  v75 := Tryz.zeroValue132
  t76 := Tryz.underlying133
  a76 := Tryz.isAgg133
  z76 := Tryz.sizeOf133
  v76 := Tryz.zeroValue133
  t85 := Tryz.underlying213
  a85 := Tryz.isAgg213
  z85 := Tryz.sizeOf213
  v85 := Tryz.zeroValue213
  t127 := Tryz.underlying234
  a127 := Tryz.isAgg234
  z127 := Tryz.sizeOf234
  v127 := Tryz.zeroValue234
  t143 := Tryz.underlying252
  a143 := Tryz.isAgg252
  z143 := Tryz.sizeOf252
  v143 := Tryz.zeroValue252
  t145 := Tryz.underlying254
  a145 := Tryz.isAgg254
  z145 := Tryz.sizeOf254
  v145 := Tryz.zeroValue254
  t167 := Tryz.underlying212
  a167 := Tryz.isAgg212
  z167 := Tryz.sizeOf212
  v167 := Tryz.zeroValue212
  t168 := Tryz.underlying215
  a168 := Tryz.isAgg215
  z168 := Tryz.sizeOf215
  v168 := Tryz.zeroValue215
  t171 := Tryz.underlying187
  a171 := Tryz.isAgg187
  z171 := Tryz.sizeOf187
  v171 := Tryz.zeroValue187
  t173 := Tryz.underlying189
  a173 := Tryz.isAgg189
  z173 := Tryz.sizeOf189
  v173 := Tryz.zeroValue189
  t175 := Tryz.underlying154
  a175 := Tryz.isAgg154
  z175 := Tryz.sizeOf154
  v175 := Tryz.zeroValue154
  t210 := Tryz.underlying240
  a210 := Tryz.isAgg240
  z210 := Tryz.sizeOf240
  v210 := Tryz.zeroValue240
  t212 := Tryz.underlying220
  a212 := Tryz.isAgg220
  z212 := Tryz.sizeOf220
  v212 := Tryz.zeroValue220
  t213 := Tryz.underlying221
  a213 := Tryz.isAgg221
  z213 := Tryz.sizeOf221
  t232 := Tryz.underlying255
  a232 := Tryz.isAgg255
  z232 := Tryz.sizeOf255
  v232 := Tryz.zeroValue255
  t233 := Tryz.underlying247
  a233 := Tryz.isAgg247
  z233 := Tryz.sizeOf247
  v233 := Tryz.zeroValue247
  g15 := by kernel_rfl
  g16 := by kernel_rfl
  g17 := by kernel_rfl
  g18 := by kernel_rfl
  g19 := by kernel_rfl }
open Go.RowKit in
theorem Tryz.strconv_Atoi (s : ByteArray) (n : Int) (hl : s.size ≤ 18) (h : Lib.atoi s.data.toList = some n) (w : World) :
    Calls Tryz.prog 84 #[.string s] w fun e w' => e = .returned (.tuple #[.int .i64 n, .nilIface]) ∧ ∃ t, w' = Lib.bytesWorld w 5 t := Any.strconv_Atoi Tryz.lays172 s n hl h w
def Tryz.laysM171_ren : Go.Shelf.Ren := ⟨fun | 171 => 52 | 243 => 103 | 246 => 146 | 283 => 142 | 284 => 143 | 285 => 144 | 286 => 145 | 129 => 97 | 317 => 178 | 318 => 179 | 319 => 180 | 320 => 181 | 337 => 206 | 338 => 198 | n => n, fun | 3 => 3 | 9 => 9 | 2 => 2 | 4 => 4 | 171 => 187 | 0 => 0 | 53 => 23 | 37 => 65 | 5 => 5 | 173 => 189 | 212 => 220 | 51 => 136 | 20 => 20 | 213 => 221 | 46 => 54 | 232 => 255 | 233 => 247 | n => n, fun | 17 => 2 | 18 => 10 | 19 => 7 | n => n⟩
theorem Tryz.laysM171 : Go.Proofs.LaysM.n171 Tryz.prog Tryz.laysM171_ren := {
  mixed := by kernel_rfl
  f129 := Tryz.func97.trans (congrArg some (by kernel_rfl))
  f171 := Tryz.func52.trans (congrArg some (by kernel_rfl))
  f243 := Tryz.func103.trans (congrArg some (by kernel_rfl))
  f246 := Tryz.func146.trans (congrArg some (by kernel_rfl))
  f283 := Tryz.func142.trans (congrArg some (by kernel_rfl))
  f284 := Tryz.func143.trans (congrArg some (by kernel_rfl))
  f285 := Tryz.func144.trans (congrArg some (by kernel_rfl))
  f286 := Tryz.func145.trans (congrArg some (by kernel_rfl))
  f317 := Tryz.func178.trans (congrArg some (by kernel_rfl))
  f318 := Tryz.func179.trans (congrArg some (by kernel_rfl))
  f319 := Tryz.func180.trans (congrArg some (by kernel_rfl))
  f320 := Tryz.func181.trans (congrArg some (by kernel_rfl))
  f337 := Tryz.func206.trans (congrArg some (by kernel_rfl))
  f338 := Tryz.func198.trans (congrArg some (by kernel_rfl))
  t0 := Tryz.underlying0
  a0 := Tryz.isAgg0
  z0 := Tryz.sizeOf0
  v0 := Tryz.zeroValue0
  t2 := Tryz.underlying2
  a2 := Tryz.isAgg2
  z2 := Tryz.sizeOf2
  v2 := Tryz.zeroValue2
  t3 := Tryz.underlying3
  a3 := Tryz.isAgg3
  z3 := Tryz.sizeOf3
  v3 := Tryz.zeroValue3
  t4 := Tryz.underlying4
  a4 := Tryz.isAgg4
  z4 := Tryz.sizeOf4
  v4 := Tryz.zeroValue4
  t5 := Tryz.underlying5
  a5 := Tryz.isAgg5
  z5 := Tryz.sizeOf5
  v5 := Tryz.zeroValue5
  t9 := Tryz.underlying9
  a9 := Tryz.isAgg9
  z9 := Tryz.sizeOf9
  v9 := Tryz.zeroValue9
  t20 := Tryz.underlying20
  a20 := Tryz.isAgg20
  z20 := Tryz.sizeOf20
  v20 := Tryz.zeroValue20
  t37 := Tryz.underlying65
  a37 := Tryz.isAgg65
  z37 := Tryz.sizeOf65
  v37 := Tryz.zeroValue65
  t46 := Tryz.underlying54
  a46 := Tryz.isAgg54
  z46 := Tryz.sizeOf54
  v46 := Tryz.zeroValue54
  t51 := Tryz.underlying136
  a51 := Tryz.isAgg136
  z51 := Tryz.sizeOf136
  v51 := Tryz.zeroValue136
  t53 := Tryz.underlying23
  a53 := Tryz.isAgg23
  z53 := Tryz.sizeOf23
  v53 := Tryz.zeroValue23
  t171 := Tryz.underlying187
  a171 := Tryz.isAgg187
  z171 := Tryz.sizeOf187
  v171 := Tryz.zeroValue187
  t173 := Tryz.underlying189
  a173 := Tryz.isAgg189
  z173 := Tryz.sizeOf189
  v173 := Tryz.zeroValue189
  t212 := Tryz.underlying220
  a212 := Tryz.isAgg220
  z212 := Tryz.sizeOf220
  v212 := Tryz.zeroValue220
  t213 := Tryz.underlying221
  a213 := Tryz.isAgg221
  z213 := Tryz.sizeOf221
  t232 := Tryz.underlying255
  a232 := Tryz.isAgg255
  z232 := Tryz.sizeOf255
  v232 := Tryz.zeroValue255
  t233 := Tryz.underlying247
  a233 := Tryz.isAgg247
  z233 := Tryz.sizeOf247
  v233 := Tryz.zeroValue247
  g17 := by kernel_rfl
  g18 := by kernel_rfl
  g19 := by kernel_rfl
  i0 := by kernel_rfl
  i2 := by kernel_rfl
  i3 := by kernel_rfl
  i4 := by kernel_rfl
  i5 := by kernel_rfl
  i9 := by kernel_rfl
  i20 := by kernel_rfl
  i37 := by kernel_rfl
  i46 := by kernel_rfl
  i51 := by kernel_rfl
  i53 := by kernel_rfl
  i171 := by kernel_rfl
  i173 := by kernel_rfl
  i212 := by kernel_rfl
  i232 := by kernel_rfl
  i233 := by kernel_rfl
  m17 := by kernel_rfl
  m18 := by kernel_rfl
  m19 := by kernel_rfl }
open Go.RowKit Go.Sort Go.Lib in
theorem Tryz.strconv_Itoa (n : Int) (h0 : -9223372036854775808 ≤ n) (h1 : n ≤ 9223372036854775807) (w : World) (htab : Lib.TabIs Tryz.prog w "internal/strconv.uint64pow10" .u64 Lib.pow10Tab) :
    Calls Tryz.prog 52 #[.int .i64 n] w fun e w' => e = .returned (.string ⟨(Lib.itoa n).toArray⟩) ∧ ∃ k os, w' = grow (w.drewN k) os := Any.strconv_Itoa Tryz.laysM171 n h0 h1 w htab
def Tryz.laysC172_ren : Go.Shelf.Ren := ⟨fun | 172 => 84 | 244 => 132 | 245 => 133 | 247 => 171 | 279 => 172 | 280 => 173 | 281 => 174 | 282 => 175 | 287 => 147 | 316 => 202 | 171 => 52 | 205 => 203 | 321 => 182 | 322 => 183 | 243 => 103 | 246 => 146 | 283 => 142 | 284 => 143 | 285 => 144 | 286 => 145 | 129 => 97 | 317 => 178 | 318 => 179 | 319 => 180 | 320 => 181 | 337 => 206 | 338 => 198 | n => n, fun | 9 => 9 | 3 => 3 | 75 => 132 | 76 => 133 | 4 => 4 | 5 => 5 | 167 => 212 | 37 => 65 | 0 => 0 | 85 => 213 | 2 => 2 | 168 => 215 | 53 => 23 | 175 => 154 | 46 => 54 | 210 => 240 | 127 => 234 | 145 => 254 | 143 => 252 | 21 => 21 | 171 => 187 | 173 => 189 | 212 => 220 | 51 => 136 | 20 => 20 | 213 => 221 | 232 => 255 | 233 => 247 | 80 => 205 | n => n, fun | 15 => 3 | 16 => 4 | 17 => 2 | 18 => 10 | 19 => 7 | n => n⟩
theorem Tryz.laysC172 : Go.Proofs.LaysC.n172 Tryz.prog Tryz.laysC172_ren := {
  mixed := by kernel_rfl
  f129 := Tryz.func97.trans (congrArg some (by kernel_rfl))
  f171 := Tryz.func52.trans (congrArg some (by kernel_rfl))
  f172 := Tryz.func84.trans (congrArg some (by kernel_rfl))
  f205 := Tryz.func203.trans (congrArg some (by kernel_rfl))
  f243 := Tryz.func103.trans (congrArg some (by kernel_rfl))
  f244 := Tryz.func132.trans (congrArg some (by kernel_rfl))
  f245 := Tryz.func133.trans (congrArg some (by kernel_rfl))
  f246 := Tryz.func146.trans (congrArg some (by kernel_rfl))
  f247 := Tryz.func171.trans (congrArg some (by kernel_rfl))
  f279 := Tryz.func172.trans (congrArg some (by kernel_rfl))
  f280 := Tryz.func173.trans (congrArg some (by kernel_rfl))
  f281 := Tryz.func174.trans (congrArg some (by kernel_rfl))
  f282 := Tryz.func175.trans (congrArg some (by kernel_rfl))
  f283 := Tryz.func142.trans (congrArg some (by kernel_rfl))
  f284 := Tryz.func143.trans (congrArg some (by kernel_rfl))
  f285 := Tryz.func144.trans (congrArg some (by kernel_rfl))
  f286 := Tryz.func145.trans (congrArg some (by kernel_rfl))
  f287 := Tryz.func147.trans (congrArg some (by kernel_rfl))
  f316 := Tryz.func202.trans (congrArg some (by kernel_rfl))
  f317 := Tryz.func178.trans (congrArg some (by kernel_rfl))
  f318 := Tryz.func179.trans (congrArg some (by kernel_rfl))
  f319 := Tryz.func180.trans (congrArg some (by kernel_rfl))
  f320 := Tryz.func181.trans (congrArg some (by kernel_rfl))
  f321 := Tryz.func182.trans (congrArg some (by kernel_rfl))
  f322 := Tryz.func183.trans (congrArg some (by kernel_rfl))
  f337 := Tryz.func206.trans (congrArg some (by kernel_rfl))
  f338 := Tryz.func198.trans (congrArg some (by kernel_rfl))
  t0 := Tryz.underlying0
  a0 := Tryz.isAgg0
  z0 := Tryz.sizeOf0
  v0 := Tryz.zeroValue0
  t2 := Tryz.underlying2
  a2 := Tryz.isAgg2
  z2 := Tryz.sizeOf2
  v2 := Tryz.zeroValue2
  t3 := Tryz.underlying3
  a3 := Tryz.isAgg3
  z3 := Tryz.sizeOf3
  v3 := Tryz.zeroValue3
  t4 := Tryz.underlying4
  a4 := Tryz.isAgg4
  z4 := Tryz.sizeOf4
  v4 := Tryz.zeroValue4
  t5 := Tryz.underlying5
  a5 := Tryz.isAgg5
  z5 := Tryz.sizeOf5
  v5 := Tryz.zeroValue5
  t9 := Tryz.underlying9
  a9 := Tryz.isAgg9
  z9 := Tryz.sizeOf9
  v9 := Tryz.zeroValue9
  t20 := Tryz.underlying20
  a20 := Tryz.isAgg20
  z20 := Tryz.sizeOf20
  v20 := Tryz.zeroValue20
  t21 := Tryz.underlying21
  a21 := Tryz.isAgg21
  z21 := Tryz.sizeOf21
  v21 := Tryz.zeroValue21
  t37 := Tryz.underlying65
  a37 := Tryz.isAgg65
  z37 := Tryz.sizeOf65
  v37 := Tryz.zeroValue65
  t46 := Tryz.underlying54
  a46 := Tryz.isAgg54
  z46 := Tryz.sizeOf54
  v46 := Tryz.zeroValue54
  t51 := Tryz.underlying136
  a51 := Tryz.isAgg136
  z51 := Tryz.sizeOf136
  v51 := Tryz.zeroValue136
  t53 := Tryz.underlying23
  a53 := Tryz.isAgg23
  z53 := Tryz.sizeOf23
  v53 := Tryz.zeroValue23
  t75 := Tryz.underlying132
  a75 := Tryz.isAgg132
  z75 := Tryz.sizeOf132
  v75 := Tryz.zeroValue132
  t76 := Tryz.underlying133
  a76 := Tryz.isAgg133
  z76 := Tryz.sizeOf133
  v76 := Tryz.zeroValue133
  t85 := Tryz.underlying213
  a85 := Tryz.isAgg213
  z85 := Tryz.sizeOf213
  v85 := Tryz.zeroValue213
  t127 := Tryz.underlying234
  a127 := Tryz.isAgg234
  z127 := Tryz.sizeOf234
  v127 := Tryz.zeroValue234
  t143 := Tryz.underlying252
  a143 := Tryz.isAgg252
  z143 := Tryz.sizeOf252
  v143 := Tryz.zeroValue252
  t145 := Tryz.underlying254
  a145 := Tryz.isAgg254
  z145 := Tryz.sizeOf254
  v145 := Tryz.zeroValue254
  t167 := Tryz.underlying212
  a167 := Tryz.isAgg212
  z167 := Tryz.sizeOf212
  v167 := Tryz.zeroValue212
  t168 := Tryz.underlying215
  a168 := Tryz.isAgg215
  z168 := Tryz.sizeOf215
  v168 := Tryz.zeroValue215
  t171 := Tryz.underlying187
  a171 := Tryz.isAgg187
  z171 := Tryz.sizeOf187
  v171 := Tryz.zeroValue187
  t173 := Tryz.underlying189
  a173 := Tryz.isAgg189
  z173 := Tryz.sizeOf189
  v173 := Tryz.zeroValue189
  t175 := Tryz.underlying154
  a175 := Tryz.isAgg154
  z175 := Tryz.sizeOf154
  v175 := Tryz.zeroValue154
  t210 := Tryz.underlying240
  a210 := Tryz.isAgg240
  z210 := Tryz.sizeOf240
  v210 := Tryz.zeroValue240
  t212 := Tryz.underlying220
  a212 := Tryz.isAgg220
  z212 := Tryz.sizeOf220
  v212 := Tryz.zeroValue220
  t213 := Tryz.underlying221
  a213 := Tryz.isAgg221
  z213 := Tryz.sizeOf221
  t232 := Tryz.underlying255
  a232 := Tryz.isAgg255
  z232 := Tryz.sizeOf255
  v232 := Tryz.zeroValue255
  t233 := Tryz.underlying247
  a233 := Tryz.isAgg247
  z233 := Tryz.sizeOf247
  v233 := Tryz.zeroValue247
  g15 := by kernel_rfl
  g16 := by kernel_rfl
  g17 := by kernel_rfl
  g18 := by kernel_rfl
  g19 := by kernel_rfl
  t80 := Tryz.underlying205
  a80 := Tryz.isAgg205
  z80 := Tryz.sizeOf205
  v80 := Tryz.zeroValue205
  i0 := by kernel_rfl
  i2 := by kernel_rfl
  i3 := by kernel_rfl
  i4 := by kernel_rfl
  i5 := by kernel_rfl
  i9 := by kernel_rfl
  i20 := by kernel_rfl
  i21 := by kernel_rfl
  i37 := by kernel_rfl
  i46 := by kernel_rfl
  i51 := by kernel_rfl
  i53 := by kernel_rfl
  i75 := by kernel_rfl
  i76 := by kernel_rfl
  i80 := by kernel_rfl
  i85 := by kernel_rfl
  i127 := by kernel_rfl
  i143 := by kernel_rfl
  i145 := by kernel_rfl
  i167 := by kernel_rfl
  i168 := by kernel_rfl
  i171 := by kernel_rfl
  i173 := by kernel_rfl
  i175 := by kernel_rfl
  i210 := by kernel_rfl
  i212 := by kernel_rfl
  i232 := by kernel_rfl
  i233 := by kernel_rfl
  m15 := by kernel_rfl
  m16 := by kernel_rfl
  m17 := by kernel_rfl
  m18 := by kernel_rfl
  m19 := by kernel_rfl
  c0 := by kernel_rfl
  c2 := by kernel_rfl
  c3 := by kernel_rfl
  c4 := by kernel_rfl
  c5 := by kernel_rfl
  c9 := by kernel_rfl
  c20 := by kernel_rfl
  c21 := by kernel_rfl
  c37 := by kernel_rfl
  c46 := by kernel_rfl
  c51 := by kernel_rfl
  c53 := by kernel_rfl
  c75 := by kernel_rfl
  c76 := by kernel_rfl
  c80 := by kernel_rfl
  c85 := by kernel_rfl
  c127 := by kernel_rfl
  c143 := by kernel_rfl
  c145 := by kernel_rfl
  c167 := by kernel_rfl
  c168 := by kernel_rfl
  c171 := by kernel_rfl
  c173 := by kernel_rfl
  c175 := by kernel_rfl
  c210 := by kernel_rfl
  c212 := by kernel_rfl
  c213 := by kernel_rfl
  c232 := by kernel_rfl
  c233 := by kernel_rfl }
open Go.RowKit in
theorem Tryz.strconv_Atoi_ok (s : ByteArray) (hmax : s.size ≤ 9223372036854775806) (v : Int) (h : Lib.atoiAll s.data.toList = .ok v) (w : World) :
    Calls Tryz.prog 84 #[.string s] w fun e w' => e = .returned (.tuple #[.int .i64 v, .nilIface]) ∧ (w' = w ∨ ∃ t, w' = Lib.bytesWorld w 5 t) := Any.strconv_Atoi_ok Tryz.laysC172 s hmax v h w
open Go.RowKit in
theorem Tryz.strconv_Atoi_range_var (s : ByteArray) (hlim : s.size ≤ 281474976710656) (h : Lib.atoiAll s.data.toList = .range) (tp : TypeId) (p : Value) (w : World) (hvar : w.var? Tryz.prog "strconv.ErrRange" = some #[.iface tp p]) :
    Calls Tryz.prog 84 #[.string s] w fun e w' => ∃ N, e = .returned (.tuple #[.int .i64 (Lib.atoiSat s.data.toList), .iface 215 (.pointer (some ⟨N, 0, none⟩))]) ∧ w.heap.size ≤ N ∧ w'.heap[N]? = some (.cells #[.string ⟨#[65, 116, 111, 105]⟩, .string s, .iface tp p] 240 (0, 0)) ∧ Below w.heap.size w w' := Any.strconv_Atoi_range_var Tryz.laysC172 s hlim h tp p w hvar
def Tryz.laysPu14_ren : Go.Shelf.Ren := ⟨fun | 14 => 105 | 16 => 147 | 17 => 133 | 19 => 182 | 20 => 183 | 21 => 172 | 22 => 173 | 23 => 174 | 24 => 175 | 25 => 202 | 27 => 52 | 26 => 203 | 28 => 103 | 29 => 146 | 30 => 142 | 31 => 143 | 32 => 144 | 33 => 145 | 35 => 97 | 34 => 178 | 36 => 179 | 37 => 180 | 38 => 181 | 39 => 206 | 40 => 198 | n => n, fun | 9 => 9 | 3 => 3 | 22 => 23 | 24 => 132 | 25 => 154 | 4 => 4 | 34 => 212 | 5 => 5 | 36 => 54 | 37 => 65 | 0 => 0 | 39 => 215 | 21 => 21 | 44 => 240 | 47 => 234 | 50 => 254 | 48 => 252 | 2 => 2 | 52 => 187 | 55 => 189 | 59 => 220 | 60 => 136 | 20 => 20 | 61 => 221 | 65 => 255 | 66 => 247 | 67 => 205 | n => n, fun | 0 => 3 | 1 => 4 | 2 => 2 | 3 => 10 | 4 => 7 | n => n⟩
theorem Tryz.laysPu14 : Go.Proofs.LaysPu.n14 Tryz.prog Tryz.laysPu14_ren := {
  mixed := by kernel_rfl
  f14 := Tryz.func105.trans (congrArg some (by kernel_rfl))
  f16 := Tryz.func147.trans (congrArg some (by kernel_rfl))
  f17 := Tryz.func133.trans (congrArg some (by kernel_rfl))
  f19 := Tryz.func182.trans (congrArg some (by kernel_rfl))
  f20 := Tryz.func183.trans (congrArg some (by kernel_rfl))
  f21 := Tryz.func172.trans (congrArg some (by kernel_rfl))
  f22 := Tryz.func173.trans (congrArg some (by kernel_rfl))
  f23 := Tryz.func174.trans (congrArg some (by kernel_rfl))
  f24 := Tryz.func175.trans (congrArg some (by kernel_rfl))
  f25 := Tryz.func202.trans (congrArg some (by kernel_rfl))
  f26 := Tryz.func203.trans (congrArg some (by kernel_rfl))
  f27 := Tryz.func52.trans (congrArg some (by kernel_rfl))
  f28 := Tryz.func103.trans (congrArg some (by kernel_rfl))
  f29 := Tryz.func146.trans (congrArg some (by kernel_rfl))
  f30 := Tryz.func142.trans (congrArg some (by kernel_rfl))
  f31 := Tryz.func143.trans (congrArg some (by kernel_rfl))
  f32 := Tryz.func144.trans (congrArg some (by kernel_rfl))
  f33 := Tryz.func145.trans (congrArg some (by kernel_rfl))
  f34 := Tryz.func178.trans (congrArg some (by kernel_rfl))
  f35 := Tryz.func97.trans (congrArg some (by kernel_rfl))
  f36 := Tryz.func179.trans (congrArg some (by kernel_rfl))
  f37 := Tryz.func180.trans (congrArg some (by kernel_rfl))
  f38 := Tryz.func181.trans (congrArg some (by kernel_rfl))
  f39 := Tryz.func206.trans (congrArg some (by kernel_rfl))
  f40 := Tryz.func198.trans (congrArg some (by kernel_rfl))
  t0 := Tryz.underlying0
  a0 := Tryz.isAgg0
  z0 := Tryz.sizeOf0
  v0 := Tryz.zeroValue0
  i0 := by kernel_rfl
  t2 := Tryz.underlying2
  a2 := Tryz.isAgg2
  z2 := Tryz.sizeOf2
  v2 := Tryz.zeroValue2
  i2 := by kernel_rfl
  t3 := Tryz.underlying3
  a3 := Tryz.isAgg3
  z3 := Tryz.sizeOf3
  v3 := Tryz.zeroValue3
  i3 := by kernel_rfl
  t4 := Tryz.underlying4
  a4 := Tryz.isAgg4
  z4 := Tryz.sizeOf4
  v4 := Tryz.zeroValue4
  i4 := by kernel_rfl
  t5 := Tryz.underlying5
  a5 := Tryz.isAgg5
  z5 := Tryz.sizeOf5
  v5 := Tryz.zeroValue5
  i5 := by kernel_rfl
  t9 := Tryz.underlying9
  a9 := Tryz.isAgg9
  z9 := Tryz.sizeOf9
  v9 := Tryz.zeroValue9
  i9 := by kernel_rfl
  t20 := Tryz.underlying20
  a20 := Tryz.isAgg20
  z20 := Tryz.sizeOf20
  v20 := Tryz.zeroValue20
  i20 := by kernel_rfl
  t21 := Tryz.underlying21
  a21 := Tryz.isAgg21
  z21 := Tryz.sizeOf21
  v21 := Tryz.zeroValue21
  i21 := by kernel_rfl
  t22 := Tryz.underlying23
  a22 := Tryz.isAgg23
  z22 := Tryz.sizeOf23
  v22 := Tryz.zeroValue23
  i22 := by kernel_rfl
  t24 := Tryz.underlying132
  a24 := Tryz.isAgg132
  z24 := Tryz.sizeOf132
  v24 := Tryz.zeroValue132
  i24 := by kernel_rfl
  t25 := Tryz.underlying154
  a25 := Tryz.isAgg154
  z25 := Tryz.sizeOf154
  v25 := Tryz.zeroValue154
  i25 := by kernel_rfl
  t34 := Tryz.underlying212
  a34 := Tryz.isAgg212
  z34 := Tryz.sizeOf212
  v34 := Tryz.zeroValue212
  i34 := by kernel_rfl
  c34 := by kernel_rfl
  t36 := Tryz.underlying54
  a36 := Tryz.isAgg54
  z36 := Tryz.sizeOf54
  v36 := Tryz.zeroValue54
  i36 := by kernel_rfl
  t37 := Tryz.underlying65
  a37 := Tryz.isAgg65
  z37 := Tryz.sizeOf65
  v37 := Tryz.zeroValue65
  i37 := by kernel_rfl
  t39 := Tryz.underlying215
  a39 := Tryz.isAgg215
  z39 := Tryz.sizeOf215
  v39 := Tryz.zeroValue215
  i39 := by kernel_rfl
  t44 := Tryz.underlying240
  a44 := Tryz.isAgg240
  z44 := Tryz.sizeOf240
  v44 := Tryz.zeroValue240
  i44 := by kernel_rfl
  t47 := Tryz.underlying234
  a47 := Tryz.isAgg234
  z47 := Tryz.sizeOf234
  v47 := Tryz.zeroValue234
  i47 := by kernel_rfl
  t48 := Tryz.underlying252
  a48 := Tryz.isAgg252
  z48 := Tryz.sizeOf252
  v48 := Tryz.zeroValue252
  i48 := by kernel_rfl
  t50 := Tryz.underlying254
  a50 := Tryz.isAgg254
  z50 := Tryz.sizeOf254
  v50 := Tryz.zeroValue254
  i50 := by kernel_rfl
  t52 := Tryz.underlying187
  a52 := Tryz.isAgg187
  z52 := Tryz.sizeOf187
  v52 := Tryz.zeroValue187
  i52 := by kernel_rfl
  t55 := Tryz.underlying189
  a55 := Tryz.isAgg189
  z55 := Tryz.sizeOf189
  v55 := Tryz.zeroValue189
  i55 := by kernel_rfl
  t59 := Tryz.underlying220
  a59 := Tryz.isAgg220
  z59 := Tryz.sizeOf220
  v59 := Tryz.zeroValue220
  i59 := by kernel_rfl
  t60 := Tryz.underlying136
  a60 := Tryz.isAgg136
  z60 := Tryz.sizeOf136
  v60 := Tryz.zeroValue136
  i60 := by kernel_rfl
  t61 := Tryz.underlying221
  a61 := Tryz.isAgg221
  z61 := Tryz.sizeOf221
  t65 := Tryz.underlying255
  a65 := Tryz.isAgg255
  z65 := Tryz.sizeOf255
  v65 := Tryz.zeroValue255
  i65 := by kernel_rfl
  t66 := Tryz.underlying247
  a66 := Tryz.isAgg247
  z66 := Tryz.sizeOf247
  v66 := Tryz.zeroValue247
  i66 := by kernel_rfl
  t67 := Tryz.underlying205
  a67 := Tryz.isAgg205
  z67 := Tryz.sizeOf205
  v67 := Tryz.zeroValue205
  i67 := by kernel_rfl
  g0 := by kernel_rfl
  m0 := by kernel_rfl
  g1 := by kernel_rfl
  m1 := by kernel_rfl
  g2 := by kernel_rfl
  m2 := by kernel_rfl
  g3 := by kernel_rfl
  m3 := by kernel_rfl
  g4 := by kernel_rfl
  m4 := by kernel_rfl }
open Go.RowKit in
theorem Tryz.strconv_ParseUint_10_at64_ok (s : ByteArray) (hmax : s.size ≤ 9223372036854775806) (u : Nat) (h : Lib.parseUintB 64 s.data.toList = .ok u) (w : World) :
    Calls Tryz.prog 105 #[.string s, .int .i64 10, .int .i64 64] w fun e w' => e = .returned (.tuple #[.int .u64 u, .nilIface]) ∧ (w' = w ∨ w' = Lib.bytesWorld w 5 s) := Any.strconv_ParseUint_10_at64_ok Tryz.laysPu14 s hmax u h w
def Tryz.lays105_ren : Go.Shelf.Ren := ⟨fun | 105 => 116 | 212 => 159 | 99 => 160 | 165 => 161 | 166 => 157 | 170 => 162 | 169 => 158 | 263 => 196 | 264 => 184 | 206 => 125 | 240 => 195 | 241 => 197 | 276 => 211 | 277 => 212 | n => n, fun | 9 => 9 | 3 => 3 | 4 => 4 | 20 => 20 | 0 => 0 | 46 => 54 | 109 => 206 | 5 => 5 | 72 => 204 | 76 => 133 | 51 => 136 | 146 => 235 | 53 => 23 | 148 => 178 | 70 => 202 | 37 => 65 | 75 => 132 | 127 => 234 | 164 => 244 | 80 => 205 | n => n, fun | n => n⟩
theorem Tryz.lays105 : Go.Proofs.Lays.n105 Tryz.prog Tryz.lays105_ren := {
  mixed := by kernel_rfl
  f99 := Tryz.func160.trans (congrArg some (by kernel_rfl))
  f105 := Tryz.func116.trans (congrArg some (by kernel_rfl))
  f165 := Tryz.func161.trans (congrArg some (by kernel_rfl))
  f166 := Tryz.func157.trans (congrArg some (by kernel_rfl))
  f169 := Tryz.func158.trans (congrArg some (by kernel_rfl))
  f170 := Tryz.func162.trans (congrArg some (by kernel_rfl))
  f206 := Tryz.func125.trans (congrArg some (by kernel_rfl))
  f212 := Tryz.func159.trans (congrArg some (by kernel_rfl))
  f240 := Tryz.func195.trans (congrArg some (by kernel_rfl))
  f241 := Tryz.func197.trans (congrArg some (by kernel_rfl))
  f263 := Tryz.func196.trans (congrArg some (by kernel_rfl))
  f264 := Tryz.func184.trans (congrArg some (by kernel_rfl))
  f276 := Tryz.func211.trans (congrArg some (by kernel_rfl))
  f277 := Tryz.func212.trans (congrArg some (by kernel_rfl))
  t0 := Tryz.underlying0
  a0 := Tryz.isAgg0
  z0 := Tryz.sizeOf0
  v0 := Tryz.zeroValue0
  t3 := Tryz.underlying3
  a3 := Tryz.isAgg3
  z3 := Tryz.sizeOf3
  v3 := Tryz.zeroValue3
  t4 := Tryz.underlying4
  a4 := Tryz.isAgg4
  z4 := Tryz.sizeOf4
  v4 := Tryz.zeroValue4
  t5 := Tryz.underlying5
  a5 := Tryz.isAgg5
  z5 := Tryz.sizeOf5
  v5 := Tryz.zeroValue5
  t9 := Tryz.underlying9
  a9 := Tryz.isAgg9
  z9 := Tryz.sizeOf9
  v9 := Tryz.zeroValue9
  t20 := Tryz.underlying20
  a20 := Tryz.isAgg20
  z20 := Tryz.sizeOf20
  v20 := Tryz.zeroValue20
  t37 := Tryz.underlying65
  a37 := Tryz.isAgg65
  z37 := Tryz.sizeOf65
  v37 := Tryz.zeroValue65
  t46 := Tryz.underlying54
  a46 := Tryz.isAgg54
  z46 := Tryz.sizeOf54
  v46 := Tryz.zeroValue54
  t51 := Tryz.underlying136
  a51 := Tryz.isAgg136
  z51 := Tryz.sizeOf136
  v51 := Tryz.zeroValue136
  t53 := Tryz.underlying23
  a53 := Tryz.isAgg23
  z53 := Tryz.sizeOf23
  v53 := Tryz.zeroValue23
  t70 := Tryz.underlying202
  a70 := Tryz.isAgg202
  z70 := Tryz.sizeOf202
  v70 := Tryz.zeroValue202
  t72 := Tryz.underlying204
  a72 := Tryz.isAgg204
  z72 := Tryz.sizeOf204
  v72 := Tryz.zeroValue204
  t75 := Tryz.underlying132
  a75 := Tryz.isAgg132
  z75 := Tryz.sizeOf132
  v75 := Tryz.zeroValue132
  t76 := Tryz.underlying133
  a76 := Tryz.isAgg133
  z76 := Tryz.sizeOf133
  v76 := Tryz.zeroValue133
  t109 := Tryz.underlying206
  a109 := Tryz.isAgg206
  z109 := Tryz.sizeOf206
  v109 := Tryz.zeroValue206
  t127 := Tryz.underlying234
  a127 := Tryz.isAgg234
  z127 := Tryz.sizeOf234
  v127 := Tryz.zeroValue234
  t146 := Tryz.underlying235
  a146 := Tryz.isAgg235
  z146 := Tryz.sizeOf235
  v146 := Tryz.zeroValue235
  t148 := Tryz.underlying178
  a148 := Tryz.isAgg178
  z148 := Tryz.sizeOf178
  v148 := Tryz.zeroValue178
  t164 := Tryz.underlying244
  a164 := Tryz.isAgg244
  z164 := Tryz.sizeOf244
  v164 := Tryz.zeroValue244 }
theorem Tryz.Builder_Extra_105 : Builder.Extra Tryz.prog Tryz.lays105_ren := {
  sizeBuilder := by kernel_rfl
  liesBuilder := by kernel_rfl
  t5 := Tryz.underlying5
  a5 := Tryz.isAgg5
  z5 := Tryz.sizeOf5
  v5 := Tryz.zeroValue5
  infoByte := by kernel_rfl
  cellsByte := by kernel_rfl
  sizeByte := by kernel_rfl
  neB5 := by decide }
open Go.RowKit Go.Lib in
theorem Tryz.strings_Repeat (s : ByteArray) (c : Nat) (w : World) (hc : c ≤ 9223372036854775807) (hlen : s.size * c ≤ 140737488355328) :
    Calls Tryz.prog 116 #[.string s, .int .i64 c] w fun e w' => e = .returned (.string ⟨(Lib.repeatL s.data.toList c).toArray⟩) ∧ Below w.heap.size w w' := Any.strings_Repeat Tryz.lays105 Tryz.Builder_Extra_105 s c w hc hlen
end Go.Proofs
