/-
  The contracts of library functions at this dump, laid by the kit's programs, in plain declarations.
-/
import Derived.Shelf.Small.Bits
import Derived.Shelf.Small.Strs
import Derived.Shelf.Small.Wraps
import Derived.Shelf.Strconv.Atoi
import Derived.Shelf.Strconv.Itoa0
import Derived.Shelf.Strconv.Itoa1
import Derived.Shelf.LaysM
import Derived.Shelf.Strconv.Itoa2
import Derived.Shelf.Strconv.Itoa3
import Derived.Shelf.Strconv.AtoiErrFast
import Derived.Shelf.Strconv.ParseIntEmpty
import Derived.Shelf.Strconv.AtoiFail
import Derived.Shelf.Strconv.Clone
import Derived.Shelf.Strconv.SyntaxError
import Derived.Shelf.LaysC
import Derived.Shelf.Strconv.ToError
import Derived.Shelf.Strconv.Lower
import Derived.Shelf.Strconv.ParseUint10
import Derived.Shelf.Strconv.ParseUint10Empty
import Derived.Shelf.Strconv.ParseUint10Any
import Derived.Shelf.Strconv.ParseInt10
import Derived.Shelf.Strconv.AtoiLong
import Derived.Shelf.Strconv.AtoiInnerAll
import Derived.Shelf.Strconv.RangeError
import Derived.Shelf.Strconv.ToErrorRange
import Derived.Shelf.Strconv.AtoiAll
import Derived.Shelf.Strconv.ErrVarAll
import Derived.Shelf.Strings.Search1
import Derived.Shelf.Strings.Search2
import Derived.Shelf.Strings.Search3
import Derived.Shelf.Strings.Cut
import Derived.Shelf.Strings.Count
import Derived.Shelf.Strings.Shaped
import Derived.Shelf.Strconv.AppendUint10
import Derived.Shelf.Strconv.AppendInt10
import Derived.Shelf.Strconv.AppendIntPublic10
import Derived.Shelf.GgClosure.StringsIndexFunc
import Derived.Ground.GgwProg
import Derived.Shelf.GgClosure.StringsIndexFuncTop
import Derived.Shelf.Strings.Split
import Derived.Shelf.Unicode.DecodeSlow
import Derived.Shelf.Bytes.SlIndexAt
import Derived.Shelf.Bytes.SlSearch0
import Derived.Ground.SlbNamesProg
import Derived.Shelf.Bytes.SlJoin
import Derived.Ground.SlgmProg
import Derived.Shelf.SortM.Plain
import Derived.Shelf.SortM.SortNone
import Derived.Shelf.Bytes.SlSmallAll
import Derived.Shelf.Bytes.Small
import Derived.Shelf.Bytes.IndexByte
import Derived.Test.YtbejfgmdkmddnaaGreatDoorProg
namespace Go.Proofs
open Go.Shelf
def Tryz.lays213_ren : Go.Shelf.Ren := ⟨fun | 213 => 193 | 265 => 219 | n => n, fun | 9 => 9 | 3 => 3 | n => n, fun | n => n⟩
def Tryz.lays106_ren : Go.Shelf.Ren := ⟨fun | 106 => 149 | 213 => 193 | 265 => 219 | n => n, fun | 9 => 9 | 3 => 3 | n => n, fun | n => n⟩
theorem Tryz.lays106 : Go.Proofs.Lays.n106 Tryz.prog Tryz.lays106_ren := {
  mixed := by kernel_rfl
  f106 := Tryz.func149.trans (congrArg some (by kernel_rfl))
  f213 := Tryz.func193.trans (congrArg some (by kernel_rfl))
  f265 := Tryz.func219.trans (congrArg some (by kernel_rfl))
  t3 := Tryz.underlying3
  a3 := Tryz.isAgg3
  z3 := Tryz.sizeOf3
  v3 := Tryz.zeroValue3
  t9 := Tryz.underlying9
  a9 := Tryz.isAgg9
  z9 := Tryz.sizeOf9
  v9 := Tryz.zeroValue9 }
open Go.RowKit in
/-- strings.Compare: "Compare returns an integer comparing two strings lexicographically. The result will be 0 if a == b, -1 if a < b, and +1 if a > b.": IT RETURNS 'Lib.compareBytes a b'; the world is as it was. (LAID: no walk: one application.) -/
theorem Tryz.strings_Compare (a b : ByteArray) (w : World) :
    Calls Tryz.prog 149 #[.string a, .string b] w fun e w' => e = .returned (.int .i64 (Lib.compareBytes a.data.toList b.data.toList)) ∧ w' = w := Any.strings_Compare Tryz.lays106 a b w
def Tryz.lays215_ren : Go.Shelf.Ren := ⟨fun | 215 => 192 | n => n, fun | 3 => 3 | 4 => 4 | n => n, fun | n => n⟩
def Tryz.lays122_ren : Go.Shelf.Ren := ⟨fun | 122 => 148 | 215 => 192 | n => n, fun | 3 => 3 | 4 => 4 | n => n, fun | n => n⟩
theorem Tryz.lays122 : Go.Proofs.Lays.n122 Tryz.prog Tryz.lays122_ren := {
  mixed := by kernel_rfl
  f122 := Tryz.func148.trans (congrArg some (by kernel_rfl))
  f215 := Tryz.func192.trans (congrArg some (by kernel_rfl))
  t3 := Tryz.underlying3
  a3 := Tryz.isAgg3
  z3 := Tryz.sizeOf3
  v3 := Tryz.zeroValue3
  t4 := Tryz.underlying4
  a4 := Tryz.isAgg4
  z4 := Tryz.sizeOf4
  v4 := Tryz.zeroValue4 }
open Go.RowKit in
/-- cmp.Compare at int: "Compare returns -1 if x is less than y, 0 if x equals y, +1 if x is greater than y.": IT RETURNS 'Lib.compareInt x y'; the world is as it was. (LAID: no walk: one application.) -/
theorem Tryz.cmp_Compare_int (x y : Int) (w : World) :
    Calls Tryz.prog 148 #[.int .i64 x, .int .i64 y] w fun e w' => e = .returned (.int .i64 (Lib.compareInt x y)) ∧ w' = w := Any.cmp_Compare_int Tryz.lays122 x y w
def Tryz.lays172_ren : Go.Shelf.Ren := ⟨fun | 172 => 102 | 244 => 162 | 245 => 163 | 247 => 196 | 279 => 197 | 280 => 198 | 281 => 199 | 282 => 200 | 287 => 225 | 316 => 226 | 171 => 228 | 205 => 227 | 321 => 254 | 322 => 255 | 243 => 256 | 246 => 276 | 283 => 221 | 284 => 222 | 285 => 223 | 286 => 224 | 129 => 239 | 317 => 250 | 318 => 251 | 319 => 252 | 320 => 253 | 337 => 274 | 338 => 275 | n => n, fun | 9 => 9 | 3 => 3 | 75 => 161 | 76 => 162 | 4 => 4 | 5 => 5 | 167 => 238 | 37 => 32 | 0 => 0 | 85 => 239 | 2 => 2 | 168 => 241 | 53 => 236 | 175 => 259 | 46 => 152 | 210 => 262 | 127 => 284 | 145 => 287 | 143 => 285 | 21 => 21 | 171 => 254 | 173 => 257 | 212 => 281 | 51 => 153 | 20 => 20 | 213 => 282 | 232 => 310 | 233 => 311 | 80 => 64 | n => n, fun | 15 => 1 | 16 => 2 | 17 => 3 | 18 => 6 | 19 => 7 | n => n⟩
def Tryz.laysM246_ren : Go.Shelf.Ren := ⟨fun | 246 => 276 | 283 => 221 | 284 => 222 | 285 => 223 | 286 => 224 | 129 => 239 | 317 => 250 | 318 => 251 | 319 => 252 | 320 => 253 | 337 => 274 | 338 => 275 | n => n, fun | 2 => 2 | 3 => 3 | 9 => 9 | 4 => 4 | 171 => 254 | 0 => 0 | 53 => 236 | 37 => 32 | 5 => 5 | 173 => 257 | 212 => 281 | 51 => 153 | 20 => 20 | 213 => 282 | 46 => 152 | 232 => 310 | 233 => 311 | n => n, fun | 17 => 3 | 18 => 6 | 19 => 7 | n => n⟩
def Tryz.laysC172_ren : Go.Shelf.Ren := ⟨fun | 172 => 102 | 244 => 162 | 245 => 163 | 247 => 196 | 279 => 197 | 280 => 198 | 281 => 199 | 282 => 200 | 287 => 225 | 316 => 226 | 171 => 228 | 205 => 227 | 321 => 254 | 322 => 255 | 243 => 256 | 246 => 276 | 283 => 221 | 284 => 222 | 285 => 223 | 286 => 224 | 129 => 239 | 317 => 250 | 318 => 251 | 319 => 252 | 320 => 253 | 337 => 274 | 338 => 275 | n => n, fun | 9 => 9 | 3 => 3 | 75 => 161 | 76 => 162 | 4 => 4 | 5 => 5 | 167 => 238 | 37 => 32 | 0 => 0 | 85 => 239 | 2 => 2 | 168 => 241 | 53 => 236 | 175 => 259 | 46 => 152 | 210 => 262 | 127 => 284 | 145 => 287 | 143 => 285 | 21 => 21 | 171 => 254 | 173 => 257 | 212 => 281 | 51 => 153 | 20 => 20 | 213 => 282 | 232 => 310 | 233 => 311 | 80 => 64 | n => n, fun | 15 => 1 | 16 => 2 | 17 => 3 | 18 => 6 | 19 => 7 | n => n⟩
theorem Tryz.laysC172 : Go.Proofs.LaysC.n172 Tryz.prog Tryz.laysC172_ren := {
  mixed := by kernel_rfl
  f129 := Tryz.func239.trans (congrArg some (by kernel_rfl))
  f171 := Tryz.func228.trans (congrArg some (by kernel_rfl))
  f172 := Tryz.func102.trans (congrArg some (by kernel_rfl))
  f205 := Tryz.func227.trans (congrArg some (by kernel_rfl))
  f243 := Tryz.func256.trans (congrArg some (by kernel_rfl))
  f244 := Tryz.func162.trans (congrArg some (by kernel_rfl))
  f245 := Tryz.func163.trans (congrArg some (by kernel_rfl))
  f246 := Tryz.func276.trans (congrArg some (by kernel_rfl))
  f247 := Tryz.func196.trans (congrArg some (by kernel_rfl))
  f279 := Tryz.func197.trans (congrArg some (by kernel_rfl))
  f280 := Tryz.func198.trans (congrArg some (by kernel_rfl))
  f281 := Tryz.func199.trans (congrArg some (by kernel_rfl))
  f282 := Tryz.func200.trans (congrArg some (by kernel_rfl))
  f283 := Tryz.func221.trans (congrArg some (by kernel_rfl))
  f284 := Tryz.func222.trans (congrArg some (by kernel_rfl))
  f285 := Tryz.func223.trans (congrArg some (by kernel_rfl))
  f286 := Tryz.func224.trans (congrArg some (by kernel_rfl))
  f287 := Tryz.func225.trans (congrArg some (by kernel_rfl))
  f316 := Tryz.func226.trans (congrArg some (by kernel_rfl))
  f317 := Tryz.func250.trans (congrArg some (by kernel_rfl))
  f318 := Tryz.func251.trans (congrArg some (by kernel_rfl))
  f319 := Tryz.func252.trans (congrArg some (by kernel_rfl))
  f320 := Tryz.func253.trans (congrArg some (by kernel_rfl))
  f321 := Tryz.func254.trans (congrArg some (by kernel_rfl))
  f322 := Tryz.func255.trans (congrArg some (by kernel_rfl))
  f337 := Tryz.func274.trans (congrArg some (by kernel_rfl))
  f338 := Tryz.func275.trans (congrArg some (by kernel_rfl))
  t0 := Tryz.underlying0
  a0 := Tryz.isAgg0
  z0 := Tryz.sizeOf0
  v0 := Tryz.zeroValue0
  t2 := Tryz.underlying2
  a2 := Tryz.isAgg2
  z2 := Tryz.sizeOf2
  v2 := Tryz.zeroValue2
  t3 := Tryz.underlying3
  a3 := Tryz.isAgg3
  z3 := Tryz.sizeOf3
  v3 := Tryz.zeroValue3
  t4 := Tryz.underlying4
  a4 := Tryz.isAgg4
  z4 := Tryz.sizeOf4
  v4 := Tryz.zeroValue4
  t5 := Tryz.underlying5
  a5 := Tryz.isAgg5
  z5 := Tryz.sizeOf5
  v5 := Tryz.zeroValue5
  t9 := Tryz.underlying9
  a9 := Tryz.isAgg9
  z9 := Tryz.sizeOf9
  v9 := Tryz.zeroValue9
  t20 := Tryz.underlying20
  a20 := Tryz.isAgg20
  z20 := Tryz.sizeOf20
  v20 := Tryz.zeroValue20
  t21 := Tryz.underlying21
  a21 := Tryz.isAgg21
  z21 := Tryz.sizeOf21
  v21 := Tryz.zeroValue21
  t37 := Tryz.underlying32
  a37 := Tryz.isAgg32
  z37 := Tryz.sizeOf32
  v37 := Tryz.zeroValue32
  t46 := Tryz.underlying152
  a46 := Tryz.isAgg152
  z46 := Tryz.sizeOf152
  v46 := Tryz.zeroValue152
  t51 := Tryz.underlying153
  a51 := Tryz.isAgg153
  z51 := Tryz.sizeOf153
  v51 := Tryz.zeroValue153
  t53 := Tryz.underlying236
  a53 := Tryz.isAgg236
  z53 := Tryz.sizeOf236
  v53 := Tryz.zeroValue236
  t75 := Tryz.underlying161
  a75 := Tryz.isAgg161
  z75 := Tryz.sizeOf161
  v75 := Tryz.zeroValue161
  t76 := Tryz.underlying162
  a76 := Tryz.isAgg162
  z76 := Tryz.sizeOf162
  v76 := Tryz.zeroValue162
  t85 := Tryz.underlying239
  a85 := Tryz.isAgg239
  z85 := Tryz.sizeOf239
  v85 := Tryz.zeroValue239
  t127 := Tryz.underlying284
  a127 := Tryz.isAgg284
  z127 := Tryz.sizeOf284
  v127 := Tryz.zeroValue284
  t143 := Tryz.underlying285
  a143 := Tryz.isAgg285
  z143 := Tryz.sizeOf285
  v143 := Tryz.zeroValue285
  t145 := Tryz.underlying287
  a145 := Tryz.isAgg287
  z145 := Tryz.sizeOf287
  v145 := Tryz.zeroValue287
  t167 := Tryz.underlying238
  a167 := Tryz.isAgg238
  z167 := Tryz.sizeOf238
  v167 := Tryz.zeroValue238
  t168 := Tryz.underlying241
  a168 := Tryz.isAgg241
  z168 := Tryz.sizeOf241
  v168 := Tryz.zeroValue241
  t171 := Tryz.underlying254
  a171 := Tryz.isAgg254
  z171 := Tryz.sizeOf254
  v171 := Tryz.zeroValue254
  t173 := Tryz.underlying257
  a173 := Tryz.isAgg257
  z173 := Tryz.sizeOf257
  v173 := Tryz.zeroValue257
  t175 := Tryz.underlying259
  a175 := Tryz.isAgg259
  z175 := Tryz.sizeOf259
  v175 := Tryz.zeroValue259
  t210 := Tryz.underlying262
  a210 := Tryz.isAgg262
  z210 := Tryz.sizeOf262
  v210 := Tryz.zeroValue262
  t212 := Tryz.underlying281
  a212 := Tryz.isAgg281
  z212 := Tryz.sizeOf281
  v212 := Tryz.zeroValue281
  t213 := Tryz.underlying282
  a213 := Tryz.isAgg282
  z213 := Tryz.sizeOf282
  t232 := Tryz.underlying310
  a232 := Tryz.isAgg310
  z232 := Tryz.sizeOf310
  v232 := Tryz.zeroValue310
  t233 := Tryz.underlying311
  a233 := Tryz.isAgg311
  z233 := Tryz.sizeOf311
  v233 := Tryz.zeroValue311
  g15 := by kernel_rfl
  g16 := by kernel_rfl
  g17 := by kernel_rfl
  g18 := by kernel_rfl
  g19 := by kernel_rfl
  t80 := Tryz.underlying64
  a80 := Tryz.isAgg64
  z80 := Tryz.sizeOf64
  v80 := Tryz.zeroValue64
  i0 := by kernel_rfl
  i2 := by kernel_rfl
  i3 := by kernel_rfl
  i4 := by kernel_rfl
  i5 := by kernel_rfl
  i9 := by kernel_rfl
  i20 := by kernel_rfl
  i21 := by kernel_rfl
  i37 := by kernel_rfl
  i46 := by kernel_rfl
  i51 := by kernel_rfl
  i53 := by kernel_rfl
  i75 := by kernel_rfl
  i76 := by kernel_rfl
  i80 := by kernel_rfl
  i85 := by kernel_rfl
  i127 := by kernel_rfl
  i143 := by kernel_rfl
  i145 := by kernel_rfl
  i167 := by kernel_rfl
  i168 := by kernel_rfl
  i171 := by kernel_rfl
  i173 := by kernel_rfl
  i175 := by kernel_rfl
  i210 := by kernel_rfl
  i212 := by kernel_rfl
  i232 := by kernel_rfl
  i233 := by kernel_rfl
  m15 := by kernel_rfl
  m16 := by kernel_rfl
  m17 := by kernel_rfl
  m18 := by kernel_rfl
  m19 := by kernel_rfl
  c0 := by kernel_rfl
  c2 := by kernel_rfl
  c3 := by kernel_rfl
  c4 := by kernel_rfl
  c5 := by kernel_rfl
  c9 := by kernel_rfl
  c20 := by kernel_rfl
  c21 := by kernel_rfl
  c37 := by kernel_rfl
  c46 := by kernel_rfl
  c51 := by kernel_rfl
  c53 := by kernel_rfl
  c75 := by kernel_rfl
  c76 := by kernel_rfl
  c80 := by kernel_rfl
  c85 := by kernel_rfl
  c127 := by kernel_rfl
  c143 := by kernel_rfl
  c145 := by kernel_rfl
  c167 := by kernel_rfl
  c168 := by kernel_rfl
  c171 := by kernel_rfl
  c173 := by kernel_rfl
  c175 := by kernel_rfl
  c210 := by kernel_rfl
  c212 := by kernel_rfl
  c213 := by kernel_rfl
  c232 := by kernel_rfl
  c233 := by kernel_rfl }
open Go.RowKit in
/-- strconv.Atoi, AT EVERY STRING THAT SPELLS AN int ('Lib.atoiAll .. = .ok v'; of whatever length: leading zeros count): v, AND NO ERROR. The world: as it was, or with the one new row that '[]byte(..)' lays. (LAID: no walk: one application.) -/
theorem Tryz.strconv_Atoi_ok (s : ByteArray) (hmax : s.size ≤ 9223372036854775806) (v : Int) (h : Lib.atoiAll s.data.toList = .ok v) (w : World) :
    Calls Tryz.prog 102 #[.string s] w fun e w' => e = .returned (.tuple #[.int .i64 v, .nilIface]) ∧ (w' = w ∨ ∃ t, w' = Lib.bytesWorld w 5 t) := Any.strconv_Atoi_ok Tryz.laysC172 s hmax v h w
open Go.RowKit in
/-- strconv.Atoi, AT EVERY STRING THAT IS NO DECIMAL NUMERAL ('.syntax'): 0, AND AN ERROR THAT IS NOT nil: a *NumError in a new block N: {Func: "Atoi", Num: s's bytes, Err: what the variable ErrSyntax holds}. Of what was there nothing has turned. (LAID: no walk: one application.) -/
theorem Tryz.strconv_Atoi_syntax (s : ByteArray) (hlim : s.size ≤ 281474976710656) (h : Lib.atoiAll s.data.toList = .syntax) (ev : Value) (w : World) (hv : w.cell? ⟨1, 0, none⟩ = some ev) (hev : ev = .nilIface ∨ ∃ te pe, ev = .iface te pe) :
    Calls Tryz.prog 102 #[.string s] w fun e w' => ∃ N, e = .returned (.tuple #[.int .i64 (0), .iface 241 (.pointer (some ⟨N, 0, none⟩))]) ∧ w.heap.size ≤ N ∧ w'.heap[N]? = some (.cells #[.string ⟨#[65, 116, 111, 105]⟩, .string s, ev] 262 (0, 0)) ∧ Below w.heap.size w w' := Any.strconv_Atoi_syntax Tryz.laysC172 s hlim h ev w hv hev
open Go.RowKit in
/-- strconv.Atoi, AT EVERY NUMERAL THAT NO int HOLDS ('.range'): THE GREATEST OR THE LEAST int, BY THE SIGN ('Lib.atoiSat'), AND AN ERROR THAT IS NOT nil: a *NumError in a new block N: {Func: "Atoi", Num: s's bytes, Err: what the variable ErrRange holds}. Of what was there nothing has turned. (LAID: no walk: one application.) -/
theorem Tryz.strconv_Atoi_range (s : ByteArray) (hlim : s.size ≤ 281474976710656) (h : Lib.atoiAll s.data.toList = .range) (ev : Value) (w : World) (hv : w.cell? ⟨2, 0, none⟩ = some ev) (hev : ev = .nilIface ∨ ∃ te pe, ev = .iface te pe) :
    Calls Tryz.prog 102 #[.string s] w fun e w' => ∃ N, e = .returned (.tuple #[.int .i64 (Lib.atoiSat s.data.toList), .iface 241 (.pointer (some ⟨N, 0, none⟩))]) ∧ w.heap.size ≤ N ∧ w'.heap[N]? = some (.cells #[.string ⟨#[65, 116, 111, 105]⟩, .string s, ev] 262 (0, 0)) ∧ Below w.heap.size w w' := Any.strconv_Atoi_range Tryz.laysC172 s hlim h ev w hv hev
def Tryz.lays219_ren : Go.Shelf.Ren := ⟨fun | 219 => 206 | 217 => 240 | 225 => 241 | 224 => 242 | 267 => 243 | 266 => 263 | 314 => 264 | n => n, fun | 9 => 9 | 3 => 3 | 4 => 4 | 5 => 5 | 46 => 152 | 146 => 294 | 51 => 153 | n => n, fun | 1 => 0 | n => n⟩
def Tryz.lays145_ren : Go.Shelf.Ren := ⟨fun | 145 => 113 | 220 => 172 | 219 => 206 | 217 => 240 | 225 => 241 | 224 => 242 | 267 => 243 | 266 => 263 | 314 => 264 | n => n, fun | 9 => 9 | 4 => 4 | 59 => 178 | 3 => 3 | 5 => 5 | 46 => 152 | 146 => 294 | 51 => 153 | n => n, fun | 1 => 0 | n => n⟩
theorem Tryz.lays145 : Go.Proofs.Lays.n145 Tryz.prog Tryz.lays145_ren := {
  mixed := by kernel_rfl
  f145 := Tryz.func113.trans (congrArg some (by kernel_rfl))
  f217 := Tryz.func240.trans (congrArg some (by kernel_rfl))
  f219 := Tryz.func206.trans (congrArg some (by kernel_rfl))
  f220 := Tryz.func172.trans (congrArg some (by kernel_rfl))
  f224 := Tryz.func242.trans (congrArg some (by kernel_rfl))
  f225 := Tryz.func241.trans (congrArg some (by kernel_rfl))
  f266 := Tryz.func263.trans (congrArg some (by kernel_rfl))
  f267 := Tryz.func243.trans (congrArg some (by kernel_rfl))
  f314 := Tryz.func264.trans (congrArg some (by kernel_rfl))
  t3 := Tryz.underlying3
  a3 := Tryz.isAgg3
  z3 := Tryz.sizeOf3
  v3 := Tryz.zeroValue3
  t4 := Tryz.underlying4
  a4 := Tryz.isAgg4
  z4 := Tryz.sizeOf4
  v4 := Tryz.zeroValue4
  t5 := Tryz.underlying5
  a5 := Tryz.isAgg5
  z5 := Tryz.sizeOf5
  v5 := Tryz.zeroValue5
  t9 := Tryz.underlying9
  a9 := Tryz.isAgg9
  z9 := Tryz.sizeOf9
  v9 := Tryz.zeroValue9
  t46 := Tryz.underlying152
  a46 := Tryz.isAgg152
  z46 := Tryz.sizeOf152
  v46 := Tryz.zeroValue152
  t51 := Tryz.underlying153
  a51 := Tryz.isAgg153
  z51 := Tryz.sizeOf153
  v51 := Tryz.zeroValue153
  t59 := Tryz.underlying178
  a59 := Tryz.isAgg178
  z59 := Tryz.sizeOf178
  v59 := Tryz.zeroValue178
  t146 := Tryz.underlying294
  a146 := Tryz.isAgg294
  z146 := Tryz.sizeOf294
  v146 := Tryz.zeroValue294
  g1 := by kernel_rfl }
open Go.RowKit Go.Lib in
/-- strings.Cut: "Cut slices s around the first instance of sep, returning the text before and after sep. The found result reports whether sep appears in s. If sep does not appear in s, cut returns s, "", false.": IT RETURNS 'Lib.cut s sep'; the world is as it was but for the count of draws. (LAID: no walk: one application.) -/
theorem Tryz.strings_Cut (s sep : ByteArray) (m : Int) (w : World) (hs : s.size < 4294967281) (hm : w.cell? ⟨0, 0, none⟩ = some (.int .i64 m)) :
    Calls Tryz.prog 113 #[.string s, .string sep] w fun e w' => e = .returned (.tuple #[.string ⟨(Lib.cut s.data.toList sep.data.toList).1.toArray⟩, .string ⟨(Lib.cut s.data.toList sep.data.toList).2.1.toArray⟩, .bool (Lib.cut s.data.toList sep.data.toList).2.2]) ∧ ∃ n, w' = w.drewN n := Any.strings_Cut Tryz.lays145 s sep m w hs hm
def Tryz.laysM145_ren : Go.Shelf.Ren := ⟨fun | 145 => 113 | 220 => 172 | 219 => 206 | 217 => 240 | 225 => 241 | 224 => 242 | 267 => 243 | 266 => 263 | 314 => 264 | n => n, fun | 9 => 9 | 4 => 4 | 59 => 178 | 3 => 3 | 5 => 5 | 46 => 152 | 146 => 294 | 51 => 153 | n => n, fun | 1 => 0 | n => n⟩
theorem Tryz.laysM145 : Go.Proofs.LaysM.n145 Tryz.prog Tryz.laysM145_ren := {
  mixed := by kernel_rfl
  f145 := Tryz.func113.trans (congrArg some (by kernel_rfl))
  f217 := Tryz.func240.trans (congrArg some (by kernel_rfl))
  f219 := Tryz.func206.trans (congrArg some (by kernel_rfl))
  f220 := Tryz.func172.trans (congrArg some (by kernel_rfl))
  f224 := Tryz.func242.trans (congrArg some (by kernel_rfl))
  f225 := Tryz.func241.trans (congrArg some (by kernel_rfl))
  f266 := Tryz.func263.trans (congrArg some (by kernel_rfl))
  f267 := Tryz.func243.trans (congrArg some (by kernel_rfl))
  f314 := Tryz.func264.trans (congrArg some (by kernel_rfl))
  t3 := Tryz.underlying3
  a3 := Tryz.isAgg3
  z3 := Tryz.sizeOf3
  v3 := Tryz.zeroValue3
  t4 := Tryz.underlying4
  a4 := Tryz.isAgg4
  z4 := Tryz.sizeOf4
  v4 := Tryz.zeroValue4
  t5 := Tryz.underlying5
  a5 := Tryz.isAgg5
  z5 := Tryz.sizeOf5
  v5 := Tryz.zeroValue5
  t9 := Tryz.underlying9
  a9 := Tryz.isAgg9
  z9 := Tryz.sizeOf9
  v9 := Tryz.zeroValue9
  t46 := Tryz.underlying152
  a46 := Tryz.isAgg152
  z46 := Tryz.sizeOf152
  v46 := Tryz.zeroValue152
  t51 := Tryz.underlying153
  a51 := Tryz.isAgg153
  z51 := Tryz.sizeOf153
  v51 := Tryz.zeroValue153
  t59 := Tryz.underlying178
  a59 := Tryz.isAgg178
  z59 := Tryz.sizeOf178
  v59 := Tryz.zeroValue178
  t146 := Tryz.underlying294
  a146 := Tryz.isAgg294
  z146 := Tryz.sizeOf294
  v146 := Tryz.zeroValue294
  g1 := by kernel_rfl
  i3 := by kernel_rfl
  i4 := by kernel_rfl
  i5 := by kernel_rfl
  i9 := by kernel_rfl
  i46 := by kernel_rfl
  i51 := by kernel_rfl
  i59 := by kernel_rfl
  i146 := by kernel_rfl
  m1 := by kernel_rfl
  s1_3 := fun w h => Go.Proofs.cell_of_shapedOpen_int (zero := #[.int .i64 0]) (t := 3) h (of_decide_eq_true (by kernel_rfl)) (by kernel_rfl) rfl (by kernel_rfl) (by kernel_rfl) Tryz.underlying3 }
def Tryz.laysM249_ren : Go.Shelf.Ren := ⟨fun | 249 => 152 | 288 => 195 | 283 => 221 | 284 => 222 | 285 => 223 | 286 => 224 | 129 => 239 | 317 => 250 | 318 => 251 | 319 => 252 | 320 => 253 | 337 => 274 | 338 => 275 | n => n, fun | 37 => 32 | 2 => 2 | 3 => 3 | 53 => 236 | 4 => 4 | 9 => 9 | 171 => 254 | 0 => 0 | 173 => 257 | 212 => 281 | 51 => 153 | 5 => 5 | 20 => 20 | 213 => 282 | 46 => 152 | 232 => 310 | 233 => 311 | n => n, fun | 17 => 3 | 18 => 6 | 19 => 7 | n => n⟩
def Tryz.laysM176_ren : Go.Shelf.Ren := ⟨fun | 176 => 92 | 249 => 152 | 288 => 195 | 283 => 221 | 284 => 222 | 285 => 223 | 286 => 224 | 129 => 239 | 317 => 250 | 318 => 251 | 319 => 252 | 320 => 253 | 337 => 274 | 338 => 275 | n => n, fun | 37 => 32 | 2 => 2 | 3 => 3 | 53 => 236 | 4 => 4 | 9 => 9 | 171 => 254 | 0 => 0 | 173 => 257 | 212 => 281 | 51 => 153 | 5 => 5 | 20 => 20 | 213 => 282 | 46 => 152 | 232 => 310 | 233 => 311 | n => n, fun | 17 => 3 | 18 => 6 | 19 => 7 | n => n⟩
theorem Tryz.laysM176 : Go.Proofs.LaysM.n176 Tryz.prog Tryz.laysM176_ren := {
  mixed := by kernel_rfl
  f129 := Tryz.func239.trans (congrArg some (by kernel_rfl))
  f176 := Tryz.func92.trans (congrArg some (by kernel_rfl))
  f249 := Tryz.func152.trans (congrArg some (by kernel_rfl))
  f283 := Tryz.func221.trans (congrArg some (by kernel_rfl))
  f284 := Tryz.func222.trans (congrArg some (by kernel_rfl))
  f285 := Tryz.func223.trans (congrArg some (by kernel_rfl))
  f286 := Tryz.func224.trans (congrArg some (by kernel_rfl))
  f288 := Tryz.func195.trans (congrArg some (by kernel_rfl))
  f317 := Tryz.func250.trans (congrArg some (by kernel_rfl))
  f318 := Tryz.func251.trans (congrArg some (by kernel_rfl))
  f319 := Tryz.func252.trans (congrArg some (by kernel_rfl))
  f320 := Tryz.func253.trans (congrArg some (by kernel_rfl))
  f337 := Tryz.func274.trans (congrArg some (by kernel_rfl))
  f338 := Tryz.func275.trans (congrArg some (by kernel_rfl))
  t0 := Tryz.underlying0
  a0 := Tryz.isAgg0
  z0 := Tryz.sizeOf0
  v0 := Tryz.zeroValue0
  t2 := Tryz.underlying2
  a2 := Tryz.isAgg2
  z2 := Tryz.sizeOf2
  v2 := Tryz.zeroValue2
  t3 := Tryz.underlying3
  a3 := Tryz.isAgg3
  z3 := Tryz.sizeOf3
  v3 := Tryz.zeroValue3
  t4 := Tryz.underlying4
  a4 := Tryz.isAgg4
  z4 := Tryz.sizeOf4
  v4 := Tryz.zeroValue4
  t5 := Tryz.underlying5
  a5 := Tryz.isAgg5
  z5 := Tryz.sizeOf5
  v5 := Tryz.zeroValue5
  t9 := Tryz.underlying9
  a9 := Tryz.isAgg9
  z9 := Tryz.sizeOf9
  v9 := Tryz.zeroValue9
  t20 := Tryz.underlying20
  a20 := Tryz.isAgg20
  z20 := Tryz.sizeOf20
  v20 := Tryz.zeroValue20
  t37 := Tryz.underlying32
  a37 := Tryz.isAgg32
  z37 := Tryz.sizeOf32
  v37 := Tryz.zeroValue32
  t46 := Tryz.underlying152
  a46 := Tryz.isAgg152
  z46 := Tryz.sizeOf152
  v46 := Tryz.zeroValue152
  t51 := Tryz.underlying153
  a51 := Tryz.isAgg153
  z51 := Tryz.sizeOf153
  v51 := Tryz.zeroValue153
  t53 := Tryz.underlying236
  a53 := Tryz.isAgg236
  z53 := Tryz.sizeOf236
  v53 := Tryz.zeroValue236
  t171 := Tryz.underlying254
  a171 := Tryz.isAgg254
  z171 := Tryz.sizeOf254
  v171 := Tryz.zeroValue254
  t173 := Tryz.underlying257
  a173 := Tryz.isAgg257
  z173 := Tryz.sizeOf257
  v173 := Tryz.zeroValue257
  t212 := Tryz.underlying281
  a212 := Tryz.isAgg281
  z212 := Tryz.sizeOf281
  v212 := Tryz.zeroValue281
  t213 := Tryz.underlying282
  a213 := Tryz.isAgg282
  z213 := Tryz.sizeOf282
  t232 := Tryz.underlying310
  a232 := Tryz.isAgg310
  z232 := Tryz.sizeOf310
  v232 := Tryz.zeroValue310
  t233 := Tryz.underlying311
  a233 := Tryz.isAgg311
  z233 := Tryz.sizeOf311
  v233 := Tryz.zeroValue311
  g17 := by kernel_rfl
  g18 := by kernel_rfl
  g19 := by kernel_rfl
  i0 := by kernel_rfl
  i2 := by kernel_rfl
  i3 := by kernel_rfl
  i4 := by kernel_rfl
  i5 := by kernel_rfl
  i9 := by kernel_rfl
  i20 := by kernel_rfl
  i37 := by kernel_rfl
  i46 := by kernel_rfl
  i51 := by kernel_rfl
  i53 := by kernel_rfl
  i171 := by kernel_rfl
  i173 := by kernel_rfl
  i212 := by kernel_rfl
  i232 := by kernel_rfl
  i233 := by kernel_rfl
  m17 := by kernel_rfl
  m18 := by kernel_rfl
  m19 := by kernel_rfl }
open Go.RowKit Go.Sort Go.Lib in
/-- strconv.AppendInt: "AppendInt appends the string form of the integer i, as generated by FormatInt, to dst and returns the extended buffer.": AT BASE 10: WHAT COMES BACK OWNS dst's CELLS AND, BEHIND THEM, i's DECIMAL NUMERAL ('Lib.itoa i': at most 20 bytes), for every int64. Below the call's own blocks nothing has turned. (LAID: no walk: one application.) -/
theorem Tryz.strconv_AppendInt_10 (B n : Nat) (i : Int) (h0 : -9223372036854775808 ≤ i) (h1 : i ≤ 9223372036854775807) (sv : Value) (xs : List Value) (w : World) (hown : w.ownsRow B 5 1 sv n xs) (hBw : B ≤ w.heap.size) (hlim : n + 21 ≤ 140737488355328) (htab : Lib.TabBelow Tryz.prog B w "internal/strconv.uint64pow10" .u64 Lib.pow10Tab) :
    Calls Tryz.prog 92 #[sv, .int .i64 i, .int .i64 10] w fun e w' => ∃ v', e = .returned v' ∧ w'.ownsRow B 5 1 v' (n + (Lib.itoa i).length) (xs ++ Lib.byteCells (Lib.itoa i)) ∧ Below B w w' ∧ Lib.OthersKept 5 none w w' := Any.strconv_AppendInt_10 Tryz.laysM176 B n i h0 h1 sv xs w hown hBw hlim htab
def Tryz.laysGw15_ren : Go.Shelf.Ren := ⟨fun | 15 => 143 | 20 => 189 | n => n, fun | 9 => 9 | 23 => 203 | 3 => 3 | 4 => 4 | 0 => 0 | 21 => 21 | n => n, fun | n => n⟩
theorem Tryz.laysGw15 : Go.Proofs.LaysGw.n15 Tryz.prog Tryz.laysGw15_ren := {
  mixed := by kernel_rfl
  f15 := Tryz.func143.trans (congrArg some (by kernel_rfl))
  f20 := Tryz.func189.trans (congrArg some (by kernel_rfl))
  t0 := Tryz.underlying0
  a0 := Tryz.isAgg0
  z0 := Tryz.sizeOf0
  v0 := Tryz.zeroValue0
  i0 := by kernel_rfl
  t3 := Tryz.underlying3
  a3 := Tryz.isAgg3
  z3 := Tryz.sizeOf3
  v3 := Tryz.zeroValue3
  i3 := by kernel_rfl
  t4 := Tryz.underlying4
  a4 := Tryz.isAgg4
  z4 := Tryz.sizeOf4
  v4 := Tryz.zeroValue4
  i4 := by kernel_rfl
  t9 := Tryz.underlying9
  a9 := Tryz.isAgg9
  z9 := Tryz.sizeOf9
  v9 := Tryz.zeroValue9
  i9 := by kernel_rfl
  t21 := Tryz.underlying21
  a21 := Tryz.isAgg21
  z21 := Tryz.sizeOf21
  v21 := Tryz.zeroValue21
  i21 := by kernel_rfl
  t23 := Tryz.underlying203
  a23 := Tryz.isAgg203
  z23 := Tryz.sizeOf203
  v23 := Tryz.zeroValue203
  i23 := by kernel_rfl }
open Go.RowKit Go.Lib in
theorem Tryz.strings_IndexFunc (g : Nat) (lb : Array Value) (eg : ∀ args w, (callFunc g args).run Tryz.prog w = .ok (.enter g args) w) (p : Nat → Bool) (s : ByteArray) (w : World) (hp : PredAt Tryz.prog g lb encR p w) :
    Calls Tryz.prog 143 #[.string s, .func (.func g) #[] lb] w fun e w' => e = .returned (.int .i64 (Lib.idxFunc p true s)) ∧ Below w.heap.size w w' := Any.strings_IndexFunc Tryz.laysGw15 g lb eg p s w hp
def Tryz.lays221_ren : Go.Shelf.Ren := ⟨fun | 221 => 173 | 268 => 207 | 138 => 208 | 143 => 209 | 195 => 244 | 197 => 245 | 218 => 246 | 219 => 206 | 260 => 265 | 217 => 240 | 225 => 241 | 224 => 242 | 267 => 243 | 266 => 263 | 314 => 264 | n => n, fun | 9 => 9 | 3 => 3 | 31 => 40 | 4 => 4 | 0 => 0 | 105 => 274 | 21 => 21 | 5 => 5 | 46 => 152 | 119 => 304 | 139 => 307 | 138 => 306 | 146 => 294 | 51 => 153 | n => n, fun | 1 => 0 | 3 => 4 | 4 => 5 | n => n⟩
def Tryz.lays146_ren : Go.Shelf.Ren := ⟨fun | 146 => 114 | 221 => 173 | 268 => 207 | 138 => 208 | 143 => 209 | 195 => 244 | 197 => 245 | 218 => 246 | 219 => 206 | 260 => 265 | 217 => 240 | 225 => 241 | 224 => 242 | 267 => 243 | 266 => 263 | 314 => 264 | n => n, fun | 9 => 9 | 31 => 40 | 3 => 3 | 4 => 4 | 0 => 0 | 105 => 274 | 21 => 21 | 5 => 5 | 46 => 152 | 119 => 304 | 139 => 307 | 138 => 306 | 146 => 294 | 51 => 153 | n => n, fun | 1 => 0 | 3 => 4 | 4 => 5 | n => n⟩
theorem Tryz.lays146 : Go.Proofs.Lays.n146 Tryz.prog Tryz.lays146_ren := {
  mixed := by kernel_rfl
  f138 := Tryz.func208.trans (congrArg some (by kernel_rfl))
  f143 := Tryz.func209.trans (congrArg some (by kernel_rfl))
  f146 := Tryz.func114.trans (congrArg some (by kernel_rfl))
  f195 := Tryz.func244.trans (congrArg some (by kernel_rfl))
  f197 := Tryz.func245.trans (congrArg some (by kernel_rfl))
  f217 := Tryz.func240.trans (congrArg some (by kernel_rfl))
  f218 := Tryz.func246.trans (congrArg some (by kernel_rfl))
  f219 := Tryz.func206.trans (congrArg some (by kernel_rfl))
  f221 := Tryz.func173.trans (congrArg some (by kernel_rfl))
  f224 := Tryz.func242.trans (congrArg some (by kernel_rfl))
  f225 := Tryz.func241.trans (congrArg some (by kernel_rfl))
  f260 := Tryz.func265.trans (congrArg some (by kernel_rfl))
  f266 := Tryz.func263.trans (congrArg some (by kernel_rfl))
  f267 := Tryz.func243.trans (congrArg some (by kernel_rfl))
  f268 := Tryz.func207.trans (congrArg some (by kernel_rfl))
  f314 := Tryz.func264.trans (congrArg some (by kernel_rfl))
  t0 := Tryz.underlying0
  a0 := Tryz.isAgg0
  z0 := Tryz.sizeOf0
  v0 := Tryz.zeroValue0
  t3 := Tryz.underlying3
  a3 := Tryz.isAgg3
  z3 := Tryz.sizeOf3
  v3 := Tryz.zeroValue3
  t4 := Tryz.underlying4
  a4 := Tryz.isAgg4
  z4 := Tryz.sizeOf4
  v4 := Tryz.zeroValue4
  t5 := Tryz.underlying5
  a5 := Tryz.isAgg5
  z5 := Tryz.sizeOf5
  v5 := Tryz.zeroValue5
  t9 := Tryz.underlying9
  a9 := Tryz.isAgg9
  z9 := Tryz.sizeOf9
  v9 := Tryz.zeroValue9
  t21 := Tryz.underlying21
  a21 := Tryz.isAgg21
  z21 := Tryz.sizeOf21
  v21 := Tryz.zeroValue21
  t31 := Tryz.underlying40
  a31 := Tryz.isAgg40
  z31 := Tryz.sizeOf40
  v31 := Tryz.zeroValue40
  t46 := Tryz.underlying152
  a46 := Tryz.isAgg152
  z46 := Tryz.sizeOf152
  v46 := Tryz.zeroValue152
  t51 := Tryz.underlying153
  a51 := Tryz.isAgg153
  z51 := Tryz.sizeOf153
  v51 := Tryz.zeroValue153
  t105 := Tryz.underlying274
  a105 := Tryz.isAgg274
  z105 := Tryz.sizeOf274
  v105 := Tryz.zeroValue274
  t119 := Tryz.underlying304
  a119 := Tryz.isAgg304
  z119 := Tryz.sizeOf304
  t138 := Tryz.underlying306
  a138 := Tryz.isAgg306
  z138 := Tryz.sizeOf306
  v138 := Tryz.zeroValue306
  t139 := Tryz.underlying307
  a139 := Tryz.isAgg307
  z139 := Tryz.sizeOf307
  v139 := Tryz.zeroValue307
  t146 := Tryz.underlying294
  a146 := Tryz.isAgg294
  z146 := Tryz.sizeOf294
  v146 := Tryz.zeroValue294
  g1 := by kernel_rfl
  g3 := by kernel_rfl
  g4 := by kernel_rfl }
open Go.RowKit Go.Lib in
/-- strings.Split. (LAID: no walk: one application.) -/
theorem Tryz.strings_Split (s sep : ByteArray) (m : Int) (w : World) (hs : s.size < 4294967281) (hm : w.cell? ⟨0, 0, none⟩ = some (.int .i64 m)) (h1 : 1 ≤ sep.size) :
    Calls Tryz.prog 114 #[.string s, .string sep] w fun e w' =>
      e = .returned (.slice (some ⟨w.heap.size, 0, none⟩) (Lib.countB s sep + 1) (Lib.countB s sep + 1)) ∧ w' = w.alloc (.cells ((Lib.splitB sep 0 (Lib.countB s sep) s).map Value.string).toArray 9) := Any.strings_Split Tryz.lays146 (by kernel_rfl) s sep m w hs hm h1
def Tryz.lays187_ren : Go.Shelf.Ren := ⟨fun | 187 => 99 | 255 => 160 | n => n, fun | 37 => 32 | 5 => 5 | 3 => 3 | n => n, fun | n => n⟩
theorem Tryz.lays187 : Go.Proofs.Lays.n187 Tryz.prog Tryz.lays187_ren := {
  mixed := by kernel_rfl
  f187 := Tryz.func99.trans (congrArg some (by kernel_rfl))
  f255 := Tryz.func160.trans (congrArg some (by kernel_rfl))
  t3 := Tryz.underlying3
  a3 := Tryz.isAgg3
  z3 := Tryz.sizeOf3
  v3 := Tryz.zeroValue3
  t5 := Tryz.underlying5
  a5 := Tryz.isAgg5
  z5 := Tryz.sizeOf5
  v5 := Tryz.zeroValue5
  t37 := Tryz.underlying32
  a37 := Tryz.isAgg32
  z37 := Tryz.sizeOf32
  v37 := Tryz.zeroValue32 }
open Go.RowKit Go.Lib in
/-- bytes.IndexByte, b at whatever address: "IndexByte returns the index of the first instance of c in b, or -1 if c is not present in b." (LAID: no walk: one application.) -/
theorem Tryz.bytes_IndexByte_at (a : Addr) (n c : Nat) (xs : List Int) (cv : Int) (w : World) (hx : xs.length = n) (hc : ∀ i, i < n → w.cell? (a.add i) = some (.int .u8 (xs.getD i 0))) :
    Calls Tryz.prog 99 #[.slice (some a) n c, .int .u8 cv] w fun e w' => e = .returned (.int .i64 (Lib.indexByte (Lib.bytesOf xs) cv.toNat.toUInt8)) ∧ w' = w := Any.bytes_IndexByte_at Tryz.lays187 a n c xs cv w hx hc
def Tryz.laysSlJ14_ren : Go.Shelf.Ren := ⟨fun | 14 => 44 | 15 => 106 | n => n, fun | 26 => 92 | 22 => 32 | 3 => 3 | 4 => 4 | 0 => 0 | 9 => 9 | 20 => 20 | 5 => 5 | n => n, fun | n => n⟩
theorem Tryz.laysSlJ14 : Go.Proofs.SlLaysJ.n14 Tryz.prog Tryz.laysSlJ14_ren := {
  mixed := by kernel_rfl
  f14 := Tryz.func44.trans (congrArg some (by kernel_rfl))
  f15 := Tryz.func106.trans (congrArg some (by kernel_rfl))
  t0 := Tryz.underlying0
  a0 := Tryz.isAgg0
  z0 := Tryz.sizeOf0
  v0 := Tryz.zeroValue0
  t3 := Tryz.underlying3
  a3 := Tryz.isAgg3
  z3 := Tryz.sizeOf3
  v3 := Tryz.zeroValue3
  t4 := Tryz.underlying4
  a4 := Tryz.isAgg4
  z4 := Tryz.sizeOf4
  v4 := Tryz.zeroValue4
  t9 := Tryz.underlying9
  a9 := Tryz.isAgg9
  z9 := Tryz.sizeOf9
  v9 := Tryz.zeroValue9
  t20 := Tryz.underlying20
  a20 := Tryz.isAgg20
  z20 := Tryz.sizeOf20
  v20 := Tryz.zeroValue20
  t22 := Tryz.underlying32
  a22 := Tryz.isAgg32
  z22 := Tryz.sizeOf32
  v22 := Tryz.zeroValue32
  t26 := Tryz.underlying92
  a26 := Tryz.isAgg92
  z26 := Tryz.sizeOf92
  v26 := Tryz.zeroValue92
  t5 := Tryz.underlying5
  z5 := Tryz.sizeOf5
  i5 := by kernel_rfl }
open Go.RowKit Go.Lib in
theorem Tryz.bytes_Join_many (b o n c : Nat) (vs : List Value) (ls : List (List UInt8)) (sv : Value) (sep : List UInt8) (w : World) (hn : ls.length = n) (h2 : 2 ≤ n) (hP : Lib.PartsAt w ⟨b, o, none⟩ vs ls) (hcap : n ≤ c) (hS : Lib.HoldsBytes w sv sep) (hn47 : n ≤ 140737488355328) (hlen : Lib.lens ls + sep.length * (n - 1) ≤ 140737488355328) :
    Calls Tryz.prog 44 #[.slice (some ⟨b, o, none⟩) n c, sv] w fun e w' => ∃ v', e = .returned v' ∧ Lib.FreshBytes w.heap.size w' v' (Lib.join ls sep) ∧ Below w.heap.size w w' := Any.bytes_Join_many Tryz.laysSlJ14 b o n c vs ls sv sep w hn h2 hP hcap hS hn47 hlen
open Go.RowKit Go.Lib in
/-- bytes.Join of no part (nil too): '[]byte{}': a slice of no byte THAT IS NOT nil, at the head of a new, empty row. (LAID: no walk: one application.) -/
theorem Tryz.bytes_Join_none (p : Option Addr) (c : Nat) (sv : Value) (w : World) :
    Calls Tryz.prog 44 #[.slice p 0 c, sv] w fun e w' => e = .returned (.slice (some ⟨w.heap.size, 0, none⟩) 0 0) ∧ w' = w.alloc (.cells #[] 5) := Any.bytes_Join_none Tryz.laysSlJ14 p c sv w
open Go.RowKit Go.Lib in
/-- bytes.Join of ONE part, of one byte or more: 'append([]byte(nil), s[0]...)': a new []byte of its bytes; sep is not looked at. (LAID: no walk: one application.) -/
theorem Tryz.bytes_Join_one (b o c : Nat) (ad0 : Addr) (c0 : Nat) (l0 : List UInt8) (sv : Value) (w : World) (hcell : w.cell? ⟨b, o, none⟩ = some (.slice (some ad0) l0.length c0)) (hc : ∀ (i : Nat) x, l0[i]? = some x → w.cell? (ad0.add i) = some (.int .u8 (x.toNat : Int))) (h0 : 0 < l0.length) (hs : l0.length ≤ 140737488355328) :
    Calls Tryz.prog 44 #[.slice (some ⟨b, o, none⟩) 1 c, sv] w fun e w' => ∃ v', e = .returned v' ∧ Lib.FreshBytes w.heap.size w' v' l0 ∧ Below w.heap.size w w' := Any.bytes_Join_one Tryz.laysSlJ14 b o c ad0 c0 l0 sv w hcell hc h0 hs
open Go.RowKit Go.Lib in
/-- bytes.Join of ONE part of no byte (nil or not): 'append([]byte(nil), s[0]...)' IS nil; the world is as it was. (LAID: no walk: one application.) -/
theorem Tryz.bytes_Join_one_empty (b o c : Nat) (p0 : Option Addr) (c0 : Nat) (sv : Value) (w : World) (hcell : w.cell? ⟨b, o, none⟩ = some (.slice p0 0 c0)) :
    Calls Tryz.prog 44 #[.slice (some ⟨b, o, none⟩) 1 c, sv] w fun e w' => e = .returned (.slice none 0 0) ∧ w' = w := Any.bytes_Join_one_empty Tryz.laysSlJ14 b o c p0 c0 sv w hcell
def Tryz.laysnb116_ren : Go.Shelf.Ren := ⟨fun | 116 => 161 | 115 => 45 | n => n, fun | 37 => 32 | 4 => 4 | 3 => 3 | 9 => 9 | 5 => 5 | n => n, fun | n => n⟩
def Tryz.laysnb141_ren : Go.Shelf.Ren := ⟨fun | 141 => 101 | 116 => 161 | 115 => 45 | n => n, fun | 37 => 32 | 4 => 4 | 3 => 3 | 9 => 9 | 5 => 5 | n => n, fun | n => n⟩
theorem Tryz.laysnb141 : Go.Proofs.Lays.nb141 Tryz.prog Tryz.laysnb141_ren := {
  mixed := by kernel_rfl
  f115 := Tryz.func45.trans (congrArg some (by kernel_rfl))
  f116 := Tryz.func161.trans (congrArg some (by kernel_rfl))
  f141 := Tryz.func101.trans (congrArg some (by kernel_rfl))
  t3 := Tryz.underlying3
  a3 := Tryz.isAgg3
  z3 := Tryz.sizeOf3
  v3 := Tryz.zeroValue3
  t4 := Tryz.underlying4
  a4 := Tryz.isAgg4
  z4 := Tryz.sizeOf4
  v4 := Tryz.zeroValue4
  t9 := Tryz.underlying9
  a9 := Tryz.isAgg9
  z9 := Tryz.sizeOf9
  v9 := Tryz.zeroValue9
  t37 := Tryz.underlying32
  a37 := Tryz.isAgg32
  z37 := Tryz.sizeOf32
  v37 := Tryz.zeroValue32
  t5 := Tryz.underlying5
  a5 := Tryz.isAgg5
  z5 := Tryz.sizeOf5
  v5 := Tryz.zeroValue5 }
/-- bytes.CutPrefix: WHOLE. (LAID: no walk: one application.) -/
theorem Tryz.bytes_CutPrefix_all (p1 p2 : Option Addr) (n c m d : Nat) (xs ys : List Int) (w : World) (hx : xs.length = n) (hy : ys.length = m) (hnc : n ≤ c) (h1 : Lib.BytesIn w p1 n xs) (h2 : Lib.BytesIn w p2 m ys) :
    Calls Tryz.prog 101 #[.slice p1 n c, .slice p2 m d] w fun e w' => e = .returned (.tuple #[Lib.trimPrefixV p1 n c xs ys, .bool (Lib.hasPrefix (Lib.bytesOf xs) (Lib.bytesOf ys))]) ∧ w' = w := Any.bytes_CutPrefix_all Tryz.laysnb141 p1 p2 n c m d xs ys w hx hy hnc h1 h2
/-- bytes.IndexByte AT nil: -1. (LAID: no walk: one application.) -/
theorem Tryz.bytes_IndexByte_nil (cv : Int) (w : World) :
    Calls Tryz.prog 99 #[.slice none 0 0, .int .u8 cv] w fun e w' => e = .returned (.int .i64 (-1)) ∧ w' = w := Any.bytes_IndexByte_nil Tryz.lays187 cv w
end Go.Proofs
