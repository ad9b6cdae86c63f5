/-
  DERIVED: THE SHELF's CONTRACTS AT THIS DUMP, IN PLAIN WORDS (tools/lay-plain.mjs out of 'TryzShelf.lean', which tools/lay-shelf.mjs wrote): THE SAME DECLARATIONS UNDER THE SAME NAMES: 'import', 'namespace', 'open', 'def', 'theorem' AND NOTHING ELSE: no command of the shelf's: FOR A HAND-IN. Each laying: the table of numbers ('.._ren') and one theorem, a field a fact of the dump's own or the kernel's comparison; each contract: ONE APPLICATION.
-/
import Derived.Shelf.Small.Bits
import Derived.Shelf.Strconv.Itoa0
import Derived.Shelf.Strconv.Itoa1
import Derived.Shelf.LaysM
import Derived.Shelf.Strconv.Itoa2
import Derived.Shelf.Strconv.Itoa3
import Derived.Shelf.Strconv.ParseIntEmpty
import Derived.Shelf.Strconv.Clone
import Derived.Shelf.Strconv.SyntaxError
import Derived.Shelf.LaysC
import Derived.Shelf.Strconv.ToError
import Derived.Shelf.Strconv.Lower
import Derived.Shelf.Strconv.ParseUint10
import Derived.Shelf.Strconv.ParseUint10Empty
import Derived.Shelf.Strconv.ParseUint10Any
import Derived.Shelf.Strconv.ParseInt10
import Derived.Shelf.Strconv.RangeError
import Derived.Shelf.Strconv.ToErrorRange
import Derived.Shelf.Strconv.ParseUintEmpty
import Derived.Shelf.Strconv.ParseUint10b64
import Derived.Shelf.Strconv.ParseUint10b32
import Derived.Shelf.Strconv.ParseUint10b16
import Derived.Shelf.Strconv.ParseUint10b8
import Derived.Shelf.Strconv.ParseUint10At
import Derived.Shelf.Strconv.ParseInt10At64
import Derived.Shelf.Strconv.ParseInt10At32
import Derived.Shelf.Strconv.ParseInt10At16
import Derived.Shelf.Strconv.ParseInt10At8
import Derived.Shelf.Strconv.ParseInt10All
import Derived.Shelf.Strconv.ParseIntPublic10
import Derived.Shelf.Strconv.ErrVarParseInt
import Derived.Shelf.Sort.Plain
import Derived.Shelf.Strings.Prefix
import Derived.Shelf.Strings.Fields
import Derived.Shelf.Strings.SplitShaped
import Derived.Shelf.Unicode.Latin
import Derived.Shelf.Unicode.Is16White
import Derived.Shelf.Unicode.IsSpaceAny
import Derived.Shelf.Unicode.Is16WhiteD
import Derived.Shelf.Unicode.IsSpaceAnyD
import Derived.Shelf.Strings.FieldsAny
import Derived.Shelf.Strings.FieldsFuncAny
import Derived.Shelf.Unicode.Is16Any
import Derived.Shelf.Unicode.Is32Any
import Derived.Shelf.Unicode.ExclAny
import Derived.Shelf.Slices.Turned
import Derived.Shelf.Slices.In.SortNone
import Derived.Ground.SlgfProg
import Derived.Shelf.SlicesE.IndexFunc
import Derived.Test.YtjibjgokloondaaGreatDoorProg
namespace Go.Proofs
open Go.Shelf
def Tryz.laysC174_ren : Go.Shelf.Ren := ⟨fun | 174 => 90 | 247 => 106 | 245 => 107 | 287 => 135 | 279 => 136 | 280 => 137 | 281 => 138 | 282 => 139 | 321 => 152 | 322 => 153 | 316 => 154 | 171 => 156 | 205 => 155 | 243 => 158 | 246 => 159 | 283 => 160 | 284 => 161 | 285 => 162 | 286 => 163 | 129 => 134 | 317 => 164 | 318 => 165 | 319 => 166 | 320 => 167 | 337 => 168 | 338 => 169 | n => n, fun | 9 => 9 | 3 => 3 | 2 => 2 | 75 => 33 | 85 => 124 | 4 => 4 | 167 => 167 | 5 => 5 | 53 => 166 | 175 => 168 | 46 => 141 | 168 => 170 | 37 => 174 | 0 => 0 | 210 => 195 | 21 => 21 | 127 => 203 | 145 => 206 | 143 => 204 | 171 => 208 | 173 => 210 | 212 => 214 | 51 => 154 | 20 => 20 | 213 => 215 | 232 => 216 | 233 => 217 | 80 => 97 | n => n, fun | 15 => 19 | 16 => 20 | 17 => 21 | 18 => 22 | 19 => 23 | n => n⟩
theorem Tryz.laysC174 : Go.Proofs.LaysC.n174 Tryz.prog Tryz.laysC174_ren := {
  mixed := by kernel_rfl
  f129 := Tryz.func134.trans (congrArg some (by kernel_rfl))
  f171 := Tryz.func156.trans (congrArg some (by kernel_rfl))
  f174 := Tryz.func90.trans (congrArg some (by kernel_rfl))
  f205 := Tryz.func155.trans (congrArg some (by kernel_rfl))
  f243 := Tryz.func158.trans (congrArg some (by kernel_rfl))
  f245 := Tryz.func107.trans (congrArg some (by kernel_rfl))
  f246 := Tryz.func159.trans (congrArg some (by kernel_rfl))
  f247 := Tryz.func106.trans (congrArg some (by kernel_rfl))
  f279 := Tryz.func136.trans (congrArg some (by kernel_rfl))
  f280 := Tryz.func137.trans (congrArg some (by kernel_rfl))
  f281 := Tryz.func138.trans (congrArg some (by kernel_rfl))
  f282 := Tryz.func139.trans (congrArg some (by kernel_rfl))
  f283 := Tryz.func160.trans (congrArg some (by kernel_rfl))
  f284 := Tryz.func161.trans (congrArg some (by kernel_rfl))
  f285 := Tryz.func162.trans (congrArg some (by kernel_rfl))
  f286 := Tryz.func163.trans (congrArg some (by kernel_rfl))
  f287 := Tryz.func135.trans (congrArg some (by kernel_rfl))
  f316 := Tryz.func154.trans (congrArg some (by kernel_rfl))
  f317 := Tryz.func164.trans (congrArg some (by kernel_rfl))
  f318 := Tryz.func165.trans (congrArg some (by kernel_rfl))
  f319 := Tryz.func166.trans (congrArg some (by kernel_rfl))
  f320 := Tryz.func167.trans (congrArg some (by kernel_rfl))
  f321 := Tryz.func152.trans (congrArg some (by kernel_rfl))
  f322 := Tryz.func153.trans (congrArg some (by kernel_rfl))
  f337 := Tryz.func168.trans (congrArg some (by kernel_rfl))
  f338 := Tryz.func169.trans (congrArg some (by kernel_rfl))
  t0 := Tryz.underlying0
  a0 := Tryz.isAgg0
  z0 := Tryz.sizeOf0
  v0 := Tryz.zeroValue0
  t2 := Tryz.underlying2
  a2 := Tryz.isAgg2
  z2 := Tryz.sizeOf2
  v2 := Tryz.zeroValue2
  t3 := Tryz.underlying3
  a3 := Tryz.isAgg3
  z3 := Tryz.sizeOf3
  v3 := Tryz.zeroValue3
  t4 := Tryz.underlying4
  a4 := Tryz.isAgg4
  z4 := Tryz.sizeOf4
  v4 := Tryz.zeroValue4
  t5 := Tryz.underlying5
  a5 := Tryz.isAgg5
  z5 := Tryz.sizeOf5
  v5 := Tryz.zeroValue5
  t9 := Tryz.underlying9
  a9 := Tryz.isAgg9
  z9 := Tryz.sizeOf9
  v9 := Tryz.zeroValue9
  t20 := Tryz.underlying20
  a20 := Tryz.isAgg20
  z20 := Tryz.sizeOf20
  v20 := Tryz.zeroValue20
  t21 := Tryz.underlying21
  a21 := Tryz.isAgg21
  z21 := Tryz.sizeOf21
  v21 := Tryz.zeroValue21
  t37 := Tryz.underlying174
  a37 := Tryz.isAgg174
  z37 := Tryz.sizeOf174
  v37 := Tryz.zeroValue174
  t46 := Tryz.underlying141
  a46 := Tryz.isAgg141
  z46 := Tryz.sizeOf141
  v46 := Tryz.zeroValue141
  t51 := Tryz.underlying154
  a51 := Tryz.isAgg154
  z51 := Tryz.sizeOf154
  v51 := Tryz.zeroValue154
  t53 := Tryz.underlying166
  a53 := Tryz.isAgg166
  z53 := Tryz.sizeOf166
  v53 := Tryz.zeroValue166
  t75 := Tryz.underlying33
  a75 := Tryz.isAgg33
  z75 := Tryz.sizeOf33
  v75 := Tryz.zeroValue33
  t85 := Tryz.underlying124
  a85 := Tryz.isAgg124
  z85 := Tryz.sizeOf124
  v85 := Tryz.zeroValue124
  t127 := Tryz.underlying203
  a127 := Tryz.isAgg203
  z127 := Tryz.sizeOf203
  v127 := Tryz.zeroValue203
  t143 := Tryz.underlying204
  a143 := Tryz.isAgg204
  z143 := Tryz.sizeOf204
  v143 := Tryz.zeroValue204
  t145 := Tryz.underlying206
  a145 := Tryz.isAgg206
  z145 := Tryz.sizeOf206
  v145 := Tryz.zeroValue206
  t167 := Tryz.underlying167
  a167 := Tryz.isAgg167
  z167 := Tryz.sizeOf167
  v167 := Tryz.zeroValue167
  t168 := Tryz.underlying170
  a168 := Tryz.isAgg170
  z168 := Tryz.sizeOf170
  v168 := Tryz.zeroValue170
  t171 := Tryz.underlying208
  a171 := Tryz.isAgg208
  z171 := Tryz.sizeOf208
  v171 := Tryz.zeroValue208
  t173 := Tryz.underlying210
  a173 := Tryz.isAgg210
  z173 := Tryz.sizeOf210
  v173 := Tryz.zeroValue210
  t175 := Tryz.underlying168
  a175 := Tryz.isAgg168
  z175 := Tryz.sizeOf168
  v175 := Tryz.zeroValue168
  t210 := Tryz.underlying195
  a210 := Tryz.isAgg195
  z210 := Tryz.sizeOf195
  v210 := Tryz.zeroValue195
  t212 := Tryz.underlying214
  a212 := Tryz.isAgg214
  z212 := Tryz.sizeOf214
  v212 := Tryz.zeroValue214
  t213 := Tryz.underlying215
  a213 := Tryz.isAgg215
  z213 := Tryz.sizeOf215
  t232 := Tryz.underlying216
  a232 := Tryz.isAgg216
  z232 := Tryz.sizeOf216
  v232 := Tryz.zeroValue216
  t233 := Tryz.underlying217
  a233 := Tryz.isAgg217
  z233 := Tryz.sizeOf217
  v233 := Tryz.zeroValue217
  g15 := by kernel_rfl
  g16 := by kernel_rfl
  g17 := by kernel_rfl
  g18 := by kernel_rfl
  g19 := by kernel_rfl
  t80 := Tryz.underlying97
  a80 := Tryz.isAgg97
  z80 := Tryz.sizeOf97
  v80 := Tryz.zeroValue97
  i0 := by kernel_rfl
  i2 := by kernel_rfl
  i3 := by kernel_rfl
  i4 := by kernel_rfl
  i5 := by kernel_rfl
  i9 := by kernel_rfl
  i20 := by kernel_rfl
  i21 := by kernel_rfl
  i37 := by kernel_rfl
  i46 := by kernel_rfl
  i51 := by kernel_rfl
  i53 := by kernel_rfl
  i75 := by kernel_rfl
  i80 := by kernel_rfl
  i85 := by kernel_rfl
  i127 := by kernel_rfl
  i143 := by kernel_rfl
  i145 := by kernel_rfl
  i167 := by kernel_rfl
  i168 := by kernel_rfl
  i171 := by kernel_rfl
  i173 := by kernel_rfl
  i175 := by kernel_rfl
  i210 := by kernel_rfl
  i212 := by kernel_rfl
  i232 := by kernel_rfl
  i233 := by kernel_rfl
  m15 := by kernel_rfl
  m16 := by kernel_rfl
  m17 := by kernel_rfl
  m18 := by kernel_rfl
  m19 := by kernel_rfl
  c0 := by kernel_rfl
  c2 := by kernel_rfl
  c3 := by kernel_rfl
  c4 := by kernel_rfl
  c5 := by kernel_rfl
  c9 := by kernel_rfl
  c20 := by kernel_rfl
  c21 := by kernel_rfl
  c37 := by kernel_rfl
  c46 := by kernel_rfl
  c51 := by kernel_rfl
  c53 := by kernel_rfl
  c75 := by kernel_rfl
  c80 := by kernel_rfl
  c85 := by kernel_rfl
  c127 := by kernel_rfl
  c143 := by kernel_rfl
  c145 := by kernel_rfl
  c167 := by kernel_rfl
  c168 := by kernel_rfl
  c171 := by kernel_rfl
  c173 := by kernel_rfl
  c175 := by kernel_rfl
  c210 := by kernel_rfl
  c212 := by kernel_rfl
  c213 := by kernel_rfl
  c232 := by kernel_rfl
  c233 := by kernel_rfl }
open Go.RowKit in
theorem Tryz.strconv_ParseInt_10_at64_ok (s : ByteArray) (hmax : s.size ≤ 9223372036854775806) (v : Int) (h : Lib.parseIntB 64 s.data.toList = .ok v) (w : World) :
    Calls Tryz.prog 90 #[.string s, .int .i64 10, .int .i64 64] w fun e w' => e = .returned (.tuple #[.int .i64 v, .nilIface]) ∧ (w' = w ∨ ∃ t, w' = Lib.bytesWorld w 5 t) := Any.strconv_ParseInt_10_at64_ok Tryz.laysC174 s hmax v h w
open Go.RowKit in
theorem Tryz.strconv_ParseInt_10_at64_syntax (s : ByteArray) (hlim : s.size ≤ 281474976710656) (hok : ∀ v, Lib.parseIntB 64 s.data.toList ≠ .ok v) (hrange : Lib.parseIntB 64 s.data.toList ≠ .range) (ev : Value) (w : World) (hv : w.cell? ⟨19, 0, none⟩ = some ev) (hev : ev = .nilIface ∨ ∃ te pe, ev = .iface te pe) :
    Calls Tryz.prog 90 #[.string s, .int .i64 10, .int .i64 64] w fun e w' => ∃ N, e = .returned (.tuple #[.int .i64 (0), .iface 170 (.pointer (some ⟨N, 0, none⟩))]) ∧ w.heap.size ≤ N ∧ w'.heap[N]? = some (.cells #[.string ⟨#[80, 97, 114, 115, 101, 73, 110, 116]⟩, .string s, ev] 195 (0, 0)) ∧ Below w.heap.size w w' := Any.strconv_ParseInt_10_at64_syntax Tryz.laysC174 s hlim (by rcases hq : Lib.parseIntB 64 s.data.toList with v | _ | _; exact absurd hq (hok v); rfl; exact absurd hq hrange) ev w hv hev
open Go.RowKit in
theorem Tryz.strconv_ParseInt_10_at64_range (s : ByteArray) (hlim : s.size ≤ 281474976710656) (h : Lib.parseIntB 64 s.data.toList = .range) (ev : Value) (w : World) (hv : w.cell? ⟨20, 0, none⟩ = some ev) (hev : ev = .nilIface ∨ ∃ te pe, ev = .iface te pe) :
    Calls Tryz.prog 90 #[.string s, .int .i64 10, .int .i64 64] w fun e w' => ∃ N, e = .returned (.tuple #[.int .i64 (Lib.intSat 64 s.data.toList), .iface 170 (.pointer (some ⟨N, 0, none⟩))]) ∧ w.heap.size ≤ N ∧ w'.heap[N]? = some (.cells #[.string ⟨#[80, 97, 114, 115, 101, 73, 110, 116]⟩, .string s, ev] 195 (0, 0)) ∧ Below w.heap.size w w' := Any.strconv_ParseInt_10_at64_range Tryz.laysC174 s hlim h ev w hv hev
def Tryz.lays190_ren : Go.Shelf.Ren := ⟨fun | 190 => 89 | 125 => 105 | 258 => 104 | 128 => 133 | 129 => 134 | 302 => 124 | 303 => 125 | 304 => 126 | 305 => 127 | 306 => 128 | 307 => 129 | 308 => 130 | 309 => 131 | 310 => 132 | 333 => 146 | 329 => 147 | 330 => 148 | 334 => 149 | 335 => 150 | 336 => 151 | 344 => 157 | n => n, fun | 31 => 23 | 9 => 9 | 3 => 3 | 46 => 141 | 0 => 0 | 51 => 154 | 53 => 166 | 4 => 4 | 183 => 159 | 182 => 158 | 131 => 107 | 5 => 5 | 218 => 187 | 222 => 149 | 228 => 200 | 229 => 201 | n => n, fun | n => n⟩
theorem Tryz.lays190 : Go.Proofs.Lays.n190 Tryz.prog Tryz.lays190_ren := {
  mixed := by kernel_rfl
  f125 := Tryz.func105.trans (congrArg some (by kernel_rfl))
  f128 := Tryz.func133.trans (congrArg some (by kernel_rfl))
  f129 := Tryz.func134.trans (congrArg some (by kernel_rfl))
  f190 := Tryz.func89.trans (congrArg some (by kernel_rfl))
  f258 := Tryz.func104.trans (congrArg some (by kernel_rfl))
  f302 := Tryz.func124.trans (congrArg some (by kernel_rfl))
  f303 := Tryz.func125.trans (congrArg some (by kernel_rfl))
  f304 := Tryz.func126.trans (congrArg some (by kernel_rfl))
  f305 := Tryz.func127.trans (congrArg some (by kernel_rfl))
  f306 := Tryz.func128.trans (congrArg some (by kernel_rfl))
  f307 := Tryz.func129.trans (congrArg some (by kernel_rfl))
  f308 := Tryz.func130.trans (congrArg some (by kernel_rfl))
  f309 := Tryz.func131.trans (congrArg some (by kernel_rfl))
  f310 := Tryz.func132.trans (congrArg some (by kernel_rfl))
  f329 := Tryz.func147.trans (congrArg some (by kernel_rfl))
  f330 := Tryz.func148.trans (congrArg some (by kernel_rfl))
  f333 := Tryz.func146.trans (congrArg some (by kernel_rfl))
  f334 := Tryz.func149.trans (congrArg some (by kernel_rfl))
  f335 := Tryz.func150.trans (congrArg some (by kernel_rfl))
  f336 := Tryz.func151.trans (congrArg some (by kernel_rfl))
  f344 := Tryz.func157.trans (congrArg some (by kernel_rfl))
  t0 := Tryz.underlying0
  a0 := Tryz.isAgg0
  z0 := Tryz.sizeOf0
  v0 := Tryz.zeroValue0
  t3 := Tryz.underlying3
  a3 := Tryz.isAgg3
  z3 := Tryz.sizeOf3
  v3 := Tryz.zeroValue3
  t4 := Tryz.underlying4
  a4 := Tryz.isAgg4
  z4 := Tryz.sizeOf4
  v4 := Tryz.zeroValue4
  t5 := Tryz.underlying5
  a5 := Tryz.isAgg5
  z5 := Tryz.sizeOf5
  v5 := Tryz.zeroValue5
  t9 := Tryz.underlying9
  a9 := Tryz.isAgg9
  z9 := Tryz.sizeOf9
  v9 := Tryz.zeroValue9
  t31 := Tryz.underlying23
  a31 := Tryz.isAgg23
  z31 := Tryz.sizeOf23
  v31 := Tryz.zeroValue23
  t46 := Tryz.underlying141
  a46 := Tryz.isAgg141
  z46 := Tryz.sizeOf141
  v46 := Tryz.zeroValue141
  t51 := Tryz.underlying154
  a51 := Tryz.isAgg154
  z51 := Tryz.sizeOf154
  v51 := Tryz.zeroValue154
  t53 := Tryz.underlying166
  a53 := Tryz.isAgg166
  z53 := Tryz.sizeOf166
  v53 := Tryz.zeroValue166
  t131 := Tryz.underlying107
  a131 := Tryz.isAgg107
  z131 := Tryz.sizeOf107
  v131 := Tryz.zeroValue107
  t182 := Tryz.underlying158
  a182 := Tryz.isAgg158
  z182 := Tryz.sizeOf158
  v182 := Tryz.zeroValue158
  t183 := Tryz.underlying159
  a183 := Tryz.isAgg159
  z183 := Tryz.sizeOf159
  v183 := Tryz.zeroValue159
  t218 := Tryz.underlying187
  a218 := Tryz.isAgg187
  z218 := Tryz.sizeOf187
  v218 := Tryz.zeroValue187
  t222 := Tryz.underlying149
  a222 := Tryz.isAgg149
  z222 := Tryz.sizeOf149
  v222 := Tryz.zeroValue149
  t228 := Tryz.underlying200
  a228 := Tryz.isAgg200
  z228 := Tryz.sizeOf200
  v228 := Tryz.zeroValue200
  t229 := Tryz.underlying201
  a229 := Tryz.isAgg201
  z229 := Tryz.sizeOf201
  v229 := Tryz.zeroValue201 }
open Go.Sort Go.RowKit in
theorem Tryz.slices_Sort_string (blk off cap : Nat) (ss : List (List UInt8)) (w : World) (hH : Holds encStr w blk off ss.toArray) (hblk : blk < w.heap.size) (hsz : ss.length < 4611686018427387904) :
    Calls Tryz.prog 89 #[.slice (some ⟨blk, off, none⟩) ss.length cap] w fun e w' =>
      e = .returned (.tuple #[]) ∧ ∃ n os, w' = grow (putRow encStr (Sort.ahead w n) blk off (ss.mergeSort fun x y => decide (x ≤ y)).toArray) os := Any.slices_Sort_string Tryz.lays190 blk off cap ss w hH hblk hsz
def Tryz.lays99_ren : Go.Shelf.Ren := ⟨fun | 99 => 78 | 206 => 94 | n => n, fun | 9 => 9 | 4 => 4 | 3 => 3 | n => n, fun | n => n⟩
theorem Tryz.lays99 : Go.Proofs.Lays.n99 Tryz.prog Tryz.lays99_ren := {
  mixed := by kernel_rfl
  f99 := Tryz.func78.trans (congrArg some (by kernel_rfl))
  f206 := Tryz.func94.trans (congrArg some (by kernel_rfl))
  t3 := Tryz.underlying3
  a3 := Tryz.isAgg3
  z3 := Tryz.sizeOf3
  v3 := Tryz.zeroValue3
  t4 := Tryz.underlying4
  a4 := Tryz.isAgg4
  z4 := Tryz.sizeOf4
  v4 := Tryz.zeroValue4
  t9 := Tryz.underlying9
  a9 := Tryz.isAgg9
  z9 := Tryz.sizeOf9
  v9 := Tryz.zeroValue9 }
open Go.RowKit Go.Lib in
theorem Tryz.strings_HasPrefix (s p : ByteArray) (w : World) :
    Calls Tryz.prog 78 #[.string s, .string p] w fun e w' => e = .returned (.bool (Lib.hasPrefix s.data.toList p.data.toList)) ∧ w' = w := Any.strings_HasPrefix Tryz.lays99 s p w
def Tryz.laysM157_ren : Go.Shelf.Ren := ⟨fun | 157 => 88 | 229 => 102 | 199 => 103 | 261 => 123 | 311 => 144 | 312 => 145 | n => n, fun | 9 => 9 | 31 => 23 | 3 => 3 | 5 => 5 | 4 => 4 | 119 => 136 | 0 => 0 | 40 => 138 | 152 => 151 | 21 => 21 | 154 => 153 | 51 => 154 | 141 => 156 | 196 => 179 | 193 => 176 | 198 => 182 | 49 => 180 | 194 => 177 | 201 => 185 | 226 => 198 | 46 => 141 | 227 => 199 | n => n, fun | 0 => 17 | 6 => 18 | n => n⟩
theorem Tryz.laysM157 : Go.Proofs.LaysM.n157 Tryz.prog Tryz.laysM157_ren := {
  mixed := by kernel_rfl
  f157 := Tryz.func88.trans (congrArg some (by kernel_rfl))
  f199 := Tryz.func103.trans (congrArg some (by kernel_rfl))
  f229 := Tryz.func102.trans (congrArg some (by kernel_rfl))
  f261 := Tryz.func123.trans (congrArg some (by kernel_rfl))
  f311 := Tryz.func144.trans (congrArg some (by kernel_rfl))
  f312 := Tryz.func145.trans (congrArg some (by kernel_rfl))
  t0 := Tryz.underlying0
  a0 := Tryz.isAgg0
  z0 := Tryz.sizeOf0
  v0 := Tryz.zeroValue0
  t3 := Tryz.underlying3
  a3 := Tryz.isAgg3
  z3 := Tryz.sizeOf3
  v3 := Tryz.zeroValue3
  t4 := Tryz.underlying4
  a4 := Tryz.isAgg4
  z4 := Tryz.sizeOf4
  v4 := Tryz.zeroValue4
  t5 := Tryz.underlying5
  a5 := Tryz.isAgg5
  z5 := Tryz.sizeOf5
  v5 := Tryz.zeroValue5
  t9 := Tryz.underlying9
  a9 := Tryz.isAgg9
  z9 := Tryz.sizeOf9
  v9 := Tryz.zeroValue9
  t21 := Tryz.underlying21
  a21 := Tryz.isAgg21
  z21 := Tryz.sizeOf21
  v21 := Tryz.zeroValue21
  t31 := Tryz.underlying23
  a31 := Tryz.isAgg23
  z31 := Tryz.sizeOf23
  v31 := Tryz.zeroValue23
  t40 := Tryz.underlying138
  a40 := Tryz.isAgg138
  z40 := Tryz.sizeOf138
  v40 := Tryz.zeroValue138
  t46 := Tryz.underlying141
  a46 := Tryz.isAgg141
  z46 := Tryz.sizeOf141
  v46 := Tryz.zeroValue141
  t49 := Tryz.underlying180
  a49 := Tryz.isAgg180
  z49 := Tryz.sizeOf180
  v49 := Tryz.zeroValue180
  t51 := Tryz.underlying154
  a51 := Tryz.isAgg154
  z51 := Tryz.sizeOf154
  v51 := Tryz.zeroValue154
  t119 := Tryz.underlying136
  a119 := Tryz.isAgg136
  z119 := Tryz.sizeOf136
  t141 := Tryz.underlying156
  a141 := Tryz.isAgg156
  z141 := Tryz.sizeOf156
  v141 := Tryz.zeroValue156
  t152 := Tryz.underlying151
  a152 := Tryz.isAgg151
  z152 := Tryz.sizeOf151
  v152 := Tryz.zeroValue151
  t154 := Tryz.underlying153
  a154 := Tryz.isAgg153
  z154 := Tryz.sizeOf153
  v154 := Tryz.zeroValue153
  t193 := Tryz.underlying176
  a193 := Tryz.isAgg176
  z193 := Tryz.sizeOf176
  v193 := Tryz.zeroValue176
  t194 := Tryz.underlying177
  a194 := Tryz.isAgg177
  z194 := Tryz.sizeOf177
  v194 := Tryz.zeroValue177
  t196 := Tryz.underlying179
  a196 := Tryz.isAgg179
  z196 := Tryz.sizeOf179
  v196 := Tryz.zeroValue179
  t198 := Tryz.underlying182
  a198 := Tryz.isAgg182
  z198 := Tryz.sizeOf182
  v198 := Tryz.zeroValue182
  t201 := Tryz.underlying185
  a201 := Tryz.isAgg185
  z201 := Tryz.sizeOf185
  v201 := Tryz.zeroValue185
  t226 := Tryz.underlying198
  a226 := Tryz.isAgg198
  z226 := Tryz.sizeOf198
  v226 := Tryz.zeroValue198
  t227 := Tryz.underlying199
  a227 := Tryz.isAgg199
  z227 := Tryz.sizeOf199
  v227 := Tryz.zeroValue199
  g0 := by kernel_rfl
  g6 := by kernel_rfl
  i0 := by kernel_rfl
  i3 := by kernel_rfl
  i4 := by kernel_rfl
  i5 := by kernel_rfl
  i9 := by kernel_rfl
  i21 := by kernel_rfl
  i31 := by kernel_rfl
  i40 := by kernel_rfl
  i46 := by kernel_rfl
  i49 := by kernel_rfl
  i51 := by kernel_rfl
  i141 := by kernel_rfl
  i152 := by kernel_rfl
  i154 := by kernel_rfl
  i193 := by kernel_rfl
  i194 := by kernel_rfl
  i196 := by kernel_rfl
  i198 := by kernel_rfl
  i201 := by kernel_rfl
  i226 := by kernel_rfl
  i227 := by kernel_rfl
  m0 := by kernel_rfl
  m6 := by kernel_rfl }
open Go.RowKit Go.Lib in
theorem Tryz.strings_Fields_laid (s : ByteArray) (w : World) (hs : s.size < 4294967281) (hascii : ∀ (j : Nat) b, s.data.toList[j]? = some b → b.toNat < 128) (htab : Lib.TabIs Tryz.prog w "strings.asciiSpace" .u8 Lib.asciiSpaceTab) :
    Calls Tryz.prog 88 #[.string s] w fun e w' =>
      e = .returned (.slice (some ⟨w.heap.size, 0, none⟩) (Lib.fields s.data.toList).length (Lib.fields s.data.toList).length) ∧ w' = w.alloc (.cells ((Lib.fields s.data.toList).map fun l => Value.string ⟨l.toArray⟩).toArray 9) := Any.strings_Fields_laid Tryz.laysM157 s w hs hascii htab
def Tryz.lays109_ren : Go.Shelf.Ren := ⟨fun | 109 => 87 | n => n, fun | 31 => 23 | 9 => 9 | 3 => 3 | 0 => 0 | 4 => 4 | n => n, fun | n => n⟩
theorem Tryz.lays109 : Go.Proofs.Lays.n109 Tryz.prog Tryz.lays109_ren := {
  mixed := by kernel_rfl
  f109 := Tryz.func87.trans (congrArg some (by kernel_rfl))
  t0 := Tryz.underlying0
  a0 := Tryz.isAgg0
  z0 := Tryz.sizeOf0
  v0 := Tryz.zeroValue0
  t3 := Tryz.underlying3
  a3 := Tryz.isAgg3
  z3 := Tryz.sizeOf3
  v3 := Tryz.zeroValue3
  t4 := Tryz.underlying4
  a4 := Tryz.isAgg4
  z4 := Tryz.sizeOf4
  v4 := Tryz.zeroValue4
  t9 := Tryz.underlying9
  a9 := Tryz.isAgg9
  z9 := Tryz.sizeOf9
  v9 := Tryz.zeroValue9
  t31 := Tryz.underlying23
  a31 := Tryz.isAgg23
  z31 := Tryz.sizeOf23
  v31 := Tryz.zeroValue23 }
open Go.Lib in
theorem Tryz.slices_Index_string (b off n c : Nat) (zs : List ByteArray) (x : ByteArray) (w : World) (hz : n ≤ zs.length) (hbig : n ≤ 9223372036854775807) (hc : ∀ j, j < zs.length → w.cell? ⟨b, off + j, none⟩ = some (.string (zs.getD j ByteArray.empty))) :
    Calls Tryz.prog 87 #[.slice (some ⟨b, off, none⟩) n c, .string x] w fun e w' => e = .returned (.int .i64 (Lib.idxOfS (zs.take n) x)) ∧ w' = w := Any.slices_Index_string Tryz.lays109 b off n c zs x w hz hbig hc
def Tryz.lays110_ren : Go.Shelf.Ren := ⟨fun | 110 => 70 | 109 => 87 | n => n, fun | 31 => 23 | 9 => 9 | 4 => 4 | 3 => 3 | 0 => 0 | n => n, fun | n => n⟩
theorem Tryz.lays110 : Go.Proofs.Lays.n110 Tryz.prog Tryz.lays110_ren := {
  mixed := by kernel_rfl
  f109 := Tryz.func87.trans (congrArg some (by kernel_rfl))
  f110 := Tryz.func70.trans (congrArg some (by kernel_rfl))
  t0 := Tryz.underlying0
  a0 := Tryz.isAgg0
  z0 := Tryz.sizeOf0
  v0 := Tryz.zeroValue0
  t3 := Tryz.underlying3
  a3 := Tryz.isAgg3
  z3 := Tryz.sizeOf3
  v3 := Tryz.zeroValue3
  t4 := Tryz.underlying4
  a4 := Tryz.isAgg4
  z4 := Tryz.sizeOf4
  v4 := Tryz.zeroValue4
  t9 := Tryz.underlying9
  a9 := Tryz.isAgg9
  z9 := Tryz.sizeOf9
  v9 := Tryz.zeroValue9
  t31 := Tryz.underlying23
  a31 := Tryz.isAgg23
  z31 := Tryz.sizeOf23
  v31 := Tryz.zeroValue23 }
open Go.Lib in
theorem Tryz.slices_Contains_string (b off n c : Nat) (zs : List ByteArray) (x : ByteArray) (w : World) (hz : n ≤ zs.length) (hbig : n ≤ 9223372036854775807) (hc : ∀ j, j < zs.length → w.cell? ⟨b, off + j, none⟩ = some (.string (zs.getD j ByteArray.empty))) :
    Calls Tryz.prog 70 #[.slice (some ⟨b, off, none⟩) n c, .string x] w fun e w' => e = .returned (.bool (Lib.containsS (zs.take n) x)) ∧ w' = w := Any.slices_Contains_string Tryz.lays110 b off n c zs x w hz hbig hc
end Go.Proofs
