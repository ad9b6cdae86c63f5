/-
  DERIVED: THE SHELF's CONTRACTS AT THIS DUMP, IN PLAIN WORDS (tools/lay-plain.mjs out of 'TryzShelf.lean', which tools/lay-shelf.mjs wrote): THE SAME DECLARATIONS UNDER THE SAME NAMES: 'import', 'namespace', 'open', 'def', 'theorem' AND NOTHING ELSE: no command of the shelf's: FOR A HAND-IN. Each laying: the table of numbers ('.._ren') and one theorem, a field a fact of the dump's own or the kernel's comparison; each contract: ONE APPLICATION.
-/
import Derived.Shelf.Strings.Builder1
import Derived.Shelf.Strings.Builder2
import Derived.Shelf.Strings.OnBuilder
import Derived.Shelf.Strings.BuilderF
import Derived.Shelf.Strconv.Itoa0
import Derived.Shelf.Strconv.Itoa1
import Derived.Shelf.LaysM
import Derived.Shelf.Strconv.Itoa2
import Derived.Shelf.Strconv.Itoa3
import Derived.Shelf.Strconv.Itoa4
import Derived.Shelf.Strings.Search1
import Derived.Shelf.Strings.Search2
import Derived.Shelf.Strings.Search3
import Derived.Shelf.Strings.Count
import Derived.Shelf.Strings.Shaped
import Derived.Shelf.Strings.Prefix
import Derived.Shelf.Strings.Split
import Derived.Shelf.Strings.Replace
import Derived.Shelf.Strings.SplitShaped
import Derived.Shelf.Bits.Mul64
import Derived.Shelf.Strings.Repeat
import Derived.Shelf.Unicode.DecodeSlow
import Derived.Shelf.Slices.Turned
import Derived.Test.YtgmnbdfbbcpciaaGreatDoorProg
namespace Go.Proofs
open Go.Shelf
def Tryz.lays156_ren : Go.Shelf.Ren := ⟨fun | 156 => 70 | 165 => 64 | 166 => 65 | 169 => 67 | 240 => 79 | 241 => 80 | 276 => 86 | 277 => 87 | n => n, fun | 31 => 70 | 9 => 9 | 3 => 3 | 4 => 4 | 0 => 0 | 20 => 20 | 72 => 100 | 76 => 102 | 70 => 98 | 37 => 41 | 75 => 26 | 127 => 116 | 164 => 120 | 5 => 5 | 80 => 105 | n => n, fun | n => n⟩
theorem Tryz.lays156 : Go.Proofs.Lays.n156 Tryz.prog Tryz.lays156_ren := {
  mixed := by kernel_rfl
  f156 := Tryz.func70.trans (congrArg some (by kernel_rfl))
  f165 := Tryz.func64.trans (congrArg some (by kernel_rfl))
  f166 := Tryz.func65.trans (congrArg some (by kernel_rfl))
  f169 := Tryz.func67.trans (congrArg some (by kernel_rfl))
  f240 := Tryz.func79.trans (congrArg some (by kernel_rfl))
  f241 := Tryz.func80.trans (congrArg some (by kernel_rfl))
  f276 := Tryz.func86.trans (congrArg some (by kernel_rfl))
  f277 := Tryz.func87.trans (congrArg some (by kernel_rfl))
  t0 := Tryz.underlying0
  a0 := Tryz.isAgg0
  z0 := Tryz.sizeOf0
  v0 := Tryz.zeroValue0
  t3 := Tryz.underlying3
  a3 := Tryz.isAgg3
  z3 := Tryz.sizeOf3
  v3 := Tryz.zeroValue3
  t4 := Tryz.underlying4
  a4 := Tryz.isAgg4
  z4 := Tryz.sizeOf4
  v4 := Tryz.zeroValue4
  t9 := Tryz.underlying9
  a9 := Tryz.isAgg9
  z9 := Tryz.sizeOf9
  v9 := Tryz.zeroValue9
  t20 := Tryz.underlying20
  a20 := Tryz.isAgg20
  z20 := Tryz.sizeOf20
  v20 := Tryz.zeroValue20
  t31 := Tryz.underlying70
  a31 := Tryz.isAgg70
  z31 := Tryz.sizeOf70
  v31 := Tryz.zeroValue70
  t37 := Tryz.underlying41
  a37 := Tryz.isAgg41
  z37 := Tryz.sizeOf41
  v37 := Tryz.zeroValue41
  t70 := Tryz.underlying98
  a70 := Tryz.isAgg98
  z70 := Tryz.sizeOf98
  v70 := Tryz.zeroValue98
  t72 := Tryz.underlying100
  a72 := Tryz.isAgg100
  z72 := Tryz.sizeOf100
  v72 := Tryz.zeroValue100
  t75 := Tryz.underlying26
  a75 := Tryz.isAgg26
  z75 := Tryz.sizeOf26
  v75 := Tryz.zeroValue26
  t76 := Tryz.underlying102
  a76 := Tryz.isAgg102
  z76 := Tryz.sizeOf102
  v76 := Tryz.zeroValue102
  t127 := Tryz.underlying116
  a127 := Tryz.isAgg116
  z127 := Tryz.sizeOf116
  v127 := Tryz.zeroValue116
  t164 := Tryz.underlying120
  a164 := Tryz.isAgg120
  z164 := Tryz.sizeOf120
  v164 := Tryz.zeroValue120 }
theorem Tryz.Builder_Extra_156 : Builder.Extra Tryz.prog Tryz.lays156_ren := {
  sizeBuilder := by kernel_rfl
  liesBuilder := by kernel_rfl
  t5 := Tryz.underlying5
  a5 := Tryz.isAgg5
  z5 := Tryz.sizeOf5
  v5 := Tryz.zeroValue5
  infoByte := by kernel_rfl
  cellsByte := by kernel_rfl
  sizeByte := by kernel_rfl
  neB5 := by decide }
open Go.RowKit in
theorem Tryz.strings_Join_none (a : Option Addr) (c : Nat) (sep : ByteArray) (w : World) :
    Calls Tryz.prog 70 #[.slice a 0 c, .string sep] w fun e w' => e = .returned (.string ⟨#[]⟩) ∧ w' = w := Any.strings_Join_none Tryz.lays156 Tryz.Builder_Extra_156 a c sep w
open Go.RowKit in
theorem Tryz.strings_Join (bk o c : Nat) (xs : List ByteArray) (sep : ByteArray) (w : World) (hcells : ∀ (j : Nat) x, xs[j]? = some x → w.cell? ⟨bk, o + j, none⟩ = some (.string x)) (hbk : bk < w.heap.size) (hN : xs.length ≤ 140737488355328) (hcap : xs.length ≤ c) (hlen : (Lib.join (xs.map (·.data.toList)) sep.data.toList).length ≤ 140737488355328) :
    Calls Tryz.prog 70 #[.slice (some ⟨bk, o, none⟩) xs.length c, .string sep] w fun e w' => e = .returned (.string ⟨(Lib.join (xs.map (·.data.toList)) sep.data.toList).toArray⟩) ∧ Below w.heap.size w w' := Any.strings_Join Tryz.lays156 Tryz.Builder_Extra_156 bk o c xs sep w hcells hbk hN hcap hlen
def Tryz.laysM173_ren : Go.Shelf.Ren := ⟨fun | 173 => 81 | 246 => 88 | 283 => 92 | 284 => 93 | 285 => 94 | 286 => 95 | 129 => 98 | 317 => 97 | 318 => 99 | 319 => 100 | 320 => 101 | 337 => 105 | 338 => 106 | n => n, fun | 2 => 2 | 3 => 3 | 9 => 9 | 4 => 4 | 171 => 124 | 0 => 0 | 53 => 113 | 37 => 41 | 5 => 5 | 173 => 127 | 212 => 132 | 51 => 110 | 20 => 20 | 213 => 133 | 46 => 94 | 232 => 141 | 233 => 142 | n => n, fun | 17 => 6 | 18 => 7 | 19 => 8 | n => n⟩
theorem Tryz.laysM173 : Go.Proofs.LaysM.n173 Tryz.prog Tryz.laysM173_ren := {
  mixed := by kernel_rfl
  f129 := Tryz.func98.trans (congrArg some (by kernel_rfl))
  f173 := Tryz.func81.trans (congrArg some (by kernel_rfl))
  f246 := Tryz.func88.trans (congrArg some (by kernel_rfl))
  f283 := Tryz.func92.trans (congrArg some (by kernel_rfl))
  f284 := Tryz.func93.trans (congrArg some (by kernel_rfl))
  f285 := Tryz.func94.trans (congrArg some (by kernel_rfl))
  f286 := Tryz.func95.trans (congrArg some (by kernel_rfl))
  f317 := Tryz.func97.trans (congrArg some (by kernel_rfl))
  f318 := Tryz.func99.trans (congrArg some (by kernel_rfl))
  f319 := Tryz.func100.trans (congrArg some (by kernel_rfl))
  f320 := Tryz.func101.trans (congrArg some (by kernel_rfl))
  f337 := Tryz.func105.trans (congrArg some (by kernel_rfl))
  f338 := Tryz.func106.trans (congrArg some (by kernel_rfl))
  t0 := Tryz.underlying0
  a0 := Tryz.isAgg0
  z0 := Tryz.sizeOf0
  v0 := Tryz.zeroValue0
  t2 := Tryz.underlying2
  a2 := Tryz.isAgg2
  z2 := Tryz.sizeOf2
  v2 := Tryz.zeroValue2
  t3 := Tryz.underlying3
  a3 := Tryz.isAgg3
  z3 := Tryz.sizeOf3
  v3 := Tryz.zeroValue3
  t4 := Tryz.underlying4
  a4 := Tryz.isAgg4
  z4 := Tryz.sizeOf4
  v4 := Tryz.zeroValue4
  t5 := Tryz.underlying5
  a5 := Tryz.isAgg5
  z5 := Tryz.sizeOf5
  v5 := Tryz.zeroValue5
  t9 := Tryz.underlying9
  a9 := Tryz.isAgg9
  z9 := Tryz.sizeOf9
  v9 := Tryz.zeroValue9
  t20 := Tryz.underlying20
  a20 := Tryz.isAgg20
  z20 := Tryz.sizeOf20
  v20 := Tryz.zeroValue20
  t37 := Tryz.underlying41
  a37 := Tryz.isAgg41
  z37 := Tryz.sizeOf41
  v37 := Tryz.zeroValue41
  t46 := Tryz.underlying94
  a46 := Tryz.isAgg94
  z46 := Tryz.sizeOf94
  v46 := Tryz.zeroValue94
  t51 := Tryz.underlying110
  a51 := Tryz.isAgg110
  z51 := Tryz.sizeOf110
  v51 := Tryz.zeroValue110
  t53 := Tryz.underlying113
  a53 := Tryz.isAgg113
  z53 := Tryz.sizeOf113
  v53 := Tryz.zeroValue113
  t171 := Tryz.underlying124
  a171 := Tryz.isAgg124
  z171 := Tryz.sizeOf124
  v171 := Tryz.zeroValue124
  t173 := Tryz.underlying127
  a173 := Tryz.isAgg127
  z173 := Tryz.sizeOf127
  v173 := Tryz.zeroValue127
  t212 := Tryz.underlying132
  a212 := Tryz.isAgg132
  z212 := Tryz.sizeOf132
  v212 := Tryz.zeroValue132
  t213 := Tryz.underlying133
  a213 := Tryz.isAgg133
  z213 := Tryz.sizeOf133
  t232 := Tryz.underlying141
  a232 := Tryz.isAgg141
  z232 := Tryz.sizeOf141
  v232 := Tryz.zeroValue141
  t233 := Tryz.underlying142
  a233 := Tryz.isAgg142
  z233 := Tryz.sizeOf142
  v233 := Tryz.zeroValue142
  g17 := by kernel_rfl
  g18 := by kernel_rfl
  g19 := by kernel_rfl
  i0 := by kernel_rfl
  i2 := by kernel_rfl
  i3 := by kernel_rfl
  i4 := by kernel_rfl
  i5 := by kernel_rfl
  i9 := by kernel_rfl
  i20 := by kernel_rfl
  i37 := by kernel_rfl
  i46 := by kernel_rfl
  i51 := by kernel_rfl
  i53 := by kernel_rfl
  i171 := by kernel_rfl
  i173 := by kernel_rfl
  i212 := by kernel_rfl
  i232 := by kernel_rfl
  i233 := by kernel_rfl
  m17 := by kernel_rfl
  m18 := by kernel_rfl
  m19 := by kernel_rfl }
open Go.RowKit Go.Sort Go.Lib in
theorem Tryz.strconv_FormatInt_10 (n : Int) (h0 : -9223372036854775808 ≤ n) (h1 : n ≤ 9223372036854775807) (w : World) (htab : Lib.TabIs Tryz.prog w "internal/strconv.uint64pow10" .u64 Lib.pow10Tab) :
    Calls Tryz.prog 81 #[.int .i64 n, .int .i64 10] w fun e w' => e = .returned (.string ⟨(Lib.itoa n).toArray⟩) ∧ ∃ k os, w' = grow (w.drewN k) os := Any.strconv_FormatInt_10 Tryz.laysM173 n h0 h1 w htab
def Tryz.lays155_ren : Go.Shelf.Ren := ⟨fun | 155 => 89 | 154 => 96 | 138 => 102 | 165 => 64 | 143 => 103 | 166 => 65 | 197 => 104 | 169 => 67 | 195 => 107 | 218 => 108 | 240 => 79 | 241 => 80 | 219 => 109 | 260 => 110 | 276 => 86 | 277 => 87 | 217 => 111 | 225 => 112 | 224 => 113 | 267 => 114 | 266 => 115 | 314 => 116 | n => n, fun | 9 => 9 | 3 => 3 | 4 => 4 | 72 => 100 | 0 => 0 | 76 => 102 | 105 => 136 | 21 => 21 | 5 => 5 | 70 => 98 | 20 => 20 | 37 => 41 | 75 => 26 | 127 => 116 | 164 => 120 | 46 => 94 | 119 => 143 | 139 => 146 | 138 => 145 | 146 => 111 | 51 => 110 | 80 => 105 | n => n, fun | 1 => 5 | 3 => 9 | 4 => 10 | n => n⟩
theorem Tryz.lays155 : Go.Proofs.Lays.n155 Tryz.prog Tryz.lays155_ren := {
  mixed := by kernel_rfl
  f138 := Tryz.func102.trans (congrArg some (by kernel_rfl))
  f143 := Tryz.func103.trans (congrArg some (by kernel_rfl))
  f154 := Tryz.func96.trans (congrArg some (by kernel_rfl))
  f155 := Tryz.func89.trans (congrArg some (by kernel_rfl))
  f165 := Tryz.func64.trans (congrArg some (by kernel_rfl))
  f166 := Tryz.func65.trans (congrArg some (by kernel_rfl))
  f169 := Tryz.func67.trans (congrArg some (by kernel_rfl))
  f195 := Tryz.func107.trans (congrArg some (by kernel_rfl))
  f197 := Tryz.func104.trans (congrArg some (by kernel_rfl))
  f217 := Tryz.func111.trans (congrArg some (by kernel_rfl))
  f218 := Tryz.func108.trans (congrArg some (by kernel_rfl))
  f219 := Tryz.func109.trans (congrArg some (by kernel_rfl))
  f224 := Tryz.func113.trans (congrArg some (by kernel_rfl))
  f225 := Tryz.func112.trans (congrArg some (by kernel_rfl))
  f240 := Tryz.func79.trans (congrArg some (by kernel_rfl))
  f241 := Tryz.func80.trans (congrArg some (by kernel_rfl))
  f260 := Tryz.func110.trans (congrArg some (by kernel_rfl))
  f266 := Tryz.func115.trans (congrArg some (by kernel_rfl))
  f267 := Tryz.func114.trans (congrArg some (by kernel_rfl))
  f276 := Tryz.func86.trans (congrArg some (by kernel_rfl))
  f277 := Tryz.func87.trans (congrArg some (by kernel_rfl))
  f314 := Tryz.func116.trans (congrArg some (by kernel_rfl))
  t0 := Tryz.underlying0
  a0 := Tryz.isAgg0
  z0 := Tryz.sizeOf0
  v0 := Tryz.zeroValue0
  t3 := Tryz.underlying3
  a3 := Tryz.isAgg3
  z3 := Tryz.sizeOf3
  v3 := Tryz.zeroValue3
  t4 := Tryz.underlying4
  a4 := Tryz.isAgg4
  z4 := Tryz.sizeOf4
  v4 := Tryz.zeroValue4
  t5 := Tryz.underlying5
  a5 := Tryz.isAgg5
  z5 := Tryz.sizeOf5
  v5 := Tryz.zeroValue5
  t9 := Tryz.underlying9
  a9 := Tryz.isAgg9
  z9 := Tryz.sizeOf9
  v9 := Tryz.zeroValue9
  t20 := Tryz.underlying20
  a20 := Tryz.isAgg20
  z20 := Tryz.sizeOf20
  v20 := Tryz.zeroValue20
  t21 := Tryz.underlying21
  a21 := Tryz.isAgg21
  z21 := Tryz.sizeOf21
  v21 := Tryz.zeroValue21
  t37 := Tryz.underlying41
  a37 := Tryz.isAgg41
  z37 := Tryz.sizeOf41
  v37 := Tryz.zeroValue41
  t46 := Tryz.underlying94
  a46 := Tryz.isAgg94
  z46 := Tryz.sizeOf94
  v46 := Tryz.zeroValue94
  t51 := Tryz.underlying110
  a51 := Tryz.isAgg110
  z51 := Tryz.sizeOf110
  v51 := Tryz.zeroValue110
  t70 := Tryz.underlying98
  a70 := Tryz.isAgg98
  z70 := Tryz.sizeOf98
  v70 := Tryz.zeroValue98
  t72 := Tryz.underlying100
  a72 := Tryz.isAgg100
  z72 := Tryz.sizeOf100
  v72 := Tryz.zeroValue100
  t75 := Tryz.underlying26
  a75 := Tryz.isAgg26
  z75 := Tryz.sizeOf26
  v75 := Tryz.zeroValue26
  t76 := Tryz.underlying102
  a76 := Tryz.isAgg102
  z76 := Tryz.sizeOf102
  v76 := Tryz.zeroValue102
  t105 := Tryz.underlying136
  a105 := Tryz.isAgg136
  z105 := Tryz.sizeOf136
  v105 := Tryz.zeroValue136
  t119 := Tryz.underlying143
  a119 := Tryz.isAgg143
  z119 := Tryz.sizeOf143
  t127 := Tryz.underlying116
  a127 := Tryz.isAgg116
  z127 := Tryz.sizeOf116
  v127 := Tryz.zeroValue116
  t138 := Tryz.underlying145
  a138 := Tryz.isAgg145
  z138 := Tryz.sizeOf145
  v138 := Tryz.zeroValue145
  t139 := Tryz.underlying146
  a139 := Tryz.isAgg146
  z139 := Tryz.sizeOf146
  v139 := Tryz.zeroValue146
  t146 := Tryz.underlying111
  a146 := Tryz.isAgg111
  z146 := Tryz.sizeOf111
  v146 := Tryz.zeroValue111
  t164 := Tryz.underlying120
  a164 := Tryz.isAgg120
  z164 := Tryz.sizeOf120
  v164 := Tryz.zeroValue120
  g1 := by kernel_rfl
  g3 := by kernel_rfl
  g4 := by kernel_rfl }
theorem Tryz.Builder_Extra_155 : Builder.Extra Tryz.prog Tryz.lays155_ren := {
  sizeBuilder := by kernel_rfl
  liesBuilder := by kernel_rfl
  t5 := Tryz.underlying5
  a5 := Tryz.isAgg5
  z5 := Tryz.sizeOf5
  v5 := Tryz.zeroValue5
  infoByte := by kernel_rfl
  cellsByte := by kernel_rfl
  sizeByte := by kernel_rfl
  neB5 := by decide }
open Go.RowKit Go.Lib in
theorem Tryz.strings_ReplaceAll (s old new : ByteArray) (m : Int) (w : World) (hs : s.size < 4294967281) (hm : w.cell? ⟨5, 0, none⟩ = some (.int .i64 m)) (h1 : 1 ≤ old.size) (hlen : s.size + Lib.countB s old * new.size ≤ 140737488355328) :
    Calls Tryz.prog 89 #[.string s, .string old, .string new] w fun e w' =>
      e = .returned (.string ⟨(Lib.replaceAll s.data.toList old.data.toList new.data.toList).toArray⟩) ∧ Below w.heap.size w w' := Any.strings_ReplaceAll Tryz.lays155 Tryz.Builder_Extra_155 s old new m w hs hm h1 hlen
def Tryz.lays105_ren : Go.Shelf.Ren := ⟨fun | 105 => 47 | 212 => 62 | 99 => 63 | 165 => 64 | 166 => 65 | 170 => 66 | 169 => 67 | 263 => 76 | 264 => 77 | 206 => 78 | 240 => 79 | 241 => 80 | 276 => 86 | 277 => 87 | n => n, fun | 9 => 9 | 3 => 3 | 4 => 4 | 20 => 20 | 0 => 0 | 46 => 94 | 109 => 95 | 5 => 5 | 72 => 100 | 76 => 102 | 51 => 110 | 146 => 111 | 53 => 113 | 148 => 114 | 70 => 98 | 37 => 41 | 75 => 26 | 127 => 116 | 164 => 120 | 80 => 105 | n => n, fun | n => n⟩
theorem Tryz.lays105 : Go.Proofs.Lays.n105 Tryz.prog Tryz.lays105_ren := {
  mixed := by kernel_rfl
  f99 := Tryz.func63.trans (congrArg some (by kernel_rfl))
  f105 := Tryz.func47.trans (congrArg some (by kernel_rfl))
  f165 := Tryz.func64.trans (congrArg some (by kernel_rfl))
  f166 := Tryz.func65.trans (congrArg some (by kernel_rfl))
  f169 := Tryz.func67.trans (congrArg some (by kernel_rfl))
  f170 := Tryz.func66.trans (congrArg some (by kernel_rfl))
  f206 := Tryz.func78.trans (congrArg some (by kernel_rfl))
  f212 := Tryz.func62.trans (congrArg some (by kernel_rfl))
  f240 := Tryz.func79.trans (congrArg some (by kernel_rfl))
  f241 := Tryz.func80.trans (congrArg some (by kernel_rfl))
  f263 := Tryz.func76.trans (congrArg some (by kernel_rfl))
  f264 := Tryz.func77.trans (congrArg some (by kernel_rfl))
  f276 := Tryz.func86.trans (congrArg some (by kernel_rfl))
  f277 := Tryz.func87.trans (congrArg some (by kernel_rfl))
  t0 := Tryz.underlying0
  a0 := Tryz.isAgg0
  z0 := Tryz.sizeOf0
  v0 := Tryz.zeroValue0
  t3 := Tryz.underlying3
  a3 := Tryz.isAgg3
  z3 := Tryz.sizeOf3
  v3 := Tryz.zeroValue3
  t4 := Tryz.underlying4
  a4 := Tryz.isAgg4
  z4 := Tryz.sizeOf4
  v4 := Tryz.zeroValue4
  t5 := Tryz.underlying5
  a5 := Tryz.isAgg5
  z5 := Tryz.sizeOf5
  v5 := Tryz.zeroValue5
  t9 := Tryz.underlying9
  a9 := Tryz.isAgg9
  z9 := Tryz.sizeOf9
  v9 := Tryz.zeroValue9
  t20 := Tryz.underlying20
  a20 := Tryz.isAgg20
  z20 := Tryz.sizeOf20
  v20 := Tryz.zeroValue20
  t37 := Tryz.underlying41
  a37 := Tryz.isAgg41
  z37 := Tryz.sizeOf41
  v37 := Tryz.zeroValue41
  t46 := Tryz.underlying94
  a46 := Tryz.isAgg94
  z46 := Tryz.sizeOf94
  v46 := Tryz.zeroValue94
  t51 := Tryz.underlying110
  a51 := Tryz.isAgg110
  z51 := Tryz.sizeOf110
  v51 := Tryz.zeroValue110
  t53 := Tryz.underlying113
  a53 := Tryz.isAgg113
  z53 := Tryz.sizeOf113
  v53 := Tryz.zeroValue113
  t70 := Tryz.underlying98
  a70 := Tryz.isAgg98
  z70 := Tryz.sizeOf98
  v70 := Tryz.zeroValue98
  t72 := Tryz.underlying100
  a72 := Tryz.isAgg100
  z72 := Tryz.sizeOf100
  v72 := Tryz.zeroValue100
  t75 := Tryz.underlying26
  a75 := Tryz.isAgg26
  z75 := Tryz.sizeOf26
  v75 := Tryz.zeroValue26
  t76 := Tryz.underlying102
  a76 := Tryz.isAgg102
  z76 := Tryz.sizeOf102
  v76 := Tryz.zeroValue102
  t109 := Tryz.underlying95
  a109 := Tryz.isAgg95
  z109 := Tryz.sizeOf95
  v109 := Tryz.zeroValue95
  t127 := Tryz.underlying116
  a127 := Tryz.isAgg116
  z127 := Tryz.sizeOf116
  v127 := Tryz.zeroValue116
  t146 := Tryz.underlying111
  a146 := Tryz.isAgg111
  z146 := Tryz.sizeOf111
  v146 := Tryz.zeroValue111
  t148 := Tryz.underlying114
  a148 := Tryz.isAgg114
  z148 := Tryz.sizeOf114
  v148 := Tryz.zeroValue114
  t164 := Tryz.underlying120
  a164 := Tryz.isAgg120
  z164 := Tryz.sizeOf120
  v164 := Tryz.zeroValue120 }
theorem Tryz.Builder_Extra_105 : Builder.Extra Tryz.prog Tryz.lays105_ren := {
  sizeBuilder := by kernel_rfl
  liesBuilder := by kernel_rfl
  t5 := Tryz.underlying5
  a5 := Tryz.isAgg5
  z5 := Tryz.sizeOf5
  v5 := Tryz.zeroValue5
  infoByte := by kernel_rfl
  cellsByte := by kernel_rfl
  sizeByte := by kernel_rfl
  neB5 := by decide }
open Go.RowKit Go.Lib in
theorem Tryz.strings_Repeat (s : ByteArray) (c : Nat) (w : World) (hc : c ≤ 9223372036854775807) (hlen : s.size * c ≤ 140737488355328) :
    Calls Tryz.prog 47 #[.string s, .int .i64 c] w fun e w' => e = .returned (.string ⟨(Lib.repeatL s.data.toList c).toArray⟩) ∧ Below w.heap.size w w' := Any.strings_Repeat Tryz.lays105 Tryz.Builder_Extra_105 s c w hc hlen
def Tryz.lays110_ren : Go.Shelf.Ren := ⟨fun | 110 => 74 | 109 => 85 | n => n, fun | 31 => 70 | 9 => 9 | 4 => 4 | 3 => 3 | 0 => 0 | n => n, fun | n => n⟩
theorem Tryz.lays110 : Go.Proofs.Lays.n110 Tryz.prog Tryz.lays110_ren := {
  mixed := by kernel_rfl
  f109 := Tryz.func85.trans (congrArg some (by kernel_rfl))
  f110 := Tryz.func74.trans (congrArg some (by kernel_rfl))
  t0 := Tryz.underlying0
  a0 := Tryz.isAgg0
  z0 := Tryz.sizeOf0
  v0 := Tryz.zeroValue0
  t3 := Tryz.underlying3
  a3 := Tryz.isAgg3
  z3 := Tryz.sizeOf3
  v3 := Tryz.zeroValue3
  t4 := Tryz.underlying4
  a4 := Tryz.isAgg4
  z4 := Tryz.sizeOf4
  v4 := Tryz.zeroValue4
  t9 := Tryz.underlying9
  a9 := Tryz.isAgg9
  z9 := Tryz.sizeOf9
  v9 := Tryz.zeroValue9
  t31 := Tryz.underlying70
  a31 := Tryz.isAgg70
  z31 := Tryz.sizeOf70
  v31 := Tryz.zeroValue70 }
open Go.Lib in
theorem Tryz.slices_Contains_string (b off n c : Nat) (zs : List ByteArray) (x : ByteArray) (w : World) (hz : n ≤ zs.length) (hbig : n ≤ 9223372036854775807) (hc : ∀ j, j < zs.length → w.cell? ⟨b, off + j, none⟩ = some (.string (zs.getD j ByteArray.empty))) :
    Calls Tryz.prog 74 #[.slice (some ⟨b, off, none⟩) n c, .string x] w fun e w' => e = .returned (.bool (Lib.containsS (zs.take n) x)) ∧ w' = w := Any.slices_Contains_string Tryz.lays110 b off n c zs x w hz hbig hc
end Go.Proofs
