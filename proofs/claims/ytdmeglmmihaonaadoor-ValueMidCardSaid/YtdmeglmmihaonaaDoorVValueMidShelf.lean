/-
  DERIVED: THE SHELF's CONTRACTS AT THIS DUMP, IN PLAIN WORDS (tools/lay-plain.mjs out of 'TrydShelf.lean', which tools/lay-shelf.mjs wrote): THE SAME DECLARATIONS UNDER THE SAME NAMES: 'import', 'namespace', 'open', 'def', 'theorem' AND NOTHING ELSE: no command of the shelf's: FOR A HAND-IN. Each laying: the table of numbers ('.._ren') and one theorem, a field a fact of the dump's own or the kernel's comparison; each contract: ONE APPLICATION.
-/
import Derived.Shelf.Strings.Builder1
import Derived.Shelf.Strings.Builder2
import Derived.Shelf.Strings.OnBuilder
import Derived.Shelf.Small.Strs
import Derived.Shelf.Strings.BuilderF
import Derived.Shelf.Strings.Search1
import Derived.Shelf.Strings.Prefix
import Derived.Shelf.Bits.Mul64
import Derived.Shelf.Strings.Repeat
import Derived.Test.YtdmeglmmihaonaaDoorProg
namespace Go.Proofs
open Go.Shelf
def Tryd.lays158_ren : Go.Shelf.Ren := ⟨fun | 158 => 35 | 165 => 60 | 166 => 61 | 167 => 62 | 169 => 63 | 230 => 64 | 203 => 65 | 240 => 77 | 241 => 78 | 197 => 79 | 118 => 80 | 168 => 81 | 270 => 82 | 262 => 83 | 276 => 94 | 277 => 95 | 260 => 96 | 242 => 97 | 313 => 98 | 278 => 106 | 274 => 107 | 275 => 108 | n => n, fun | 9 => 9 | 4 => 4 | 3 => 3 | 5 => 5 | 72 => 70 | 0 => 0 | 76 => 74 | 75 => 73 | 107 => 79 | 70 => 68 | 20 => 20 | 37 => 65 | 127 => 90 | 21 => 21 | 105 => 91 | 164 => 108 | 162 => 114 | 203 => 112 | 119 => 121 | 46 => 49 | 139 => 124 | 138 => 123 | 51 => 101 | 160 => 125 | 208 => 132 | 206 => 130 | 80 => 77 | n => n, fun | 13 => 0 | 3 => 3 | 4 => 4 | n => n⟩
theorem Tryd.lays158 : Go.Proofs.Lays.n158 Tryd.prog Tryd.lays158_ren := {
  mixed := by kernel_rfl
  f118 := Tryd.func80.trans (congrArg some (by kernel_rfl))
  f158 := Tryd.func35.trans (congrArg some (by kernel_rfl))
  f165 := Tryd.func60.trans (congrArg some (by kernel_rfl))
  f166 := Tryd.func61.trans (congrArg some (by kernel_rfl))
  f167 := Tryd.func62.trans (congrArg some (by kernel_rfl))
  f168 := Tryd.func81.trans (congrArg some (by kernel_rfl))
  f169 := Tryd.func63.trans (congrArg some (by kernel_rfl))
  f197 := Tryd.func79.trans (congrArg some (by kernel_rfl))
  f203 := Tryd.func65.trans (congrArg some (by kernel_rfl))
  f230 := Tryd.func64.trans (congrArg some (by kernel_rfl))
  f240 := Tryd.func77.trans (congrArg some (by kernel_rfl))
  f241 := Tryd.func78.trans (congrArg some (by kernel_rfl))
  f242 := Tryd.func97.trans (congrArg some (by kernel_rfl))
  f260 := Tryd.func96.trans (congrArg some (by kernel_rfl))
  f262 := Tryd.func83.trans (congrArg some (by kernel_rfl))
  f270 := Tryd.func82.trans (congrArg some (by kernel_rfl))
  f274 := Tryd.func107.trans (congrArg some (by kernel_rfl))
  f275 := Tryd.func108.trans (congrArg some (by kernel_rfl))
  f276 := Tryd.func94.trans (congrArg some (by kernel_rfl))
  f277 := Tryd.func95.trans (congrArg some (by kernel_rfl))
  f278 := Tryd.func106.trans (congrArg some (by kernel_rfl))
  f313 := Tryd.func98.trans (congrArg some (by kernel_rfl))
  t0 := Tryd.underlying0
  a0 := Tryd.isAgg0
  z0 := Tryd.sizeOf0
  v0 := Tryd.zeroValue0
  t3 := Tryd.underlying3
  a3 := Tryd.isAgg3
  z3 := Tryd.sizeOf3
  v3 := Tryd.zeroValue3
  t4 := Tryd.underlying4
  a4 := Tryd.isAgg4
  z4 := Tryd.sizeOf4
  v4 := Tryd.zeroValue4
  t5 := Tryd.underlying5
  a5 := Tryd.isAgg5
  z5 := Tryd.sizeOf5
  v5 := Tryd.zeroValue5
  t9 := Tryd.underlying9
  a9 := Tryd.isAgg9
  z9 := Tryd.sizeOf9
  v9 := Tryd.zeroValue9
  t20 := Tryd.underlying20
  a20 := Tryd.isAgg20
  z20 := Tryd.sizeOf20
  v20 := Tryd.zeroValue20
  t21 := Tryd.underlying21
  a21 := Tryd.isAgg21
  z21 := Tryd.sizeOf21
  v21 := Tryd.zeroValue21
  t37 := Tryd.underlying65
  a37 := Tryd.isAgg65
  z37 := Tryd.sizeOf65
  v37 := Tryd.zeroValue65
  t46 := Tryd.underlying49
  a46 := Tryd.isAgg49
  z46 := Tryd.sizeOf49
  v46 := Tryd.zeroValue49
  t51 := Tryd.underlying101
  a51 := Tryd.isAgg101
  z51 := Tryd.sizeOf101
  v51 := Tryd.zeroValue101
  t70 := Tryd.underlying68
  a70 := Tryd.isAgg68
  z70 := Tryd.sizeOf68
  v70 := Tryd.zeroValue68
  t72 := Tryd.underlying70
  a72 := Tryd.isAgg70
  z72 := Tryd.sizeOf70
  v72 := Tryd.zeroValue70
  t75 := Tryd.underlying73
  a75 := Tryd.isAgg73
  z75 := Tryd.sizeOf73
  v75 := Tryd.zeroValue73
  t76 := Tryd.underlying74
  a76 := Tryd.isAgg74
  z76 := Tryd.sizeOf74
  v76 := Tryd.zeroValue74
  t105 := Tryd.underlying91
  a105 := Tryd.isAgg91
  z105 := Tryd.sizeOf91
  v105 := Tryd.zeroValue91
  t107 := Tryd.underlying79
  a107 := Tryd.isAgg79
  z107 := Tryd.sizeOf79
  v107 := Tryd.zeroValue79
  t119 := Tryd.underlying121
  a119 := Tryd.isAgg121
  z119 := Tryd.sizeOf121
  t127 := Tryd.underlying90
  a127 := Tryd.isAgg90
  z127 := Tryd.sizeOf90
  v127 := Tryd.zeroValue90
  t138 := Tryd.underlying123
  a138 := Tryd.isAgg123
  z138 := Tryd.sizeOf123
  v138 := Tryd.zeroValue123
  t139 := Tryd.underlying124
  a139 := Tryd.isAgg124
  z139 := Tryd.sizeOf124
  v139 := Tryd.zeroValue124
  t160 := Tryd.underlying125
  a160 := Tryd.isAgg125
  z160 := Tryd.sizeOf125
  v160 := Tryd.zeroValue125
  t162 := Tryd.underlying114
  a162 := Tryd.isAgg114
  z162 := Tryd.sizeOf114
  v162 := Tryd.zeroValue114
  t164 := Tryd.underlying108
  a164 := Tryd.isAgg108
  z164 := Tryd.sizeOf108
  v164 := Tryd.zeroValue108
  t203 := Tryd.underlying112
  a203 := Tryd.isAgg112
  z203 := Tryd.sizeOf112
  v203 := Tryd.zeroValue112
  t206 := Tryd.underlying130
  a206 := Tryd.isAgg130
  z206 := Tryd.sizeOf130
  v206 := Tryd.zeroValue130
  t208 := Tryd.underlying132
  a208 := Tryd.isAgg132
  z208 := Tryd.sizeOf132
  v208 := Tryd.zeroValue132
  g3 := by kernel_rfl
  g4 := by kernel_rfl
  g13 := by kernel_rfl }
theorem Tryd.Builder_Extra_158 : Builder.Extra Tryd.prog Tryd.lays158_ren := {
  sizeBuilder := by kernel_rfl
  liesBuilder := by kernel_rfl
  t5 := Tryd.underlying5
  a5 := Tryd.isAgg5
  z5 := Tryd.sizeOf5
  v5 := Tryd.zeroValue5
  infoByte := by kernel_rfl
  cellsByte := by kernel_rfl
  sizeByte := by kernel_rfl
  neB5 := by decide }
open Go.RowKit in
/-- strings.ToUpper: "ToUpper returns s with all Unicode letters mapped to their upper case.": ON ASCII TEXT OF AT MOST 2^47 BYTES. Below the heap's end the world is as it was: where a letter turns, the call makes a builder and its buffer. (LAID: no walk: one application.) -/
theorem Tryd.strings_ToUpper_ascii (s : ByteArray) (w : World) (hs : s.size ≤ 140737488355328) (hascii : ∀ (j : Nat) (b : UInt8), s.data.toList[j]? = some b → b.toNat < 128) :
    Calls Tryd.prog 35 #[.string s] w fun e w' => e = .returned (.string ⟨(Lib.toUpperA s.data.toList).toArray⟩) ∧ Below w.heap.size w w' := Any.strings_ToUpper_ascii Tryd.lays158 Tryd.Builder_Extra_158 s w hs hascii
def Tryd.lays156_ren : Go.Shelf.Ren := ⟨fun | 156 => 70 | 165 => 60 | 166 => 61 | 169 => 63 | 240 => 77 | 241 => 78 | 276 => 94 | 277 => 95 | n => n, fun | 31 => 50 | 9 => 9 | 3 => 3 | 4 => 4 | 0 => 0 | 20 => 20 | 72 => 70 | 76 => 74 | 70 => 68 | 37 => 65 | 75 => 73 | 127 => 90 | 164 => 108 | 5 => 5 | 80 => 77 | n => n, fun | n => n⟩
theorem Tryd.lays156 : Go.Proofs.Lays.n156 Tryd.prog Tryd.lays156_ren := {
  mixed := by kernel_rfl
  f156 := Tryd.func70.trans (congrArg some (by kernel_rfl))
  f165 := Tryd.func60.trans (congrArg some (by kernel_rfl))
  f166 := Tryd.func61.trans (congrArg some (by kernel_rfl))
  f169 := Tryd.func63.trans (congrArg some (by kernel_rfl))
  f240 := Tryd.func77.trans (congrArg some (by kernel_rfl))
  f241 := Tryd.func78.trans (congrArg some (by kernel_rfl))
  f276 := Tryd.func94.trans (congrArg some (by kernel_rfl))
  f277 := Tryd.func95.trans (congrArg some (by kernel_rfl))
  t0 := Tryd.underlying0
  a0 := Tryd.isAgg0
  z0 := Tryd.sizeOf0
  v0 := Tryd.zeroValue0
  t3 := Tryd.underlying3
  a3 := Tryd.isAgg3
  z3 := Tryd.sizeOf3
  v3 := Tryd.zeroValue3
  t4 := Tryd.underlying4
  a4 := Tryd.isAgg4
  z4 := Tryd.sizeOf4
  v4 := Tryd.zeroValue4
  t9 := Tryd.underlying9
  a9 := Tryd.isAgg9
  z9 := Tryd.sizeOf9
  v9 := Tryd.zeroValue9
  t20 := Tryd.underlying20
  a20 := Tryd.isAgg20
  z20 := Tryd.sizeOf20
  v20 := Tryd.zeroValue20
  t31 := Tryd.underlying50
  a31 := Tryd.isAgg50
  z31 := Tryd.sizeOf50
  v31 := Tryd.zeroValue50
  t37 := Tryd.underlying65
  a37 := Tryd.isAgg65
  z37 := Tryd.sizeOf65
  v37 := Tryd.zeroValue65
  t70 := Tryd.underlying68
  a70 := Tryd.isAgg68
  z70 := Tryd.sizeOf68
  v70 := Tryd.zeroValue68
  t72 := Tryd.underlying70
  a72 := Tryd.isAgg70
  z72 := Tryd.sizeOf70
  v72 := Tryd.zeroValue70
  t75 := Tryd.underlying73
  a75 := Tryd.isAgg73
  z75 := Tryd.sizeOf73
  v75 := Tryd.zeroValue73
  t76 := Tryd.underlying74
  a76 := Tryd.isAgg74
  z76 := Tryd.sizeOf74
  v76 := Tryd.zeroValue74
  t127 := Tryd.underlying90
  a127 := Tryd.isAgg90
  z127 := Tryd.sizeOf90
  v127 := Tryd.zeroValue90
  t164 := Tryd.underlying108
  a164 := Tryd.isAgg108
  z164 := Tryd.sizeOf108
  v164 := Tryd.zeroValue108 }
theorem Tryd.Builder_Extra_156 : Builder.Extra Tryd.prog Tryd.lays156_ren := {
  sizeBuilder := by kernel_rfl
  liesBuilder := by kernel_rfl
  t5 := Tryd.underlying5
  a5 := Tryd.isAgg5
  z5 := Tryd.sizeOf5
  v5 := Tryd.zeroValue5
  infoByte := by kernel_rfl
  cellsByte := by kernel_rfl
  sizeByte := by kernel_rfl
  neB5 := by decide }
open Go.RowKit in
/-- No element: the empty string; the world is as it was. (Whatever the slice's address and capacity: a nil slice too.) (LAID: no walk: one application.) -/
theorem Tryd.strings_Join_none (a : Option Addr) (c : Nat) (sep : ByteArray) (w : World) :
    Calls Tryd.prog 70 #[.slice a 0 c, .string sep] w fun e w' => e = .returned (.string ⟨#[]⟩) ∧ w' = w := Any.strings_Join_none Tryd.lays156 Tryd.Builder_Extra_156 a c sep w
open Go.RowKit in
/-- strings.Join: "Join concatenates the elements of its first argument to create a single string. The separator string sep is placed between elements in the resulting string.": HOWEVER MANY ELEMENTS. Below the heap's end the world is as it was. (LAID: no walk: one application.) -/
theorem Tryd.strings_Join (bk o c : Nat) (xs : List ByteArray) (sep : ByteArray) (w : World) (hcells : ∀ (j : Nat) x, xs[j]? = some x → w.cell? ⟨bk, o + j, none⟩ = some (.string x)) (hbk : bk < w.heap.size) (hN : xs.length ≤ 140737488355328) (hcap : xs.length ≤ c) (hlen : (Lib.join (xs.map (·.data.toList)) sep.data.toList).length ≤ 140737488355328) :
    Calls Tryd.prog 70 #[.slice (some ⟨bk, o, none⟩) xs.length c, .string sep] w fun e w' => e = .returned (.string ⟨(Lib.join (xs.map (·.data.toList)) sep.data.toList).toArray⟩) ∧ Below w.heap.size w w' := Any.strings_Join Tryd.lays156 Tryd.Builder_Extra_156 bk o c xs sep w hcells hbk hN hcap hlen
def Tryd.lays106_ren : Go.Shelf.Ren := ⟨fun | 106 => 76 | 213 => 93 | 265 => 105 | n => n, fun | 9 => 9 | 3 => 3 | n => n, fun | n => n⟩
theorem Tryd.lays106 : Go.Proofs.Lays.n106 Tryd.prog Tryd.lays106_ren := {
  mixed := by kernel_rfl
  f106 := Tryd.func76.trans (congrArg some (by kernel_rfl))
  f213 := Tryd.func93.trans (congrArg some (by kernel_rfl))
  f265 := Tryd.func105.trans (congrArg some (by kernel_rfl))
  t3 := Tryd.underlying3
  a3 := Tryd.isAgg3
  z3 := Tryd.sizeOf3
  v3 := Tryd.zeroValue3
  t9 := Tryd.underlying9
  a9 := Tryd.isAgg9
  z9 := Tryd.sizeOf9
  v9 := Tryd.zeroValue9 }
open Go.RowKit in
/-- strings.Compare: "Compare returns an integer comparing two strings lexicographically. The result will be 0 if a == b, -1 if a < b, and +1 if a > b.": IT RETURNS 'Lib.compareBytes a b'; the world is as it was. (LAID: no walk: one application.) -/
theorem Tryd.strings_Compare (a b : ByteArray) (w : World) :
    Calls Tryd.prog 76 #[.string a, .string b] w fun e w' => e = .returned (.int .i64 (Lib.compareBytes a.data.toList b.data.toList)) ∧ w' = w := Any.strings_Compare Tryd.lays106 a b w
def Tryd.lays137_ren : Go.Shelf.Ren := ⟨fun | 137 => 91 | 217 => 104 | 266 => 111 | n => n, fun | 9 => 9 | 5 => 5 | 3 => 3 | n => n, fun | n => n⟩
theorem Tryd.lays137 : Go.Proofs.Lays.n137 Tryd.prog Tryd.lays137_ren := {
  mixed := by kernel_rfl
  f137 := Tryd.func91.trans (congrArg some (by kernel_rfl))
  f217 := Tryd.func104.trans (congrArg some (by kernel_rfl))
  f266 := Tryd.func111.trans (congrArg some (by kernel_rfl))
  t3 := Tryd.underlying3
  a3 := Tryd.isAgg3
  z3 := Tryd.sizeOf3
  v3 := Tryd.zeroValue3
  t5 := Tryd.underlying5
  a5 := Tryd.isAgg5
  z5 := Tryd.sizeOf5
  v5 := Tryd.zeroValue5
  t9 := Tryd.underlying9
  a9 := Tryd.isAgg9
  z9 := Tryd.sizeOf9
  v9 := Tryd.zeroValue9 }
open Go.RowKit in
/-- strings.IndexByte: "IndexByte returns the index of the first instance of c in s, or -1 if c is not present in s.": IT RETURNS 'Lib.indexByte s c'; the world is as it was. (LAID: no walk: one application.) -/
theorem Tryd.strings_IndexByte (s : ByteArray) (c : Int) (w : World) :
    Calls Tryd.prog 91 #[.string s, .int .u8 c] w fun e w' => e = .returned (.int .i64 (Lib.indexByte s.data.toList c.toNat.toUInt8)) ∧ w' = w := Any.strings_IndexByte Tryd.lays137 s c w
def Tryd.lays99_ren : Go.Shelf.Ren := ⟨fun | 99 => 68 | 206 => 90 | n => n, fun | 9 => 9 | 4 => 4 | 3 => 3 | n => n, fun | n => n⟩
theorem Tryd.lays99 : Go.Proofs.Lays.n99 Tryd.prog Tryd.lays99_ren := {
  mixed := by kernel_rfl
  f99 := Tryd.func68.trans (congrArg some (by kernel_rfl))
  f206 := Tryd.func90.trans (congrArg some (by kernel_rfl))
  t3 := Tryd.underlying3
  a3 := Tryd.isAgg3
  z3 := Tryd.sizeOf3
  v3 := Tryd.zeroValue3
  t4 := Tryd.underlying4
  a4 := Tryd.isAgg4
  z4 := Tryd.sizeOf4
  v4 := Tryd.zeroValue4
  t9 := Tryd.underlying9
  a9 := Tryd.isAgg9
  z9 := Tryd.sizeOf9
  v9 := Tryd.zeroValue9 }
open Go.RowKit Go.Lib in
/-- strings.HasPrefix: "HasPrefix reports whether the string s begins with prefix.": IT RETURNS 'Lib.hasPrefix s prefix'; the world is as it was. (LAID: no walk: one application.) -/
theorem Tryd.strings_HasPrefix (s p : ByteArray) (w : World) :
    Calls Tryd.prog 68 #[.string s, .string p] w fun e w' => e = .returned (.bool (Lib.hasPrefix s.data.toList p.data.toList)) ∧ w' = w := Any.strings_HasPrefix Tryd.lays99 s p w
def Tryd.lays105_ren : Go.Shelf.Ren := ⟨fun | 105 => 37 | 212 => 67 | 99 => 68 | 165 => 60 | 166 => 61 | 170 => 69 | 169 => 63 | 263 => 88 | 264 => 89 | 206 => 90 | 240 => 77 | 241 => 78 | 276 => 94 | 277 => 95 | n => n, fun | 9 => 9 | 3 => 3 | 4 => 4 | 20 => 20 | 0 => 0 | 46 => 49 | 109 => 80 | 5 => 5 | 72 => 70 | 76 => 74 | 51 => 101 | 146 => 102 | 53 => 22 | 148 => 104 | 70 => 68 | 37 => 65 | 75 => 73 | 127 => 90 | 164 => 108 | 80 => 77 | n => n, fun | n => n⟩
theorem Tryd.lays105 : Go.Proofs.Lays.n105 Tryd.prog Tryd.lays105_ren := {
  mixed := by kernel_rfl
  f99 := Tryd.func68.trans (congrArg some (by kernel_rfl))
  f105 := Tryd.func37.trans (congrArg some (by kernel_rfl))
  f165 := Tryd.func60.trans (congrArg some (by kernel_rfl))
  f166 := Tryd.func61.trans (congrArg some (by kernel_rfl))
  f169 := Tryd.func63.trans (congrArg some (by kernel_rfl))
  f170 := Tryd.func69.trans (congrArg some (by kernel_rfl))
  f206 := Tryd.func90.trans (congrArg some (by kernel_rfl))
  f212 := Tryd.func67.trans (congrArg some (by kernel_rfl))
  f240 := Tryd.func77.trans (congrArg some (by kernel_rfl))
  f241 := Tryd.func78.trans (congrArg some (by kernel_rfl))
  f263 := Tryd.func88.trans (congrArg some (by kernel_rfl))
  f264 := Tryd.func89.trans (congrArg some (by kernel_rfl))
  f276 := Tryd.func94.trans (congrArg some (by kernel_rfl))
  f277 := Tryd.func95.trans (congrArg some (by kernel_rfl))
  t0 := Tryd.underlying0
  a0 := Tryd.isAgg0
  z0 := Tryd.sizeOf0
  v0 := Tryd.zeroValue0
  t3 := Tryd.underlying3
  a3 := Tryd.isAgg3
  z3 := Tryd.sizeOf3
  v3 := Tryd.zeroValue3
  t4 := Tryd.underlying4
  a4 := Tryd.isAgg4
  z4 := Tryd.sizeOf4
  v4 := Tryd.zeroValue4
  t5 := Tryd.underlying5
  a5 := Tryd.isAgg5
  z5 := Tryd.sizeOf5
  v5 := Tryd.zeroValue5
  t9 := Tryd.underlying9
  a9 := Tryd.isAgg9
  z9 := Tryd.sizeOf9
  v9 := Tryd.zeroValue9
  t20 := Tryd.underlying20
  a20 := Tryd.isAgg20
  z20 := Tryd.sizeOf20
  v20 := Tryd.zeroValue20
  t37 := Tryd.underlying65
  a37 := Tryd.isAgg65
  z37 := Tryd.sizeOf65
  v37 := Tryd.zeroValue65
  t46 := Tryd.underlying49
  a46 := Tryd.isAgg49
  z46 := Tryd.sizeOf49
  v46 := Tryd.zeroValue49
  t51 := Tryd.underlying101
  a51 := Tryd.isAgg101
  z51 := Tryd.sizeOf101
  v51 := Tryd.zeroValue101
  t53 := Tryd.underlying22
  a53 := Tryd.isAgg22
  z53 := Tryd.sizeOf22
  v53 := Tryd.zeroValue22
  t70 := Tryd.underlying68
  a70 := Tryd.isAgg68
  z70 := Tryd.sizeOf68
  v70 := Tryd.zeroValue68
  t72 := Tryd.underlying70
  a72 := Tryd.isAgg70
  z72 := Tryd.sizeOf70
  v72 := Tryd.zeroValue70
  t75 := Tryd.underlying73
  a75 := Tryd.isAgg73
  z75 := Tryd.sizeOf73
  v75 := Tryd.zeroValue73
  t76 := Tryd.underlying74
  a76 := Tryd.isAgg74
  z76 := Tryd.sizeOf74
  v76 := Tryd.zeroValue74
  t109 := Tryd.underlying80
  a109 := Tryd.isAgg80
  z109 := Tryd.sizeOf80
  v109 := Tryd.zeroValue80
  t127 := Tryd.underlying90
  a127 := Tryd.isAgg90
  z127 := Tryd.sizeOf90
  v127 := Tryd.zeroValue90
  t146 := Tryd.underlying102
  a146 := Tryd.isAgg102
  z146 := Tryd.sizeOf102
  v146 := Tryd.zeroValue102
  t148 := Tryd.underlying104
  a148 := Tryd.isAgg104
  z148 := Tryd.sizeOf104
  v148 := Tryd.zeroValue104
  t164 := Tryd.underlying108
  a164 := Tryd.isAgg108
  z164 := Tryd.sizeOf108
  v164 := Tryd.zeroValue108 }
theorem Tryd.Builder_Extra_105 : Builder.Extra Tryd.prog Tryd.lays105_ren := {
  sizeBuilder := by kernel_rfl
  liesBuilder := by kernel_rfl
  t5 := Tryd.underlying5
  a5 := Tryd.isAgg5
  z5 := Tryd.sizeOf5
  v5 := Tryd.zeroValue5
  infoByte := by kernel_rfl
  cellsByte := by kernel_rfl
  sizeByte := by kernel_rfl
  neB5 := by decide }
open Go.RowKit Go.Lib in
/-- **strings.Repeat: count ≥ 0, the result within one allocation: count copies of s.** (LAID: no walk: one application.) -/
theorem Tryd.strings_Repeat (s : ByteArray) (c : Nat) (w : World) (hc : c ≤ 9223372036854775807) (hlen : s.size * c ≤ 140737488355328) :
    Calls Tryd.prog 37 #[.string s, .int .i64 c] w fun e w' => e = .returned (.string ⟨(Lib.repeatL s.data.toList c).toArray⟩) ∧ Below w.heap.size w w' := Any.strings_Repeat Tryd.lays105 Tryd.Builder_Extra_105 s c w hc hlen
end Go.Proofs
