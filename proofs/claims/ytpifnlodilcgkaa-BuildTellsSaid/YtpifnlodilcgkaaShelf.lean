/-
  DERIVED: THE SHELF's CONTRACTS AT THIS DUMP, IN PLAIN WORDS (tools/lay-plain.mjs out of 'TryShelf.lean', which tools/lay-shelf.mjs wrote): THE SAME DECLARATIONS UNDER THE SAME NAMES: 'import', 'namespace', 'open', 'def', 'theorem' AND NOTHING ELSE: no command of the shelf's: FOR A HAND-IN. Each laying: the table of numbers ('.._ren') and one theorem, a field a fact of the dump's own or the kernel's comparison; each contract: ONE APPLICATION.
-/
import Derived.Shelf.Small.Utf8
import Derived.Shelf.Small.Bits
import Derived.Shelf.Small.Strs
import Derived.Shelf.Strconv.Itoa0
import Derived.Shelf.Strings.Search1
import Derived.Shelf.Sort.Plain
import Derived.Shelf.Strings.Prefix
import Derived.Shelf.Strings.Runes
import Derived.Shelf.Strings.IndexAny
import Derived.Shelf.Strings.AsciiSet
import Derived.Shelf.Strings.IndexAnyAll
import Derived.Shelf.Strings.FieldsFuncAny
import Derived.Shelf.Strings.FieldsFuncGrows
import Derived.Shelf.Slices.Turned
import Derived.Shelf.Slices.In.SortNone
import Derived.Test.YtpifnlodilcgkaaProg
namespace Go.Proofs
open Go.Shelf
def Try.lays119_ren : Go.Shelf.Ren := ⟨fun | 119 => 162 | n => n, fun | 21 => 21 | 4 => 4 | n => n, fun | n => n⟩
theorem Try.lays119 : Go.Proofs.Lays.n119 Try.prog Try.lays119_ren := {
  mixed := by kernel_rfl
  f119 := Try.func162.trans (congrArg some (by kernel_rfl))
  t4 := Try.underlying4
  a4 := Try.isAgg4
  z4 := Try.sizeOf4
  v4 := Try.zeroValue4
  t21 := Try.underlying21
  a21 := Try.isAgg21
  z21 := Try.sizeOf21
  v21 := Try.zeroValue21 }
/-- utf8.ValidRune: "ValidRune reports whether r can be legally encoded as UTF-8. Code points that are out of range or a surrogate half are illegal.": IT RETURNS 'Lib.validRune r'; the world is as it was. (LAID: no walk: one application.) -/
theorem Try.utf8_ValidRune (r : Int) (w : World) :
    Calls Try.prog 162 #[.int .i32 r] w fun e w' => e = .returned (.bool (Lib.validRune r)) ∧ w' = w := Any.utf8_ValidRune Try.lays119 r w
def Try.lays137_ren : Go.Shelf.Ren := ⟨fun | 137 => 101 | 217 => 128 | 266 => 149 | n => n, fun | 9 => 9 | 5 => 5 | 3 => 3 | n => n, fun | n => n⟩
theorem Try.lays137 : Go.Proofs.Lays.n137 Try.prog Try.lays137_ren := {
  mixed := by kernel_rfl
  f137 := Try.func101.trans (congrArg some (by kernel_rfl))
  f217 := Try.func128.trans (congrArg some (by kernel_rfl))
  f266 := Try.func149.trans (congrArg some (by kernel_rfl))
  t3 := Try.underlying3
  a3 := Try.isAgg3
  z3 := Try.sizeOf3
  v3 := Try.zeroValue3
  t5 := Try.underlying5
  a5 := Try.isAgg5
  z5 := Try.sizeOf5
  v5 := Try.zeroValue5
  t9 := Try.underlying9
  a9 := Try.isAgg9
  z9 := Try.sizeOf9
  v9 := Try.zeroValue9 }
open Go.RowKit in
/-- strings.IndexByte: "IndexByte returns the index of the first instance of c in s, or -1 if c is not present in s.": IT RETURNS 'Lib.indexByte s c'; the world is as it was. (LAID: no walk: one application.) -/
theorem Try.strings_IndexByte (s : ByteArray) (c : Int) (w : World) :
    Calls Try.prog 101 #[.string s, .int .u8 c] w fun e w' => e = .returned (.int .i64 (Lib.indexByte s.data.toList c.toNat.toUInt8)) ∧ w' = w := Any.strings_IndexByte Try.lays137 s c w
def Try.lays190_ren : Go.Shelf.Ren := ⟨fun | 190 => 95 | 125 => 125 | 258 => 124 | 128 => 147 | 129 => 148 | 302 => 138 | 303 => 139 | 304 => 140 | 305 => 141 | 306 => 142 | 307 => 143 | 308 => 144 | 309 => 145 | 310 => 146 | 333 => 156 | 329 => 157 | 330 => 158 | 334 => 159 | 335 => 160 | 336 => 161 | 344 => 165 | n => n, fun | 31 => 73 | 9 => 9 | 3 => 3 | 46 => 168 | 0 => 0 | 51 => 184 | 53 => 186 | 4 => 4 | 183 => 177 | 182 => 176 | 131 => 181 | 5 => 5 | 218 => 197 | 222 => 201 | 228 => 204 | 229 => 205 | n => n, fun | n => n⟩
theorem Try.lays190 : Go.Proofs.Lays.n190 Try.prog Try.lays190_ren := {
  mixed := by kernel_rfl
  f125 := Try.func125.trans (congrArg some (by kernel_rfl))
  f128 := Try.func147.trans (congrArg some (by kernel_rfl))
  f129 := Try.func148.trans (congrArg some (by kernel_rfl))
  f190 := Try.func95.trans (congrArg some (by kernel_rfl))
  f258 := Try.func124.trans (congrArg some (by kernel_rfl))
  f302 := Try.func138.trans (congrArg some (by kernel_rfl))
  f303 := Try.func139.trans (congrArg some (by kernel_rfl))
  f304 := Try.func140.trans (congrArg some (by kernel_rfl))
  f305 := Try.func141.trans (congrArg some (by kernel_rfl))
  f306 := Try.func142.trans (congrArg some (by kernel_rfl))
  f307 := Try.func143.trans (congrArg some (by kernel_rfl))
  f308 := Try.func144.trans (congrArg some (by kernel_rfl))
  f309 := Try.func145.trans (congrArg some (by kernel_rfl))
  f310 := Try.func146.trans (congrArg some (by kernel_rfl))
  f329 := Try.func157.trans (congrArg some (by kernel_rfl))
  f330 := Try.func158.trans (congrArg some (by kernel_rfl))
  f333 := Try.func156.trans (congrArg some (by kernel_rfl))
  f334 := Try.func159.trans (congrArg some (by kernel_rfl))
  f335 := Try.func160.trans (congrArg some (by kernel_rfl))
  f336 := Try.func161.trans (congrArg some (by kernel_rfl))
  f344 := Try.func165.trans (congrArg some (by kernel_rfl))
  t0 := Try.underlying0
  a0 := Try.isAgg0
  z0 := Try.sizeOf0
  v0 := Try.zeroValue0
  t3 := Try.underlying3
  a3 := Try.isAgg3
  z3 := Try.sizeOf3
  v3 := Try.zeroValue3
  t4 := Try.underlying4
  a4 := Try.isAgg4
  z4 := Try.sizeOf4
  v4 := Try.zeroValue4
  t5 := Try.underlying5
  a5 := Try.isAgg5
  z5 := Try.sizeOf5
  v5 := Try.zeroValue5
  t9 := Try.underlying9
  a9 := Try.isAgg9
  z9 := Try.sizeOf9
  v9 := Try.zeroValue9
  t31 := Try.underlying73
  a31 := Try.isAgg73
  z31 := Try.sizeOf73
  v31 := Try.zeroValue73
  t46 := Try.underlying168
  a46 := Try.isAgg168
  z46 := Try.sizeOf168
  v46 := Try.zeroValue168
  t51 := Try.underlying184
  a51 := Try.isAgg184
  z51 := Try.sizeOf184
  v51 := Try.zeroValue184
  t53 := Try.underlying186
  a53 := Try.isAgg186
  z53 := Try.sizeOf186
  v53 := Try.zeroValue186
  t131 := Try.underlying181
  a131 := Try.isAgg181
  z131 := Try.sizeOf181
  v131 := Try.zeroValue181
  t182 := Try.underlying176
  a182 := Try.isAgg176
  z182 := Try.sizeOf176
  v182 := Try.zeroValue176
  t183 := Try.underlying177
  a183 := Try.isAgg177
  z183 := Try.sizeOf177
  v183 := Try.zeroValue177
  t218 := Try.underlying197
  a218 := Try.isAgg197
  z218 := Try.sizeOf197
  v218 := Try.zeroValue197
  t222 := Try.underlying201
  a222 := Try.isAgg201
  z222 := Try.sizeOf201
  v222 := Try.zeroValue201
  t228 := Try.underlying204
  a228 := Try.isAgg204
  z228 := Try.sizeOf204
  v228 := Try.zeroValue204
  t229 := Try.underlying205
  a229 := Try.isAgg205
  z229 := Try.sizeOf205
  v229 := Try.zeroValue205 }
open Go.Sort Go.RowKit in
theorem Try.slices_Sort_string (blk off cap : Nat) (ss : List (List UInt8)) (w : World) (hH : Holds encStr w blk off ss.toArray) (hblk : blk < w.heap.size) (hsz : ss.length < 4611686018427387904) :
    Calls Try.prog 95 #[.slice (some ⟨blk, off, none⟩) ss.length cap] w fun e w' =>
      e = .returned (.tuple #[]) ∧ ∃ n os, w' = grow (putRow encStr (Sort.ahead w n) blk off (ss.mergeSort fun x y => decide (x ≤ y)).toArray) os := Any.slices_Sort_string Try.lays190 blk off cap ss w hH hblk hsz
def Try.lays226_ren : Go.Shelf.Ren := ⟨fun | 226 => 153 | n => n, fun | 3 => 3 | 4 => 4 | n => n, fun | n => n⟩
theorem Try.lays226 : Go.Proofs.Lays.n226 Try.prog Try.lays226_ren := {
  mixed := by kernel_rfl
  f226 := Try.func153.trans (congrArg some (by kernel_rfl))
  t3 := Try.underlying3
  a3 := Try.isAgg3
  z3 := Try.sizeOf3
  v3 := Try.zeroValue3
  t4 := Try.underlying4
  a4 := Try.isAgg4
  z4 := Try.sizeOf4
  v4 := Try.zeroValue4 }
open Go.RowKit Go.Lib in
theorem Try.strings_shouldUseASCIISet (n : Int) (w : World) :
    Calls Try.prog 153 #[.int .i64 n] w fun e w' => e = .returned (.bool (decide (8 < n))) ∧ w' = w := Any.strings_shouldUseASCIISet Try.lays226 n w
def Try.lays153_ren : Go.Shelf.Ren := ⟨fun | 153 => 136 | 152 => 152 | 226 => 153 | 227 => 154 | 228 => 155 | 137 => 101 | 119 => 162 | 224 => 163 | 225 => 164 | 217 => 128 | 266 => 149 | n => n, fun | 9 => 9 | 3 => 3 | 4 => 4 | 5 => 5 | 21 => 21 | 117 => 194 | 116 => 193 | 0 => 0 | 46 => 168 | 124 => 203 | n => n, fun | n => n⟩
theorem Try.lays153 : Go.Proofs.Lays.n153 Try.prog Try.lays153_ren := {
  mixed := by kernel_rfl
  f119 := Try.func162.trans (congrArg some (by kernel_rfl))
  f137 := Try.func101.trans (congrArg some (by kernel_rfl))
  f152 := Try.func152.trans (congrArg some (by kernel_rfl))
  f153 := Try.func136.trans (congrArg some (by kernel_rfl))
  f217 := Try.func128.trans (congrArg some (by kernel_rfl))
  f224 := Try.func163.trans (congrArg some (by kernel_rfl))
  f225 := Try.func164.trans (congrArg some (by kernel_rfl))
  f226 := Try.func153.trans (congrArg some (by kernel_rfl))
  f227 := Try.func154.trans (congrArg some (by kernel_rfl))
  f228 := Try.func155.trans (congrArg some (by kernel_rfl))
  f266 := Try.func149.trans (congrArg some (by kernel_rfl))
  t0 := Try.underlying0
  a0 := Try.isAgg0
  z0 := Try.sizeOf0
  v0 := Try.zeroValue0
  t3 := Try.underlying3
  a3 := Try.isAgg3
  z3 := Try.sizeOf3
  v3 := Try.zeroValue3
  t4 := Try.underlying4
  a4 := Try.isAgg4
  z4 := Try.sizeOf4
  v4 := Try.zeroValue4
  t5 := Try.underlying5
  a5 := Try.isAgg5
  z5 := Try.sizeOf5
  v5 := Try.zeroValue5
  t9 := Try.underlying9
  a9 := Try.isAgg9
  z9 := Try.sizeOf9
  v9 := Try.zeroValue9
  t21 := Try.underlying21
  a21 := Try.isAgg21
  z21 := Try.sizeOf21
  v21 := Try.zeroValue21
  t46 := Try.underlying168
  a46 := Try.isAgg168
  z46 := Try.sizeOf168
  v46 := Try.zeroValue168
  t116 := Try.underlying193
  a116 := Try.isAgg193
  z116 := Try.sizeOf193
  t117 := Try.underlying194
  a117 := Try.isAgg194
  z117 := Try.sizeOf194
  v117 := Try.zeroValue194
  t124 := Try.underlying203
  a124 := Try.isAgg203
  z124 := Try.sizeOf203
  v124 := Try.zeroValue203 }
open Go.RowKit Go.Lib in
theorem Try.strings_IndexAny_long (hv116 : ∀ w, (zeroValue 193).run Try.prog w = .ok (.agg (Array.replicate 256 (.bool false))) w) (s chars : ByteArray) (w : World) (h2 : 2 ≤ chars.size) (h8 : 8 < s.size) (hs : s.size < 4294967281) (hcs : chars.size < 4294967281) (hascii : ∀ (j : Nat) b, chars.data.toList[j]? = some b → b.toNat < 128) :
    Calls Try.prog 136 #[.string s, .string chars] w fun e w' => e = .returned (.int .i64 (Lib.indexAny s.data.toList chars.data.toList)) ∧ w' = ((w.alloc (.cells (Lib.setCells chars.data.toList) 193)).alloc (.cells (Lib.setCells chars.data.toList) 193)) := Any.strings_IndexAny_long Try.lays153 hv116 (by kernel_rfl) s chars w h2 h8 hs hcs hascii
open Go.RowKit Go.Sort in
/-- .. and plain. (LAID: no walk: one application.) -/
theorem Try.slices_Sort_string_none (p : Option Addr) (cap : Nat) (w : World) :
    Calls Try.prog 95 #[.slice p 0 cap] w fun e w' => e = .returned (.tuple #[]) ∧ w' = w := Any.slices_Sort_string_none Try.lays190 p cap w
end Go.Proofs
