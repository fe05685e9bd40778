/-
  DERIVED: THE SHELF's CONTRACTS AT THIS DUMP, IN PLAIN WORDS (tools/lay-plain.mjs out of 'TryShelf.lean', which tools/lay-shelf.mjs wrote): THE SAME DECLARATIONS UNDER THE SAME NAMES: 'import', 'namespace', 'open', 'def', 'theorem' AND NOTHING ELSE: no command of the shelf's: FOR A HAND-IN. Each laying: the table of numbers ('.._ren') and one theorem, a field a fact of the dump's own or the kernel's comparison; each contract: ONE APPLICATION.
-/
import Derived.Shelf.Small.Utf8
import Derived.Shelf.Small.Bits
import Derived.Shelf.Small.Strs
import Derived.Shelf.Strconv.Itoa0
import Derived.Shelf.Strings.Search1
import Derived.Shelf.Sort.Plain
import Derived.Shelf.Strings.Prefix
import Derived.Shelf.Strings.Runes
import Derived.Shelf.Strings.IndexAny
import Derived.Shelf.Strings.AsciiSet
import Derived.Shelf.Strings.IndexAnyAll
import Derived.Shelf.Strings.FieldsFuncAny
import Derived.Shelf.Strings.FieldsFuncGrows
import Derived.Shelf.Slices.Turned
import Derived.Shelf.Slices.In.SortNone
import Derived.Test.YtmokoofibnoojaaProg
namespace Go.Proofs
open Go.Shelf
def Try.lays119_ren : Go.Shelf.Ren := ⟨fun | 119 => 140 | n => n, fun | 21 => 21 | 4 => 4 | n => n, fun | n => n⟩
theorem Try.lays119 : Go.Proofs.Lays.n119 Try.prog Try.lays119_ren := {
  mixed := by kernel_rfl
  f119 := Try.func140.trans (congrArg some (by kernel_rfl))
  t4 := Try.underlying4
  a4 := Try.isAgg4
  z4 := Try.sizeOf4
  v4 := Try.zeroValue4
  t21 := Try.underlying21
  a21 := Try.isAgg21
  z21 := Try.sizeOf21
  v21 := Try.zeroValue21 }
/-- utf8.ValidRune: "ValidRune reports whether r can be legally encoded as UTF-8. Code points that are out of range or a surrogate half are illegal.": IT RETURNS 'Lib.validRune r'; the world is as it was. (LAID: no walk: one application.) -/
theorem Try.utf8_ValidRune (r : Int) (w : World) :
    Calls Try.prog 140 #[.int .i32 r] w fun e w' => e = .returned (.bool (Lib.validRune r)) ∧ w' = w := Any.utf8_ValidRune Try.lays119 r w
def Try.lays137_ren : Go.Shelf.Ren := ⟨fun | 137 => 86 | 217 => 111 | 266 => 135 | n => n, fun | 9 => 9 | 5 => 5 | 3 => 3 | n => n, fun | n => n⟩
theorem Try.lays137 : Go.Proofs.Lays.n137 Try.prog Try.lays137_ren := {
  mixed := by kernel_rfl
  f137 := Try.func86.trans (congrArg some (by kernel_rfl))
  f217 := Try.func111.trans (congrArg some (by kernel_rfl))
  f266 := Try.func135.trans (congrArg some (by kernel_rfl))
  t3 := Try.underlying3
  a3 := Try.isAgg3
  z3 := Try.sizeOf3
  v3 := Try.zeroValue3
  t5 := Try.underlying5
  a5 := Try.isAgg5
  z5 := Try.sizeOf5
  v5 := Try.zeroValue5
  t9 := Try.underlying9
  a9 := Try.isAgg9
  z9 := Try.sizeOf9
  v9 := Try.zeroValue9 }
open Go.RowKit in
/-- strings.IndexByte: "IndexByte returns the index of the first instance of c in s, or -1 if c is not present in s.": IT RETURNS 'Lib.indexByte s c'; the world is as it was. (LAID: no walk: one application.) -/
theorem Try.strings_IndexByte (s : ByteArray) (c : Int) (w : World) :
    Calls Try.prog 86 #[.string s, .int .u8 c] w fun e w' => e = .returned (.int .i64 (Lib.indexByte s.data.toList c.toNat.toUInt8)) ∧ w' = w := Any.strings_IndexByte Try.lays137 s c w
def Try.lays190_ren : Go.Shelf.Ren := ⟨fun | 190 => 74 | 125 => 109 | 258 => 108 | 128 => 133 | 129 => 134 | 302 => 124 | 303 => 125 | 304 => 126 | 305 => 127 | 306 => 128 | 307 => 129 | 308 => 130 | 309 => 131 | 310 => 132 | 333 => 143 | 329 => 144 | 330 => 145 | 334 => 146 | 335 => 147 | 336 => 148 | 344 => 150 | n => n, fun | 31 => 64 | 9 => 9 | 3 => 3 | 46 => 147 | 0 => 0 | 51 => 170 | 53 => 172 | 4 => 4 | 183 => 163 | 182 => 162 | 131 => 167 | 5 => 5 | 218 => 179 | 222 => 183 | 228 => 186 | 229 => 187 | n => n, fun | n => n⟩
theorem Try.lays190 : Go.Proofs.Lays.n190 Try.prog Try.lays190_ren := {
  mixed := by kernel_rfl
  f125 := Try.func109.trans (congrArg some (by kernel_rfl))
  f128 := Try.func133.trans (congrArg some (by kernel_rfl))
  f129 := Try.func134.trans (congrArg some (by kernel_rfl))
  f190 := Try.func74.trans (congrArg some (by kernel_rfl))
  f258 := Try.func108.trans (congrArg some (by kernel_rfl))
  f302 := Try.func124.trans (congrArg some (by kernel_rfl))
  f303 := Try.func125.trans (congrArg some (by kernel_rfl))
  f304 := Try.func126.trans (congrArg some (by kernel_rfl))
  f305 := Try.func127.trans (congrArg some (by kernel_rfl))
  f306 := Try.func128.trans (congrArg some (by kernel_rfl))
  f307 := Try.func129.trans (congrArg some (by kernel_rfl))
  f308 := Try.func130.trans (congrArg some (by kernel_rfl))
  f309 := Try.func131.trans (congrArg some (by kernel_rfl))
  f310 := Try.func132.trans (congrArg some (by kernel_rfl))
  f329 := Try.func144.trans (congrArg some (by kernel_rfl))
  f330 := Try.func145.trans (congrArg some (by kernel_rfl))
  f333 := Try.func143.trans (congrArg some (by kernel_rfl))
  f334 := Try.func146.trans (congrArg some (by kernel_rfl))
  f335 := Try.func147.trans (congrArg some (by kernel_rfl))
  f336 := Try.func148.trans (congrArg some (by kernel_rfl))
  f344 := Try.func150.trans (congrArg some (by kernel_rfl))
  t0 := Try.underlying0
  a0 := Try.isAgg0
  z0 := Try.sizeOf0
  v0 := Try.zeroValue0
  t3 := Try.underlying3
  a3 := Try.isAgg3
  z3 := Try.sizeOf3
  v3 := Try.zeroValue3
  t4 := Try.underlying4
  a4 := Try.isAgg4
  z4 := Try.sizeOf4
  v4 := Try.zeroValue4
  t5 := Try.underlying5
  a5 := Try.isAgg5
  z5 := Try.sizeOf5
  v5 := Try.zeroValue5
  t9 := Try.underlying9
  a9 := Try.isAgg9
  z9 := Try.sizeOf9
  v9 := Try.zeroValue9
  t31 := Try.underlying64
  a31 := Try.isAgg64
  z31 := Try.sizeOf64
  v31 := Try.zeroValue64
  t46 := Try.underlying147
  a46 := Try.isAgg147
  z46 := Try.sizeOf147
  v46 := Try.zeroValue147
  t51 := Try.underlying170
  a51 := Try.isAgg170
  z51 := Try.sizeOf170
  v51 := Try.zeroValue170
  t53 := Try.underlying172
  a53 := Try.isAgg172
  z53 := Try.sizeOf172
  v53 := Try.zeroValue172
  t131 := Try.underlying167
  a131 := Try.isAgg167
  z131 := Try.sizeOf167
  v131 := Try.zeroValue167
  t182 := Try.underlying162
  a182 := Try.isAgg162
  z182 := Try.sizeOf162
  v182 := Try.zeroValue162
  t183 := Try.underlying163
  a183 := Try.isAgg163
  z183 := Try.sizeOf163
  v183 := Try.zeroValue163
  t218 := Try.underlying179
  a218 := Try.isAgg179
  z218 := Try.sizeOf179
  v218 := Try.zeroValue179
  t222 := Try.underlying183
  a222 := Try.isAgg183
  z222 := Try.sizeOf183
  v222 := Try.zeroValue183
  t228 := Try.underlying186
  a228 := Try.isAgg186
  z228 := Try.sizeOf186
  v228 := Try.zeroValue186
  t229 := Try.underlying187
  a229 := Try.isAgg187
  z229 := Try.sizeOf187
  v229 := Try.zeroValue187 }
open Go.Sort Go.RowKit in
theorem Try.slices_Sort_string (blk off cap : Nat) (ss : List (List UInt8)) (w : World) (hH : Holds encStr w blk off ss.toArray) (hblk : blk < w.heap.size) (hsz : ss.length < 4611686018427387904) :
    Calls Try.prog 74 #[.slice (some ⟨blk, off, none⟩) ss.length cap] w fun e w' =>
      e = .returned (.tuple #[]) ∧ ∃ n os, w' = grow (putRow encStr (Sort.ahead w n) blk off (ss.mergeSort fun x y => decide (x ≤ y)).toArray) os := Any.slices_Sort_string Try.lays190 blk off cap ss w hH hblk hsz
def Try.lays226_ren : Go.Shelf.Ren := ⟨fun | 226 => 121 | n => n, fun | 3 => 3 | 4 => 4 | n => n, fun | n => n⟩
theorem Try.lays226 : Go.Proofs.Lays.n226 Try.prog Try.lays226_ren := {
  mixed := by kernel_rfl
  f226 := Try.func121.trans (congrArg some (by kernel_rfl))
  t3 := Try.underlying3
  a3 := Try.isAgg3
  z3 := Try.sizeOf3
  v3 := Try.zeroValue3
  t4 := Try.underlying4
  a4 := Try.isAgg4
  z4 := Try.sizeOf4
  v4 := Try.zeroValue4 }
open Go.RowKit Go.Lib in
theorem Try.strings_shouldUseASCIISet (n : Int) (w : World) :
    Calls Try.prog 121 #[.int .i64 n] w fun e w' => e = .returned (.bool (decide (8 < n))) ∧ w' = w := Any.strings_shouldUseASCIISet Try.lays226 n w
def Try.lays153_ren : Go.Shelf.Ren := ⟨fun | 153 => 105 | 152 => 120 | 226 => 121 | 227 => 122 | 228 => 123 | 137 => 86 | 119 => 140 | 224 => 141 | 225 => 142 | 217 => 111 | 266 => 135 | n => n, fun | 9 => 9 | 3 => 3 | 4 => 4 | 5 => 5 | 21 => 21 | 117 => 158 | 116 => 157 | 0 => 0 | 46 => 147 | 124 => 178 | n => n, fun | n => n⟩
theorem Try.lays153 : Go.Proofs.Lays.n153 Try.prog Try.lays153_ren := {
  mixed := by kernel_rfl
  f119 := Try.func140.trans (congrArg some (by kernel_rfl))
  f137 := Try.func86.trans (congrArg some (by kernel_rfl))
  f152 := Try.func120.trans (congrArg some (by kernel_rfl))
  f153 := Try.func105.trans (congrArg some (by kernel_rfl))
  f217 := Try.func111.trans (congrArg some (by kernel_rfl))
  f224 := Try.func141.trans (congrArg some (by kernel_rfl))
  f225 := Try.func142.trans (congrArg some (by kernel_rfl))
  f226 := Try.func121.trans (congrArg some (by kernel_rfl))
  f227 := Try.func122.trans (congrArg some (by kernel_rfl))
  f228 := Try.func123.trans (congrArg some (by kernel_rfl))
  f266 := Try.func135.trans (congrArg some (by kernel_rfl))
  t0 := Try.underlying0
  a0 := Try.isAgg0
  z0 := Try.sizeOf0
  v0 := Try.zeroValue0
  t3 := Try.underlying3
  a3 := Try.isAgg3
  z3 := Try.sizeOf3
  v3 := Try.zeroValue3
  t4 := Try.underlying4
  a4 := Try.isAgg4
  z4 := Try.sizeOf4
  v4 := Try.zeroValue4
  t5 := Try.underlying5
  a5 := Try.isAgg5
  z5 := Try.sizeOf5
  v5 := Try.zeroValue5
  t9 := Try.underlying9
  a9 := Try.isAgg9
  z9 := Try.sizeOf9
  v9 := Try.zeroValue9
  t21 := Try.underlying21
  a21 := Try.isAgg21
  z21 := Try.sizeOf21
  v21 := Try.zeroValue21
  t46 := Try.underlying147
  a46 := Try.isAgg147
  z46 := Try.sizeOf147
  v46 := Try.zeroValue147
  t116 := Try.underlying157
  a116 := Try.isAgg157
  z116 := Try.sizeOf157
  t117 := Try.underlying158
  a117 := Try.isAgg158
  z117 := Try.sizeOf158
  v117 := Try.zeroValue158
  t124 := Try.underlying178
  a124 := Try.isAgg178
  z124 := Try.sizeOf178
  v124 := Try.zeroValue178 }
open Go.RowKit Go.Lib in
theorem Try.strings_IndexAny_long (hv116 : ∀ w, (zeroValue 157).run Try.prog w = .ok (.agg (Array.replicate 256 (.bool false))) w) (s chars : ByteArray) (w : World) (h2 : 2 ≤ chars.size) (h8 : 8 < s.size) (hs : s.size < 4294967281) (hcs : chars.size < 4294967281) (hascii : ∀ (j : Nat) b, chars.data.toList[j]? = some b → b.toNat < 128) :
    Calls Try.prog 105 #[.string s, .string chars] w fun e w' => e = .returned (.int .i64 (Lib.indexAny s.data.toList chars.data.toList)) ∧ w' = ((w.alloc (.cells (Lib.setCells chars.data.toList) 157)).alloc (.cells (Lib.setCells chars.data.toList) 157)) := Any.strings_IndexAny_long Try.lays153 hv116 (by kernel_rfl) s chars w h2 h8 hs hcs hascii
open Go.RowKit Go.Sort in
/-- .. and plain. (LAID: no walk: one application.) -/
theorem Try.slices_Sort_string_none (p : Option Addr) (cap : Nat) (w : World) :
    Calls Try.prog 74 #[.slice p 0 cap] w fun e w' => e = .returned (.tuple #[]) ∧ w' = w := Any.slices_Sort_string_none Try.lays190 p cap w
end Go.Proofs
