/-
  DERIVED: THE SHELF's CONTRACTS AT THIS DUMP, IN PLAIN WORDS (tools/lay-plain.mjs out of 'TryShelf.lean', which tools/lay-shelf.mjs wrote): THE SAME DECLARATIONS UNDER THE SAME NAMES: 'import', 'namespace', 'open', 'def', 'theorem' AND NOTHING ELSE: no command of the shelf's: FOR A HAND-IN. Each laying: the table of numbers ('.._ren') and one theorem, a field a fact of the dump's own or the kernel's comparison; each contract: ONE APPLICATION.
-/
import Derived.Shelf.Sort.Plain
import Derived.Shelf.Slices.In.SortNone
import Derived.Test.YtamihmofmjkfoaaProg
namespace Go.Proofs
open Go.Shelf
def Try.lays190_ren : Go.Shelf.Ren := ⟨fun | 190 => 57 | 125 => 99 | 258 => 98 | 128 => 124 | 129 => 125 | 302 => 115 | 303 => 116 | 304 => 117 | 305 => 118 | 306 => 119 | 307 => 120 | 308 => 121 | 309 => 122 | 310 => 123 | 333 => 136 | 329 => 137 | 330 => 138 | 334 => 139 | 335 => 140 | 336 => 141 | 344 => 152 | n => n, fun | 31 => 26 | 9 => 9 | 3 => 3 | 46 => 167 | 0 => 0 | 51 => 190 | 53 => 39 | 4 => 4 | 183 => 183 | 182 => 182 | 131 => 187 | 5 => 5 | 218 => 195 | 222 => 199 | 228 => 204 | 229 => 134 | n => n, fun | n => n⟩
theorem Try.lays190 : Go.Proofs.Lays.n190 Try.prog Try.lays190_ren := {
  mixed := by kernel_rfl
  f125 := Try.func99.trans (congrArg some (by kernel_rfl))
  f128 := Try.func124.trans (congrArg some (by kernel_rfl))
  f129 := Try.func125.trans (congrArg some (by kernel_rfl))
  f190 := Try.func57.trans (congrArg some (by kernel_rfl))
  f258 := Try.func98.trans (congrArg some (by kernel_rfl))
  f302 := Try.func115.trans (congrArg some (by kernel_rfl))
  f303 := Try.func116.trans (congrArg some (by kernel_rfl))
  f304 := Try.func117.trans (congrArg some (by kernel_rfl))
  f305 := Try.func118.trans (congrArg some (by kernel_rfl))
  f306 := Try.func119.trans (congrArg some (by kernel_rfl))
  f307 := Try.func120.trans (congrArg some (by kernel_rfl))
  f308 := Try.func121.trans (congrArg some (by kernel_rfl))
  f309 := Try.func122.trans (congrArg some (by kernel_rfl))
  f310 := Try.func123.trans (congrArg some (by kernel_rfl))
  f329 := Try.func137.trans (congrArg some (by kernel_rfl))
  f330 := Try.func138.trans (congrArg some (by kernel_rfl))
  f333 := Try.func136.trans (congrArg some (by kernel_rfl))
  f334 := Try.func139.trans (congrArg some (by kernel_rfl))
  f335 := Try.func140.trans (congrArg some (by kernel_rfl))
  f336 := Try.func141.trans (congrArg some (by kernel_rfl))
  f344 := Try.func152.trans (congrArg some (by kernel_rfl))
  t0 := Try.underlying0
  a0 := Try.isAgg0
  z0 := Try.sizeOf0
  v0 := Try.zeroValue0
  t3 := Try.underlying3
  a3 := Try.isAgg3
  z3 := Try.sizeOf3
  v3 := Try.zeroValue3
  t4 := Try.underlying4
  a4 := Try.isAgg4
  z4 := Try.sizeOf4
  v4 := Try.zeroValue4
  t5 := Try.underlying5
  a5 := Try.isAgg5
  z5 := Try.sizeOf5
  v5 := Try.zeroValue5
  t9 := Try.underlying9
  a9 := Try.isAgg9
  z9 := Try.sizeOf9
  v9 := Try.zeroValue9
  t31 := Try.underlying26
  a31 := Try.isAgg26
  z31 := Try.sizeOf26
  v31 := Try.zeroValue26
  t46 := Try.underlying167
  a46 := Try.isAgg167
  z46 := Try.sizeOf167
  v46 := Try.zeroValue167
  t51 := Try.underlying190
  a51 := Try.isAgg190
  z51 := Try.sizeOf190
  v51 := Try.zeroValue190
  t53 := Try.underlying39
  a53 := Try.isAgg39
  z53 := Try.sizeOf39
  v53 := Try.zeroValue39
  t131 := Try.underlying187
  a131 := Try.isAgg187
  z131 := Try.sizeOf187
  v131 := Try.zeroValue187
  t182 := Try.underlying182
  a182 := Try.isAgg182
  z182 := Try.sizeOf182
  v182 := Try.zeroValue182
  t183 := Try.underlying183
  a183 := Try.isAgg183
  z183 := Try.sizeOf183
  v183 := Try.zeroValue183
  t218 := Try.underlying195
  a218 := Try.isAgg195
  z218 := Try.sizeOf195
  v218 := Try.zeroValue195
  t222 := Try.underlying199
  a222 := Try.isAgg199
  z222 := Try.sizeOf199
  v222 := Try.zeroValue199
  t228 := Try.underlying204
  a228 := Try.isAgg204
  z228 := Try.sizeOf204
  v228 := Try.zeroValue204
  t229 := Try.underlying134
  a229 := Try.isAgg134
  z229 := Try.sizeOf134
  v229 := Try.zeroValue134 }
open Go.Sort Go.RowKit in
theorem Try.slices_Sort_string (blk off cap : Nat) (ss : List (List UInt8)) (w : World) (hH : Holds encStr w blk off ss.toArray) (hblk : blk < w.heap.size) (hsz : ss.length < 4611686018427387904) :
    Calls Try.prog 57 #[.slice (some ⟨blk, off, none⟩) ss.length cap] w fun e w' =>
      e = .returned (.tuple #[]) ∧ ∃ n os, w' = grow (putRow encStr (Sort.ahead w n) blk off (ss.mergeSort fun x y => decide (x ≤ y)).toArray) os := Any.slices_Sort_string Try.lays190 blk off cap ss w hH hblk hsz
open Go.RowKit Go.Sort in
/-- .. and plain. (LAID: no walk: one application.) -/
theorem Try.slices_Sort_string_none (p : Option Addr) (cap : Nat) (w : World) :
    Calls Try.prog 57 #[.slice p 0 cap] w fun e w' => e = .returned (.tuple #[]) ∧ w' = w := Any.slices_Sort_string_none Try.lays190 p cap w
end Go.Proofs
