/-
  Facts about the program's types.
  Conditions: none.
-/
import Derived.Test.YtjoilgpleaemcaaFnv
import Derived.Test.YtjoilgpleaemcaaRows
import Derived.Test.YtjoilgpleaemcaaEgb
namespace Go.Proofs.Ytjoilgpleaemcaa
open Go Go.V
def tab : Tab := { ints := [(2, .i64), (3, .i64), (5, .u8), (6, .u8), (12, .u64), (21, .i32), (23, .i64), (77, .u64), (84, .i64), (92, .u32), (94, .u64), (95, .u64), (111, .u8), (112, .u8), (115, .i32), (116, .i32)], strs := [9, 10, 11], bools := [4], ptrs := [15, 16, 17, 22, 99, 101, 114], slices := [28, 33, 46, 47], flds := [(7, [(0, 1, false), (1, 1, false), (2, 1, false), (3, 1, false)]), (8, [(0, 1, false), (1, 1, false), (2, 1, false), (3, 1, false)]), (13, [(0, 1, false), (1, 1, false)]), (14, [(0, 1, false), (1, 1, false)]), (18, [(0, 1, false)]), (19, [(0, 1, false)]), (37, [(0, 1, false), (1, 1, false), (2, 1, false)]), (38, [(0, 1, false), (1, 1, false), (2, 1, false)]), (48, [(0, 1, false), (1, 1, false), (2, 1, false)]), (49, [(0, 1, false), (1, 1, false), (2, 1, false)]), (59, [(0, 1, false), (1, 1, false), (2, 1, false)]), (60, [(0, 1, false), (1, 1, false), (2, 1, false)]), (66, [(0, 1, false), (1, 1, false)]), (67, [(0, 1, false), (1, 1, false)]), (105, [(0, 1, false), (1, 1, false), (2, 1, false), (3, 1, false)]), (106, [(0, 1, false), (1, 1, false), (2, 1, false), (3, 1, false)]), (117, [(0, 1, false), (1, 1, false), (2, 1, false), (3, 1, false), (4, 1, false), (5, 1, false), (6, 1, false), (7, 1, false), (8, 1, false), (9, 1, false), (10, 1, false)]), (118, [(0, 1, false), (1, 1, false), (2, 1, false), (3, 1, false), (4, 1, false), (5, 1, false), (6, 1, false), (7, 1, false), (8, 1, false), (9, 1, false), (10, 1, false)])], ones := [1, 2, 3, 4, 5, 6, 9, 10, 11, 12, 15, 16, 17, 20, 21, 22, 23, 25, 26, 27, 28, 29, 31, 32, 33, 35, 39, 40, 41, 42, 43, 44, 45, 46, 47, 50, 52, 54, 55, 56, 57, 58, 61, 62, 63, 64, 65, 68, 69, 70, 71, 72, 73, 75, 76, 77, 78, 79, 80, 81, 82, 83, 84, 86, 87, 88, 90, 91, 92, 93, 94, 95, 96, 97, 98, 99, 100, 101, 103, 104, 110, 111, 112, 113, 114, 115, 116] }
theorem tabok : tab.chk Try.prog = true := by kernel_rfl
instance : TabOk Try.prog tab := ⟨tabok⟩
theorem zv_49 : ZV Try.prog 49 #[.int .i64 0, .slice none 0 0, .slice none 0 0] := zvMk (v := .agg #[.int .i64 0, .slice none 0 0, .slice none 0 0]) (by kernel_rfl) rfl
theorem zv_60 : ZV Try.prog 60 #[.int .i64 0, .int .i64 0, .map none] := zvMk (v := .agg #[.int .i64 0, .int .i64 0, .map none]) (by kernel_rfl) rfl
theorem zv_67 : ZV Try.prog 67 #[.bool false, .slice none 0 0] := zvMk (v := .agg #[.bool false, .slice none 0 0]) (by kernel_rfl) rfl
theorem zv_70 : ZV Try.prog 70 #[.map none] := zvMk (v := .map none) (by kernel_rfl) rfl
theorem ag_38 : AggT Try.prog 38 3 := agMk (by kernel_rfl) (by kernel_rfl) (by kernel_rfl)
theorem ag_49 : AggT Try.prog 49 3 := agMk (by kernel_rfl) (by kernel_rfl) (by kernel_rfl)
theorem ag_67 : AggT Try.prog 67 2 := agMk (by kernel_rfl) (by kernel_rfl) (by kernel_rfl)
theorem el_28 : Elem Try.prog 28 3 #[.int .i64 0] 1 8 := elMk (v := .int .i64 0) Try.underlying28 (by kernel_rfl) rfl rfl (by decide) rfl
theorem el_33 : Elem Try.prog 33 38 #[.bool false, .int .i64 0, .slice none 0 0] 3 40 := elMk (v := .agg #[.bool false, .int .i64 0, .slice none 0 0]) Try.underlying33 (by kernel_rfl) rfl rfl (by decide) rfl
theorem el_46 : Elem Try.prog 46 28 #[.slice none 0 0] 1 24 := elMk (v := .slice none 0 0) Try.underlying46 (by kernel_rfl) rfl rfl (by decide) rfl
theorem el_47 : Elem Try.prog 47 4 #[.bool false] 1 1 := elMk (v := .bool false) Try.underlying47 (by kernel_rfl) rfl rfl (by decide) rfl
theorem mt_58 : MapT Try.prog 58 3 (.int .i64) 67 (.agg #[.bool false, .slice none 0 0]) := mtMk (by kernel_rfl) (by kernel_rfl) (by kernel_rfl)
theorem mt_70 : MapT Try.prog 70 3 (.int .i64) 4 (.bool false) := mtMk (by kernel_rfl) (by kernel_rfl) (by kernel_rfl)
end Go.Proofs.Ytjoilgpleaemcaa
