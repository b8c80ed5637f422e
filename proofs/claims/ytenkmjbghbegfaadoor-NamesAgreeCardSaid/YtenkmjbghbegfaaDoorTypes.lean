/-
  Facts about the program's types.
  Conditions: none.
-/
import Derived.Test.YtenkmjbghbegfaaDoorArr
import Derived.Test.YtenkmjbghbegfaaDoorRows
import Derived.Test.YtenkmjbghbegfaaDoorXtn
namespace Go.Proofs.YtenkmjbghbegfaaDoor
open Go Go.V
def tab : Tab := { ints := [(2, .i64), (3, .i64), (5, .u8), (6, .u8), (12, .u64), (21, .i32), (29, .i64), (31, .u64), (85, .u64), (90, .i64), (98, .u32), (101, .u64), (122, .u8), (123, .u8), (126, .i32), (127, .i32)], strs := [9, 10, 11], bools := [4], ptrs := [15, 16, 17, 27, 63, 105, 113, 125], slices := [22, 26, 35, 36, 49, 57], flds := [(7, [(0, 1, false), (1, 1, false), (2, 1, false), (3, 1, false)]), (8, [(0, 1, false), (1, 1, false), (2, 1, false), (3, 1, false)]), (13, [(0, 1, false), (1, 1, false)]), (14, [(0, 1, false), (1, 1, false)]), (18, [(0, 1, false)]), (19, [(0, 1, false)]), (37, [(0, 1, false)]), (38, [(0, 1, false)]), (39, [(0, 1, false), (1, 1, false), (2, 1, false), (3, 1, false), (4, 1, false), (5, 1, false)]), (40, [(0, 1, false), (1, 1, false), (2, 1, false), (3, 1, false), (4, 1, false), (5, 1, false)]), (47, [(0, 1, false), (1, 1, false)]), (48, [(0, 1, false), (1, 1, false)]), (61, [(0, 1, false)]), (62, [(0, 1, false)]), (64, [(0, 1, false), (1, 1, false)]), (65, [(0, 1, false), (1, 1, false)]), (71, [(0, 1, false), (1, 1, false), (2, 1, false)]), (72, [(0, 1, false), (1, 1, false), (2, 1, false)]), (108, [(0, 1, false), (1, 1, false)]), (109, [(0, 1, false), (1, 1, false)]), (116, [(0, 1, false), (1, 1, false), (2, 1, false), (3, 1, false)]), (117, [(0, 1, false), (1, 1, false), (2, 1, false), (3, 1, false)]), (128, [(0, 1, false), (1, 1, false), (2, 1, false), (3, 1, false), (4, 1, false), (5, 1, false), (6, 1, false), (7, 1, false), (8, 1, false), (9, 1, false), (10, 1, false)]), (129, [(0, 1, false), (1, 1, false), (2, 1, false), (3, 1, false), (4, 1, false), (5, 1, false), (6, 1, false), (7, 1, false), (8, 1, false), (9, 1, false), (10, 1, false)])], ones := [1, 2, 3, 4, 5, 6, 9, 10, 11, 12, 15, 16, 17, 20, 21, 22, 23, 24, 25, 26, 27, 28, 29, 30, 31, 32, 33, 34, 35, 36, 41, 43, 45, 46, 49, 50, 51, 52, 53, 54, 55, 56, 57, 58, 59, 60, 63, 66, 68, 70, 73, 74, 75, 76, 77, 78, 79, 80, 81, 82, 83, 84, 85, 87, 88, 89, 90, 92, 93, 94, 96, 97, 98, 99, 100, 101, 102, 103, 104, 105, 106, 112, 113, 115, 121, 122, 123, 124, 125, 126, 127] }
theorem tabok : tab.chk Tryd.prog = true := by kernel_rfl
instance : TabOk Tryd.prog tab := ⟨tabok⟩
theorem zv_38 : ZV Tryd.prog 38 #[.slice none 0 0] := zvMk (v := .agg #[.slice none 0 0]) (by kernel_rfl) rfl
theorem zv_48 : ZV Tryd.prog 48 #[.string ⟨#[]⟩, .int .u64 0] := zvMk (v := .agg #[.string ⟨#[]⟩, .int .u64 0]) (by kernel_rfl) rfl
theorem zv_62 : ZV Tryd.prog 62 #[.map none] := zvMk (v := .agg #[.map none]) (by kernel_rfl) rfl
theorem zv_65 : ZV Tryd.prog 65 #[.int .u64 0, .slice none 0 0] := zvMk (v := .agg #[.int .u64 0, .slice none 0 0]) (by kernel_rfl) rfl
theorem zv_69 : ZV Tryd.prog 69 #[.string ⟨#[]⟩, .string ⟨#[]⟩, .string ⟨#[]⟩, .string ⟨#[]⟩, .string ⟨#[]⟩, .string ⟨#[]⟩, .string ⟨#[]⟩, .string ⟨#[]⟩, .string ⟨#[]⟩] := zvMk (v := .agg #[.string ⟨#[]⟩, .string ⟨#[]⟩, .string ⟨#[]⟩, .string ⟨#[]⟩, .string ⟨#[]⟩, .string ⟨#[]⟩, .string ⟨#[]⟩, .string ⟨#[]⟩, .string ⟨#[]⟩]) (by kernel_rfl) rfl
theorem zv_72 : ZV Tryd.prog 72 #[.string ⟨#[]⟩, .int .u64 0, .slice none 0 0] := zvMk (v := .agg #[.string ⟨#[]⟩, .int .u64 0, .slice none 0 0]) (by kernel_rfl) rfl
theorem ag_38 : AggT Tryd.prog 38 1 := agMk (by kernel_rfl) (by kernel_rfl) (by kernel_rfl)
theorem ag_40 : AggT Tryd.prog 40 6 := agMk (by kernel_rfl) (by kernel_rfl) (by kernel_rfl)
theorem ag_48 : AggT Tryd.prog 48 2 := agMk (by kernel_rfl) (by kernel_rfl) (by kernel_rfl)
theorem ag_72 : AggT Tryd.prog 72 3 := agMk (by kernel_rfl) (by kernel_rfl) (by kernel_rfl)
theorem el_22 : Elem Tryd.prog 22 5 #[.int .u8 0] 1 1 := elMk (v := .int .u8 0) Tryd.underlying22 (by kernel_rfl) rfl rfl (by decide) rfl
theorem el_26 : Elem Tryd.prog 26 31 #[.int .u64 0] 1 8 := elMk (v := .int .u64 0) Tryd.underlying26 (by kernel_rfl) rfl rfl (by decide) rfl
theorem el_35 : Elem Tryd.prog 35 40 #[.int .i64 0, .string ⟨#[]⟩, .int .u64 0, .int .u64 0, .bool false, .bool false] 6 48 := elMk (v := .agg #[.int .i64 0, .string ⟨#[]⟩, .int .u64 0, .int .u64 0, .bool false, .bool false]) Tryd.underlying35 (by kernel_rfl) rfl rfl (by decide) rfl
theorem el_36 : Elem Tryd.prog 36 72 #[.string ⟨#[]⟩, .int .u64 0, .slice none 0 0] 3 48 := elMk (v := .agg #[.string ⟨#[]⟩, .int .u64 0, .slice none 0 0]) Tryd.underlying36 (by kernel_rfl) rfl rfl (by decide) rfl
theorem el_49 : Elem Tryd.prog 49 48 #[.string ⟨#[]⟩, .int .u64 0] 2 24 := elMk (v := .agg #[.string ⟨#[]⟩, .int .u64 0]) Tryd.underlying49 (by kernel_rfl) rfl rfl (by decide) rfl
theorem el_57 : Elem Tryd.prog 57 9 #[.string ⟨#[]⟩] 1 16 := elMk (v := .string ⟨#[]⟩) Tryd.underlying57 (by kernel_rfl) rfl rfl (by decide) rfl
theorem eq_48 : EqT Tryd.prog 48 [.string, .int .u64] := ⟨by kernel_rfl, by kernel_rfl, by kernel_rfl, by kernel_rfl⟩
theorem mt_60 : MapT Tryd.prog 60 9 (.string) 63 (.pointer none) := mtMk (by kernel_rfl) (by kernel_rfl) (by kernel_rfl)
theorem xf_49 : ExtF Tryd.prog 49 Extern.BytealgCount.count := ⟨_, Tryd.func49, by kernel_rfl, by kernel_rfl, by kernel_rfl, by kernel_rfl⟩
theorem xf_73 : ExtF Tryd.prog 73 Extern.BytealgIndexByte.indexByte := ⟨_, Tryd.func73, by kernel_rfl, by kernel_rfl, by kernel_rfl, by kernel_rfl⟩
theorem ar_69 : ArrT Tryd.prog 69 9 9 := ⟨by kernel_rfl, by kernel_rfl⟩
end Go.Proofs.YtenkmjbghbegfaaDoor
