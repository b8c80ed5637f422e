/-
  Facts about the program's types.
  Conditions: none.
-/
import Derived.Test.YtlnlnebibgdjdaaFnv
import Derived.Test.YtlnlnebibgdjdaaEgb
import Derived.Test.YtlnlnebibgdjdaaRows
namespace Go.Proofs.Ytlnlnebibgdjdaa
open Go Go.V
def tab : Tab := { ints := [(2, .i64), (3, .i64), (5, .u8), (6, .u8), (12, .u64), (21, .i32), (23, .i64), (37, .u64), (40, .u32), (196, .u64), (212, .i64), (238, .u64), (257, .u8), (258, .u8), (261, .i32), (262, .i32)], strs := [9, 10, 11], bools := [4], ptrs := [15, 16, 17, 22, 28, 74, 90, 93, 103, 202, 242, 244, 247, 260], slices := [31, 33, 36, 53, 54, 55, 58, 67, 79, 104, 137, 143, 162, 223], flds := [(7, [(0, 1, false), (1, 1, false), (2, 1, false), (3, 1, false)]), (8, [(0, 1, false), (1, 1, false), (2, 1, false), (3, 1, false)]), (13, [(0, 1, false), (1, 1, false)]), (14, [(0, 1, false), (1, 1, false)]), (18, [(0, 1, false)]), (19, [(0, 1, false)]), (45, [(0, 1, false), (1, 1, false)]), (46, [(0, 1, false), (1, 1, false)]), (60, [(0, 1, false), (1, 1, false), (2, 1, false), (3, 1, false)]), (61, [(0, 1, false), (1, 1, false), (2, 1, false), (3, 1, false)]), (62, [(0, 1, false), (1, 4, true)]), (63, [(0, 1, false), (1, 4, true)]), (70, [(0, 2, true), (2, 1, false)]), (71, [(0, 2, true), (2, 1, false)]), (97, [(0, 1, false), (1, 1, false)]), (98, [(0, 1, false), (1, 1, false)]), (99, [(0, 1, false), (1, 1, false), (2, 2, true), (4, 1, false)]), (100, [(0, 1, false), (1, 1, false), (2, 2, true), (4, 1, false)]), (105, [(0, 1, false), (1, 1, false), (2, 1, false), (3, 1, false)]), (106, [(0, 1, false), (1, 1, false), (2, 1, false), (3, 1, false)]), (122, [(0, 1, false), (1, 1, false), (2, 1, false), (3, 1, false), (4, 1, false), (5, 1, false), (6, 1, false), (7, 1, false)]), (123, [(0, 1, false), (1, 1, false), (2, 1, false), (3, 1, false), (4, 1, false), (5, 1, false), (6, 1, false), (7, 1, false)]), (126, [(0, 1, false), (1, 2, true), (3, 1, false)]), (127, [(0, 1, false), (1, 2, true), (3, 1, false)]), (144, [(0, 1, false), (1, 1, false), (2, 1, false), (3, 1, false), (4, 1, false)]), (145, [(0, 1, false), (1, 1, false), (2, 1, false), (3, 1, false), (4, 1, false)]), (147, [(0, 1, false), (1, 1, false)]), (148, [(0, 1, false), (1, 1, false)]), (152, [(0, 1, false), (1, 1, false)]), (153, [(0, 1, false), (1, 1, false)]), (157, [(0, 1, false), (1, 1, false)]), (158, [(0, 1, false), (1, 1, false)]), (160, [(0, 1, false), (1, 1, false), (2, 1, false)]), (161, [(0, 1, false), (1, 1, false), (2, 1, false)]), (163, [(0, 1, false), (1, 1, false), (2, 1, false), (3, 1, false)]), (164, [(0, 1, false), (1, 1, false), (2, 1, false), (3, 1, false)]), (166, [(0, 1, false), (1, 1, false)]), (167, [(0, 1, false), (1, 1, false)]), (204, [(0, 1, false), (1, 1, false), (2, 1, false), (3, 1, false), (4, 1, false), (5, 1, false), (6, 1, false)]), (205, [(0, 1, false), (1, 1, false), (2, 1, false), (3, 1, false), (4, 1, false), (5, 1, false), (6, 1, false)]), (224, [(0, 1, false)]), (225, [(0, 1, false)]), (227, [(0, 1, false), (1, 1, false), (2, 2, true), (4, 1, false)]), (228, [(0, 1, false), (1, 1, false), (2, 2, true), (4, 1, false)]), (252, [(0, 1, false), (1, 1, false), (2, 1, false), (3, 1, false)]), (253, [(0, 1, false), (1, 1, false), (2, 1, false), (3, 1, false)]), (263, [(0, 1, false), (1, 1, false), (2, 1, false), (3, 1, false), (4, 1, false), (5, 1, false), (6, 1, false), (7, 1, false), (8, 1, false), (9, 1, false), (10, 1, false)]), (264, [(0, 1, false), (1, 1, false), (2, 1, false), (3, 1, false), (4, 1, false), (5, 1, false), (6, 1, false), (7, 1, false), (8, 1, false), (9, 1, false), (10, 1, false)])], ones := [1, 2, 3, 4, 5, 6, 9, 10, 11, 12, 15, 16, 17, 20, 21, 22, 23, 25, 26, 27, 28, 29, 30, 31, 32, 33, 34, 35, 36, 37, 39, 40, 42, 44, 47, 49, 50, 51, 52, 53, 54, 55, 57, 58, 59, 64, 65, 66, 67, 68, 69, 73, 74, 76, 77, 78, 79, 80, 81, 82, 83, 85, 86, 87, 89, 90, 92, 93, 95, 96, 101, 102, 103, 104, 107, 108, 109, 110, 112, 113, 114, 115, 116, 117, 118, 119, 120, 121, 124, 125, 129, 131, 132, 133, 134, 135, 136, 137, 138, 139, 140, 141, 142, 143, 146, 149, 151, 154, 156, 159, 162, 165, 168, 169, 171, 172, 173, 175, 176, 177, 178, 179, 180, 181, 183, 184, 185, 186, 187, 188, 189, 190, 191, 192, 193, 194, 195, 196, 197, 199, 200, 202, 203, 206, 207, 208, 210, 211, 212, 214, 215, 216, 218, 219, 220, 222, 223, 226, 230, 231, 232, 233, 234, 235, 236, 237, 238, 239, 240, 241, 242, 243, 244, 245, 246, 247, 249, 250, 251, 257, 258, 259, 260, 261, 262] }
theorem tabok : tab.chk Try.prog = true := by kernel_rfl
instance : TabOk Try.prog tab := ⟨tabok⟩
theorem zv_46 : ZV Try.prog 46 #[.int .i64 0, .int .i64 0] := zvMk (v := .agg #[.int .i64 0, .int .i64 0]) (by kernel_rfl) rfl
theorem zv_61 : ZV Try.prog 61 #[.int .i64 0, .int .i64 0, .int .i64 0, .int .i64 0] := zvMk (v := .agg #[.int .i64 0, .int .i64 0, .int .i64 0, .int .i64 0]) (by kernel_rfl) rfl
theorem zv_79 : ZV Try.prog 79 #[.slice none 0 0] := zvMk (v := .slice none 0 0) (by kernel_rfl) rfl
theorem zv_98 : ZV Try.prog 98 #[.pointer none, .map none] := zvMk (v := .agg #[.pointer none, .map none]) (by kernel_rfl) rfl
theorem zv_100 : ZV Try.prog 100 #[.pointer none, .pointer none, .pointer none, .map none, .int .i64 0] := zvMk (v := .agg #[.pointer none, .pointer none, .pointer none, .map none, .int .i64 0]) (by kernel_rfl) rfl
theorem zv_106 : ZV Try.prog 106 #[.pointer none, .slice none 0 0, .slice none 0 0, .int .u64 0] := zvMk (v := .agg #[.pointer none, .slice none 0 0, .slice none 0 0, .int .u64 0]) (by kernel_rfl) rfl
theorem zv_123 : ZV Try.prog 123 #[.int .i64 0, .int .i64 0, .int .u32 0, .int .u32 0, .int .i64 0, .int .i64 0, .int .i64 0, .int .i64 0] := zvMk (v := .agg #[.int .i64 0, .int .i64 0, .int .u32 0, .int .u32 0, .int .i64 0, .int .i64 0, .int .i64 0, .int .i64 0]) (by kernel_rfl) rfl
theorem zv_145 : ZV Try.prog 145 #[.pointer none, .int .u32 0, .bool false, .map none, .slice none 0 0] := zvMk (v := .agg #[.pointer none, .int .u32 0, .bool false, .map none, .slice none 0 0]) (by kernel_rfl) rfl
theorem zv_148 : ZV Try.prog 148 #[.bool false, .int .i64 0] := zvMk (v := .agg #[.bool false, .int .i64 0]) (by kernel_rfl) rfl
theorem zv_153 : ZV Try.prog 153 #[.int .i64 0, .int .i64 0] := zvMk (v := .agg #[.int .i64 0, .int .i64 0]) (by kernel_rfl) rfl
theorem zv_158 : ZV Try.prog 158 #[.pointer none, .slice none 0 0] := zvMk (v := .agg #[.pointer none, .slice none 0 0]) (by kernel_rfl) rfl
theorem zv_161 : ZV Try.prog 161 #[.int .i64 0, .int .i64 0, .map none] := zvMk (v := .agg #[.int .i64 0, .int .i64 0, .map none]) (by kernel_rfl) rfl
theorem zv_164 : ZV Try.prog 164 #[.slice none 0 0, .slice none 0 0, .slice none 0 0, .int .u32 0] := zvMk (v := .agg #[.slice none 0 0, .slice none 0 0, .slice none 0 0, .int .u32 0]) (by kernel_rfl) rfl
theorem zv_167 : ZV Try.prog 167 #[.bool false, .slice none 0 0] := zvMk (v := .agg #[.bool false, .slice none 0 0]) (by kernel_rfl) rfl
theorem zv_179 : ZV Try.prog 179 #[.map none] := zvMk (v := .map none) (by kernel_rfl) rfl
theorem zv_201 : ZV Try.prog 201 #[.int .u32 0, .int .u32 0] := zvMk (v := .agg #[.int .u32 0, .int .u32 0]) (by kernel_rfl) rfl
theorem zv_205 : ZV Try.prog 205 #[.int .i64 0, .int .i64 0, .int .i64 0, .bool false, .bool false, .bool false, .bool false] := zvMk (v := .agg #[.int .i64 0, .int .i64 0, .int .i64 0, .bool false, .bool false, .bool false, .bool false]) (by kernel_rfl) rfl
theorem zv_225 : ZV Try.prog 225 #[.slice none 0 0] := zvMk (v := .agg #[.slice none 0 0]) (by kernel_rfl) rfl
theorem zv_228 : ZV Try.prog 228 #[.int .u32 0, .int .i64 0, .int .i64 0, .int .i64 0, .bool false] := zvMk (v := .agg #[.int .u32 0, .int .i64 0, .int .i64 0, .int .i64 0, .bool false]) (by kernel_rfl) rfl
theorem ag_46 : AggT Try.prog 46 2 := agMk (by kernel_rfl) (by kernel_rfl) (by kernel_rfl)
theorem ag_61 : AggT Try.prog 61 4 := agMk (by kernel_rfl) (by kernel_rfl) (by kernel_rfl)
theorem ag_123 : AggT Try.prog 123 8 := agMk (by kernel_rfl) (by kernel_rfl) (by kernel_rfl)
theorem ag_148 : AggT Try.prog 148 2 := agMk (by kernel_rfl) (by kernel_rfl) (by kernel_rfl)
theorem ag_153 : AggT Try.prog 153 2 := agMk (by kernel_rfl) (by kernel_rfl) (by kernel_rfl)
theorem ag_167 : AggT Try.prog 167 2 := agMk (by kernel_rfl) (by kernel_rfl) (by kernel_rfl)
theorem ag_205 : AggT Try.prog 205 7 := agMk (by kernel_rfl) (by kernel_rfl) (by kernel_rfl)
theorem ag_228 : AggT Try.prog 228 5 := agMk (by kernel_rfl) (by kernel_rfl) (by kernel_rfl)
theorem el_31 : Elem Try.prog 31 37 #[.int .u64 0] 1 8 := elMk (v := .int .u64 0) Try.underlying31 (by kernel_rfl) rfl rfl (by decide) rfl
theorem el_33 : Elem Try.prog 33 3 #[.int .i64 0] 1 8 := elMk (v := .int .i64 0) Try.underlying33 (by kernel_rfl) rfl rfl (by decide) rfl
theorem el_36 : Elem Try.prog 36 46 #[.int .i64 0, .int .i64 0] 2 16 := elMk (v := .agg #[.int .i64 0, .int .i64 0]) Try.underlying36 (by kernel_rfl) rfl rfl (by decide) rfl
theorem el_54 : Elem Try.prog 54 40 #[.int .u32 0] 1 4 := elMk (v := .int .u32 0) Try.underlying54 (by kernel_rfl) rfl rfl (by decide) rfl
theorem el_79 : Elem Try.prog 79 61 #[.int .i64 0, .int .i64 0, .int .i64 0, .int .i64 0] 4 32 := elMk (v := .agg #[.int .i64 0, .int .i64 0, .int .i64 0, .int .i64 0]) Try.underlying79 (by kernel_rfl) rfl rfl (by decide) rfl
theorem el_104 : Elem Try.prog 104 123 #[.int .i64 0, .int .i64 0, .int .u32 0, .int .u32 0, .int .i64 0, .int .i64 0, .int .i64 0, .int .i64 0] 8 56 := elMk (v := .agg #[.int .i64 0, .int .i64 0, .int .u32 0, .int .u32 0, .int .i64 0, .int .i64 0, .int .i64 0, .int .i64 0]) Try.underlying104 (by kernel_rfl) rfl rfl (by decide) rfl
theorem el_137 : Elem Try.prog 137 2 #[.int .i64 0] 1 8 := elMk (v := .int .i64 0) Try.underlying137 (by kernel_rfl) rfl rfl (by decide) rfl
theorem el_143 : Elem Try.prog 143 153 #[.int .i64 0, .int .i64 0] 2 16 := elMk (v := .agg #[.int .i64 0, .int .i64 0]) Try.underlying143 (by kernel_rfl) rfl rfl (by decide) rfl
theorem el_162 : Elem Try.prog 162 4 #[.bool false] 1 1 := elMk (v := .bool false) Try.underlying162 (by kernel_rfl) rfl rfl (by decide) rfl
theorem el_223 : Elem Try.prog 223 228 #[.int .u32 0, .int .i64 0, .int .i64 0, .int .i64 0, .bool false] 5 40 := elMk (v := .agg #[.int .u32 0, .int .i64 0, .int .i64 0, .int .i64 0, .bool false]) Try.underlying223 (by kernel_rfl) rfl rfl (by decide) rfl
theorem mt_96 : MapT Try.prog 96 3 (.int .i64) 40 (.int .u32 0) := mtMk (by kernel_rfl) (by kernel_rfl) (by kernel_rfl)
theorem mt_142 : MapT Try.prog 142 2 (.int .i64) 148 (.agg #[.bool false, .int .i64 0]) := mtMk (by kernel_rfl) (by kernel_rfl) (by kernel_rfl)
theorem mt_159 : MapT Try.prog 159 3 (.int .i64) 167 (.agg #[.bool false, .slice none 0 0]) := mtMk (by kernel_rfl) (by kernel_rfl) (by kernel_rfl)
theorem mt_179 : MapT Try.prog 179 3 (.int .i64) 4 (.bool false) := mtMk (by kernel_rfl) (by kernel_rfl) (by kernel_rfl)
theorem ar_201 : ArrT Try.prog 201 2 40 := ⟨by kernel_rfl, by kernel_rfl⟩
end Go.Proofs.Ytlnlnebibgdjdaa
