/-
  What the proof of Jsa stands on, part 2.
  Conditions: none.
-/
import Derived.Test.YtlifpobidhfbfaaGreatDoorZsaA
set_option maxRecDepth 8192
namespace Go.Proofs.YtlifpobidhfbfaaGreatDoor
open Go Go.V
def tab : Tab := { ints := [(2, .i64), (3, .i64), (5, .u8), (6, .u8), (12, .u64), (21, .i32), (24, .i64), (25, .u64), (145, .u32), (218, .u64), (417, .i64), (448, .u64), (490, .u8), (491, .u8), (494, .i32), (495, .i32)], strs := [9, 10, 11], bools := [4], ptrs := [15, 16, 17, 59, 68, 77, 91, 94, 97, 119, 122, 130, 142, 165, 166, 186, 306, 347, 389, 409, 410, 414, 426, 451, 465, 493], slices := [22, 30, 31, 32, 33, 62, 133, 148, 150, 199, 219, 225, 228, 255, 262, 348, 376, 431], flds := [(7, [(0, 1, false), (1, 1, false), (2, 1, false), (3, 1, false)]), (8, [(0, 1, false), (1, 1, false), (2, 1, false), (3, 1, false)]), (13, [(0, 1, false), (1, 1, false)]), (14, [(0, 1, false), (1, 1, false)]), (18, [(0, 1, false)]), (19, [(0, 1, false)]), (26, [(0, 1, false), (1, 1, false)]), (27, [(0, 1, false), (1, 1, false)]), (28, [(0, 1, false), (1, 1, false), (2, 1, false), (3, 1, false)]), (29, [(0, 1, false), (1, 1, false), (2, 1, false), (3, 1, false)]), (34, [(0, 1, false), (1, 1, false), (2, 1, false), (3, 1, false), (4, 1, false), (5, 2, true), (7, 4, true), (11, 1, false), (12, 1, false), (13, 1, false), (14, 1, false)]), (35, [(0, 1, false), (1, 1, false), (2, 1, false), (3, 1, false), (4, 1, false), (5, 2, true), (7, 4, true), (11, 1, false), (12, 1, false), (13, 1, false), (14, 1, false)]), (46, [(0, 1, false), (1, 1, false), (2, 1, false), (3, 1, false)]), (47, [(0, 1, false), (1, 1, false), (2, 1, false), (3, 1, false)]), (65, [(0, 1, false), (1, 1, false), (2, 1, false), (3, 1, false), (4, 1, false), (5, 1, false), (6, 1, false), (7, 1, false), (8, 1, false), (9, 1, false), (10, 1, false), (11, 1, false), (12, 1, false)]), (66, [(0, 1, false), (1, 1, false), (2, 1, false), (3, 1, false), (4, 1, false), (5, 1, false), (6, 1, false), (7, 1, false), (8, 1, false), (9, 1, false), (10, 1, false), (11, 1, false), (12, 1, false)]), (69, [(0, 1, false)]), (70, [(0, 1, false)]), (78, [(0, 1, false), (1, 1, false), (2, 1, false)]), (79, [(0, 1, false), (1, 1, false), (2, 1, false)]), (87, [(0, 1, false), (1, 1, false), (2, 1, false), (3, 1, false)]), (88, [(0, 1, false), (1, 1, false), (2, 1, false), (3, 1, false)]), (100, [(0, 1, false), (1, 1, false), (2, 1, false), (3, 1, false), (4, 1, false)]), (101, [(0, 1, false), (1, 1, false), (2, 1, false), (3, 1, false), (4, 1, false)]), (126, [(0, 1, false), (1, 1, false)]), (127, [(0, 1, false), (1, 1, false)]), (128, [(0, 1, false), (1, 1, false), (2, 2, true), (4, 1, false)]), (129, [(0, 1, false), (1, 1, false), (2, 2, true), (4, 1, false)]), (134, [(0, 1, false), (1, 1, false)]), (135, [(0, 1, false), (1, 1, false)]), (137, [(0, 1, false)]), (138, [(0, 1, false)]), (167, [(0, 1, false), (1, 1, false), (2, 1, false)]), (168, [(0, 1, false), (1, 1, false), (2, 1, false)]), (169, [(0, 1, false), (1, 1, false)]), (170, [(0, 1, false), (1, 1, false)]), (187, [(0, 1, false), (1, 1, false)]), (188, [(0, 1, false), (1, 1, false)]), (211, [(0, 1, false), (1, 1, false), (2, 1, false), (3, 1, false)]), (212, [(0, 1, false), (1, 1, false), (2, 1, false), (3, 1, false)]), (220, [(0, 1, false), (1, 1, false), (2, 1, false), (3, 1, false)]), (221, [(0, 1, false), (1, 1, false), (2, 1, false), (3, 1, false)]), (223, [(0, 1, false), (1, 1, false), (2, 1, false)]), (224, [(0, 1, false), (1, 1, false), (2, 1, false)]), (226, [(0, 1, false), (1, 1, false), (2, 1, false), (3, 1, false)]), (227, [(0, 1, false), (1, 1, false), (2, 1, false), (3, 1, false)]), (235, [(0, 1, false), (1, 1, false)]), (236, [(0, 1, false), (1, 1, false)]), (256, [(0, 1, false), (1, 1, false), (2, 1, false), (3, 1, false), (4, 1, false)]), (257, [(0, 1, false), (1, 1, false), (2, 1, false), (3, 1, false), (4, 1, false)]), (258, [(0, 1, false), (1, 1, false)]), (259, [(0, 1, false), (1, 1, false)]), (263, [(0, 1, false), (1, 1, false), (2, 1, false), (3, 1, false)]), (264, [(0, 1, false), (1, 1, false), (2, 1, false), (3, 1, false)]), (270, [(0, 1, false), (1, 1, false), (2, 1, false), (3, 1, false), (4, 1, false), (5, 1, false), (6, 1, false), (7, 1, false)]), (271, [(0, 1, false), (1, 1, false), (2, 1, false), (3, 1, false), (4, 1, false), (5, 1, false), (6, 1, false), (7, 1, false)]), (282, [(0, 1, false), (1, 1, false), (2, 1, false), (3, 1, false), (4, 1, false), (5, 2, true), (7, 1, false)]), (283, [(0, 1, false), (1, 1, false), (2, 1, false), (3, 1, false), (4, 1, false), (5, 2, true), (7, 1, false)]), (287, [(0, 1, false), (1, 1, false)]), (288, [(0, 1, false), (1, 1, false)]), (298, [(0, 1, false), (1, 1, false), (2, 1, false), (3, 1, false), (4, 1, false), (5, 1, false), (6, 1, false)]), (299, [(0, 1, false), (1, 1, false), (2, 1, false), (3, 1, false), (4, 1, false), (5, 1, false), (6, 1, false)]), (307, [(0, 1, false), (1, 1, false), (2, 1, false)]), (308, [(0, 1, false), (1, 1, false), (2, 1, false)]), (323, [(0, 1, false), (1, 1, false)]), (324, [(0, 1, false), (1, 1, false)]), (333, [(0, 1, false), (1, 1, false)]), (334, [(0, 1, false), (1, 1, false)]), (349, [(0, 4, true), (4, 1, false), (5, 1, false), (6, 1, false), (7, 1, false)]), (350, [(0, 4, true), (4, 1, false), (5, 1, false), (6, 1, false), (7, 1, false)]), (352, [(0, 2, true), (2, 1, false), (3, 1, false)]), (353, [(0, 2, true), (2, 1, false), (3, 1, false)]), (354, [(0, 1, false), (1, 1, false), (2, 1, false), (3, 1, false)]), (355, [(0, 1, false), (1, 1, false), (2, 1, false), (3, 1, false)]), (374, [(0, 1, false), (1, 1, false)]), (375, [(0, 1, false), (1, 1, false)]), (377, [(0, 1, false)]), (378, [(0, 1, false)]), (380, [(0, 1, false), (1, 1, false), (2, 2, true), (4, 1, false)]), (381, [(0, 1, false), (1, 1, false), (2, 2, true), (4, 1, false)]), (392, [(0, 1, false), (1, 1, false)]), (393, [(0, 1, false), (1, 1, false)]), (411, [(0, 1, false), (1, 1, false), (2, 1, false)]), (412, [(0, 1, false), (1, 1, false), (2, 1, false)]), (429, [(0, 1, false), (1, 1, false)]), (430, [(0, 1, false), (1, 1, false)]), (473, [(0, 1, false), (1, 1, false)]), (474, [(0, 1, false), (1, 1, false)]), (485, [(0, 1, false), (1, 1, false), (2, 1, false), (3, 1, false)]), (486, [(0, 1, false), (1, 1, false), (2, 1, false), (3, 1, false)]), (496, [(0, 1, false), (1, 1, false), (2, 1, false), (3, 1, false), (4, 1, false), (5, 1, false), (6, 1, false), (7, 1, false), (8, 1, false), (9, 1, false), (10, 1, false)]), (497, [(0, 1, false), (1, 1, false), (2, 1, false), (3, 1, false), (4, 1, false), (5, 1, false), (6, 1, false), (7, 1, false), (8, 1, false), (9, 1, false), (10, 1, false)])], ones := [1, 2, 3, 4, 5, 6, 9, 10, 11, 12, 15, 16, 17, 20, 21, 22, 23, 24, 25, 30, 31, 32, 33, 36, 37, 39, 40, 41, 42, 43, 45, 48, 50, 51, 52, 53, 54, 55, 56, 57, 58, 59, 61, 62, 64, 67, 68, 71, 72, 73, 74, 75, 76, 77, 80, 81, 82, 83, 84, 85, 86, 89, 90, 91, 93, 94, 96, 97, 98, 99, 103, 104, 105, 106, 107, 109, 110, 111, 112, 113, 114, 116, 117, 118, 119, 121, 122, 124, 125, 130, 132, 133, 136, 140, 141, 142, 143, 144, 145, 147, 148, 149, 150, 151, 152, 153, 154, 156, 158, 159, 160, 161, 162, 164, 165, 166, 171, 172, 174, 175, 176, 177, 179, 180, 182, 183, 185, 186, 189, 191, 193, 195, 196, 197, 198, 199, 200, 202, 203, 204, 206, 207, 208, 209, 210, 214, 216, 217, 218, 219, 222, 225, 228, 229, 230, 231, 232, 233, 234, 237, 238, 239, 240, 241, 242, 243, 244, 245, 246, 247, 249, 251, 252, 253, 254, 255, 260, 261, 262, 266, 267, 268, 269, 273, 274, 275, 276, 277, 278, 280, 281, 284, 285, 290, 291, 292, 293, 294, 296, 297, 300, 301, 302, 303, 304, 305, 306, 309, 311, 312, 313, 314, 315, 316, 317, 319, 320, 322, 325, 327, 328, 329, 330, 332, 335, 336, 337, 338, 339, 340, 341, 342, 344, 345, 346, 347, 348, 351, 356, 357, 358, 359, 361, 362, 363, 364, 365, 366, 367, 368, 369, 370, 371, 372, 373, 376, 379, 383, 384, 385, 387, 388, 389, 390, 391, 394, 395, 396, 397, 398, 399, 400, 402, 403, 404, 406, 407, 408, 409, 410, 414, 415, 416, 417, 419, 420, 421, 423, 424, 425, 426, 428, 431, 432, 434, 435, 436, 437, 438, 439, 440, 441, 443, 444, 445, 446, 447, 448, 449, 450, 451, 452, 453, 454, 455, 456, 457, 458, 459, 460, 461, 462, 464, 465, 466, 467, 468, 469, 470, 471, 476, 477, 478, 479, 480, 481, 482, 483, 484, 490, 491, 492, 493, 494, 495] }
theorem tabok : tab.chk Tryz.prog = true := by kernel_rfl
instance : TabOk Tryz.prog tab := ⟨tabok⟩
theorem Zb5 : ZV Tryz.prog 27 #[.int .i64 0, .int .i64 0] := Xn (v := .agg #[.int .i64 0, .int .i64 0]) (by kernel_rfl) rfl
theorem zv_29 : ZV Tryz.prog 29 #[.int .i64 0, .int .i64 0, .int .i64 0, .int .i64 0] := Xn (v := .agg #[.int .i64 0, .int .i64 0, .int .i64 0, .int .i64 0]) (by kernel_rfl) rfl
theorem Xk : ZV Tryz.prog 35 #[.int .i64 0, .int .u64 0, .int .i64 0, .bool false, .int .i64 0, .int .i64 0, .int .i64 0, .int .i64 0, .int .i64 0, .int .i64 0, .int .i64 0, .slice none 0 0, .slice none 0 0, .slice none 0 0, .slice none 0 0] := Xn (v := .agg #[.int .i64 0, .int .u64 0, .int .i64 0, .bool false, .int .i64 0, .int .i64 0, .int .i64 0, .int .i64 0, .int .i64 0, .int .i64 0, .int .i64 0, .slice none 0 0, .slice none 0 0, .slice none 0 0, .slice none 0 0]) (by kernel_rfl) rfl
theorem zv_47 : ZV Tryz.prog 47 #[.int .i64 0, .int .i64 0, .int .i64 0, .int .i64 0] := Xn (v := .agg #[.int .i64 0, .int .i64 0, .int .i64 0, .int .i64 0]) (by kernel_rfl) rfl
theorem JK : ZV Tryz.prog 66 #[.int .i64 0, .int .u64 0, .int .u64 0, .int .i64 0, .int .i64 0, .int .i64 0, .int .i64 0, .int .i64 0, .bool false, .string ⟨#[]⟩, .slice none 0 0, .slice none 0 0, .slice none 0 0] := Xn (v := .agg #[.int .i64 0, .int .u64 0, .int .u64 0, .int .i64 0, .int .i64 0, .int .i64 0, .int .i64 0, .int .i64 0, .bool false, .string ⟨#[]⟩, .slice none 0 0, .slice none 0 0, .slice none 0 0]) (by kernel_rfl) rfl
theorem zv_70 : ZV Tryz.prog 70 #[.slice none 0 0] := Xn (v := .agg #[.slice none 0 0]) (by kernel_rfl) rfl
theorem Zcf : ZV Tryz.prog 79 #[.slice none 0 0, .int .i64 0, .int .i64 0] := Xn (v := .agg #[.slice none 0 0, .int .i64 0, .int .i64 0]) (by kernel_rfl) rfl
theorem HR : ZV Tryz.prog 88 #[.int .i64 0, .int .i64 0, .int .i64 0, .int .i64 0] := Xn (v := .agg #[.int .i64 0, .int .i64 0, .int .i64 0, .int .i64 0]) (by kernel_rfl) rfl
theorem Zdm : ZV Tryz.prog 101 #[.pointer none, .pointer none, .pointer none, .pointer none, .map none] := Xn (v := .agg #[.pointer none, .pointer none, .pointer none, .pointer none, .map none]) (by kernel_rfl) rfl
theorem Zc8 : ZV Tryz.prog 127 #[.pointer none, .map none] := Xn (v := .agg #[.pointer none, .map none]) (by kernel_rfl) rfl
theorem Zc4 : ZV Tryz.prog 129 #[.pointer none, .pointer none, .pointer none, .map none, .int .i64 0] := Xn (v := .agg #[.pointer none, .pointer none, .pointer none, .map none, .int .i64 0]) (by kernel_rfl) rfl
theorem Zeq : ZV Tryz.prog 135 #[.pointer none, .slice none 0 0] := Xn (v := .agg #[.pointer none, .slice none 0 0]) (by kernel_rfl) rfl
theorem Zed : ZV Tryz.prog 138 #[.map none] := Xn (v := .agg #[.map none]) (by kernel_rfl) rfl
theorem VF : ZV Tryz.prog 221 #[.pointer none, .slice none 0 0, .slice none 0 0, .int .u64 0] := Xn (v := .agg #[.pointer none, .slice none 0 0, .slice none 0 0, .int .u64 0]) (by kernel_rfl) rfl
theorem Zer : ZV Tryz.prog 224 #[.int .i64 0, .int .i64 0, .map none] := Xn (v := .agg #[.int .i64 0, .int .i64 0, .map none]) (by kernel_rfl) rfl
theorem C5 : ZV Tryz.prog 227 #[.slice none 0 0, .slice none 0 0, .slice none 0 0, .int .u32 0] := Xn (v := .agg #[.slice none 0 0, .slice none 0 0, .slice none 0 0, .int .u32 0]) (by kernel_rfl) rfl
theorem Zcw : ZV Tryz.prog 236 #[.bool false, .slice none 0 0] := Xn (v := .agg #[.bool false, .slice none 0 0]) (by kernel_rfl) rfl
theorem Qw : Xl Tryz.prog 27 2 := Dt (by kernel_rfl) (by kernel_rfl) (by kernel_rfl)
theorem Dk : Xl Tryz.prog 29 4 := Dt (by kernel_rfl) (by kernel_rfl) (by kernel_rfl)
theorem ZK : Xl Tryz.prog 35 15 := Dt (by kernel_rfl) (by kernel_rfl) (by kernel_rfl)
theorem ag_47 : Xl Tryz.prog 47 4 := Dt (by kernel_rfl) (by kernel_rfl) (by kernel_rfl)
theorem Zk : Xl Tryz.prog 66 13 := Dt (by kernel_rfl) (by kernel_rfl) (by kernel_rfl)
theorem Jt : Xl Tryz.prog 88 4 := Dt (by kernel_rfl) (by kernel_rfl) (by kernel_rfl)
theorem el_22 : Elem Tryz.prog 22 35 #[.int .i64 0, .int .u64 0, .int .i64 0, .bool false, .int .i64 0, .int .i64 0, .int .i64 0, .int .i64 0, .int .i64 0, .int .i64 0, .int .i64 0, .slice none 0 0, .slice none 0 0, .slice none 0 0, .slice none 0 0] 15 184 := J4 (v := .agg #[.int .i64 0, .int .u64 0, .int .i64 0, .bool false, .int .i64 0, .int .i64 0, .int .i64 0, .int .i64 0, .int .i64 0, .int .i64 0, .int .i64 0, .slice none 0 0, .slice none 0 0, .slice none 0 0, .slice none 0 0]) Tryz.underlying22 (by kernel_rfl) rfl rfl (by decide) rfl
theorem el_30 : Elem Tryz.prog 30 27 #[.int .i64 0, .int .i64 0] 2 16 := J4 (v := .agg #[.int .i64 0, .int .i64 0]) Tryz.underlying30 (by kernel_rfl) rfl rfl (by decide) rfl
theorem el_31 : Elem Tryz.prog 31 88 #[.int .i64 0, .int .i64 0, .int .i64 0, .int .i64 0] 4 32 := J4 (v := .agg #[.int .i64 0, .int .i64 0, .int .i64 0, .int .i64 0]) Tryz.underlying31 (by kernel_rfl) rfl rfl (by decide) rfl
theorem el_32 : Elem Tryz.prog 32 2 #[.int .i64 0] 1 8 := J4 (v := .int .i64 0) Tryz.underlying32 (by kernel_rfl) rfl rfl (by decide) rfl
theorem el_33 : Elem Tryz.prog 33 5 #[.int .u8 0] 1 1 := J4 (v := .int .u8 0) Tryz.underlying33 (by kernel_rfl) rfl rfl (by decide) rfl
theorem el_62 : Elem Tryz.prog 62 66 #[.int .i64 0, .int .u64 0, .int .u64 0, .int .i64 0, .int .i64 0, .int .i64 0, .int .i64 0, .int .i64 0, .bool false, .string ⟨#[]⟩, .slice none 0 0, .slice none 0 0, .slice none 0 0] 13 160 := J4 (v := .agg #[.int .i64 0, .int .u64 0, .int .u64 0, .int .i64 0, .int .i64 0, .int .i64 0, .int .i64 0, .int .i64 0, .bool false, .string ⟨#[]⟩, .slice none 0 0, .slice none 0 0, .slice none 0 0]) Tryz.underlying62 (by kernel_rfl) rfl rfl (by decide) rfl
theorem el_133 : Elem Tryz.prog 133 145 #[.int .u32 0] 1 4 := J4 (v := .int .u32 0) Tryz.underlying133 (by kernel_rfl) rfl rfl (by decide) rfl
theorem el_148 : Elem Tryz.prog 148 3 #[.int .i64 0] 1 8 := J4 (v := .int .i64 0) Tryz.underlying148 (by kernel_rfl) rfl rfl (by decide) rfl
theorem el_150 : Elem Tryz.prog 150 25 #[.int .u64 0] 1 8 := J4 (v := .int .u64 0) Tryz.underlying150 (by kernel_rfl) rfl rfl (by decide) rfl
theorem el_219 : Elem Tryz.prog 219 271 #[.int .i64 0, .int .i64 0, .int .u32 0, .int .u32 0, .int .i64 0, .int .i64 0, .int .i64 0, .int .i64 0] 8 56 := J4 (v := .agg #[.int .i64 0, .int .i64 0, .int .u32 0, .int .u32 0, .int .i64 0, .int .i64 0, .int .i64 0, .int .i64 0]) Tryz.underlying219 (by kernel_rfl) rfl rfl (by decide) rfl
theorem el_225 : Elem Tryz.prog 225 4 #[.bool false] 1 1 := J4 (v := .bool false) Tryz.underlying225 (by kernel_rfl) rfl rfl (by decide) rfl
theorem Zb9 : EqT Tryz.prog 27 [.int .i64, .int .i64] := ⟨by kernel_rfl, by kernel_rfl, by kernel_rfl, by kernel_rfl⟩
theorem eq_29 : EqT Tryz.prog 29 [.int .i64, .int .i64, .int .i64, .int .i64] := ⟨by kernel_rfl, by kernel_rfl, by kernel_rfl, by kernel_rfl⟩
theorem eq_88 : EqT Tryz.prog 88 [.int .i64, .int .i64, .int .i64, .int .i64] := ⟨by kernel_rfl, by kernel_rfl, by kernel_rfl, by kernel_rfl⟩
theorem Ze4 : MapT Tryz.prog 125 3 (.int .i64) 145 (.int .u32 0) := mtMk (by kernel_rfl) (by kernel_rfl) (by kernel_rfl)
theorem X_ : MapT Tryz.prog 222 3 (.int .i64) 236 (.agg #[.bool false, .slice none 0 0]) := mtMk (by kernel_rfl) (by kernel_rfl) (by kernel_rfl)
end Go.Proofs.YtlifpobidhfbfaaGreatDoor
namespace Go.V
open Go Go.RowKit Go.Maps Go.Sort
section
variable {g w w' : World} {L : List HP} {e size n : Nat} {v : Value} {xs : List Value}
theorem St.of_row (ls : List (List Value)) (h : St g L w) (hb : Below w.heap.size w w') (hr : w'.ownsRow w.heap.size e size v n xs) (hls : ls.flatten = xs) (hn : ls.length = n) (hok : OkE size ls) :
  ∃ a c, v = .slice a ls.length c ∧ St g (Ze e size ls a c :: L) w' := by
 subst hn; subst hls
 have h0 : St g (pur True :: L) w := h.add fun _ _ => trivial
 obtain ⟨b1, b2, b3, b4, b5⟩ := hb
 obtain ⟨_, ⟨rfl, hn⟩ | ⟨q, cap, cur, rfl, hq, hcur, h1, h2, h3, h4⟩⟩ := hr
 ·have hz : ls = [] := List.length_eq_zero_iff.1 hn
  subst hz
  refine ⟨none, 0, rfl, h0.upd b1 b2 b3 b4 fun o1 r _ _ _ _ => ⟨fun _ => none, ⟨OkE.nil _, .inl ⟨rfl, rfl, rfl⟩⟩, fun _ _ h => (by cases h), fun k hk => absurd rfl hk, fun k hk _ => b5 k hk⟩⟩
 ·refine ⟨some ⟨q, 0, none⟩, cap, rfl, h0.upd b1 b2 b3 b4 fun o1 r _ _ _ _ => ⟨fun k => if k = q then some (.cells cur e (0, 0)) else none, ⟨hok, .inr ⟨q, cur, rfl, by simp, h1, h2, h3, h4⟩⟩, fun k x hx => ?_, fun k hk => ?_, fun k hk _ => b5 k hk⟩⟩
  ·simp only at hx
   split at hx
   ·rename_i hk; subst hk; simp only [Option.some.injEq] at hx; subst hx; exact hcur
   ·cases hx
  ·simp only [ne_eq, ite_eq_right_iff, reduceCtorEq, imp_false, Classical.not_not] at hk
   exact .inr (by omega)
end
section
variable {g w : World} {L : List HP} {e c : Nat} {ls : List Int} {b : Nat}
theorem Js (l : List Int) : (Zb l).flatten = l.map (Value.int .i64) := by
 induction l with
 | nil => rfl
 | cons x l ih => simp only [Zb, List.map_cons, List.flatten_cons, List.singleton_append] at ih ⊢; rw [ih]
theorem St.holdsI (h : St g L w) (i : Nat) (hi : L[i]? = some (Ze e 1 (Zb ls) (some ⟨b, 0, none⟩) c)) : Holds (Value.int .i64) w b 0 ls.toArray ∧ b < w.heap.size ∧ ls.length ≤ c := by
 obtain ⟨o1, r, ⟨h1, h2⟩, ho, hr⟩ := h.get i hi
 rcases h2 with ⟨h3, _, _⟩ | ⟨b', cur, h3, q2, q3, q4, q5, q6⟩
 ·cases h3
 ·cases h3
  have hb := ho _ _ q2
  refine ⟨holds_of_blockI hb (by rw [Zh, Nat.mul_one, Js] at q6; exact q6), (Array.getElem?_eq_some_iff.1 hb).1, by simpa using q3⟩
theorem St.putI (h : St g (Ze e 1 (Zb ls) (some ⟨b, 0, none⟩) c :: L) w) (ts : List Int) (hl : ts.length = ls.length) (n : Nat) (os : Array Obj) :
  St g (Ze e 1 (Zb ts) (some ⟨b, 0, none⟩) c :: L) (grow (putRow (Value.int .i64) (Sort.ahead w n) b 0 ts.toArray) os) := by
 have hg := grownBy_sortedI (w := w) (g := b) (n := n) (os := os) ts.toArray
 refine h.upd hg.os hg.tape hg.output hg.size fun o1 r hA hw _ _ => ?_
 obtain ⟨h1, h2⟩ := hA
 rcases h2 with ⟨h3, _, _⟩ | ⟨b', cur, h3, q2, q3, q4, q5, q6⟩
 ·cases h3
 ·cases h3
  have hb := hw _ _ q2
  rw [Zh] at q3 q6
  refine ⟨fun k => if k = b then some (.cells (putCells (Value.int .i64) 0 ts.toArray cur) e (0, 0)) else none, ⟨XW _, .inr ⟨b, _, rfl, if_pos rfl, by rw [Zh, hl]; exact q3, q4, by simp [putCells, q5], ?_⟩⟩, fun k x hx => ?_, fun k hk => ?_, fun k hk hn => ?_⟩
  ·rw [Zh, Nat.mul_one, Js]
   exact take_putCellsI cur ts (by rw [hl, q5, Nat.mul_one]; exact q3)
  ·simp only at hx
   split at hx
   ·rename_i hk; subst hk; simp only [Option.some.injEq] at hx; subst hx; exact heap_sortedI _ hb
   ·cases hx
  ·simp only [ne_eq, ite_eq_right_iff, reduceCtorEq, imp_false, Classical.not_not] at hk
   subst hk; exact .inl (by rw [q2]; simp)
  ·refine hg.block k hk fun he => ?_
   simp only [Option.some.injEq] at he; subst he
   rw [q2] at hn; cases hn
theorem St.ownTake {a : Option Addr} {size : Nat} {ks : List (List Value)} (h : St g (Ze e size ks a c :: L) w) (k : Nat) : St g (Ze e size (ks.take k) a c :: L) w := by
 refine h.impl fun o r ⟨h1, h2⟩ => ⟨fun x hx => h1 x (List.mem_of_mem_take hx), ?_⟩
 rcases h2 with ⟨q1, q2, rfl⟩ | ⟨b, cur, q1, q2, q3, q4, q5, q6⟩
 ·exact .inl ⟨q1, q2, by simp⟩
 ·refine .inr ⟨b, cur, q1, q2, Nat.le_trans (by rw [List.length_take]; omega) q3, q4, q5, ?_⟩
  have h4 : ∀ x ∈ ks.take k, x.length = size := fun x hx => h1.len x (List.mem_of_mem_take hx)
  have h5 := Zw (ks.take k) size h4
  have h6 : (ks.take k).flatten = ks.flatten.take ((ks.take k).length * size) := by
   have h7 : ks.flatten = (ks.take k).flatten ++ (ks.drop k).flatten := by rw [← List.flatten_append, List.take_append_drop]
   rw [h7, List.take_left' h5]
  rw [h6, ← q6, List.take_take]
  congr 1
  have : (ks.take k).length ≤ ks.length := by rw [List.length_take]; omega
  exact (Nat.min_eq_left (Nat.mul_le_mul_right _ this)).symm
theorem St.addrI {a : Option Addr} (h : St g L w) (i : Nat) (hi : L[i]? = some (Ze e 1 (Zb ls) a c)) (hne : ls ≠ []) : ∃ b, a = some ⟨b, 0, none⟩ := by
 obtain ⟨o1, r, ⟨h1, h2⟩, ho, hr⟩ := h.get i hi
 rcases h2 with ⟨_, _, h3⟩ | ⟨b', cur, h3, _⟩
 ·simp [Zb] at h3; exact absurd h3 hne
 ·exact ⟨b', h3⟩
end
theorem UH (l : List Int) : (Go.Lib.compact l).length ≤ l.length := by
 unfold Go.Lib.compact Go.Lib.compactUpTo
 rw [List.length_map]
 exact Nat.le_trans (List.length_filter_le _ _) (by simp)
theorem UM {ys ss : List Int} (hp : ss.Perm ys) (hs : ss.Pairwise (· ≤ ·)) : ys.mergeSort (fun x y => decide (x ≤ y)) = ss := by
 have h1 := mergeSort_of_perm_i hp
 show ys.mergeSort leI = _
 rw [← h1]
 exact List.mergeSort_of_pairwise (le := leI) (hs.imp fun h => decide_eq_true h)
end Go.V
namespace Go.V
open Go Go.RowKit Go.Maps
structure VN where
 n : Int
 live : Bool
 ab : List Int
 a : Option Addr
 c : Nat
 born : Nat
def vV (x : VN) : Value := .agg #[.bool x.live, .slice x.a (Zb x.ab).length x.c]
def vK (x : VN) : Value × Value × Nat := (.int .i64 x.n, vV x, x.born)
def vF (x : VN) : List HP := [Sh 3 1 (Zb x.ab) x.a x.c]
theorem vF_sh (x : VN) : ∀ A ∈ vF x, Sht A := fun A hA => by
 simp only [vF, List.mem_singleton] at hA; subst hA; exact Sht.sh
def VUq (xs : List VN) : Prop := xs.Pairwise fun x y => x.n ≠ y.n
theorem Zb4 (xs : List VN) : ∀ x ∈ xs.map vK, MapKept.IsKey (.int .i64) x.1 := fun x hx => by
 obtain ⟨y, _, rfl⟩ := List.mem_map.1 hx
 rfl
theorem v_in {xs : List VN} {k : Nat} {x : VN} (hx : xs[k]? = some x) (hu : VUq xs) : J6 (.int .i64) (.int .i64 x.n) (xs.map vK) = some (some (k, vV x)) := by
 refine U8 (d := .int .i64) (k := .int .i64 x.n) (b := x.born) rfl (Zb4 xs) (by rw [List.getElem?_map, hx]; rfl) fun j hj y hy => ?_
 rw [List.getElem?_map] at hy
 cases hz : xs[j]? with
 | none => rw [hz] at hy; cases hy
 | some u =>
  rw [hz] at hy
  simp only [Option.map_some, Option.some.injEq] at hy
  subst hy
  intro he
  have he2 : u.n = x.n := (Value.int.inj he).2
  have hl := (List.getElem?_eq_some_iff.1 hz).1
  have hl2 := (List.getElem?_eq_some_iff.1 hx).1
  refine List.pairwise_iff_getElem.1 hu j k hl hl2 hj ?_
  rw [(List.getElem?_eq_some_iff.1 hz).2, (List.getElem?_eq_some_iff.1 hx).2, he2]
theorem Zb7 {xs : List VN} {n : Int} (h : ∀ x ∈ xs, x.n ≠ n) : J6 (.int .i64) (.int .i64 n) (xs.map vK) = some none := by
 refine J8 (d := .int .i64) (k := .int .i64 n) rfl (Zb4 xs) fun x hx => ?_
 obtain ⟨y, hy, rfl⟩ := List.mem_map.1 hx
 intro he
 exact h y hy (Value.int.inj he).2
theorem VZ (xs : List VN) (n : Int) : (∃ (k : Nat) (x : VN), xs[k]? = some x ∧ x.n = n) ∨ ∀ x ∈ xs, x.n ≠ n := by
 by_cases h : ∃ x ∈ xs, x.n = n
 ·obtain ⟨x, hx, hn⟩ := h
  obtain ⟨k, hk⟩ := List.mem_iff_getElem?.1 hx
  exact .inl ⟨k, x, hk, hn⟩
 ·exact .inr fun x hx hn => h ⟨x, hx, hn⟩
theorem VUq.one {R : List VN} (h : VUq R) {i j : Nat} {x y : VN} (hi : R[i]? = some x) (hj : R[j]? = some y) (he : x.n = y.n) : i = j := by
 have h1 := (List.getElem?_eq_some_iff.1 hi).1
 have h2 := (List.getElem?_eq_some_iff.1 hj).1
 have e1 : R[i] = x := (List.getElem?_eq_some_iff.1 hi).2
 have e2 : R[j] = y := (List.getElem?_eq_some_iff.1 hj).2
 rcases Nat.lt_trichotomy i j with hl | hl | hl
 ·exact absurd (by rw [e1, e2]; exact he) (List.pairwise_iff_getElem.1 h i j h1 h2 hl)
 ·exact hl
 ·exact absurd (by rw [e1, e2]; exact he.symm) (List.pairwise_iff_getElem.1 h j i h2 h1 hl)
def ZQ (xs : List VN) (n : Int) : Option VN := xs.find? fun x => decide (x.n = n)
def Zi (xs : List VN) (n : Int) : Bool := ((ZQ xs n).map (·.live)).getD false
def ZX (xs : List VN) (n : Int) : Bool := (ZQ xs n).isSome
def Xe (xs : List VN) (n : Int) : List Int := ((ZQ xs n).map (·.ab)).getD []
theorem UR {xs : List VN} {k : Nat} {x : VN} (hx : xs[k]? = some x) (hu : VUq xs) : ZQ xs x.n = some x := by
 cases hf : ZQ xs x.n with
 | none =>
  have := List.find?_eq_none.1 hf x (List.mem_of_getElem? hx)
  exact absurd (decide_eq_true rfl) this
 | some y =>
  have hn : y.n = x.n := of_decide_eq_true (List.find?_some (p := fun q : VN => decide (q.n = x.n)) hf)
  obtain ⟨j, hj⟩ := List.mem_iff_getElem?.1 (List.mem_of_find?_eq_some hf)
  have := hu.one hj hx hn
  subst this
  rw [hj] at hx; exact hx
theorem Jr {xs : List VN} {n : Int} (h : ∀ x ∈ xs, x.n ≠ n) : ZQ xs n = none := by
 refine List.find?_eq_none.2 fun x hx he => h x hx (of_decide_eq_true he)
theorem Yk {xs : List VN} {n : Int} {x : VN} (h : ZQ xs n = some x) : x ∈ xs ∧ x.n = n := ⟨List.mem_of_find?_eq_some h, of_decide_eq_true (List.find?_some (p := fun q : VN => decide (q.n = n)) h)⟩
theorem HB {xs : List VN} {n : Int} : ZQ xs n = none ↔ ∀ x ∈ xs, x.n ≠ n := ⟨fun h x hx e => List.find?_eq_none.1 h x hx (decide_eq_true e), Jr⟩
theorem DJ {xs : List VN} {x : VN} (hx : x ∈ xs) (hu : VUq xs) : ZQ xs x.n = some x := by
 obtain ⟨k, hk⟩ := List.mem_iff_getElem?.1 hx
 exact UR hk hu
theorem Vg {xs : List VN} {n : Int} {x : VN} (h : ZQ xs n = some x) : Zi xs n = x.live ∧ ZX xs n = true ∧ Xe xs n = x.ab := by simp [Zi, ZX, Xe, h]
theorem H' {xs : List VN} {n : Int} (h : ZQ xs n = none) : Zi xs n = false ∧ ZX xs n = false ∧ Xe xs n = [] := by simp [Zi, ZX, Xe, h]
theorem Xm {xs : List VN} {n : Int} (h : Zi xs n = true) : ZX xs n = true := by
 unfold Zi at h; unfold ZX
 cases hf : ZQ xs n with
 | none => rw [hf] at h; cases h
 | some x => rfl
theorem ZY {xs : List VN} {n : Int} : ZX xs n = true ↔ ∃ x ∈ xs, x.n = n := by
 unfold ZX
 cases hf : ZQ xs n with
 | none => exact ⟨fun h => (by cases h), fun ⟨x, hx, hn⟩ => absurd hn (HB.1 hf x hx)⟩
 | some x => exact ⟨fun _ => ⟨x, Yk hf⟩, fun _ => rfl⟩
structure VOk (xs : List VN) (q : Nat) : Prop where
 uniq : VUq xs
 born : ∀ x ∈ xs, x.born < q
 bnd : (xs.map (·.born)).Nodup
 rng : ∀ x ∈ xs, 1 ≤ x.n ∧ x.n ≤ 1000000000
 num : xs.length ≤ 4096
section
variable {P : Program} {k : TypeId}
def H9 (_ : Value) : Option (DataW Unit × List MemPlace) := some (.nil, [])
theorem Vs (xs : List VN) (q : Nat) (h : VOk xs q) (hk : P.underlying k = some (.int .i64)) {w : World} {b : Nat} (hb : w.heap[b]? = some (.map (mE (xs.map vK)) q)) :
  ∃ D : DataW Unit, w.ownsMap P k H9 b 4096 D ∧ Maps.size D = xs.length ∧ (intKeys D).Perm (xs.map (·.n)) := by
 have hrd : ∀ x : VN, x ∈ xs → Go.WideElems.rd P k H9 ⟨.int .i64 x.n, vV x, x.born⟩ = some (.int .i64 x.n, .nil) := fun x hx => by
  have h1 := h.rng x hx
  have h2 : (Lit.int .i64 x.n).wf = true := by
   have e1 : IntKind.i64.min = -9223372036854775808 := by decide
   have e2 : IntKind.i64.max = 9223372036854775807 := by decide
   simp only [Lit.wf, e1, e2, Bool.and_eq_true, decide_eq_true_eq]
   omega
  have h3 : keyOf P k (.int .i64 x.n) = some (.int .i64 x.n) := by simp [keyOf, hk, mapKey, h2]
  simp [Go.WideElems.rd, h3, H9]
 have hF : Go.WideElems.Fit P k H9 (mE (xs.map vK)) q := by
  refine ⟨by rw [Jy, List.length_map]; exact Nat.le_trans h.num (by decide), ⟨?_, ?_, ?_⟩, ?_⟩
  ·intro x hx
   simp only [Yd, List.map_map, List.mem_map] at hx
   obtain ⟨y, hy, rfl⟩ := hx
   exact h.born y hy
  ·rw [Yd, List.map_map, List.map_map]
   exact h.bnd
  ·rw [Yd, List.map_map, List.map_map]
   refine List.pairwise_map.2 (h.uniq.imp fun {a b} hne he => hne ?_)
   exact (Value.int.inj he).2
  ·intro x hx
   simp only [Yd, List.map_map, List.mem_map] at hx
   obtain ⟨y, hy, rfl⟩ := hx
   exact ⟨_, hrd y hy⟩
 refine ⟨_, ⟨_, _, hb, hF, by rw [Jy, List.length_map]; exact h.num, rfl⟩, ?_, ?_⟩
 ·rw [Maps.size_eq, (WideShapes.sorted_perm _).length_eq]; simp
 ·refine ((WideShapes.sorted_perm _).map _).trans ?_
  rw [Yd, List.map_map, List.map_map, List.map_map]
  refine List.Perm.of_eq (List.map_congr_left fun x hx => ?_)
  simp only [Function.comp_def, vK, Go.WideElems.rg, hrd x hx, Option.getD_some, intOf]
end
end Go.V
namespace Go.V
open Go Go.RowKit
def Asc (l : List Int) : Prop := l.Pairwise fun a b => a < b
def Hg (l m : List Int) : Int := ((l.filter fun z => decide (z ∈ m)).getLast?).getD 0
theorem Asc.nodup {l : List Int} (h : Asc l) : l.Nodup := h.imp fun h => by omega
theorem Asc.last {l : List Int} (h : Asc l) {u : Int} (hu : u ∈ l) (hm : ∀ z ∈ l, z ≤ u) : l.getLast? = some u := by
 induction l with
 | nil => cases hu
 | cons x t ih =>
  have hp := List.pairwise_cons.1 h
  cases t with
  | nil => simp at hu; subst hu; rfl
  | cons y t =>
   rw [List.getLast?_cons_cons]
   refine ih hp.2 ?_ fun z hz => hm z (List.mem_cons_of_mem _ hz)
   rcases List.mem_cons.1 hu with rfl | hu
   ·have h1 := hp.1 y (List.mem_cons_self ..)
    have h2 := hm y (List.mem_cons_of_mem _ (List.mem_cons_self ..))
    omega
   ·exact hu
theorem Vk {l m : List Int} (h : Asc l) {u : Int} (h1 : u ∈ l) (h2 : u ∈ m) (hm : ∀ z ∈ l, z ∈ m → z ≤ u) : Hg l m = u := by
 unfold Hg
 have h3 : Asc (l.filter fun z => decide (z ∈ m)) := h.sublist List.filter_sublist
 rw [h3.last (List.mem_filter.2 ⟨h1, decide_eq_true h2⟩) fun z hz => hm z (List.mem_filter.1 hz).1 (of_decide_eq_true (List.mem_filter.1 hz).2)]
 rfl
theorem CV {l m : List Int} (h : ∀ z ∈ l, z ∉ m) : Hg l m = 0 := by
 unfold Hg
 rw [List.filter_eq_nil_iff.2 fun z hz hd => h z hz (of_decide_eq_true hd)]
 rfl
theorem Asc.max_ex {l : List Int} (h : Asc l) (hne : l ≠ []) : ∃ u ∈ l, ∀ z ∈ l, z ≤ u := by
 refine ⟨l.getLast hne, List.getLast_mem hne, fun z hz => ?_⟩
 induction l with
 | nil => exact absurd rfl hne
 | cons x t ih =>
  have hp := List.pairwise_cons.1 h
  cases t with
  | nil => simp at hz; subst hz; exact Int.le_refl _
  | cons y t =>
   rw [List.getLast_cons (by simp)]
   rcases List.mem_cons.1 hz with rfl | hz
   ·have h1 := hp.1 _ (List.getLast_mem (l := y :: t) (by simp)); omega
   ·exact ih hp.2 (by simp) hz
theorem DG {l m : List Int} (h : Asc l) : (Hg l m = 0 ∧ ∀ z ∈ l, z ∉ m) ∨ (Hg l m ∈ l ∧ Hg l m ∈ m ∧ ∀ z ∈ l, z ∈ m → z ≤ Hg l m) := by
 by_cases hne : (l.filter fun z => decide (z ∈ m)) = []
 ·have h1 : ∀ z ∈ l, z ∉ m := fun z hz hzm => List.filter_eq_nil_iff.1 hne z hz (decide_eq_true hzm)
  exact .inl ⟨CV h1, h1⟩
 ·obtain ⟨u, hu, hm⟩ := (show Asc _ from h.sublist List.filter_sublist).max_ex hne
  have h1 := (List.mem_filter.1 hu).1
  have h2 : u ∈ m := of_decide_eq_true (List.mem_filter.1 hu).2
  have h3 : ∀ z ∈ l, z ∈ m → z ≤ u := fun z hz hzm => hm z (List.mem_filter.2 ⟨hz, decide_eq_true hzm⟩)
  rw [Vk h h1 h2 h3]
  exact .inr ⟨h1, h2, h3⟩
def UW (xs : List VN) (x y : Int) : Int := if Zi xs x = true ∧ Zi xs y = true then Hg (Xe xs x) (Xe xs y) else 0
structure GOk (xs : List VN) (q : Nat) : Prop extends VOk xs q where
 asc : ∀ x ∈ xs, Asc x.ab
 self : ∀ x ∈ xs, x.n ∈ x.ab
 le : ∀ x ∈ xs, ∀ z ∈ x.ab, z ≤ x.n
 pre : ∀ x ∈ xs, ∀ z ∈ x.ab, ZX xs z = true
 tr : ∀ x ∈ xs, ∀ z ∈ x.ab, ∀ u ∈ Xe xs z, u ∈ x.ab
theorem VD : ∀ {l m : List Int}, l.Nodup → (∀ z ∈ l, z ∈ m) → l.length ≤ m.length
 | [], _, _, _ => Nat.zero_le _
 | x :: t, m, h, hs => by
  have hp := List.nodup_cons.1 h
  have h1 := List.perm_cons_erase (hs x (List.mem_cons_self ..))
  have h2 : t.length ≤ (m.erase x).length := VD hp.2 fun z hz => by
   have h3 := h1.mem_iff.1 (hs z (List.mem_cons_of_mem _ hz))
   rcases List.mem_cons.1 h3 with rfl | h3
   ·exact absurd hz hp.1
   ·exact h3
  have h4 := h1.length_eq
  simp only [List.length_cons] at h4 ⊢
  omega
theorem GOk.len {xs : List VN} {q : Nat} (h : GOk xs q) {x : VN} (hx : x ∈ xs) : x.ab.length ≤ xs.length := by
 have h1 : x.ab.length ≤ (xs.map VN.n).length := by
  refine VD (h.asc x hx).nodup fun z hz => ?_
  obtain ⟨y, hy, hn⟩ := ZY.1 (h.pre x hx z hz)
  exact List.mem_map.2 ⟨y, hy, hn⟩
 simpa using h1
theorem GOk.nil : GOk [] 0 := ⟨⟨List.Pairwise.nil, fun _ h => (by cases h), List.nodup_nil, fun _ h => (by cases h), by simp⟩, fun _ h => (by cases h), fun _ h => (by cases h), fun _ h => (by cases h), fun _ h => (by cases h), fun _ h => (by cases h)⟩
end Go.V
namespace Go.V
open Go Go.RowKit
def XG (l : List Int) : List Int := l.mergeSort fun x y => decide (x ≤ y)
theorem Ym (l : List Int) : (XG l).Perm l := List.mergeSort_perm _ _
theorem JE (l : List Int) : (XG l).Pairwise (· ≤ ·) := by
 have h := List.pairwise_mergeSort (le := fun x y : Int => decide (x ≤ y)) (fun a b c h1 h2 => by
  simp only [decide_eq_true_eq] at h1 h2 ⊢; omega) (fun a b => by
  simp only [Bool.or_eq_true, decide_eq_true_eq]; omega) l
 exact h.imp fun h => of_decide_eq_true h
theorem JH {d : Array Int} (hs : d.toList.Pairwise (· ≤ ·)) : ∀ m, m ≤ d.size → Asc (Go.Lib.compactUpTo d m) ∧ (∀ z, z ∈ Go.Lib.compactUpTo d m ↔ ∃ j, j < m ∧ d[j]! = z)
 | 0, _ => ⟨List.Pairwise.nil, fun z => ⟨fun h => by simp [Go.Lib.compactUpTo] at h, fun ⟨j, hj, _⟩ => by omega⟩⟩
 | m + 1, hm => by
  obtain ⟨h1, h2⟩ := JH hs m (by omega)
  rw [Go.Lib.compactUpTo_succ]
  have hle : ∀ i j, i < j → j < d.size → d[i]! ≤ d[j]! := fun i j hij hj => by
   have := List.pairwise_iff_getElem.1 hs i j (by simpa using (by omega : i < d.size)) (by simpa using hj) hij
   rw [getElem!_pos d i (by omega), getElem!_pos d j hj]
   simpa using this
  by_cases hk : Go.Lib.keeps d m = true
  ·rw [if_pos hk]
   refine ⟨List.pairwise_append.2 ⟨h1, List.pairwise_singleton _ _, fun a ha b hb => ?_⟩, fun z => ?_⟩
   ·simp only [List.mem_singleton] at hb; subst hb
    obtain ⟨j, hj, rfl⟩ := (h2 a).1 ha
    have hm0 : m ≠ 0 := by omega
    have hne : d[m]! ≠ d[m - 1]! := by
     have := of_decide_eq_true hk
     exact this.resolve_left hm0
    have e1 := hle (m - 1) m (by omega) (by omega)
    have e2 : d[j]! ≤ d[m - 1]! := by
     by_cases hj2 : j = m - 1
     ·rw [hj2]; exact Int.le_refl _
     ·exact hle j (m - 1) (by omega) (by omega)
    omega
   ·rw [List.mem_append, List.mem_singleton, h2]
    constructor
    ·rintro (⟨j, hj, he⟩ | rfl)
     ·exact ⟨j, by omega, he⟩
     ·exact ⟨m, by omega, rfl⟩
    ·rintro ⟨j, hj, he⟩
     by_cases hjm : j = m
     ·subst hjm; exact .inr he.symm
     ·exact .inl ⟨j, by omega, he⟩
  ·rw [if_neg hk, List.append_nil]
   refine ⟨h1, fun z => ?_⟩
   rw [h2]
   constructor
   ·rintro ⟨j, hj, he⟩; exact ⟨j, by omega, he⟩
   ·rintro ⟨j, hj, he⟩
    by_cases hjm : j = m
    ·subst hjm
     have hk2 : ¬ (j = 0 ∨ d[j]! ≠ d[j - 1]!) := fun h => hk (decide_eq_true h)
     have hj0 : j ≠ 0 := fun h => hk2 (.inl h)
     have hj1 : d[j]! = d[j - 1]! := Classical.not_not.1 fun h => hk2 (.inr h)
     exact ⟨j - 1, by omega, by rw [← hj1]; exact he⟩
    ·exact ⟨j, by omega, he⟩
theorem CQ {l : List Int} (hs : l.Pairwise (· ≤ ·)) : Asc (Go.Lib.compact l) := (JH (d := l.toArray) (by simpa using hs) l.length (by simp)).1
theorem Vn {l : List Int} (hs : l.Pairwise (· ≤ ·)) (z : Int) : z ∈ Go.Lib.compact l ↔ z ∈ l := by
 rw [show (z ∈ Go.Lib.compact l) = (z ∈ Go.Lib.compactUpTo l.toArray l.length) from rfl, (JH (d := l.toArray) (by simpa using hs) l.length (by simp)).2 z, List.mem_iff_getElem]
 constructor
 ·rintro ⟨j, hj, he⟩
  exact ⟨j, hj, by rw [← he, getElem!_pos l.toArray j (by simpa using hj)]; simp⟩
 ·rintro ⟨j, hj, he⟩
  exact ⟨j, hj, by rw [getElem!_pos l.toArray j (by simpa using hj)]; simpa using he⟩
def Zem (l : List Int) : List Int := Go.Lib.compact (XG l)
theorem VP (l : List Int) : Asc (Zem l) := CQ (JE l)
theorem CX (l : List Int) (z : Int) : z ∈ Zem l ↔ z ∈ l := by
 unfold Zem
 rw [Vn (JE l), (Ym l).mem_iff]
theorem St.shsSub {α : Type} {f : α → List HP} {zs zs' : List α} {g w : World} {L : List HP} (h : St g (ZP f zs :: L) w) (hs : ∀ z ∈ zs', z ∈ zs) : St g (ZP f zs' :: L) w := h.impl fun _ _ hh z hz => hh z (hs z hz)
theorem VB {α : Type} {xs : List α} {v z : α} (h : z ∈ xs ++ [v]) : z ∈ v :: xs := by
 rcases List.mem_append.1 h with h | h
 ·exact List.mem_cons_of_mem _ h
 ·rw [List.mem_singleton.1 h]; exact List.mem_cons_self ..
def Xt (xs : List VN) (n : Int) (ps : List Int) : List Int := [n] ++ ps.flatMap (Xe xs)
theorem U1 {xs : List VN} {n p : Int} {ps : List Int} {k : Nat} (h : ps[k]? = some p) : Xt xs n (ps.take k) ++ Xe xs p = Xt xs n (ps.take (k + 1)) := by
 unfold Xt
 rw [List.take_add_one, h, List.flatMap_append, List.append_assoc]
 simp
theorem Zac {xs : List VN} {n : Int} (h : Zi xs n = true) : ∃ (k : Nat) (x : VN), xs[k]? = some x ∧ x.n = n ∧ x.live = true ∧ Xe xs n = x.ab := by
 cases hf : ZQ xs n with
 | none => rw [(H' hf).1] at h; cases h
 | some x =>
  obtain ⟨h1, h2⟩ := Yk hf
  obtain ⟨k, hk⟩ := List.mem_iff_getElem?.1 h1
  obtain ⟨h3, _, h4⟩ := Vg hf
  exact ⟨k, x, hk, h2, h3 ▸ h, h4⟩
theorem QE {xs : List VN} {v : VN} (hn : ∀ x ∈ xs, x.n ≠ v.n) (n : Int) : ZQ (xs ++ [v]) n = if n = v.n then some v else ZQ xs n := by
 unfold ZQ
 rw [List.find?_append]
 by_cases h : n = v.n
 ·subst h
  rw [if_pos rfl, show xs.find? (fun x => decide (x.n = v.n)) = none from Jr hn]
  simp
 ·rw [if_neg h]
  cases hf : xs.find? (fun x => decide (x.n = n)) with
  | some x => rfl
  | none =>
   simp only [Option.none_or, List.find?_cons, List.find?_nil]
   rw [decide_eq_false (fun e => h e.symm)]
theorem GOk.add {xs : List VN} {q : Nat} (h : GOk xs q) {v : VN} {ps : List Int} (hn : ∀ x ∈ xs, x.n < v.n) (hr : 1 ≤ v.n ∧ v.n ≤ 1000000000) (hb : v.born = q) (hl : xs.length < 4096)
  (ha : Asc v.ab) (hm : ∀ z, z ∈ v.ab ↔ z ∈ Xt xs v.n ps) : GOk (xs ++ [v]) (q + 1) := by
 have hne : ∀ x ∈ xs, x.n ≠ v.n := fun x hx e => by have := hn x hx; omega
 have hf := QE hne
 have hold : ∀ z ∈ ps.flatMap (Xe xs), ∃ x ∈ xs, z ∈ x.ab := fun z hz => by
  obtain ⟨p, _, hz⟩ := List.mem_flatMap.1 hz
  cases hp : ZQ xs p with
  | none => rw [(H' hp).2.2] at hz; cases hz
  | some x => rw [(Vg hp).2.2] at hz; exact ⟨x, (Yk hp).1, hz⟩
 have hm2 : ∀ z, z ∈ v.ab ↔ z = v.n ∨ z ∈ ps.flatMap (Xe xs) := fun z => by rw [hm]; simp [Xt]
 have hpre : ∀ z, ZX xs z = true → ZX (xs ++ [v]) z = true := fun z hz => by
  obtain ⟨x, hx, e⟩ := ZY.1 hz
  exact ZY.2 ⟨x, List.mem_append_left _ hx, e⟩
 have hlt : ∀ z, ZX xs z = true → z < v.n := fun z hz => by
  obtain ⟨x, hx, e⟩ := ZY.1 hz
  have := hn x hx; omega
 have hab : ∀ z, z ≠ v.n → Xe (xs ++ [v]) z = Xe xs z := fun z hz => by unfold Xe; rw [hf, if_neg hz]
 refine ⟨⟨?_, fun x hx => ?_, ?_, fun x hx => ?_, by simp; omega⟩, fun x hx => ?_, fun x hx => ?_, fun x hx z hz => ?_, fun x hx z hz => ?_, fun x hx z hz u hu => ?_⟩
 ·refine List.pairwise_append.2 ⟨h.uniq, List.pairwise_singleton _ _, fun a hax b hbx => ?_⟩
  simp only [List.mem_singleton] at hbx; subst hbx; exact hne a hax
 ·rcases List.mem_append.1 hx with hx | hx
  ·have := h.born x hx; omega
  ·simp only [List.mem_singleton] at hx; subst hx; omega
 ·rw [List.map_append, List.nodup_append]
  refine ⟨h.bnd, by simp, fun a ha b hb2 => ?_⟩
  obtain ⟨x, hx, rfl⟩ := List.mem_map.1 ha
  simp only [List.map_cons, List.map_nil, List.mem_singleton] at hb2
  have := h.born x hx; omega
 ·rcases List.mem_append.1 hx with hx | hx
  ·exact h.rng x hx
  ·simp only [List.mem_singleton] at hx; subst hx; exact hr
 ·rcases List.mem_append.1 hx with hx | hx
  ·exact h.asc x hx
  ·simp only [List.mem_singleton] at hx; subst hx; exact ha
 ·rcases List.mem_append.1 hx with hx | hx
  ·exact h.self x hx
  ·simp only [List.mem_singleton] at hx; subst hx; exact (hm2 _).2 (.inl rfl)
 ·rcases List.mem_append.1 hx with hx | hx
  ·exact h.le x hx z hz
  ·simp only [List.mem_singleton] at hx; subst hx
   rcases (hm2 z).1 hz with rfl | hz
   ·exact Int.le_refl _
   ·obtain ⟨y, hy, hzy⟩ := hold z hz
    have := h.le y hy z hzy
    have := hn y hy
    omega
 ·rcases List.mem_append.1 hx with hx | hx
  ·exact hpre z (h.pre x hx z hz)
  ·simp only [List.mem_singleton] at hx; subst hx
   rcases (hm2 z).1 hz with rfl | hz
   ·exact ZY.2 ⟨x, List.mem_append_right _ (List.mem_singleton.2 rfl), rfl⟩
   ·obtain ⟨y, hy, hzy⟩ := hold z hz
    exact hpre z (h.pre y hy z hzy)
 ·rcases List.mem_append.1 hx with hx | hx
  ·have h1 := hlt z (h.pre x hx z hz)
   rw [hab z (by omega)] at hu
   exact h.tr x hx z hz u hu
  ·simp only [List.mem_singleton] at hx; subst hx
   rcases (hm2 z).1 hz with rfl | hz
   ·unfold Xe at hu; rw [hf, if_pos rfl] at hu; exact hu
   ·obtain ⟨p, hp, hzp⟩ := List.mem_flatMap.1 hz
    cases hfp : ZQ xs p with
    | none => rw [(H' hfp).2.2] at hzp; cases hzp
    | some y =>
     rw [(Vg hfp).2.2] at hzp
     have hy := (Yk hfp).1
     have h1 := hlt z (h.pre y hy z hzp)
     rw [hab z (by omega)] at hu
     refine (hm2 u).2 (.inr (List.mem_flatMap.2 ⟨p, hp, ?_⟩))
     rw [(Vg hfp).2.2]
     exact h.tr y hy z hzp u hu
end Go.V
namespace Go.V
open Go Go.RowKit
def vw (xs : List VN) (z : Int) : Option (Bool × List Int) := (ZQ xs z).map fun x => (x.live, x.ab)
theorem Z1 (xs : List VN) (z : Int) : Zi xs z = ((vw xs z).map (·.1)).getD false := by
 unfold Zi vw; cases ZQ xs z <;> rfl
theorem YG (xs : List VN) (z : Int) : ZX xs z = (vw xs z).isSome := by
 unfold ZX vw; cases ZQ xs z <;> rfl
theorem JI (xs : List VN) (z : Int) : Xe xs z = ((vw xs z).map (·.2)).getD [] := by
 unfold Xe vw; cases ZQ xs z <;> rfl
theorem VUq.set {xs : List VN} {j : Nat} {u u' : VN} (hu : VUq xs) (hj : xs[j]? = some u) (hn : u'.n = u.n) : VUq (xs.set j u') := by
 unfold VUq at hu ⊢
 rw [← List.pairwise_map (f := VN.n) (R := fun a b => a ≠ b)] at hu ⊢
 have hl := (List.getElem?_eq_some_iff.1 hj).1
 have he := (List.getElem?_eq_some_iff.1 hj).2
 have : (xs.set j u').map VN.n = xs.map VN.n := by
  rw [List.map_set, hn]
  have h5 : (xs.map VN.n)[j]'(by simpa using hl) = u.n := by simp [he]
  rw [← h5]; exact List.set_getElem_self _
 rw [this]; exact hu
theorem VOk.rem {xs : List VN} {q : Nat} (h : VOk xs q) (j : Nat) : VOk (xs.eraseIdx j) q := by
 have hs := List.eraseIdx_sublist xs j
 exact ⟨h.uniq.sublist hs, fun x hx => h.born x (hs.subset hx), h.bnd.sublist (hs.map _), fun x hx => h.rng x (hs.subset hx), Nat.le_trans hs.length_le h.num⟩
theorem VOk.set {xs : List VN} {q j : Nat} {u u' : VN} (h : VOk xs q) (hj : xs[j]? = some u) (hn : u'.n = u.n) (hb : u'.born = u.born) : VOk (xs.set j u') q := by
 have hm := List.mem_of_getElem? hj
 have hl := (List.getElem?_eq_some_iff.1 hj).1
 have he := (List.getElem?_eq_some_iff.1 hj).2
 have hmem : ∀ x ∈ xs.set j u', x = u' ∨ x ∈ xs := fun x hx => (List.mem_or_eq_of_mem_set hx).symm
 refine ⟨h.uniq.set hj hn, fun x hx => ?_, ?_, fun x hx => ?_, by rw [List.length_set]; exact h.num⟩
 ·rcases hmem x hx with rfl | hx
  ·rw [hb]; exact h.born u hm
  ·exact h.born x hx
 ·have : (xs.set j u').map VN.born = xs.map VN.born := by
   rw [List.map_set, hb]
   have h5 : (xs.map VN.born)[j]'(by simpa using hl) = u.born := by simp [he]
   rw [← h5]; exact List.set_getElem_self _
  rw [this]; exact h.bnd
 ·rcases hmem x hx with rfl | hx
  ·rw [hn]; exact h.rng u hm
  ·exact h.rng x hx
end Go.V
namespace Go.V
open Go Go.RowKit
def Vw (xs : List VN) (z : Int) : Prop := Zi xs z = true ∨ (0 < z ∧ ∃ x y, Zi xs x = true ∧ Zi xs y = true ∧ x < y ∧ UW xs x y = z)
structure Keys (xs : List VN) (ss : List Int) : Prop where
 perm : ss.Perm (xs.map VN.n)
 asc : Asc ss
theorem Keys.le {xs : List VN} {ss : List Int} (h : Keys xs ss) : ss.Pairwise (· ≤ ·) := h.asc.imp fun h => by omega
theorem Keys.mem {xs : List VN} {ss : List Int} (h : Keys xs ss) (z : Int) : z ∈ ss ↔ ZX xs z = true := by
 rw [h.perm.mem_iff, ZY, List.mem_map]
theorem H2 {xs : List VN} (hu : VUq xs) : ∃ ss, Keys xs ss := by
 refine ⟨XG (xs.map VN.n), Ym _, ?_⟩
 have h1 : (XG (xs.map VN.n)).Nodup := (Ym _).nodup_iff.2 (List.pairwise_map.2 hu)
 exact (List.pairwise_and_iff.2 ⟨JE (xs.map VN.n), h1⟩).imp fun ⟨h, k⟩ => by omega
theorem Zan {ss : List Int} (h : Asc ss) {k : Nat} {n : Int} (hn : ss[k]? = some n) : ∀ x ∈ ss.take k, x < n := fun x hx => by
 obtain ⟨i, hi⟩ := List.mem_iff_getElem?.1 hx
 rw [List.getElem?_take] at hi
 split at hi
 ·rename_i hlt
  have h1 := (List.getElem?_eq_some_iff.1 hi).1
  have h2 := (List.getElem?_eq_some_iff.1 hn).1
  have h3 := List.pairwise_iff_getElem.1 h i k h1 h2 hlt
  rw [(List.getElem?_eq_some_iff.1 hi).2, (List.getElem?_eq_some_iff.1 hn).2] at h3
  exact h3
 ·cases hi
end Go.V
namespace Go.V
open Go Go.RowKit
structure GF (f : Int → Option (Bool × List Int)) : Prop where
 asc : ∀ z l a, f z = some (l, a) → Asc a
 self : ∀ z l a, f z = some (l, a) → z ∈ a
 le : ∀ z l a, f z = some (l, a) → ∀ u ∈ a, u ≤ z
 pre : ∀ z l a, f z = some (l, a) → ∀ u ∈ a, (f u).isSome = true
 tr : ∀ z l a, f z = some (l, a) → ∀ u ∈ a, ∀ l' a', f u = some (l', a') → ∀ t ∈ a', t ∈ a
theorem HD {xs : List VN} {z : Int} {l : Bool} {a : List Int} (h : vw xs z = some (l, a)) : ∃ x, ZQ xs z = some x ∧ x.live = l ∧ x.ab = a := by
 unfold vw at h
 cases hf : ZQ xs z with
 | none => rw [hf] at h; cases h
 | some x => rw [hf] at h; simp at h; exact ⟨x, rfl, h.1, h.2⟩
theorem Zd9 {xs : List VN} (hu : VUq xs) {x : VN} (hx : x ∈ xs) : vw xs x.n = some (x.live, x.ab) := by unfold vw; rw [DJ hx hu]; rfl
theorem GOk.gf {xs : List VN} {q : Nat} (h : GOk xs q) : GF (vw xs) := by
 refine ⟨fun z l a hz => ?_, fun z l a hz => ?_, fun z l a hz => ?_, fun z l a hz u hu => ?_, fun z l a hz u hu l' a' hu' t ht => ?_⟩
 all_goals obtain ⟨x, hx, rfl, rfl⟩ := HD hz
 all_goals obtain ⟨h1, h2⟩ := Yk hx
 ·exact h.asc x h1
 ·subst h2; exact h.self x h1
 ·subst h2; exact h.le x h1
 ·rw [← YG]; exact h.pre x h1 u hu
 ·refine h.tr x h1 u hu t ?_
  rw [JI, hu']; exact ht
def keep (N : Int → Bool) (f : Int → Option (Bool × List Int)) (z : Int) : Option (Bool × List Int) := if N z = true then (f z).map fun p => (p.1, p.2.filter N) else none
theorem Jq {N : Int → Bool} {f : Int → Option (Bool × List Int)} {z : Int} {l : Bool} {a : List Int} (h : keep N f z = some (l, a)) : N z = true ∧ ∃ a0, f z = some (l, a0) ∧ a = a0.filter N := by
 unfold keep at h
 split at h
 ·rename_i hN
  cases hf : f z with
  | none => rw [hf] at h; cases h
  | some p => rw [hf] at h; simp at h; exact ⟨hN, p.2, by rw [← h.1], h.2.symm⟩
 ·cases h
theorem GF.keep {f : Int → Option (Bool × List Int)} (h : GF f) (N : Int → Bool) : GF (keep N f) := by
 refine ⟨fun z l a hz => ?_, fun z l a hz => ?_, fun z l a hz => ?_, fun z l a hz u hu => ?_, fun z l a hz u hu l' a' hu' t ht => ?_⟩
 all_goals obtain ⟨hN, a0, h0, rfl⟩ := Jq hz
 ·exact (h.asc z l a0 h0).sublist List.filter_sublist
 ·exact List.mem_filter.2 ⟨h.self z l a0 h0, hN⟩
 ·exact fun u hu => h.le z l a0 h0 u (List.mem_filter.1 hu).1
 ·obtain ⟨h1, h2⟩ := List.mem_filter.1 hu
  have h3 := h.pre z l a0 h0 u h1
  unfold Go.V.keep
  rw [if_pos h2]
  cases hf : f u with
  | none => rw [hf] at h3; cases h3
  | some p => rfl
 ·obtain ⟨_, a1, h1, rfl⟩ := Jq hu'
  obtain ⟨h2, h3⟩ := List.mem_filter.1 ht
  exact List.mem_filter.2 ⟨h.tr z l a0 h0 u (List.mem_filter.1 hu).1 l' a1 h1 t h2, h3⟩
def dead (f : Int → Option (Bool × List Int)) (n : Int) (z : Int) : Option (Bool × List Int) := if z = n then (f z).map fun p => (false, p.2) else f z
theorem Jp {f : Int → Option (Bool × List Int)} {n z : Int} {l : Bool} {a : List Int} (h : dead f n z = some (l, a)) : ∃ l0, f z = some (l0, a) := by
 unfold dead at h
 split at h
 ·cases hf : f z with
  | none => rw [hf] at h; cases h
  | some p => rw [hf] at h; simp at h; exact ⟨p.1, by rw [← h.2]⟩
 ·exact ⟨l, h⟩
theorem X7 (f : Int → Option (Bool × List Int)) (n z : Int) : (dead f n z).isSome = (f z).isSome := by
 unfold dead; split
 ·cases f z <;> rfl
 ·rfl
theorem GF.dead {f : Int → Option (Bool × List Int)} (h : GF f) (n : Int) : GF (dead f n) := by
 refine ⟨fun z l a hz => ?_, fun z l a hz => ?_, fun z l a hz => ?_, fun z l a hz u hu => ?_, fun z l a hz u hu l' a' hu' t ht => ?_⟩
 all_goals obtain ⟨l0, h0⟩ := Jp hz
 ·exact h.asc z l0 a h0
 ·exact h.self z l0 a h0
 ·exact h.le z l0 a h0
 ·rw [X7]; exact h.pre z l0 a h0 u hu
 ·obtain ⟨l1, h1⟩ := Jp hu'
  exact h.tr z l0 a h0 u hu l1 a' h1 t ht
def RelP (xs : List VN) (n : Int) (xs2 : List VN) : Prop := ∃ (xs1 : List VN) (N : Int → Bool), (∀ z, vw xs1 z = dead (vw xs) n z) ∧ (∀ z, N z = true ↔ Vw xs1 z) ∧ ∀ z, vw xs2 z = keep N (vw xs1) z
end Go.V
namespace Go.V
open Go Go.RowKit
def X2 (ps : List Int) : Prop := ps.length ≤ 2 ∧ ∀ x y, ps = [x, y] → x ≠ y
instance (ps : List Int) : Decidable (X2 ps) := match ps with
 | [] => isTrue ⟨by simp, fun _ _ h => by cases h⟩
 | [_] => isTrue ⟨by simp, fun _ _ h => by cases h⟩
 | [x, y] => if h : x = y then isFalse (fun k => k.2 x y rfl h) else isTrue ⟨by simp, fun _ _ e => by cases e; exact h⟩
 | _ :: _ :: _ :: _ => isFalse (fun k => by have := k.1; simp at this)
theorem JA {ps : List Int} (h : X2 ps) {x y : Int} (h0 : ps[0]? = some x) (h1 : ps[1]? = some y) : x ≠ y := by
 have hl := h.1
 match ps, hl, h0, h1 with
 | [], _, h0, _ => cases h0
 | [_], _, _, h1 => cases h1
 | [u, v], _, h0, h1 => simp at h0 h1; subst h0; subst h1; exact h.2 _ _ rfl
theorem V_ {ps : List Int} (h : ¬ X2 ps) : 2 < ps.length ∨ ∃ x, ps = [x, x] := by
 match ps, h with
 | [], h => exact absurd ⟨by simp, fun _ _ h => by cases h⟩ h
 | [_], h => exact absurd ⟨by simp, fun _ _ h => by cases h⟩ h
 | [x, y], h =>
  by_cases he : x = y
  ·subst he; exact .inr ⟨x, rfl⟩
  ·exact absurd ⟨by simp, fun _ _ e => by cases e; exact he⟩ h
 | _ :: _ :: _ :: _, _ => exact .inl (by simp)
structure GI (xs : List VN) (q : Nat) (cap last : Int) : Prop where
 ok : GOk xs q
 le : ∀ x ∈ xs, x.n ≤ last
 la : 0 ≤ last
 cp : 1 ≤ cap ∧ cap ≤ 4096
def YP (xs : List VN) (cap : Int) (ps : List Int) : Int :=
 if ¬ X2 ps then 1 else if ¬ (∀ z ∈ ps, Zi xs z = true) then 4 else if cap ≤ xs.length then 2 else 0
def Hk (xs : List VN) (cap last : Int) (ps : List Int) : Int := if YP xs cap ps = 0 then last + 1 else 0
def AddP (xs : List VN) (cap last : Int) (ps : List Int) (xs2 : List VN) (last2 : Int) : Prop :=
 (YP xs cap ps ≠ 0 ∧ xs2 = xs ∧ last2 = last) ∨ (YP xs cap ps = 0 ∧ last2 = last + 1 ∧ ∃ vn : VN, xs2 = xs ++ [vn] ∧ vn.n = last + 1 ∧ vn.live = true ∧ Asc vn.ab ∧ ∀ z, z ∈ vn.ab ↔ z ∈ Xt xs (last + 1) ps)
def Zdq (xs : List VN) (n : Int) : Int := if Zi xs n = true then 0 else 4
def RelQ (xs : List VN) (n : Int) (xs2 : List VN) : Prop := (Zi xs n = true ∧ RelP xs n xs2) ∨ (Zi xs n = false ∧ xs2 = xs)
theorem JJ {xs : List VN} : ∀ {ps : List Int}, ¬ (∀ z ∈ ps, Zi xs z = true) → ∃ (i : Nat) (b : Int), ps[i]? = some b ∧ Zi xs b = false ∧ ∀ j, j < i → ∀ y, ps[j]? = some y → Zi xs y = true
 | [], h => absurd (fun _ hz => by cases hz) h
 | p :: ps, h => by
  cases hp : Zi xs p with
  | false => exact ⟨0, p, rfl, hp, fun j hj => by omega⟩
  | true =>
   obtain ⟨i, b, hi, hb, hlt⟩ := JJ (ps := ps) fun h2 => h fun z hz => by
    rcases List.mem_cons.1 hz with rfl | hz
    ·exact hp
    ·exact h2 z hz
   refine ⟨i + 1, b, by simpa using hi, hb, fun j hj y hy => ?_⟩
   cases j with
   | zero => simp at hy; subst hy; exact hp
   | succ j => exact hlt j (by omega) y (by simpa using hy)
theorem Dc {xs : List VN} {cap : Int} {ps : List Int} (h1 : X2 ps) (h2 : ∀ z ∈ ps, Zi xs z = true) (h3 : ¬ cap ≤ xs.length) : YP xs cap ps = 0 := by
 unfold YP
 rw [if_neg (fun h => h h1), if_neg (fun h => h h2), if_neg h3]
theorem Zei {xs : List VN} {v : VN} (hn : ∀ x ∈ xs, x.n ≠ v.n) (z : Int) : vw (xs ++ [v]) z = if z = v.n then some (v.live, v.ab) else vw xs z := by
 unfold vw
 rw [QE hn]
 split <;> rfl
theorem RelP.le {xs xs2 : List VN} {n last : Int} (hu : VUq xs2) (h : RelP xs n xs2) (hl : ∀ x ∈ xs, x.n ≤ last) : ∀ x ∈ xs2, x.n ≤ last := fun x hx => by
 obtain ⟨xs1, N, h1, _, h3⟩ := h
 have h4 := Zd9 hu hx
 rw [h3] at h4
 obtain ⟨_, a0, h5, _⟩ := Jq h4
 rw [h1] at h5
 obtain ⟨l0, h6⟩ := Jp h5
 obtain ⟨y, hy, _, _⟩ := HD h6
 obtain ⟨h7, h8⟩ := Yk hy
 rw [← h8]; exact hl y h7
theorem AddP.vw {xs xs2 : List VN} {cap last last2 : Int} {ps : List Int} (h : AddP xs cap last ps xs2 last2) (hl : ∀ x ∈ xs, x.n ≤ last) (h0 : YP xs cap ps = 0) : last2 = last + 1 ∧ xs2.length = xs.length + 1 ∧ ∃ ab, Asc ab ∧ (∀ z, z ∈ ab ↔ z ∈ Xt xs (last + 1) ps) ∧ ∀ z, Go.V.vw xs2 z = if z = last + 1 then some (true, ab) else Go.V.vw xs z := by
 rcases h with ⟨h, _⟩ | ⟨_, h2, v, rfl, h4, h5, h6, h7⟩
 ·exact absurd h0 h
 ·refine ⟨h2, by simp, v.ab, h6, h7, fun z => ?_⟩
  rw [Zei (fun x hx e => by have := hl x hx; omega), h4, h5]
theorem AddP.bnd {xs xs2 : List VN} {cap last last2 : Int} {ps : List Int} (h : AddP xs cap last ps xs2 last2) : last ≤ last2 ∧ last2 ≤ last + 1 := by
 rcases h with ⟨_, _, h⟩ | ⟨_, h, _⟩ <;> omega
end Go.V
namespace Go.V
open Go Go.RowKit
def KO (xs : List VN) : Prop := ∀ z, ZX xs z = true → Vw xs z
theorem KO.nil : KO [] := fun z h => by cases h
theorem YU {xs : List VN} {x y : Int} (hx : Zi xs x = true) (hy : Zi xs y = true) : UW xs x y = Hg (Xe xs x) (Xe xs y) := by rw [UW, if_pos ⟨hx, hy⟩]
theorem KO.add {xs xs2 : List VN} {cap last last2 : Int} {ps : List Int} (h : KO xs) (hl : ∀ x ∈ xs, x.n ≤ last) (ha : AddP xs cap last ps xs2 last2) : KO xs2 := by
 by_cases h0 : YP xs cap ps = 0
 ·obtain ⟨_, _, ab, _, _, hv⟩ := ha.vw hl h0
  have hlt : ∀ z, ZX xs z = true → z ≤ last := fun z hz => by
   obtain ⟨x, hx, e⟩ := ZY.1 hz
   rw [← e]; exact hl x hx
  have hlv : ∀ z, z ≠ last + 1 → Zi xs2 z = Zi xs z ∧ Xe xs2 z = Xe xs z := fun z hz => by rw [Z1, Z1, JI, JI, hv, if_neg hz]; exact ⟨rfl, rfl⟩
  intro z hz
  by_cases hn : z = last + 1
  ·subst hn; exact .inl (by rw [Z1, hv, if_pos rfl]; rfl)
  ·have hz1 : ZX xs z = true := by rw [YG, hv, if_neg hn, ← YG] at hz; exact hz
   rcases h z hz1 with h1 | ⟨h1, x, y, hx, hy, hxy, he⟩
   ·exact .inl (by rw [(hlv z hn).1]; exact h1)
   ·have nx : x ≠ last + 1 := by have := hlt x (Xm hx); omega
    have ny : y ≠ last + 1 := by have := hlt y (Xm hy); omega
    have lx : Zi xs2 x = true := by rw [(hlv x nx).1]; exact hx
    have ly : Zi xs2 y = true := by rw [(hlv y ny).1]; exact hy
    refine .inr ⟨h1, x, y, lx, ly, hxy, ?_⟩
    rw [YU lx ly, (hlv x nx).2, (hlv y ny).2, ← YU hx hy]; exact he
 ·rcases ha with ⟨_, rfl, _⟩ | ⟨h2, _⟩
  ·exact h
  ·exact absurd h2 h0
theorem DU {xs1 xs2 : List VN} {N : Int → Bool} (hG : GF (vw xs1)) (hpos : ∀ z, (vw xs1 z).isSome = true → 1 ≤ z) (hN : ∀ z, N z = true ↔ Vw xs1 z) (hv : ∀ z, vw xs2 z = keep N (vw xs1) z) :
  (∀ z, Zi xs2 z = Zi xs1 z) ∧ (∀ z, N z = true → Xe xs2 z = (Xe xs1 z).filter N) ∧ ∀ x y, x < y → Zi xs1 x = true → Zi xs1 y = true → UW xs2 x y = UW xs1 x y := by
 have hlv : ∀ z, Zi xs2 z = Zi xs1 z := fun z => by
  cases hN1 : N z with
  | true => rw [Z1, Z1, hv, keep, if_pos hN1]; cases vw xs1 z <;> rfl
  | false =>
   have h1 : Zi xs1 z = false := by
    cases hl : Zi xs1 z with
    | false => rfl
    | true => rw [(hN z).2 (.inl hl)] at hN1; cases hN1
   rw [h1, Z1, hv, keep, if_neg (by rw [hN1]; decide)]; rfl
 have hab : ∀ z, N z = true → Xe xs2 z = (Xe xs1 z).filter N := fun z h => by
  rw [JI, JI, hv, keep, if_pos h]
  cases vw xs1 z <;> rfl
 refine ⟨hlv, hab, fun x y hxy hx hy => ?_⟩
 have nx := (hN x).2 (.inl hx)
 have ny := (hN y).2 (.inl hy)
 have ax : Asc (Xe xs1 x) := by
  rw [JI]
  cases hf : vw xs1 x with
  | none => exact List.Pairwise.nil
  | some p => exact hG.asc x p.1 p.2 hf
 rw [YU (by rw [hlv]; exact hx) (by rw [hlv]; exact hy), YU hx hy, hab x nx, hab y ny]
 rcases DG (l := Xe xs1 x) (m := Xe xs1 y) ax with ⟨h1, h2⟩ | ⟨h1, h2, h3⟩
 ·rw [h1]
  exact CV fun z hz hz2 => h2 z (List.mem_filter.1 hz).1 (List.mem_filter.1 hz2).1
 ·have hp : 0 < Hg (Xe xs1 x) (Xe xs1 y) ∨ ¬ 0 < Hg (Xe xs1 x) (Xe xs1 y) := by omega
  have hNb : N (Hg (Xe xs1 x) (Xe xs1 y)) = true ∨ Hg (Xe xs1 x) (Xe xs1 y) ≤ 0 := by
   rcases hp with hp | hp
   ·exact .inl ((hN _).2 (.inr ⟨hp, x, y, hx, hy, hxy, by rw [YU hx hy]⟩))
   ·exact .inr (by omega)
  rcases hNb with hNb | hNb
  ·exact Vk (ax.sublist List.filter_sublist) (List.mem_filter.2 ⟨h1, hNb⟩) (List.mem_filter.2 ⟨h2, hNb⟩) fun z hz hz2 => h3 z (List.mem_filter.1 hz).1 (List.mem_filter.1 hz2).1
  ·exfalso
   generalize Hg (Xe xs1 x) (Xe xs1 y) = b at *
   rw [JI] at h1
   cases hf : vw xs1 x with
   | none => rw [hf] at h1; cases h1
   | some p =>
    rw [hf] at h1
    have h5 := hpos _ (hG.pre x p.1 p.2 hf _ h1)
    omega
theorem GOk.pos {xs : List VN} {q : Nat} (h : GOk xs q) (z : Int) (hz : (vw xs z).isSome = true) : 1 ≤ z := by
 rw [← YG] at hz
 obtain ⟨x, hx, e⟩ := ZY.1 hz
 rw [← e]; exact (h.rng x hx).1
theorem RelP.facts {xs xs2 : List VN} {q : Nat} {n : Int} (hG : GOk xs q) (h : RelP xs n xs2) : (∀ z, Zi xs2 z = (Zi xs z && decide (z ≠ n))) ∧ (∀ z, ZX xs2 z = true → ZX xs z = true) ∧ KO xs2 := by
 obtain ⟨xs1, N, h1, h2, h3⟩ := h
 have hG1 : GF (vw xs1) := by rw [show vw xs1 = dead (vw xs) n from funext h1]; exact hG.gf.dead n
 have hpos : ∀ z, (vw xs1 z).isSome = true → 1 ≤ z := fun z hz => by rw [h1, X7] at hz; exact hG.pos z hz
 obtain ⟨k1, k2, k3⟩ := DU hG1 hpos h2 h3
 have hlive : ∀ z, Zi xs1 z = (Zi xs z && decide (z ≠ n)) := fun z => by
  rw [Z1, Z1, h1, dead]
  by_cases hz : z = n
  ·rw [if_pos hz, decide_eq_false (fun h => h hz), Bool.and_false]
   cases vw xs z <;> rfl
  ·rw [if_neg hz, decide_eq_true hz, Bool.and_true]
 refine ⟨fun z => by rw [k1, hlive], fun z hz => ?_, fun z hz => ?_⟩
 ·rw [YG, h3] at hz
  rw [YG]
  unfold keep at hz
  split at hz
  ·cases hf : vw xs1 z with
   | none => rw [hf] at hz; cases hz
   | some p =>
    rw [← X7 (vw xs) n, ← h1, hf]; rfl
  ·cases hz
 ·rw [YG, h3] at hz
  unfold keep at hz
  split at hz
  ·rename_i hN
   rcases (h2 z).1 hN with h | ⟨h, x, y, hx, hy, hxy, he⟩
   ·exact .inl (by rw [k1]; exact h)
   ·exact .inr ⟨h, x, y, by rw [k1]; exact hx, by rw [k1]; exact hy, hxy, by rw [k3 x y hxy hx hy]; exact he⟩
  ·cases hz
theorem KO.rel {xs xs2 : List VN} {q : Nat} {n : Int} (h : KO xs) (hG : GOk xs q) (hR : RelQ xs n xs2) : KO xs2 := by
 rcases hR with ⟨_, hR⟩ | ⟨_, rfl⟩
 ·exact (hR.facts hG).2.2
 ·exact h
theorem AddP.facts {xs xs2 : List VN} {cap last last2 : Int} {ps : List Int} (hl : ∀ x ∈ xs, x.n ≤ last) (ha : AddP xs cap last ps xs2 last2) : (YP xs cap ps ≠ 0 ∧ xs2 = xs ∧ last2 = last) ∨ (YP xs cap ps = 0 ∧ last2 = last + 1 ∧ ZX xs (last + 1) = false ∧ (∀ z, Zi xs2 z = (Zi xs z || decide (z = last + 1))) ∧ (∀ z, ZX xs2 z = (ZX xs z || decide (z = last + 1))) ∧ xs2.length = xs.length + 1) := by
 by_cases h0 : YP xs cap ps = 0
 ·obtain ⟨h1, h2, ab, _, _, hv⟩ := ha.vw hl h0
  have hn : ZX xs (last + 1) = false := by
   cases hp : ZX xs (last + 1) with
   | false => rfl
   | true =>
    obtain ⟨x, hx, e⟩ := ZY.1 hp
    have := hl x hx; omega
  refine .inr ⟨h0, h1, hn, fun z => ?_, fun z => ?_, h2⟩
  ·rw [Z1, Z1, hv]
   by_cases hz : z = last + 1
   ·rw [if_pos hz, decide_eq_true hz, Bool.or_true]; rfl
   ·rw [if_neg hz, decide_eq_false hz, Bool.or_false]
  ·rw [YG, YG, hv]
   by_cases hz : z = last + 1
   ·rw [if_pos hz, decide_eq_true hz, Bool.or_true]; rfl
   ·rw [if_neg hz, decide_eq_false hz, Bool.or_false]
 ·rcases ha with h | ⟨h2, _⟩
  ·exact .inl h
  ·exact absurd h2 h0
theorem RelQ.live {xs xs2 : List VN} {q : Nat} {n : Int} (hG : GOk xs q) (h : RelQ xs n xs2) {z : Int} (hz : Zi xs2 z = true) : Zi xs z = true ∧ z ≠ n := by
 rcases h with ⟨_, h⟩ | ⟨h, rfl⟩
 ·rw [(h.facts hG).1 z] at hz
  simp only [Bool.and_eq_true, decide_eq_true_eq] at hz
  exact hz
 ·exact ⟨hz, fun e => by rw [e, h] at hz; cases hz⟩
theorem RelQ.same {xs xs2 : List VN} {n : Int} (h : RelQ xs n xs2) (hl : Zi xs n = false) : xs2 = xs := by
 rcases h with ⟨h, _⟩ | ⟨_, h⟩
 ·rw [hl] at h; cases h
 ·exact h
theorem Cj {xs : List VN} {n : Int} (h : Zdq xs n = 0) : Zi xs n = true := by
 unfold Zdq at h
 split at h
 ·assumption
 ·omega
def Gon (xs : List VN) (la : Int) (gn : List Int) : Prop := ∀ v ∈ gn, Zi xs v = false ∧ v ≤ la
theorem Gon.rel {xs xs2 : List VN} {q : Nat} {n la : Int} {gn : List Int} (h : Gon xs la gn) (hG : GOk xs q) (hR : RelQ xs n xs2) : Gon xs2 la gn := fun v hv => by
 refine ⟨?_, (h v hv).2⟩
 cases hl : Zi xs2 v with
 | false => rfl
 | true => have := (hR.live hG hl).1; rw [(h v hv).1] at this; cases this
theorem Gon.snoc {xs xs2 : List VN} {q : Nat} {n cap la : Int} {gn : List Int} (h : Gon xs la gn) (hI : GI xs q cap la) (hR : RelQ xs n xs2) (h0 : Zdq xs n = 0) : Gon xs2 la (gn ++ [n]) := fun v hv => by
 rcases List.mem_append.1 hv with hv | hv
 ·exact h.rel hI.ok hR v hv
 ·rw [List.mem_singleton.1 hv]
  refine ⟨?_, ?_⟩
  ·cases hl : Zi xs2 n with
   | false => rfl
   | true => exact absurd rfl (hR.live hI.ok hl).2
  ·obtain ⟨x, hx, e⟩ := ZY.1 (Xm (Cj h0))
   rw [← e]; exact hI.le x hx
theorem Gon.add {xs xs2 : List VN} {q : Nat} {cap la la2 : Int} {ps gn : List Int} (h : Gon xs la gn) (hI : GI xs q cap la) (hA : AddP xs cap la ps xs2 la2) : Gon xs2 la2 gn := by
 rcases hA.facts hI.le with ⟨_, rfl, rfl⟩ | ⟨_, rfl, _, h4, _⟩
 ·exact h
 ·intro v hv
  obtain ⟨h5, h6⟩ := h v hv
  refine ⟨?_, by omega⟩
  rw [h4, h5, decide_eq_false (by omega)]; rfl
structure Cg where
 rel : Bool
 ver : Int
 ps : List Int
 a : Option Addr
 c : Nat
def cgC (z : Cg) : List Value := [.bool z.rel, .int .i64 z.ver, .slice z.a (Zb z.ps).length z.c]
def enG (l : List Cg) : List (List Value) := l.map cgC
@[simp] theorem enG_len (l : List Cg) : (enG l).length = l.length := by simp [enG]
abbrev Ir (n : Int) : Prop := -9223372036854775808 ≤ n ∧ n ≤ 9223372036854775807
structure CgOk (z : Cg) : Prop where
 ver : Ir z.ver
 ps : ∀ x ∈ z.ps, Ir x
end Go.V
namespace Go.V
open Go Go.RowKit Go.Maps Go.Sort
structure KOk {α : Type} (f : α → Value × Value × Nat) (n : α → Int) (xs : List α) (q : Nat) : Prop where
 key : ∀ x ∈ xs, (f x).1 = .int .i64 (n x)
 uniq : xs.Pairwise fun x y => n x ≠ n y
 born : ∀ x ∈ xs, (f x).2.2 < q
 bnd : (xs.map fun x => (f x).2.2).Nodup
 rng : ∀ x ∈ xs, -9223372036854775808 ≤ n x ∧ n x ≤ 9223372036854775807
 num : xs.length ≤ 4096
section
variable {P : Program} {k : TypeId} {α : Type} {f : α → Value × Value × Nat} {n : α → Int}
theorem Zdi {xs : List α} (h : ∀ x ∈ xs, (f x).1 = .int .i64 (n x)) : ∀ x ∈ xs.map f, MapKept.IsKey (.int .i64) x.1 := fun x hx => by
 obtain ⟨y, hy, rfl⟩ := List.mem_map.1 hx
 rw [h y hy]; rfl
theorem Zdh {xs : List α} (h1 : ∀ x ∈ xs, (f x).1 = .int .i64 (n x)) {m : Int} (h : ∀ x ∈ xs, n x ≠ m) : J6 (.int .i64) (.int .i64 m) (xs.map f) = some none := by
 refine J8 (d := .int .i64) (k := .int .i64 m) rfl (Zdi h1) fun x hx => ?_
 obtain ⟨y, hy, rfl⟩ := List.mem_map.1 hx
 rw [h1 y hy]
 intro he
 exact h y hy (Value.int.inj he).2
theorem KOk.nil : KOk f n [] 0 := ⟨fun _ h => (by cases h), List.Pairwise.nil, fun _ h => (by cases h), List.nodup_nil, fun _ h => (by cases h), by simp⟩
theorem KOk.snoc {xs : List α} {q : Nat} (h : KOk f n xs q) {x : α} (hk : (f x).1 = .int .i64 (n x)) (hn : ∀ y ∈ xs, n y ≠ n x) (hb : (f x).2.2 = q) (hr : -9223372036854775808 ≤ n x ∧ n x ≤ 9223372036854775807) (hl : xs.length < 4096) : KOk f n (xs ++ [x]) (q + 1) := by
 refine ⟨fun y hy => ?_, ?_, fun y hy => ?_, ?_, fun y hy => ?_, by simp; omega⟩
 ·rcases List.mem_append.1 hy with hy | hy
  ·exact h.key y hy
  ·rw [List.mem_singleton.1 hy]; exact hk
 ·refine List.pairwise_append.2 ⟨h.uniq, List.pairwise_singleton _ _, fun a ha b hb' => ?_⟩
  rw [List.mem_singleton.1 hb']; exact hn a ha
 ·rcases List.mem_append.1 hy with hy | hy
  ·exact Nat.lt_succ_of_lt (h.born y hy)
  ·rw [List.mem_singleton.1 hy, hb]; exact Nat.lt_succ_self _
 ·rw [List.map_append]
  refine List.nodup_append.2 ⟨h.bnd, List.pairwise_singleton _ _, fun a ha b hb' e => ?_⟩
  rw [List.map_singleton, List.mem_singleton] at hb'
  obtain ⟨y, hy, rfl⟩ := List.mem_map.1 ha
  have := h.born y hy
  rw [e, hb', hb] at this; omega
 ·rcases List.mem_append.1 hy with hy | hy
  ·exact h.rng y hy
  ·rw [List.mem_singleton.1 hy]; exact hr
theorem KOk.erase {xs : List α} {q : Nat} (h : KOk f n xs q) (j : Nat) : KOk f n (xs.eraseIdx j) q := by
 have hs := List.eraseIdx_sublist xs j
 exact ⟨fun y hy => h.key y (hs.subset hy), h.uniq.sublist hs, fun y hy => h.born y (hs.subset hy), h.bnd.sublist (hs.map _), fun y hy => h.rng y (hs.subset hy), Nat.le_trans hs.length_le h.num⟩
end
end Go.V
namespace Go.Proofs
open Go.Shelf
def Tryz.keysA_ren : Go.Shelf.Ren := ⟨fun | 7 => 138 | 10 => 212 | n => n, fun | 23 => 222 | 26 => 3 | 3 => 236 | 28 => 233 | 0 => 0 | 27 => 232 | 33 => 107 | 4 => 4 | n => n, fun | n => n⟩
theorem Tryz.keysA : Go.Proofs.SlLaysZI.n7 Tryz.prog Tryz.keysA_ren := {
 mixed := by kernel_rfl
 f7 := ⟨Tryz.f138.name, by decide, Tryz.func138.trans (congrArg some (by kernel_rfl))⟩
 f10 := ⟨Tryz.f212.name, by decide, Tryz.func212.trans (congrArg some (by kernel_rfl))⟩
 t0 := Tryz.underlying0
 a0 := Tryz.isAgg0
 z0 := Tryz.sizeOf0
 v0 := Tryz.zeroValue0
 t4 := Tryz.underlying4
 a4 := Tryz.isAgg4
 z4 := Tryz.sizeOf4
 v4 := Tryz.zeroValue4
 t23 := Tryz.underlying222
 a23 := Tryz.isAgg222
 z23 := Tryz.sizeOf222
 v23 := Tryz.zeroValue222
 t26 := Tryz.underlying3
 a26 := Tryz.isAgg3
 z26 := Tryz.sizeOf3
 v26 := Tryz.zeroValue3
 t27 := Tryz.underlying232
 a27 := Tryz.isAgg232
 z27 := Tryz.sizeOf232
 v27 := Tryz.zeroValue232
 t28 := Tryz.underlying233
 a28 := Tryz.isAgg233
 z28 := Tryz.sizeOf233
 v28 := Tryz.zeroValue233
 t33 := Tryz.underlying107
 a33 := Tryz.isAgg107
 z33 := Tryz.sizeOf107
 v33 := Tryz.zeroValue107 }
def Tryz.sortedA_ren : Go.Shelf.Ren := ⟨fun | 6 => 137 | 8 => 210 | 9 => 211 | 11 => 284 | 13 => 263 | 12 => 285 | 23 => 314 | 24 => 315 | 14 => 325 | 15 => 326 | 16 => 327 | 17 => 328 | 18 => 329 | 19 => 330 | 20 => 331 | 21 => 332 | 22 => 333 | 25 => 353 | 26 => 342 | 27 => 343 | 28 => 354 | 29 => 355 | 30 => 356 | 31 => 379 | n => n, fun | 26 => 3 | 28 => 233 | 24 => 148 | 0 => 0 | 3 => 3 | 37 => 218 | 48 => 145 | 50 => 25 | 4 => 4 | 40 => 418 | 39 => 417 | 45 => 422 | 5 => 5 | 9 => 9 | 51 => 448 | 55 => 451 | 57 => 465 | 58 => 326 | 33 => 107 | n => n, fun | n => n⟩
theorem Tryz.sortedA : Go.Proofs.SlLaysZI.n6 Tryz.prog Tryz.sortedA_ren := {
 mixed := by kernel_rfl
 f6 := ⟨Tryz.f137.name, by decide, Tryz.func137.trans (congrArg some (by kernel_rfl))⟩
 f8 := ⟨Tryz.f210.name, by decide, Tryz.func210.trans (congrArg some (by kernel_rfl))⟩
 f11 := ⟨Tryz.f284.name, by decide, Tryz.func284.trans (congrArg some (by kernel_rfl))⟩
 t0 := Tryz.underlying0
 a0 := Tryz.isAgg0
 z0 := Tryz.sizeOf0
 v0 := Tryz.zeroValue0
 t24 := Tryz.underlying148
 a24 := Tryz.isAgg148
 z24 := Tryz.sizeOf148
 v24 := Tryz.zeroValue148
 t26 := Tryz.underlying3
 a26 := Tryz.isAgg3
 z26 := Tryz.sizeOf3
 v26 := Tryz.zeroValue3
 t28 := Tryz.underlying233
 a28 := Tryz.isAgg233
 z28 := Tryz.sizeOf233
 v28 := Tryz.zeroValue233
 i26 := by kernel_rfl }
def Tryz.sortA_ren : Go.Shelf.Ren := ⟨fun | 5 => 211 | 8 => 263 | 7 => 285 | 19 => 314 | 20 => 315 | 10 => 325 | 11 => 326 | 12 => 327 | 13 => 328 | 14 => 329 | 15 => 330 | 16 => 331 | 17 => 332 | 18 => 333 | 30 => 353 | 31 => 342 | 32 => 343 | 33 => 354 | 34 => 355 | 35 => 356 | 40 => 379 | n => n, fun | 23 => 148 | 25 => 3 | 3 => 3 | 32 => 218 | 22 => 148 | 0 => 0 | 44 => 145 | 46 => 25 | 4 => 4 | 36 => 418 | 35 => 417 | 41 => 422 | 5 => 5 | 9 => 9 | 53 => 448 | 57 => 451 | 63 => 465 | 64 => 326 | n => n, fun | n => n⟩
theorem Tryz.sortA : Go.Proofs.SlLaysM.n5 Tryz.prog Tryz.sortA_ren := {
 mixed := by kernel_rfl
 f5 := ⟨Tryz.f211.name, by decide, Tryz.func211.trans (congrArg some (by kernel_rfl))⟩
 f7 := ⟨Tryz.f285.name, by decide, Tryz.func285.trans (congrArg some (by kernel_rfl))⟩
 f8 := Tryz.func263.trans (congrArg some (by kernel_rfl))
 f10 := ⟨Tryz.f325.name, by decide, Tryz.func325.trans (congrArg some (by kernel_rfl))⟩
 f11 := ⟨Tryz.f326.name, by decide, Tryz.func326.trans (congrArg some (by kernel_rfl))⟩
 f12 := ⟨Tryz.f327.name, by decide, Tryz.func327.trans (congrArg some (by kernel_rfl))⟩
 f13 := ⟨Tryz.f328.name, by decide, Tryz.func328.trans (congrArg some (by kernel_rfl))⟩
 f14 := ⟨Tryz.f329.name, by decide, Tryz.func329.trans (congrArg some (by kernel_rfl))⟩
 f15 := ⟨Tryz.f330.name, by decide, Tryz.func330.trans (congrArg some (by kernel_rfl))⟩
 f16 := ⟨Tryz.f331.name, by decide, Tryz.func331.trans (congrArg some (by kernel_rfl))⟩
 f17 := ⟨Tryz.f332.name, by decide, Tryz.func332.trans (congrArg some (by kernel_rfl))⟩
 f18 := ⟨Tryz.f333.name, by decide, Tryz.func333.trans (congrArg some (by kernel_rfl))⟩
 f19 := Tryz.func314.trans (congrArg some (by kernel_rfl))
 f20 := Tryz.func315.trans (congrArg some (by kernel_rfl))
 f30 := ⟨Tryz.f353.name, by decide, Tryz.func353.trans (congrArg some (by kernel_rfl))⟩
 f31 := Tryz.func342.trans (congrArg some (by kernel_rfl))
 f32 := Tryz.func343.trans (congrArg some (by kernel_rfl))
 f33 := ⟨Tryz.f354.name, by decide, Tryz.func354.trans (congrArg some (by kernel_rfl))⟩
 f34 := ⟨Tryz.f355.name, by decide, Tryz.func355.trans (congrArg some (by kernel_rfl))⟩
 f35 := ⟨Tryz.f356.name, by decide, Tryz.func356.trans (congrArg some (by kernel_rfl))⟩
 f40 := ⟨Tryz.f379.name, by decide, Tryz.func379.trans (congrArg some (by kernel_rfl))⟩
 t0 := Tryz.underlying0
 a0 := Tryz.isAgg0
 z0 := Tryz.sizeOf0
 v0 := Tryz.zeroValue0
 t3 := Tryz.underlying3
 a3 := Tryz.isAgg3
 z3 := Tryz.sizeOf3
 v3 := Tryz.zeroValue3
 t4 := Tryz.underlying4
 a4 := Tryz.isAgg4
 z4 := Tryz.sizeOf4
 v4 := Tryz.zeroValue4
 t5 := Tryz.underlying5
 a5 := Tryz.isAgg5
 z5 := Tryz.sizeOf5
 v5 := Tryz.zeroValue5
 t9 := Tryz.underlying9
 a9 := Tryz.isAgg9
 z9 := Tryz.sizeOf9
 v9 := Tryz.zeroValue9
 t22 := Tryz.underlying148
 a22 := Tryz.isAgg148
 z22 := Tryz.sizeOf148
 v22 := Tryz.zeroValue148
 t23 := Tryz.underlying148
 a23 := Tryz.isAgg148
 z23 := Tryz.sizeOf148
 v23 := Tryz.zeroValue148
 t25 := Tryz.underlying3
 a25 := Tryz.isAgg3
 z25 := Tryz.sizeOf3
 v25 := Tryz.zeroValue3
 t32 := Tryz.underlying218
 a32 := Tryz.isAgg218
 z32 := Tryz.sizeOf218
 v32 := Tryz.zeroValue218
 t35 := Tryz.underlying417
 a35 := Tryz.isAgg417
 z35 := Tryz.sizeOf417
 v35 := Tryz.zeroValue417
 t36 := Tryz.underlying418
 a36 := Tryz.isAgg418
 z36 := Tryz.sizeOf418
 v36 := Tryz.zeroValue418
 t41 := Tryz.underlying422
 a41 := Tryz.isAgg422
 z41 := Tryz.sizeOf422
 v41 := Tryz.zeroValue422
 t44 := Tryz.underlying145
 a44 := Tryz.isAgg145
 z44 := Tryz.sizeOf145
 v44 := Tryz.zeroValue145
 t46 := Tryz.underlying25
 a46 := Tryz.isAgg25
 z46 := Tryz.sizeOf25
 v46 := Tryz.zeroValue25
 t53 := Tryz.underlying448
 a53 := Tryz.isAgg448
 z53 := Tryz.sizeOf448
 v53 := Tryz.zeroValue448
 t57 := Tryz.underlying451
 a57 := Tryz.isAgg451
 z57 := Tryz.sizeOf451
 v57 := Tryz.zeroValue451
 t63 := Tryz.underlying465
 a63 := Tryz.isAgg465
 z63 := Tryz.sizeOf465
 v63 := Tryz.zeroValue465
 t64 := Tryz.underlying326
 a64 := Tryz.isAgg326
 z64 := Tryz.sizeOf326
 v64 := Tryz.zeroValue326 }
def Tryz.compactA_ren : Go.Shelf.Ren := ⟨fun | 43 => 250 | n => n, fun | 22 => 148 | 23 => 3 | 3 => 3 | 4 => 4 | 0 => 0 | n => n, fun | n => n⟩
theorem Tryz.compactA : Go.Proofs.SlLaysN.n43 Tryz.prog Tryz.compactA_ren := {
 mixed := by kernel_rfl
 f43 := ⟨Tryz.f250.name, by decide, Tryz.func250.trans (congrArg some (by kernel_rfl))⟩
 t0 := Tryz.underlying0
 a0 := Tryz.isAgg0
 z0 := Tryz.sizeOf0
 v0 := Tryz.zeroValue0
 t3 := Tryz.underlying3
 a3 := Tryz.isAgg3
 z3 := Tryz.sizeOf3
 v3 := Tryz.zeroValue3
 t4 := Tryz.underlying4
 a4 := Tryz.isAgg4
 z4 := Tryz.sizeOf4
 v4 := Tryz.zeroValue4
 t22 := Tryz.underlying148
 a22 := Tryz.isAgg148
 z22 := Tryz.sizeOf148
 v22 := Tryz.zeroValue148
 t23 := Tryz.underlying3
 a23 := Tryz.isAgg3
 z23 := Tryz.sizeOf3
 v23 := Tryz.zeroValue3
 i23 := by kernel_rfl }
end Go.Proofs
namespace Go.Proofs
open Go.RowKit Go.Maps Go.Sort Go.Shelf
theorem Tryz.sortsA (m : Nat) : AnyZI.SortsIn Tryz.prog Tryz.sortedA_ren Fence.wide m :=
 ⟨fun ZN off cap ss W hH hblk hsz => callsIn_wide.2 (AnyM.slices_Sort_int Tryz.sortA ZN off cap ss W hH hblk hsz),
 fun p cap W => callsIn_wide.2 (AnyM.slices_Sort_int_none Tryz.sortA p cap W)⟩
end Go.Proofs
namespace Go.Proofs.YtlifpobidhfbfaaGreatDoor
open Go Go.V Go.RowKit Go.Maps Go.Sort Go.Shelf
variable {g w : World} {L : List HP}
theorem Za7 (p m : Nat) (cap last : Int) (xs : List VN) (q : Nat) (k : Nat) (x : VN) (hx : xs[k]? = some x) (hu : VUq xs) (Z : St g (Zd p #[.int .i64 cap, .int .i64 last, .map (some m)] 224 :: ZN m (.map (mE (List.map vK xs)) q) :: ZP vF xs :: L) w) :
  Sp Tryz.prog 173 [.pointer (some ⟨p, 0, none⟩), .int .i64 x.n] w (fun v w' => v = .bool x.live ∧ St g (Zd p #[.int .i64 cap, .int .i64 last, .map (some m)] 224 :: ZN m (.map (mE (List.map vK xs)) q) :: ZP vF xs :: L) w') := by
 refine Sp.enter Tryz.func173 rfl (by kernel_rfl) (by kernel_rfl) ?_
 refine Ze7 <| WC.region <| Ze6 1 rfl <| Ze8 <| Ze7 <| WC.region <| Zfd 5 [.map (some m)] rfl (by exact Z.ld 0 rfl rfl) ?_
 refine Zgo rfl rfl X_ 1 Z rfl rfl rfl (by first | trivial | rfl) (r := some (k, .agg #[.bool x.live, .slice x.a (Zb x.ab).length x.c])) (v_in hx hu) rfl ?_
 refine Ze6 2 rfl <| Ze8 <| Zfa ?_
 refine ⟨[.bool x.live], rfl, ?_⟩
 exact ⟨rfl, Z⟩
theorem VE (p m : Nat) (cap last : Int) (xs : List VN) (q : Nat) (n : Int) (hn : ∀ x ∈ xs, x.n ≠ n) (Z : St g (Zd p #[.int .i64 cap, .int .i64 last, .map (some m)] 224 :: ZN m (.map (mE (List.map vK xs)) q) :: ZP vF xs :: L) w) :
  Sp Tryz.prog 173 [.pointer (some ⟨p, 0, none⟩), .int .i64 n] w (fun v w' => v = .bool false ∧ St g (Zd p #[.int .i64 cap, .int .i64 last, .map (some m)] 224 :: ZN m (.map (mE (List.map vK xs)) q) :: ZP vF xs :: L) w') := by
 refine Sp.enter Tryz.func173 rfl (by kernel_rfl) (by kernel_rfl) ?_
 refine Ze7 <| WC.region <| Ze6 1 rfl <| Ze8 <| Ze7 <| WC.region <| Zfd 5 [.map (some m)] rfl (by exact Z.ld 0 rfl rfl) ?_
 refine Zgo rfl rfl X_ 1 Z rfl rfl rfl (by first | trivial | rfl) (r := none) (Zb7 hn) rfl ?_
 refine Ze6 2 rfl <| Ze8 <| Zfa ?_
 refine ⟨[.bool false], rfl, ?_⟩
 exact ⟨rfl, Z⟩
theorem Jl (p m : Nat) (cap last : Int) (xs : List VN) (q : Nat) (n : Int) (hu : VUq xs) (Z : St g (Zd p #[.int .i64 cap, .int .i64 last, .map (some m)] 224 :: ZN m (.map (mE (List.map vK xs)) q) :: ZP vF xs :: L) w) :
  Sp Tryz.prog 173 [.pointer (some ⟨p, 0, none⟩), .int .i64 n] w (fun v w' => v = .bool (Zi xs n) ∧ St g (Zd p #[.int .i64 cap, .int .i64 last, .map (some m)] 224 :: ZN m (.map (mE (List.map vK xs)) q) :: ZP vF xs :: L) w') := by
 rcases VZ xs n with ⟨k, x, hx, rfl⟩ | hn
 ·rw [(Vg (UR hx hu)).1]; exact Za7 p m cap last xs q k x hx hu Z
 ·rw [(H' (Jr hn)).1]; exact VE p m cap last xs q n hn Z
theorem DH (m : Nat) (Z : St g (L) w) :
  Sp Tryz.prog 138 [.map (some m)] w (fun v w' => ∃ (c : Nat), v = .func (.func 212) #[] #[.pointer (some ⟨c, 0, none⟩)] ∧ St g (Zd c #[.map (some m)] 222 :: L) w') := by
 have h := callsIn_wide.1 (AnyZI.keys_in Tryz.keysA Fence.wide 5 trivial rfl (some m) w)
 refine ⟨⟨_, _, Tryz.func138, by kernel_rfl, rfl⟩, h.mono fun e w' ⟨he, hw⟩ => ⟨_, he, ?_⟩⟩
 subst hw
 exact ⟨_, rfl, Z.new _⟩
theorem Uy (m c q : Nat) (xs : List VN) (ss : List Int) (ht : VOk xs q) (hp : ss.Perm (xs.map VN.n)) (hs : ss.Pairwise (· ≤ ·)) (Z : St g (Zd c #[.map (some m)] 222 :: ZN m (.map (mE (List.map vK xs)) q) :: L) w) :
  Sp Tryz.prog 137 [.func (.func 212) #[] #[.pointer (some ⟨c, 0, none⟩)]] w (fun v w' => ∃ (a2 : Option Addr) (c2 : Nat), v = .slice a2 (Zb ss).length c2 ∧ St g (Ze 3 1 (Zb ss) a2 c2 :: Zd c #[.map (some m)] 222 :: ZN m (.map (mE (List.map vK xs)) q) :: L) w') := by
 have hc : w.cell? ⟨c, 0, none⟩ = some (.map (some m)) := Z.ld 0 rfl rfl
 have hcl : c < w.heap.size := by
  have h1 := Z.heap 0 rfl
  exact (Array.getElem?_eq_some_iff.1 h1).1
 have hm := Z.heap 1 rfl
 obtain ⟨D, hD, hsz, hk⟩ := Vs (P := Tryz.prog) (k := 3) xs q ht Tryz.underlying3 hm
 have hseq := AnyZI.keys_gives (ρ := Tryz.keysA_ren) { Tryz.keysA with } Fence.wide 2 trivial rfl (by omega) c m 4096 D w hcl hc hD
 have h := callsIn_wide.1 (AnyZI.sorted_in Tryz.sortedA Fence.wide 5 trivial trivial trivial trivial rfl (by omega) (Tryz.sortsA _) (enters_of Tryz.func211 (by kernel_rfl) rfl) 212 #[.pointer (some ⟨c, 0, none⟩)] trivial (enters_of Tryz.func212 (by kernel_rfl) rfl) _ _ (by rw [hsz]; exact Nat.le_trans ht.num (by decide)) (by rw [hsz]; have := ht.num; omega) w hseq)
 refine ⟨⟨_, _, Tryz.func137, by kernel_rfl, rfl⟩, h.mono fun e w' ⟨v, ys, he, hys, hrow, _, hb⟩ => ⟨v, he, ?_⟩⟩
 have hpp : ss.Perm ys := hp.trans (hys.trans hk).symm
 obtain ⟨a, c2, rfl, hS2⟩ := St.of_row (Zb ss) Z hb hrow (by rw [UM hpp hs, Js]) (by simpa using hpp.length_eq) (XW ss)
 exact ⟨a, c2, rfl, hS2⟩
theorem DK (p m : Nat) (cap last : Int) (xs : List VN) (q : Nat) (ss : List Int) (ht : VOk xs q) (hp : ss.Perm (xs.map VN.n)) (hs : ss.Pairwise (· ≤ ·)) (Z : St g (Zd p #[.int .i64 cap, .int .i64 last, .map (some m)] 224 :: ZN m (.map (mE (List.map vK xs)) q) :: ZP vF xs :: L) w) :
  Sp Tryz.prog 79 [.pointer (some ⟨p, 0, none⟩)] w (fun v w' => ∃ (a2 : Option Addr) (c2 : Nat), v = .slice a2 (Zb ss).length c2 ∧ St g (Ze 3 1 (Zb ss) a2 c2 :: Zd p #[.int .i64 cap, .int .i64 last, .map (some m)] 224 :: ZN m (.map (mE (List.map vK xs)) q) :: ZP vF xs :: L) w') := by
 refine Sp.enter Tryz.func79 rfl (by kernel_rfl) (by kernel_rfl) ?_
 refine Ze7 <| WC.region <| Ze6 1 rfl <| Ze8 <| Ze7 <| WC.region <| Zfd 4 [.map (some m)] rfl (by exact Z.ld 0 rfl rfl) ?_
 refine Zfb rfl rfl (DH m Z) rfl ?_
 clear Z; rintro _ w ⟨c1, rfl, Z⟩
 replace Z := Z.n4 L rfl
 refine Zfb rfl rfl (Uy _ _ q xs ss ht hp hs (Z.sel 3 [0, 1, 0] rfl)) rfl ?_
 clear Z; rintro _ w ⟨a1, c2, rfl, Z⟩
 replace Z := Z.n5 L rfl
 refine Ze6 1 rfl <| Ze8 <| Zfa ?_
 refine ⟨[.slice a1 (Zb ss).length c2], rfl, ?_⟩
 replace Z := (Z.sel 4 [0, 2, 1] rfl)
 exact ⟨_, _, rfl, Z⟩
theorem DO (ls ss : List Int) (a : Option Addr) (c : Nat) (hne : ls ≠ []) (hl : ls.length ≤ 1000000) (hp : ss.Perm ls) (hs : ss.Pairwise (· ≤ ·)) (Z : St g (Ze 3 1 (Zb ls) a c :: L) w) :
  Sp Tryz.prog 211 [.slice a (Zb ls).length c] w (fun v w' => v = .tuple #[] ∧ St g (Ze 3 1 (Zb ss) a c :: L) w') := by
 obtain ⟨b, rfl⟩ := Z.addrI 0 rfl hne
 obtain ⟨hH, hb, hcap⟩ := Z.holdsI 0 rfl
 have h := AnyM.slices_Sort_int Tryz.sortA b 0 c ls w hH hb (by omega)
 rw [← Zh ls] at h
 refine ⟨⟨_, _, Tryz.func211, by kernel_rfl, rfl⟩, h.mono fun e w' ⟨he, n, os, hw⟩ => ⟨_, he, rfl, ?_⟩⟩
 subst hw
 rw [UM hp hs]
 exact Z.putI ss hp.length_eq n os
theorem QY (ls : List Int) (a : Option Addr) (c : Nat) (hne : ls ≠ []) (hl : ls.length ≤ 1000000) (Z : St g (Ze 3 1 (Zb ls) a c :: L) w) :
  Sp Tryz.prog 250 [.slice a (Zb ls).length c] w (fun v w' => v = .slice a (Zb (Lib.compact ls)).length c ∧ St g (Ze 3 1 (Zb (Lib.compact ls)) a c :: L) w') := by
 obtain ⟨b, rfl⟩ := Z.addrI 0 rfl hne
 obtain ⟨hH, hb, hcap⟩ := Z.holdsI 0 rfl
 have h := AnyG.slices_Compact_int Tryz.compactA b 0 c ls w hH (by omega) hcap
 rw [← Zh ls] at h
 refine ⟨⟨_, _, Tryz.func250, by kernel_rfl, rfl⟩, h.mono fun e w' ⟨he, n, hw⟩ => ⟨_, he, by rw [Zh], ?_⟩⟩
 subst hw
 have hcl := UH ls
 have h2 := Z.putI (Lib.compact ls ++ List.replicate (ls.length - (Lib.compact ls).length) 0) (by simp; omega) n #[]
 rw [Zh]
 have h3 := h2.ownTake (Lib.compact ls).length
 rw [Dr, List.take_left] at h3
 simpa using h3
end Go.Proofs.YtlifpobidhfbfaaGreatDoor
namespace Go.Proofs.YtlifpobidhfbfaaGreatDoor
open Go Go.V
variable {g w : World} {L : List HP}
theorem new_ok (cap : Int) (hc : 1 ≤ cap ∧ cap ≤ 4096) (Z : St g (L) w) :
  Sp Tryz.prog 71 [.int .i64 cap] w (fun v w' => ∃ (p m : Nat), v = .tuple #[.pointer (some ⟨p, 0, none⟩), .int .i64 0] ∧ St g (Zd p #[.int .i64 cap, .int .i64 0, .map (some m)] 224 :: ZN m (.map (mE (List.map vK [])) 0) :: ZP vF [] :: L) w') := by
 refine Sp.enter Tryz.func71 rfl (by kernel_rfl) (by kernel_rfl) ?_
 refine Ze7 <| WC.region <| Ze6 2 rfl <| Ze8 <| Ze7 <| Ze7 <| WC.region <| Ze6 2 rfl <| Zgd 4 rfl (fun j => ?_)
 refine Zf4 9 rfl (Uw (dd _) (dd _)) <| Ze8 <| Zfl rfl (decide_eq_false ((by omega))) ?_
 refine Zfc <| Ze7 <| WC.region <| Ze6 1 rfl <| Zgn rfl rfl Z (fun b1 w Z => ?_)
 refine Zf7 rfl rfl (cs := [.int .i64 cap, .int .i64 0, .map (some b1)]) Zer rfl rfl <| Zf0 rfl rfl #[.int .i64 cap, .int .i64 0, .map (some b1)] Z rfl rfl (fun b2 w Z => ?_)
 refine Ze6 2 rfl <| Ze8 <| Zfa ?_
 replace Z := (Z.shsNil vF).sel 3 [1, 1, 0] rfl
 replace Z : St g (Zd b2 #[.int .i64 cap, .int .i64 0, .map (some b1)] 224 :: ZN b1 (.map (mE (List.map vK [])) 0) :: ZP vF [] :: L) w := Z
 refine ⟨[.pointer (some ⟨b2, 0, none⟩), .int .i64 0], ⟨rfl, rfl⟩, ?_⟩
 exact ⟨_, _, rfl, Z⟩
theorem Vr (p m : Nat) (cap last : Int) (xs : List VN) (q : Nat) (ps : List Int) (a : Option Addr) (c : Nat) (hl : 2 < ps.length) (Z : St g (Sh 3 1 (Zb ps) a c :: Zd p #[.int .i64 cap, .int .i64 last, .map (some m)] 224 :: ZN m (.map (mE (List.map vK xs)) q) :: ZP vF xs :: L) w) :
  Sp Tryz.prog 170 [.pointer (some ⟨p, 0, none⟩), .slice a (Zb ps).length c] w (fun v w' => v = .tuple #[.int .i64 0, .int .i64 1] ∧ St g (Sh 3 1 (Zb ps) a c :: Zd p #[.int .i64 cap, .int .i64 last, .map (some m)] 224 :: ZN m (.map (mE (List.map vK xs)) q) :: ZP vF xs :: L) w') := by
 refine Sp.enter Tryz.func170 rfl (by kernel_rfl) (by kernel_rfl) ?_
 refine Ze7 <| WC.region <| Ze6 2 rfl <| Ze8 <| Ze7 <| Ze7 <| Zfr [([0, 1, 2, 3, 4, 5, 6, 7, 8, 11, 9, 12, 10, 13, 14, 15, 16], none)] (by kernel_rfl) (by kernel_rfl) ?_
 have hpl := Zh ps
 refine Zfg 4 rfl <| Zf6 14 (.bool true) (congrArg Value.bool (decide_eq_true ((by omega)))) ?_
 refine Zfx rfl rfl rfl rfl <| Zfx rfl rfl rfl rfl <| Zfx rfl rfl rfl rfl <| Zfx rfl rfl rfl rfl <| Zgg rfl rfl rfl <| Zgg rfl rfl rfl <| Zgg rfl rfl rfl <| Zgg rfl rfl rfl <| Zgg rfl rfl rfl <| Zgg rfl rfl rfl <| Zgg rfl rfl rfl <| Zfx rfl rfl rfl rfl ?_
 refine Zfg 1 rfl <| Zfo ?_
 refine Z.dn (fun w Z => ?_)
 as_aux_lemma =>
 refine Zfs rfl rfl <| Ze7 <| WC.region <| Ze6 2 rfl <| Ze8 <| Zfa ?_
 refine ⟨[.int .i64 0, .int .i64 1], ⟨rfl, rfl⟩, ?_⟩
 exact ⟨rfl, Z⟩
theorem Vh (p m : Nat) (cap last : Int) (xs : List VN) (q : Nat) (x : Int) (a : Option Addr) (c : Nat) (Z : St g (Sh 3 1 (Zb [x, x]) a c :: Zd p #[.int .i64 cap, .int .i64 last, .map (some m)] 224 :: ZN m (.map (mE (List.map vK xs)) q) :: ZP vF xs :: L) w) :
  Sp Tryz.prog 170 [.pointer (some ⟨p, 0, none⟩), .slice a (Zb [x, x]).length c] w (fun v w' => v = .tuple #[.int .i64 0, .int .i64 1] ∧ St g (Sh 3 1 (Zb [x, x]) a c :: Zd p #[.int .i64 cap, .int .i64 last, .map (some m)] 224 :: ZN m (.map (mE (List.map vK xs)) q) :: ZP vF xs :: L) w') := by
 refine Sp.enter Tryz.func170 rfl (by kernel_rfl) (by kernel_rfl) ?_
 refine Ze7 <| WC.region <| Ze6 2 rfl <| Ze8 <| Ze7 <| Ze7 <| Zfr [([0, 1, 2, 3, 4, 5, 6, 7, 8, 11, 9, 12, 10, 13, 14, 15, 16], none)] (by kernel_rfl) (by kernel_rfl) ?_
 have hpl : (Zb [x, x]).length = 2 := rfl
 refine Zfg 4 rfl <| Zf6 14 (.bool false) (congrArg Value.bool (decide_eq_false ((by omega)))) ?_
 refine Zfk rfl rfl rfl <| Zfg 1 rfl <| Zfk rfl rfl rfl <| Zfg 1 rfl <| Zfk rfl rfl rfl <| Zfg 1 rfl <| Zfk rfl rfl rfl <| Zfg 1 rfl <| Zf6 18 (.bool true) (congrArg Value.bool (decide_eq_true ((by omega)))) ?_
 refine Zfk rfl rfl rfl <| Zfg 1 rfl <| Zfk rfl rfl rfl <| Zfg 1 rfl <| Zfk rfl rfl rfl <| Zf1 rfl rfl (i := 0) (0) el_148 rfl rfl (by omega) (by omega) (Z.rdS 0 rfl (Zg (k := 0) (x := x) rfl)).1 ?_
 refine Zfk rfl rfl rfl <| Zf1 rfl rfl (i := 1) (1) el_148 rfl rfl (by omega) (by omega) (Z.rdS 0 rfl (Zg (k := 1) (x := x) rfl)).1 ?_
 refine Zfk rfl rfl rfl <| Zfp 1 [.int .i64 x] rfl (by exact (Z.rdS 0 rfl (Zg (k := 0) (x := x) rfl)).2 0 _ rfl) ?_
 refine Zfk rfl rfl rfl <| Zfp 1 [.int .i64 x] rfl (by exact (Z.rdS 0 rfl (Zg (k := 1) (x := x) rfl)).2 0 _ rfl) ?_
 refine Zfk rfl rfl rfl <| Zfg 1 rfl <| Zfk rfl rfl rfl <| Zfg 2 rfl <| Zfo ?_
 refine Z.dn (fun w Z => ?_)
 as_aux_lemma =>
 refine Zfs rfl (decide_eq_true (rfl)) <| Ze7 <| WC.region <| Ze6 2 rfl <| Ze8 <| Zfa ?_
 refine ⟨[.int .i64 0, .int .i64 1], ⟨rfl, rfl⟩, ?_⟩
 exact ⟨rfl, Z⟩
theorem Zdn (p m : Nat) (cap last : Int) (xs : List VN) (q : Nat) (ps : List Int) (a : Option Addr) (c : Nat) (i : Nat) (b : Int) (hu : VUq xs) (hps : X2 ps) (hi : ps[i]? = some b) (hb : Zi xs b = false) (hlt : ∀ j, j < i → ∀ y, ps[j]? = some y → Zi xs y = true) (Z : St g (Sh 3 1 (Zb ps) a c :: Zd p #[.int .i64 cap, .int .i64 last, .map (some m)] 224 :: ZN m (.map (mE (List.map vK xs)) q) :: ZP vF xs :: L) w) :
  Sp Tryz.prog 170 [.pointer (some ⟨p, 0, none⟩), .slice a (Zb ps).length c] w (fun v w' => v = .tuple #[.int .i64 0, .int .i64 4] ∧ St g (Sh 3 1 (Zb ps) a c :: Zd p #[.int .i64 cap, .int .i64 last, .map (some m)] 224 :: ZN m (.map (mE (List.map vK xs)) q) :: ZP vF xs :: L) w') := by
 refine Sp.enter Tryz.func170 rfl (by kernel_rfl) (by kernel_rfl) ?_
 refine Ze7 <| WC.region ?_
 have hpl := Zh ps
 have hp2 := hps.1
 refine Ze6 2 rfl <| Ze8 <| Ze7 <| Ze7 <| Zgi [0, 1, 4, 5, 27] (fun vs w => ∃ (t27 : Bool), vs = [.pointer (some ⟨p, 0, none⟩), .slice a (Zb ps).length c, .int .i64 0, .int .i64 0, .bool t27] ∧ St g (Sh 3 1 (Zb ps) a c :: Zd p #[.int .i64 cap, .int .i64 last, .map (some m)] 224 :: ZN m (.map (mE (List.map vK xs)) q) :: ZP vF xs :: L) w ∧ (t27 = false)) ?_ ?_
 ·refine Zfr [([0, 1, 2, 3, 4, 5, 6, 7, 8, 11, 9, 12, 10, 13, 14, 15, 16], none)] (by kernel_rfl) (by kernel_rfl) ?_
  refine Zfg 4 rfl <| Zf6 14 (.bool false) (congrArg Value.bool (decide_eq_false ((by omega)))) ?_
  refine Zfk rfl rfl rfl <| Zfg 1 rfl <| Zfk rfl rfl rfl <| Zfg 1 rfl <| Zfk rfl rfl rfl <| Zfg 1 rfl <| Zfk rfl rfl rfl <| Zfg 1 rfl ?_
  by_cases cg1 : (List.length (Zb ps) : Int) = 2
  ·refine Zf6 18 (.bool true) (congrArg Value.bool (decide_eq_true cg1)) <| Zfk rfl rfl rfl <| Zfg 1 rfl <| Zfk rfl rfl rfl <| Zfg 1 rfl <| Zfk rfl rfl rfl ?_
   obtain ⟨p0, h0⟩ : ∃ u, ps[0]? = some u := ⟨_, List.getElem?_eq_getElem (by omega)⟩; obtain ⟨p1, h1⟩ : ∃ u, ps[1]? = some u := ⟨_, List.getElem?_eq_getElem (by omega)⟩
   refine Zf1 rfl rfl (i := 0) (0) el_148 rfl rfl (by omega) (by omega) (Z.rdS 0 rfl (Zg h0)).1 ?_
   refine Zfk rfl rfl rfl <| Zf1 rfl rfl (i := 1) (1) el_148 rfl rfl (by omega) (by omega) (Z.rdS 0 rfl (Zg h1)).1 ?_
   refine Zfk rfl rfl rfl <| Zfp 1 [.int .i64 p0] rfl (by exact (Z.rdS 0 rfl (Zg h0)).2 0 _ rfl) ?_
   refine Zfk rfl rfl rfl <| Zfp 1 [.int .i64 p1] rfl (by exact (Z.rdS 0 rfl (Zg h1)).2 0 _ rfl) ?_
   refine Zfk rfl rfl rfl <| Zfg 1 rfl <| Zfk rfl rfl rfl <| Zfg 2 rfl <| Zfo ?_
   refine Z.dn (fun w Z => ?_)
   exact ⟨decide (p0 = p1), rfl, Z, (decide_eq_false (JA hps h0 h1))⟩
  ·refine Zf6 18 (.bool false) (congrArg Value.bool (decide_eq_false cg1)) <| Zfx rfl rfl rfl rfl <| Zfx rfl rfl rfl rfl <| Zfx rfl rfl rfl rfl <| Zfx rfl rfl rfl rfl <| Zfx rfl rfl rfl rfl <| Zfx rfl rfl rfl rfl <| Zfx rfl rfl rfl rfl <| Zfk rfl rfl rfl <| Zfg 2 rfl <| Zfo ?_
   refine Z.dn (fun w Z => ?_)
   exact ⟨false, rfl, Z, (rfl)⟩
 clear Z; rintro _ w j ⟨t27, rfl, Z, h27⟩
 refine Zfl rfl h27 <| Zfc <| Ze7 <| Ze7 <| WC.region ?_
 have hpl := Zh ps; have hil := (List.getElem?_eq_some_iff.1 hi).1
 refine Ze6 3 rfl <| Ze8 <| Zfj <| Zft [0, 1, 28, 29, 30] (fun kM vs w => ∃ (k : Nat), vs = [.pointer (some ⟨p, 0, none⟩), .slice a (Zb ps).length c, .slice a (Zb ps).length c, .int .i64 (List.length (Zb ps) : Int), .int .i64 (k : Int)] ∧ St g (Sh 3 1 (Zb ps) a c :: Zd p #[.int .i64 cap, .int .i64 last, .map (some m)] 224 :: ZN m (.map (mE (List.map vK xs)) q) :: ZP vF xs :: L) w ∧ (k ≤ i) ∧ (ps.length - k) = kM) ((List.length ps) - 0) ⟨0, rfl, Z, (Nat.zero_le _), rfl⟩ ?_
 clear Z; rintro _ _ w j ⟨k, rfl, Z, hk, rfl⟩
 refine Ze7 <| WC.region ?_
 have hpl := Zh ps; have hil := (List.getElem?_eq_some_iff.1 hi).1
 refine Ze6 1 rfl <| Ze8 ?_
 as_aux_lemma =>
 refine Ze7 <| Zfs rfl (decide_eq_true ((by omega))) ?_
 refine Zfc <| Ze7 <| Zfj <| Ze7 <| WC.region ?_
 obtain ⟨z, hz⟩ : ∃ u, ps[k]? = some u := ⟨_, List.getElem?_eq_getElem (by omega)⟩
 refine Zfw rfl rfl (i := (k : Int)) (k) el_148 rfl rfl (by omega) (by omega) (Z.rdS 0 rfl (Zg hz)).1 ?_
 refine Zfd 2 [.int .i64 z] rfl (by exact (Z.rdS 0 rfl (Zg hz)).2 0 _ rfl) ?_
 refine Ze8 <| Ze7 <| WC.region <| Ze6 2 rfl <| Zfb rfl rfl (Jl _ _ cap last _ q z (by first | assumption | exact (GI.ok (by assumption)).uniq) (Z.sel 4 [1, 1, 1, 0] rfl)) rfl ?_
 clear Z; rintro _ w ⟨rfl, Z⟩
 replace Z := Z.n4 L rfl
 refine Ze6 1 rfl <| Ze8 <| Zgf rfl (fun cd1 => ?_) (fun cd1 => ?_)
 ·refine Ze7 <| WC.region <| Ze6 2 rfl <| Ze8 <| Zfa ?_
  refine ⟨[.int .i64 0, .int .i64 4], ⟨rfl, rfl⟩, ?_⟩
  replace Z := (Z.sel 4 [3, 0, 0, 0] rfl)
  exact ⟨rfl, Z⟩
 ·refine Zfc <| WC.region <| Ze6 1 rfl <| Zfi 38 rfl (ZF (by omega)) ?_
  refine Ze6 1 rfl <| Ze8 ?_
  exact ⟨_, by omega, k + 1, rfl, (Z.sel 4 [3, 0, 0, 0] rfl), (Nat.lt_of_le_of_ne hk (fun e => by subst e; rw [hi] at hz; cases hz; rw [hb] at cd1; cases cd1)), rfl⟩
theorem Vz (p m : Nat) (cap last : Int) (xs : List VN) (q : Nat) (ps : List Int) (a : Option Addr) (c : Nat) (hu : VUq xs) (hps : X2 ps) (hlv : ∀ z ∈ ps, Zi xs z = true) (hc : cap ≤ xs.length) (Z : St g (Sh 3 1 (Zb ps) a c :: Zd p #[.int .i64 cap, .int .i64 last, .map (some m)] 224 :: ZN m (.map (mE (List.map vK xs)) q) :: ZP vF xs :: L) w) :
  Sp Tryz.prog 170 [.pointer (some ⟨p, 0, none⟩), .slice a (Zb ps).length c] w (fun v w' => v = .tuple #[.int .i64 0, .int .i64 2] ∧ St g (Sh 3 1 (Zb ps) a c :: Zd p #[.int .i64 cap, .int .i64 last, .map (some m)] 224 :: ZN m (.map (mE (List.map vK xs)) q) :: ZP vF xs :: L) w') := by
 refine Sp.enter Tryz.func170 rfl (by kernel_rfl) (by kernel_rfl) ?_
 refine Ze7 <| WC.region ?_
 have hpl := Zh ps
 have hp2 := hps.1
 refine Ze6 2 rfl <| Ze8 <| Ze7 <| Ze7 <| Zgi [0, 1, 4, 5, 27] (fun vs w => ∃ (t27 : Bool), vs = [.pointer (some ⟨p, 0, none⟩), .slice a (Zb ps).length c, .int .i64 0, .int .i64 0, .bool t27] ∧ St g (Sh 3 1 (Zb ps) a c :: Zd p #[.int .i64 cap, .int .i64 last, .map (some m)] 224 :: ZN m (.map (mE (List.map vK xs)) q) :: ZP vF xs :: L) w ∧ (t27 = false)) ?_ ?_
 ·refine Zfr [([0, 1, 2, 3, 4, 5, 6, 7, 8, 11, 9, 12, 10, 13, 14, 15, 16], none)] (by kernel_rfl) (by kernel_rfl) ?_
  refine Zfg 4 rfl <| Zf6 14 (.bool false) (congrArg Value.bool (decide_eq_false ((by omega)))) ?_
  refine Zfk rfl rfl rfl <| Zfg 1 rfl <| Zfk rfl rfl rfl <| Zfg 1 rfl <| Zfk rfl rfl rfl <| Zfg 1 rfl <| Zfk rfl rfl rfl <| Zfg 1 rfl ?_
  by_cases cg1 : (List.length (Zb ps) : Int) = 2
  ·refine Zf6 18 (.bool true) (congrArg Value.bool (decide_eq_true cg1)) <| Zfk rfl rfl rfl <| Zfg 1 rfl <| Zfk rfl rfl rfl <| Zfg 1 rfl <| Zfk rfl rfl rfl ?_
   obtain ⟨p0, h0⟩ : ∃ u, ps[0]? = some u := ⟨_, List.getElem?_eq_getElem (by omega)⟩; obtain ⟨p1, h1⟩ : ∃ u, ps[1]? = some u := ⟨_, List.getElem?_eq_getElem (by omega)⟩
   refine Zf1 rfl rfl (i := 0) (0) el_148 rfl rfl (by omega) (by omega) (Z.rdS 0 rfl (Zg h0)).1 ?_
   refine Zfk rfl rfl rfl <| Zf1 rfl rfl (i := 1) (1) el_148 rfl rfl (by omega) (by omega) (Z.rdS 0 rfl (Zg h1)).1 ?_
   refine Zfk rfl rfl rfl <| Zfp 1 [.int .i64 p0] rfl (by exact (Z.rdS 0 rfl (Zg h0)).2 0 _ rfl) ?_
   refine Zfk rfl rfl rfl <| Zfp 1 [.int .i64 p1] rfl (by exact (Z.rdS 0 rfl (Zg h1)).2 0 _ rfl) ?_
   refine Zfk rfl rfl rfl <| Zfg 1 rfl <| Zfk rfl rfl rfl <| Zfg 2 rfl <| Zfo ?_
   refine Z.dn (fun w Z => ?_)
   exact ⟨decide (p0 = p1), rfl, Z, (decide_eq_false (JA hps h0 h1))⟩
  ·refine Zf6 18 (.bool false) (congrArg Value.bool (decide_eq_false cg1)) <| Zfx rfl rfl rfl rfl <| Zfx rfl rfl rfl rfl <| Zfx rfl rfl rfl rfl <| Zfx rfl rfl rfl rfl <| Zfx rfl rfl rfl rfl <| Zfx rfl rfl rfl rfl <| Zfx rfl rfl rfl rfl <| Zfk rfl rfl rfl <| Zfg 2 rfl <| Zfo ?_
   refine Z.dn (fun w Z => ?_)
   exact ⟨false, rfl, Z, (rfl)⟩
 clear Z; rintro _ w j ⟨t27, rfl, Z, h27⟩
 refine Zfl rfl h27 <| Zfc <| Ze7 <| Ze7 <| WC.region ?_
 have hpl := Zh ps
 refine Ze6 3 rfl <| Ze8 <| Zfj <| Zft [0, 1, 28, 29, 30] (fun kM vs w => ∃ (k : Nat), vs = [.pointer (some ⟨p, 0, none⟩), .slice a (Zb ps).length c, .slice a (Zb ps).length c, .int .i64 (List.length (Zb ps) : Int), .int .i64 (k : Int)] ∧ St g (Sh 3 1 (Zb ps) a c :: Zd p #[.int .i64 cap, .int .i64 last, .map (some m)] 224 :: ZN m (.map (mE (List.map vK xs)) q) :: ZP vF xs :: L) w ∧ (k ≤ ps.length) ∧ (ps.length - k) = kM) ((List.length ps) - 0) ⟨0, rfl, Z, (Nat.zero_le _), rfl⟩ ?_
 clear Z; rintro _ _ w j ⟨k, rfl, Z, hk, rfl⟩
 refine Ze7 <| WC.region ?_
 have hpl := Zh ps
 refine Ze6 1 rfl <| Ze8 ?_
 as_aux_lemma =>
 refine Ze7 <| Zfe rfl (fun cd1 => ?_) (fun cd1 => ?_)
 ·refine Zfc <| Ze7 <| Zfj <| Ze7 <| WC.region ?_
  obtain ⟨z, hz⟩ : ∃ u, ps[k]? = some u := ⟨_, List.getElem?_eq_getElem (by omega)⟩
  refine Zfw rfl rfl (i := (k : Int)) (k) el_148 rfl rfl (by omega) (by omega) (Z.rdS 0 rfl (Zg hz)).1 ?_
  refine Zfd 2 [.int .i64 z] rfl (by exact (Z.rdS 0 rfl (Zg hz)).2 0 _ rfl) ?_
  refine Ze8 <| Ze7 <| WC.region <| Ze6 2 rfl <| Zfb rfl rfl (Jl _ _ cap last _ q z (by first | assumption | exact (GI.ok (by assumption)).uniq) (Z.sel 4 [1, 1, 1, 0] rfl)) rfl ?_
  clear Z; rintro _ w ⟨rfl, Z⟩
  replace Z := Z.n4 L rfl
  refine Ze6 1 rfl <| Ze8 <| Zfl rfl (by rw [hlv z (List.mem_of_getElem? hz)]; rfl) ?_
  refine Zfc <| WC.region <| Ze6 1 rfl <| Zfi 38 rfl (ZF (by omega)) ?_
  refine Ze6 1 rfl <| Ze8 ?_
  exact ⟨_, by omega, k + 1, rfl, (Z.sel 4 [3, 0, 0, 0] rfl), (by omega), rfl⟩
 ·refine Zfv <| Ze7 <| Ze7 <| Zfr [([0, 5, 1, 6, 2, 7, 3, 8, 4, 9], none)] (by kernel_rfl) (by kernel_rfl) ?_
  have hms := Jy (List.map vK xs); have hms2 : (List.map vK xs).length = xs.length := List.length_map _
  refine Zfp 8 [.map (some m), .int .i64 cap] rfl (by exact ⟨Z.ld 1 rfl rfl, Z.ld 1 rfl rfl⟩) ?_
  refine Zgx rfl rfl X_ 2 Z rfl rfl <| Zfg 1 rfl <| Zfo ?_
  refine Z.dn (fun w Z => ?_)
  refine Zfs rfl (decide_eq_true ((by omega))) ?_
  refine Ze7 <| WC.region <| Ze6 2 rfl <| Ze8 <| Zfa ?_
  refine ⟨[.int .i64 0, .int .i64 2], ⟨rfl, rfl⟩, ?_⟩
  exact ⟨rfl, Z⟩
set_option maxHeartbeats 1000000 in
theorem Zdb {g w : World} {L : List HP} (p m : Nat) (cap last : Int) (xs : List VN) (q : Nat) (ps : List Int) (a : Option Addr) (c : Nat) (hG : GOk xs q) (hps : X2 ps) (hlv : ∀ z ∈ ps, Zi xs z = true) (hc : (xs.length : Int) < cap) (hc2 : cap ≤ 4096) (hla : 0 ≤ last ∧ last < 1000000000) (hlt : ∀ x ∈ xs, x.n ≤ last) (Z : St g (Sh 3 1 (Zb ps) a c :: Zd p #[.int .i64 cap, .int .i64 last, .map (some m)] 224 :: ZN m (.map (mE (List.map vK xs)) q) :: ZP vF xs :: L) w) :
  Sp Tryz.prog 170 [.pointer (some ⟨p, 0, none⟩), .slice a (Zb ps).length c] w (fun v w' => ∃ (vn : VN), v = .tuple #[.int .i64 (last + 1), .int .i64 0] ∧ St g (Sh 3 1 (Zb ps) a c :: Zd p #[.int .i64 cap, .int .i64 (last + 1), .map (some m)] 224 :: ZN m (.map (mE (List.map vK (xs ++ [vn]))) (q + 1)) :: ZP vF (xs ++ [vn]) :: L) w' ∧ (vn.n = last + 1 ∧ vn.live = true ∧ vn.born = q) ∧ (Asc vn.ab ∧ ∀ z, z ∈ vn.ab ↔ z ∈ Xt xs (last + 1) ps)) := by
 refine Sp.enter Tryz.func170 rfl (by kernel_rfl) (by kernel_rfl) ?_
 refine Ze7 <| WC.region ?_
 have hpl := Zh ps
 have hp2 := hps.1
 refine Ze6 2 rfl <| Ze8 <| Ze7 <| Ze7 <| Zgi [0, 1, 4, 5, 27] (fun vs w => ∃ (t27 : Bool), vs = [.pointer (some ⟨p, 0, none⟩), .slice a (Zb ps).length c, .int .i64 0, .int .i64 0, .bool t27] ∧ St g (Sh 3 1 (Zb ps) a c :: Zd p #[.int .i64 cap, .int .i64 last, .map (some m)] 224 :: ZN m (.map (mE (List.map vK xs)) q) :: ZP vF xs :: L) w ∧ (t27 = false)) ?_ ?_
 ·refine Zfr [([0, 1, 2, 3, 4, 5, 6, 7, 8, 11, 9, 12, 10, 13, 14, 15, 16], none)] (by kernel_rfl) (by kernel_rfl) ?_
  refine Zfg 4 rfl <| Zf6 14 (.bool false) (congrArg Value.bool (decide_eq_false ((by omega)))) ?_
  refine Zfk rfl rfl rfl <| Zfg 1 rfl <| Zfk rfl rfl rfl <| Zfg 1 rfl <| Zfk rfl rfl rfl <| Zfg 1 rfl <| Zfk rfl rfl rfl <| Zfg 1 rfl ?_
  by_cases cg1 : (List.length (Zb ps) : Int) = 2
  ·refine Zf6 18 (.bool true) (congrArg Value.bool (decide_eq_true cg1)) <| Zfk rfl rfl rfl <| Zfg 1 rfl <| Zfk rfl rfl rfl <| Zfg 1 rfl <| Zfk rfl rfl rfl ?_
   obtain ⟨p0, h0⟩ : ∃ u, ps[0]? = some u := ⟨_, List.getElem?_eq_getElem (by omega)⟩; obtain ⟨p1, h1⟩ : ∃ u, ps[1]? = some u := ⟨_, List.getElem?_eq_getElem (by omega)⟩
   refine Zf1 rfl rfl (i := 0) (0) el_148 rfl rfl (by omega) (by omega) (Z.rdS 0 rfl (Zg h0)).1 ?_
   refine Zfk rfl rfl rfl <| Zf1 rfl rfl (i := 1) (1) el_148 rfl rfl (by omega) (by omega) (Z.rdS 0 rfl (Zg h1)).1 ?_
   refine Zfk rfl rfl rfl <| Zfp 1 [.int .i64 p0] rfl (by exact (Z.rdS 0 rfl (Zg h0)).2 0 _ rfl) ?_
   refine Zfk rfl rfl rfl <| Zfp 1 [.int .i64 p1] rfl (by exact (Z.rdS 0 rfl (Zg h1)).2 0 _ rfl) ?_
   refine Zfk rfl rfl rfl <| Zfg 1 rfl <| Zfk rfl rfl rfl <| Zfg 2 rfl <| Zfo ?_
   refine Z.dn (fun w Z => ?_)
   exact ⟨decide (p0 = p1), rfl, Z, (decide_eq_false (JA hps h0 h1))⟩
  ·refine Zf6 18 (.bool false) (congrArg Value.bool (decide_eq_false cg1)) <| Zfx rfl rfl rfl rfl <| Zfx rfl rfl rfl rfl <| Zfx rfl rfl rfl rfl <| Zfx rfl rfl rfl rfl <| Zfx rfl rfl rfl rfl <| Zfx rfl rfl rfl rfl <| Zfx rfl rfl rfl rfl <| Zfk rfl rfl rfl <| Zfg 2 rfl <| Zfo ?_
   refine Z.dn (fun w Z => ?_)
   exact ⟨false, rfl, Z, (rfl)⟩
 clear Z; rintro _ w j ⟨t27, rfl, Z, h27⟩
 refine Zfl rfl h27 <| Zfc <| Ze7 <| Ze7 <| WC.region ?_
 have hu := hG.uniq
 have hpl := Zh ps
 refine Ze6 3 rfl <| Ze8 <| Zfj <| Zft [0, 1, 28, 29, 30] (fun kM vs w => ∃ (k : Nat), vs = [.pointer (some ⟨p, 0, none⟩), .slice a (Zb ps).length c, .slice a (Zb ps).length c, .int .i64 (List.length (Zb ps) : Int), .int .i64 (k : Int)] ∧ St g (Sh 3 1 (Zb ps) a c :: Zd p #[.int .i64 cap, .int .i64 last, .map (some m)] 224 :: ZN m (.map (mE (List.map vK xs)) q) :: ZP vF xs :: L) w ∧ (k ≤ ps.length) ∧ (ps.length - k) = kM) ((List.length ps) - 0) ⟨0, rfl, Z, (Nat.zero_le _), rfl⟩ ?_
 clear Z; rintro _ _ w j ⟨k, rfl, Z, hk, rfl⟩
 refine Ze7 <| WC.region ?_
 have hu := hG.uniq
 have hpl := Zh ps
 refine Ze6 1 rfl <| Ze8 ?_
 as_aux_lemma =>
 refine Ze7 <| Zfe rfl (fun cd1 => ?_) (fun cd1 => ?_)
 ·refine Zfc <| Ze7 <| Zfj <| Ze7 <| WC.region ?_
  obtain ⟨z, hz⟩ : ∃ u, ps[k]? = some u := ⟨_, List.getElem?_eq_getElem (by omega)⟩
  refine Zfw rfl rfl (i := (k : Int)) (k) el_148 rfl rfl (by omega) (by omega) (Z.rdS 0 rfl (Zg hz)).1 ?_
  refine Zfd 2 [.int .i64 z] rfl (by exact (Z.rdS 0 rfl (Zg hz)).2 0 _ rfl) ?_
  refine Ze8 <| Ze7 <| WC.region <| Ze6 2 rfl <| Zfb rfl rfl (Jl _ _ cap last _ q z (by first | assumption | exact (GI.ok (by assumption)).uniq) (Z.sel 4 [1, 1, 1, 0] rfl)) rfl ?_
  clear Z; rintro _ w ⟨rfl, Z⟩
  replace Z := Z.n4 L rfl
  refine Ze6 1 rfl <| Ze8 <| Zfl rfl (by rw [hlv z (List.mem_of_getElem? hz)]; rfl) ?_
  refine Zfc <| WC.region <| Ze6 1 rfl <| Zfi 38 rfl (ZF (by omega)) ?_
  refine Ze6 1 rfl <| Ze8 ?_
  exact ⟨_, by omega, k + 1, rfl, (Z.sel 4 [3, 0, 0, 0] rfl), (by omega), rfl⟩
 ·refine Zfv <| Ze7 <| Ze7 <| Zfr [([0, 5, 1, 6, 2, 7, 3, 8, 4, 9], none)] (by kernel_rfl) (by kernel_rfl) ?_
  have hms := Jy (List.map vK xs); have hms2 : (List.map vK xs).length = xs.length := List.length_map _
  refine Zfp 8 [.map (some m), .int .i64 cap] rfl (by exact ⟨Z.ld 1 rfl rfl, Z.ld 1 rfl rfl⟩) ?_
  refine Zgx rfl rfl X_ 2 Z rfl rfl <| Zfg 1 rfl <| Zfo ?_
  refine Z.dn (fun w Z => ?_)
  refine Zfl rfl (decide_eq_false ((by omega))) ?_
  refine Zfc <| Ze7 <| WC.region <| Zfd 5 [.int .i64 last] rfl (by exact Z.ld 1 rfl rfl) ?_
  refine Zfi 53 rfl (ZF (by omega)) ?_
  refine Ze6 2 rfl <| Zfn rfl rfl rfl 1 Z rfl rfl rfl rfl rfl rfl (fun w Z => ?_)
  replace Z := Z.n4 L (a1 := Zd p #[.int .i64 cap, .int .i64 (last + 1), .map (some m)] 224) rfl
  refine Ze8 <| Ze7 <| WC.region <| Zfd 4 [.int .i64 (last + 1)] rfl (by exact Z.ld 1 rfl rfl) ?_
  refine Zf3 rfl rfl (Zb [last + 1]) el_148 Z (by exact ⟨rfl, rfl⟩) (XW _) rfl (Nat.le_of_ble_eq_true rfl) (fun b1 w Z => ?_)
  refine Ze6 1 rfl <| Ze8 ?_
  as_aux_lemma =>
  refine Ze7 <| Ze7 <| WC.region <| Ze6 3 rfl <| Ze8 <| Zfj <| Zft [0, 8, 61, 62, 63] (fun kM vs w => ∃ (k : Nat) (acc : List Int) (u : Option Addr) (d : Nat), vs = [.pointer (some ⟨p, 0, none⟩), .slice u (Zb acc).length d, .slice a (Zb ps).length c, .int .i64 (List.length (Zb ps) : Int), .int .i64 (k : Int)] ∧ St g (Ze 3 1 (Zb acc) u d :: Sh 3 1 (Zb ps) a c :: Zd p #[.int .i64 cap, .int .i64 (last + 1), .map (some m)] 224 :: ZN m (.map (mE (List.map vK xs)) q) :: ZP vF xs :: L) w ∧ (k ≤ ps.length) ∧ (acc = Xt xs (last + 1) (List.take k ps)) ∧ (acc.length ≤ 1 + 4096 * k) ∧ (ps.length - k) = kM) ((List.length ps) - 0) ⟨0, [last + 1], some ⟨b1, 0, none⟩, 1, rfl, Z, (Nat.zero_le _), (rfl), (Nat.le_refl _), rfl⟩ ?_
  clear Z; rintro _ _ w j ⟨k, acc, u, d, rfl, Z, hk, ha, hal, rfl⟩
  refine Ze7 <| WC.region <| Ze6 1 rfl <| Ze8 <| Ze7 <| Zfe rfl (fun cd2 => ?_) (fun cd2 => ?_)
  ·refine Zfc <| Ze7 <| Zfj <| Ze7 <| WC.region ?_
   obtain ⟨z, hz⟩ : ∃ u, ps[k]? = some u := ⟨_, List.getElem?_eq_getElem (by omega)⟩; obtain ⟨j, x, hx, hn, _, habx⟩ := Zac (hlv z (List.mem_of_getElem? hz)); have hxl := hG.len (List.mem_of_getElem? hx); have hnum := hG.num; have hacl := Zh acc; have hxal := Zh x.ab
   refine Zfw rfl rfl (i := (k : Int)) (k) el_148 rfl rfl (by omega) (by omega) (Z.rdS 1 rfl (Zg hz)).1 ?_
   refine Zfd 2 [.int .i64 z] rfl (by exact (Z.rdS 1 rfl (Zg hz)).2 0 _ rfl) ?_
   refine Ze8 <| WC.region ?_
   replace Z : St g (Sh 3 1 (Zb x.ab) x.a x.c :: Ze 3 1 (Zb acc) u d :: Sh 3 1 (Zb ps) a c :: Zd p #[.int .i64 cap, .int .i64 (last + 1), .map (some m)] 224 :: ZN m (.map (mE (List.map vK xs)) q) :: ZP vF xs :: L) w := Z.shsGet 4 rfl (List.mem_of_getElem? hx)
   refine Zfd 6 [.map (some m)] rfl (by exact Z.ld 3 rfl rfl) ?_
   refine Zgo rfl rfl X_ 4 Z rfl rfl rfl (by first | trivial | rfl) (r := some (j, .agg #[.bool x.live, .slice x.a (Zb x.ab).length x.c])) (hn ▸ v_in hx hG.uniq) rfl ?_
   refine Ze6 1 rfl <| Zfz rfl rfl 1 (Zb (acc ++ x.ab)) el_148 Z rfl (Z.srcS 0 rfl) (JT _ _).symm (Rm.of (by first | omega | (simp <;> omega)) (by decide)) rfl rfl (fun a1 c1 w Z => ?_)
   replace Z := Z.n6 L (a0 := Sh 3 1 (Zb x.ab) x.a x.c) (a1 := Ze 3 1 (Zb (acc ++ x.ab)) a1 c1) rfl
   refine Ze6 1 rfl <| Ze8 ?_
   as_aux_lemma =>
   refine WC.region <| Ze6 1 rfl <| Zfi 76 rfl (ZF (by omega)) ?_
   refine Ze6 1 rfl <| Ze8 ?_
   exact ⟨_, by omega, k + 1, acc ++ x.ab, a1, c1, rfl, (Z.sel 1 [] rfl), (by omega), (by rw [ha, ← habx]; exact U1 hz), (by rw [List.length_append]; omega), rfl⟩
  ·refine Zfv <| Ze7 <| WC.region <| Ze6 1 rfl <| Zfb rfl rfl (DO _ (XG acc) _ _ (by rw [ha]; simp [Xt]) (by omega) (Ym acc) (JE acc) Z) rfl ?_
   clear Z; rintro _ w ⟨rfl, Z⟩
   replace Z := Z.n5 L rfl
   refine Ze8 <| Ze7 <| Zfr [([0, 4, 8, 1, 5, 2, 6, 3, 7], some (9, [0, 1, 2, 3, 4, 5, 6, 7])), ([], some (10, [0, 1, 2, 3, 4, 5, 6, 7])), ([], some (11, []))] (by kernel_rfl) (by kernel_rfl) ?_
   refine Zf6 8 (.slice u (Zb (XG acc)).length d) (congrArg (fun m => Value.slice u m d) (by rw [Zh, Zh]; exact (Ym acc).length_eq.symm)) ?_
   refine Zfp 9 [.map (some m), .int .i64 (last + 1)] rfl (by exact ⟨Z.ld 2 rfl rfl, Z.ld 2 rfl rfl⟩) ?_
   refine WQ.dn Z (fun w Z => ?_)
   refine Zfb rfl rfl (QY (XG acc) _ _ (fun e => by have h9 := (Ym acc).length_eq; rw [e, ha] at h9; simp [Xt] at h9) (by rw [(Ym acc).length_eq]; omega) Z) rfl ?_
   clear Z; rintro _ w ⟨rfl, Z⟩
   replace Z := Z.n5 L rfl
   refine Ze8 ?_
   refine ⟨by exact ⟨Zff rfl rfl rfl rfl, Zff rfl rfl rfl rfl, Zff rfl rfl rfl rfl, Zfq rfl rfl rfl rfl (Z.ld 2 rfl rfl), Zff rfl rfl rfl rfl, Zff rfl rfl rfl rfl, Zff rfl rfl rfl rfl, Zfq rfl rfl rfl rfl (Z.ld 2 rfl rfl)⟩, ?_⟩
   refine WQ.dn Z (fun w Z => ?_)
   refine Zf7 rfl rfl (cs := [.bool true, .slice u (List.length (Zb (Lib.compact (XG acc)))) d]) Zcw rfl rfl <| Ze8 ?_
   refine ⟨by exact ⟨Zff rfl rfl rfl rfl, Zff rfl rfl rfl rfl, Zff rfl rfl rfl rfl, Zfq rfl rfl rfl rfl (Z.ld 2 rfl rfl), Zff rfl rfl rfl rfl, Zff rfl rfl rfl rfl, Zff rfl rfl rfl rfl, Zfq rfl rfl rfl rfl (Z.ld 2 rfl rfl)⟩, ?_⟩
   refine WQ.dn Z (fun w Z => ?_)
   refine Zgw rfl rfl rfl X_ 3 Z rfl rfl rfl rfl (by first | trivial | rfl) (Zb7 (fun x hx e => by have h9 := hlt x hx; omega)) (fun w Z => ?_)
   replace Z := Z.n5 L (a3 := ZN m (.map (mE ((List.map vK xs) ++ [⟨.int .i64 (last + 1), .agg #[.bool true, .slice u (List.length (Zb (Lib.compact (XG acc)))) d], q⟩])) (q + 1))) rfl
   refine Ze8 ?_
   refine ⟨by exact trivial, ?_⟩
   refine Z.dn (fun w Z => ?_)
   as_aux_lemma =>
   refine Ze7 <| WC.region <| Zfd 6 [.int .i64 (last + 1)] rfl (by exact Z.ld 2 rfl rfl) ?_
   refine Ze8 <| Zfa ?_
   have hm : List.map vK xs ++ [(.int .i64 (last + 1), .agg #[.bool true, .slice u (Zb (Lib.compact (XG acc))).length d], q)] = List.map vK (xs ++ [(VN.mk (last + 1) true (Lib.compact (XG acc)) u d q)]) := by simp [vK, vV]
   rw [hm] at Z
   replace Z := (St.shsSub (zs' := xs ++ [(VN.mk (last + 1) true (Lib.compact (XG acc)) u d q)]) (St.shsCons (Z.share.sel 5 [4, 0, 0, 0, 0] rfl) (z := (VN.mk (last + 1) true (Lib.compact (XG acc)) u d q)) (vF_sh _) [0] rfl) (fun z hz => VB hz)).sel 5 [2, 2, 2, 0] rfl
   replace Z := Z.n4 L (a2 := ZN m (.map (mE (List.map vK (xs ++ [VN.mk (last + 1) true (Lib.compact (XG acc)) u d q]))) (q + 1))) (a3 := ZP vF (xs ++ [VN.mk (last + 1) true (Lib.compact (XG acc)) u d q])) rfl
   refine ⟨[.int .i64 (last + 1), .int .i64 0], ⟨rfl, rfl⟩, ?_⟩
   exact ⟨_, rfl, Z, ⟨rfl, rfl, rfl⟩, VP acc, fun z => by
   have h9 := CX acc z
   rw [ha, List.take_of_length_le (by omega)] at h9
   rw [ha, List.take_of_length_le (by omega)]; exact h9⟩
end Go.Proofs.YtlifpobidhfbfaaGreatDoor
namespace Go.Proofs.YtlifpobidhfbfaaGreatDoor
open Go Go.V Go.RowKit
variable {g w : World} {L : List HP}
theorem CH (p m : Nat) (cap last : Int) (xs : List VN) (q : Nat) (ps : List Int) (a : Option Addr) (c : Nat) (hI : GI xs q cap last) (hla : last < 1000000000) (Z : St g (Sh 3 1 (Zb ps) a c :: Zd p #[.int .i64 cap, .int .i64 last, .map (some m)] 224 :: ZN m (.map (mE (List.map vK xs)) q) :: ZP vF xs :: L) w) :
  Sp Tryz.prog 170 [.pointer (some ⟨p, 0, none⟩), .slice a (Zb ps).length c] w (fun v w' => ∃ (xs2 : List VN) (q2 : Nat) (last2 : Int), v = .tuple #[.int .i64 (Hk xs cap last ps), .int .i64 (YP xs cap ps)] ∧ St g (Sh 3 1 (Zb ps) a c :: Zd p #[.int .i64 cap, .int .i64 last2, .map (some m)] 224 :: ZN m (.map (mE (List.map vK xs2)) q2) :: ZP vF xs2 :: L) w' ∧ (GI xs2 q2 cap last2) ∧ (AddP xs cap last ps xs2 last2)) := by
 by_cases h1 : X2 ps
 ·by_cases h2 : ∀ z ∈ ps, Zi xs z = true
  ·by_cases h3 : cap ≤ xs.length
   ·have he : YP xs cap ps = 2 := by unfold YP; rw [if_neg (fun h => h h1), if_neg (fun h => h h2), if_pos h3]
    rw [Hk, he, if_neg (by decide)]
    exact (Vz p m cap last xs q ps a c hI.ok.uniq h1 h2 h3 Z).mono fun v w' ⟨hv, hS'⟩ => ⟨xs, q, last, hv, hS', hI, .inl ⟨by rw [he]; decide, rfl, rfl⟩⟩
   ·have he : YP xs cap ps = 0 := Dc h1 h2 h3
    rw [Hk, he, if_pos rfl]
    have hcp := hI.cp
    refine (Zdb p m cap last xs q ps a c hI.ok h1 h2 (by omega) (by omega) ⟨hI.la, hla⟩ hI.le Z).mono fun v w' ⟨vn, hv, hS', ⟨e1, e2, e3⟩, e4, e5⟩ => ⟨xs ++ [vn], q + 1, last + 1, hv, hS', ⟨?_, fun x hx => ?_, by have := hI.la; omega, hcp⟩, .inr ⟨he, rfl, vn, rfl, e1, e2, e4, e5⟩⟩
    ·have hla0 := hI.la
     exact hI.ok.add (ps := ps) (fun x hx => by have := hI.le x hx; omega) (by omega) e3 (by omega) e4 (by rw [e1]; exact e5)
    ·rcases List.mem_append.1 hx with hx | hx
     ·have := hI.le x hx; omega
     ·rw [List.mem_singleton.1 hx, e1]; exact Int.le_refl _
  ·have he : YP xs cap ps = 4 := by unfold YP; rw [if_neg (fun h => h h1), if_pos h2]
   rw [Hk, he, if_neg (by decide)]
   obtain ⟨i, b, hi, hb, hlt⟩ := JJ h2
   exact (Zdn p m cap last xs q ps a c i b hI.ok.uniq h1 hi hb hlt Z).mono fun v w' ⟨hv, hS'⟩ => ⟨xs, q, last, hv, hS', hI, .inl ⟨by rw [he]; decide, rfl, rfl⟩⟩
 ·have he : YP xs cap ps = 1 := by unfold YP; rw [if_pos h1]
  rw [Hk, he, if_neg (by decide)]
  rcases V_ h1 with h2 | ⟨x, rfl⟩
  ·exact (Vr p m cap last xs q ps a c h2 Z).mono fun v w' ⟨hv, hS'⟩ => ⟨xs, q, last, hv, hS', hI, .inl ⟨by rw [he]; decide, rfl, rfl⟩⟩
  ·exact (Vh p m cap last xs q x a c Z).mono fun v w' ⟨hv, hS'⟩ => ⟨xs, q, last, hv, hS', hI, .inl ⟨by rw [he]; decide, rfl, rfl⟩⟩
end Go.Proofs.YtlifpobidhfbfaaGreatDoor
namespace Go.V
open Go Go.RowKit
def ExB {α : Type} (f : α → List HP) : HP := ⟨fun o r => ∃ x, All (f x) o r, fun _ _ _ _ ho hr ⟨x, h⟩ => ⟨x, All.mono (f x) ho hr h⟩⟩
section
variable {α : Type} {g w : World} {L : List HP}
theorem St.exOpen {f : α → List HP} (h : St g (ExB f :: L) w) : ∃ x, St g (f x ++ L) w := by
 obtain ⟨o, r, a, b, c, d, o1, o2, h1, h2, hd, ⟨x, hh⟩, hL⟩ := h.own
 exact ⟨x, h.os, h.tape, h.output, h.size, o, r, a, b, c, d, All.cat (f x) L h1 h2 hd hh hL⟩
theorem St.exClose {f : α → List HP} (x : α) (h : St g (f x ++ L) w) : St g (ExB f :: L) w := by
 obtain ⟨o, r, a, b, c, d, e⟩ := h.own
 obtain ⟨o1, o2, h1, h2, hd, hM, hL⟩ := All.app (f x) L e
 exact ⟨h.os, h.tape, h.output, h.size, o, r, a, b, c, d, o1, o2, h1, h2, hd, ⟨x, hM⟩, hL⟩
end
def Zj (l : List Int) : List (List Value) := l.map fun x => [.int .u32 x]
@[simp] theorem ZB (l : List Int) : (Zj l).length = l.length := by simp [Zj]
theorem Z' {l : List Int} {k : Nat} {x : Int} (h : l[k]? = some x) : (Zj l)[k]? = some [.int .u32 x] := by simp [Zj, h]
theorem DT (l : List Int) (k : Nat) : (Zj l).take k = Zj (l.take k) := by simp [Zj]
theorem UY (l : List Int) (k : Nat) (x : Int) : (Zj l).set k [.int .u32 x] = Zj (l.set k x) := by simp [Zj, List.map_set]
theorem JX (n : Nat) : List.replicate n [.int .u32 0] = Zj (List.replicate n 0) := by simp [Zj]
def YQ (l : List Bool) : List (List Value) := l.map fun x => [.bool x]
@[simp] theorem XD (l : List Bool) : (YQ l).length = l.length := by simp [YQ]
theorem Q7 {l : List Bool} {k : Nat} {x : Bool} (h : l[k]? = some x) : (YQ l)[k]? = some [.bool x] := by simp [YQ, h]
theorem Zbg (l : List Bool) (k : Nat) (x : Bool) : (YQ l).set k [.bool x] = YQ (l.set k x) := by simp [YQ, List.map_set]
theorem Dl (n : Nat) : List.replicate n [.bool false] = YQ (List.replicate n false) := by simp [YQ]
theorem UT (n : Nat) : List.replicate n [.int .i64 0] = Zb (List.replicate n 0) := by simp [Zb]
structure Nd where
 key : Int
 val : Int
 lf : Int
 rg : Int
 size : Int
 sum : Int
 mn : Int
 mx : Int
def Nd.zero : Nd := ⟨0, 0, 0, 0, 0, 0, 0, 0⟩
def ndC (n : Nd) : List Value := [.int .i64 n.key, .int .i64 n.val, .int .u32 n.lf, .int .u32 n.rg, .int .i64 n.size, .int .i64 n.sum, .int .i64 n.mn, .int .i64 n.mx]
def nds (l : List Nd) : List (List Value) := l.map ndC
@[simp] theorem V6 (l : List Nd) : (nds l).length = l.length := by simp [nds]
theorem Df (n : Nat) : List.replicate n [.int .i64 0, .int .i64 0, .int .u32 0, .int .u32 0, .int .i64 0, .int .i64 0, .int .i64 0, .int .i64 0] = nds (List.replicate n Nd.zero) := by simp [nds, ndC, Nd.zero]
end Go.V
namespace Go.V
open Go Go.RowKit
theorem J3 : ∀ (ls : List (List Value)) (size : Nat), (∀ x ∈ ls, x.length = size) → ∀ (k : Nat) (vs : List Value), k < ls.length → vs.length = size → (ls.set k vs).flatten = ls.flatten.take (k * size) ++ vs ++ ls.flatten.drop (k * size + size)
 | [], _, _, k, _, h, _ => by simp at h
 | x :: r, size, hs, 0, vs, _, hv => by
  have hx := hs x (List.mem_cons_self ..)
  subst hx
  simp
 | x :: r, size, hs, k + 1, vs, h, hv => by
  have hx := hs x (List.mem_cons_self ..)
  have ih := J3 r size (fun y hy => hs y (List.mem_cons_of_mem _ hy)) k vs (by simpa using h) hv
  rw [List.set_cons_succ, List.flatten_cons, ih, List.flatten_cons, Nat.succ_mul]
  rw [List.take_append, List.drop_append, hx]
  rw [show k * size + size - size = k * size by omega, show k * size + size + size - size = k * size + size by omega]
  rw [List.take_of_length_le (l := x) (by omega), List.drop_of_length_le (l := x) (by omega)]
  simp
theorem Vo {cur vs : List Value} {off n : Nat} (h1 : off + vs.length ≤ n) (h2 : n ≤ cur.length) : (cur.take off ++ vs ++ cur.drop (off + vs.length)).take n = (cur.take n).take off ++ vs ++ (cur.take n).drop (off + vs.length) := by
 rw [List.take_append, List.take_append, List.length_append, List.length_take, List.take_take, List.take_take, List.drop_take]
 rw [show min off cur.length = off by omega, show min n off = off by omega, show min off n = off by omega]
 rw [List.take_of_length_le (l := vs) (by omega)]
section
variable {P : Program} {T : Tab} [hT : TabOk P T] {n : Nat} {os l : List Oper} {K : Kt} {F : Fm} {w g : World} {L : List HP} {e size c : Nat} {ls : List (List Value)} {a : Option Addr}
theorem St.setS {k b : Nat} {cs vs : List Value} {cur : Array Value} (h : St g (Ze e size ls (some ⟨b, 0, none⟩) c :: L) w) (hk : ls[k]? = some cs) (hh : w.heap[b]? = some (.cells cur e (0, 0))) (hl : vs.length = size) (hv : ∀ u ∈ vs, u.oneCell' = true) :
  k * size + size ≤ cur.size ∧ St g (Ze e size (ls.set k vs) (some ⟨b, 0, none⟩) c :: L) (w.setRow b (spl cur (k * size) vs)) := by
 have hkl : k < ls.length := (List.getElem?_eq_some_iff.1 hk).1
 have hsz : k * size + size ≤ cur.size := by
  obtain ⟨o1, r, hA, ho, hr⟩ := h.get 0 rfl
  obtain ⟨hok, hA⟩ := hA
  rcases hA with ⟨_, _, h3⟩ | ⟨b', cur', hb, h2, h3, h4, h5, h6⟩
  ·subst h3; simp at hkl
  ·cases hb
   have := ho _ _ h2
   rw [hh] at this; cases this
   rw [h5]
   calc k * size + size = (k + 1) * size := by rw [Nat.succ_mul]
    _ ≤ c * size := Nat.mul_le_mul_right _ (by omega)
 refine ⟨hsz, h.upd rfl rfl rfl (by simp [World.setRow]) fun o1 r hA hw _ _ => ?_⟩
 obtain ⟨hok, hA⟩ := hA
 rcases hA with ⟨_, _, h3⟩ | ⟨b', cur', hb, h2, h3, h4, h5, h6⟩
 ·subst h3; simp at hkl
 ·cases hb
  have := hw _ _ h2
  rw [hh] at this; cases this
  have hok' : OkE size (ls.set k vs) := fun x hx => by
   rcases List.mem_or_eq_of_mem_set hx with hx | rfl
   ·exact hok x hx
   ·exact ⟨hl, hv⟩
  have hlt : ls.length * size ≤ cur.size := by rw [h5]; exact Nat.mul_le_mul_right _ h3
  have hkn : k * size + size ≤ ls.length * size := by
   calc k * size + size = (k + 1) * size := by rw [Nat.succ_mul]
    _ ≤ ls.length * size := Nat.mul_le_mul_right _ (by omega)
  refine ⟨fun q => if q = b then some (.cells (spl cur (k * size) vs) e (0, 0)) else none, ⟨hok', .inr ⟨b, spl cur (k * size) vs, rfl, by simp, by simpa using h3, h4, ?_, ?_⟩⟩, fun q x hx => ?_, fun q hq => ?_, fun q hq hn => ?_⟩
  ·rw [← h5]; unfold spl; simp; omega
  ·rw [List.length_set]
   show (cur.toList.take (k * size) ++ vs ++ cur.toList.drop (k * size + vs.length)).take (ls.length * size) = _
   rw [Vo (by omega) (by simpa using hlt), h6, J3 ls size hok.len k vs hkl hl, hl]
  ·simp only at hx
   split at hx
   ·rename_i hq; subst hq; simp only [Option.some.injEq] at hx; subst hx
    exact setRow_heap w _ cur _ e _ (hw _ _ h2)
   ·cases hx
  ·simp only [ne_eq, ite_eq_right_iff, reduceCtorEq, imp_false, Classical.not_not] at hq
   subst hq
   exact .inl (by rw [h2]; simp)
  ·refine setRow_other w b q _ fun eq => ?_
   have : o1 q = some (.cells cur e (0, 0)) := by rw [eq]; exact h2
   rw [hn] at this; cases this
theorem Zg5 {o : Oper} {t : TypeId} {x y : Operand} {vs : Array Value} (hg : o.guard = none) (hd : o.dst = none) (ho : o.op = .store t x y) (i k : Nat) (cs : List Value) (ls' : List (List Value)) (Z : St g L w) (hi : L[i]? = some (Ze e size ls a c)) (hks : ls[k]? = some cs) (hx : ev F x = .pointer (some ⟨bo a, oo a + k * size, none⟩)) (hv : ev F y = .agg vs)
  (h1 : vs.toList.all (·.oneCell') = true) (hl : vs.size = size) (ht : Xl P t vs.size) (hls : ls.set k vs.toList = ls') (hk : ∀ w', St g (L.set i (Ze e size ls' a c)) w' → WL P n os l K F w') : WL P n os (o :: l) K F w := by
 subst hls
 obtain ⟨b, cur, rfl, hh, _⟩ := Z.ownRow i hi hks
 have hall : ∀ u ∈ vs.toList, u.oneCell' = true := fun u hu => List.all_eq_true.1 h1 u hu
 obtain ⟨hsz, hS1⟩ := (Z.at_ i hi).setS hks hh (by simpa using hl) hall
 have hS' := hS1.back i hi
 refine Zgj hg hd (fun hok => ?_) (hk _ hS')
 have e1 := Zc (F := F) hok (x := x) (by simp [ho, Op.operands])
 have e2 := Zc (F := F) hok (x := y) (by simp [ho, Op.operands])
 simp only [bo, oo, Nat.zero_add] at hx
 have hst := X3 (P := P) (t := t) (off := k * size) (v := .agg vs) ht.2.2 hh hall (by show k * size + vs.size ≤ _; omega)
 rw [show (Value.agg vs).cells.toList = vs.toList from rfl] at hst
 simp only [execOp, ho, e1, e2, hx, hv, Instr.storeAt, Instr.sureAddr, Sem.run_bind, Sem.run_pure, Result.andThen_ok, hst]
end
end Go.V
namespace Go.V
open Go Go.RowKit
structure SM where
 used : List Bool
 gen : List Int
 rel : List Int
 fresh : Int
def SM.cap (S : SM) : Int := (S.used.length : Int) - 1
def SM.free (S : SM) : Int := (S.rel.length : Int) + S.cap - S.fresh
def SM.next (S : SM) : Int := match S.rel.getLast? with
 | some i => i
 | none => S.fresh + 1
def SM.genOf (S : SM) (i : Int) : Int := (S.gen[i.toNat]?).getD 0
def SM.alloc (S : SM) : SM := ⟨S.used.set S.next.toNat true, S.gen.set S.next.toNat ((S.genOf S.next + 1) % 4294967296), S.rel.dropLast, if S.rel = [] then S.fresh + 1 else S.fresh⟩
def SM.ok (S : SM) (i : Int) : Bool := (S.used[i.toNat]?).getD false
def SM.release (S : SM) (i : Int) : SM := ⟨S.used.set i.toNat false, S.gen, S.rel ++ [i], S.fresh⟩
def SM.new (cap : Nat) : SM := ⟨List.replicate (cap + 1) false, List.replicate (cap + 1) 0, [], 0⟩
structure SOk (S : SM) : Prop where
 cap : 2 ≤ S.used.length ∧ S.used.length ≤ 65537
 gl : S.gen.length = S.used.length
 fr : 0 ≤ S.fresh ∧ S.fresh ≤ S.cap
 rm : ∀ i ∈ S.rel, 1 ≤ i ∧ i ≤ S.fresh ∧ S.ok i = false
 nd : S.rel.Nodup
 u0 : S.ok 0 = false
 hi : ∀ i : Int, S.fresh < i → S.ok i = false
 cov : ∀ i : Int, 1 ≤ i → i ≤ S.fresh → S.ok i = false → i ∈ S.rel
 gr : ∀ x ∈ S.gen, 0 ≤ x ∧ x < 4294967296
theorem SOk.le {S : SM} (h : SOk S) : S.used.length ≤ 65537 := h.cap.2
theorem SOk.gle {S : SM} (h : SOk S) : S.gen.length ≤ 65537 := by rw [h.gl]; exact h.cap.2
theorem QF : ∀ (n : Nat) (l : List Int), l.Nodup → (∀ i ∈ l, 1 ≤ i ∧ i ≤ (n : Int)) → l.length ≤ n
 | 0, l, _, h => by
  cases l with
  | nil => exact Nat.le_refl _
  | cons x t => have := h x (List.mem_cons_self ..); omega
 | n + 1, l, hd, h => by
  have h1 : (l.erase ((n : Int) + 1)).length ≤ n := QF n _ (hd.erase _) fun i hi => by
   have h2 := (hd.mem_erase_iff).1 hi
   have h3 := h i h2.2
   have h4 := h2.1
   omega
  have h2 := List.length_erase (a := (n : Int) + 1) (l := l)
  split at h2 <;> omega
theorem SOk.rle {S : SM} (h : SOk S) : S.rel.length ≤ 65536 := by
 have h1 : S.rel.length ≤ S.used.length - 1 := QF _ _ h.nd fun i hi => by
  have h2 := h.rm i hi
  have h3 := h.fr
  have h4 : S.cap = (S.used.length : Int) - 1 := rfl
  have h5 := h.cap
  omega
 have h5 := h.cap
 omega
theorem SM.ok_rng {S : SM} (h : SOk S) {i : Int} (h0 : 0 ≤ i) (hi : S.ok i = true) : 1 ≤ i ∧ i ≤ S.fresh ∧ i ≤ S.cap ∧ i.toNat < S.used.length := by
 have h1 : i ≠ 0 := fun e => by subst e; rw [h.u0] at hi; cases hi
 have h2 : ¬ S.fresh < i := fun e => by rw [h.hi i e] at hi; cases hi
 have h3 := h.fr
 have h4 : S.cap = (S.used.length : Int) - 1 := rfl
 omega
theorem SM.ok_set {S : SM} {i j : Int} {b : Bool} (hi : 0 ≤ i) (hj : 0 ≤ j) (hl : i.toNat < S.used.length) : ((S.used.set i.toNat b)[j.toNat]?).getD false = if j = i then b else S.ok j := by
 rw [List.getElem?_set]
 by_cases h : j = i
 ·subst h; rw [if_pos rfl, if_pos hl, if_pos rfl]; rfl
 ·rw [if_neg (by omega), if_neg h]; rfl
theorem Zba {l : List Bool} {i : Int} : (l[i.toNat]?).getD false = true → i.toNat < l.length := fun h => by
 rcases Nat.lt_or_ge i.toNat l.length with h1 | h1
 ·exact h1
 ·rw [List.getElem?_eq_none h1] at h; cases h
theorem SM.new_ok {cap : Nat} (h : 1 ≤ cap ∧ cap ≤ 65536) : SOk (SM.new cap) := by
 have hno : ∀ i : Int, (SM.new cap).ok i = false := fun i => by
  unfold SM.ok SM.new
  simp only
  cases hx : (List.replicate (cap + 1) false)[i.toNat]? with
  | none => rfl
  | some b => rw [List.eq_of_mem_replicate (List.mem_of_getElem? hx)]; rfl
 refine ⟨by simp [SM.new]; omega, by simp [SM.new], by simp [SM.new, SM.cap], fun i hi => (by cases hi), List.nodup_nil, hno 0, fun i _ => hno i, fun i h1 h2 => ?_, fun x hx => ?_⟩
 ·simp only [SM.new] at h2; omega
 ·rw [List.eq_of_mem_replicate hx]; omega
theorem SM.next_some {S : SM} {i : Int} (h : S.rel.getLast? = some i) : S.next = i := by unfold SM.next; rw [h]
theorem SM.next_nil {S : SM} (h : S.rel = []) : S.next = S.fresh + 1 := by unfold SM.next; rw [h]; rfl
theorem SM.next_rng {S : SM} (h : SOk S) (hf : 0 < S.free) : 1 ≤ S.next ∧ S.next ≤ S.cap ∧ S.next.toNat < S.used.length ∧ S.ok S.next = false := by
 have hc : S.cap = (S.used.length : Int) - 1 := rfl
 have hfr := h.fr
 cases hg : S.rel.getLast? with
 | some i =>
  have hm := h.rm i (List.mem_of_getLast? hg)
  rw [SM.next_some hg]
  exact ⟨hm.1, by omega, by omega, hm.2.2⟩
 | none =>
  have hr : S.rel = [] := List.getLast?_eq_none_iff.1 hg
  unfold SM.free at hf
  rw [hr] at hf
  simp only [List.length_nil] at hf
  rw [SM.next_nil hr]
  exact ⟨by omega, by omega, by omega, h.hi _ (by omega)⟩
theorem XE {S : SM} (hne : S.rel ≠ []) : S.rel = S.rel.dropLast ++ [S.next] := by
 have h2 : S.next = S.rel.getLast hne := SM.next_some (List.getLast?_eq_some_getLast hne)
 rw [h2]; exact (List.dropLast_concat_getLast hne).symm
theorem SM.alloc_ok' {S : SM} (h : SOk S) (hf : 0 < S.free) {j : Int} (hj : 0 ≤ j) : S.alloc.ok j = if j = S.next then true else S.ok j := by
 have hn := S.next_rng h hf
 exact SM.ok_set (by omega) hj hn.2.2.1
theorem SM.alloc_free (S : SM) : S.alloc.free = S.free - 1 := by
 unfold SM.free SM.cap SM.alloc
 simp only [List.length_set, List.length_dropLast]
 by_cases hr : S.rel = []
 ·rw [if_pos hr, hr]; simp; omega
 ·rw [if_neg hr]
  have : 0 < S.rel.length := List.length_pos_iff.2 hr
  omega
theorem SM.alloc_sok {S : SM} (h : SOk S) (hf : 0 < S.free) : SOk S.alloc := by
 have hn := S.next_rng h hf
 have hc : S.cap = (S.used.length : Int) - 1 := rfl
 have hfr := h.fr
 have hcap : S.alloc.cap = S.cap := by unfold SM.cap SM.alloc; simp
 have hal := fun (j : Int) (hj : 0 ≤ j) => S.alloc_ok' h hf hj
 have hneg : ∀ j : Int, j < 0 → S.alloc.ok j = false := fun j hj => by
  have e : S.alloc.ok j = S.alloc.ok 0 := by unfold SM.ok; rw [show j.toNat = (0 : Int).toNat by omega]
  rw [e, hal 0 (Int.le_refl _), if_neg (by omega), h.u0]
 have hmem : ∀ i, i ∈ S.alloc.rel → i ∈ S.rel ∧ i ≠ S.next := fun i hi => by
  have hi2 : i ∈ S.rel.dropLast := hi
  have hne : S.rel ≠ [] := fun e => by rw [e] at hi2; cases hi2
  have hs := XE hne
  refine ⟨by rw [hs]; exact List.mem_append_left _ hi2, fun e => ?_⟩
  have hnd := h.nd
  rw [hs] at hnd
  exact (List.nodup_append.1 hnd).2.2 i hi2 S.next (List.mem_singleton.2 rfl) e
 have hfresh : S.fresh ≤ S.alloc.fresh ∧ S.alloc.fresh ≤ S.cap := by
  unfold SM.alloc
  simp only
  by_cases hr : S.rel = []
  ·rw [if_pos hr]
   unfold SM.free at hf
   rw [hr] at hf; simp at hf; omega
  ·rw [if_neg hr]; omega
 refine ⟨?_, ?_, by rw [hcap]; omega, fun i hi => ?_, ?_, ?_, fun i hi => ?_, fun i h1 h2 h3 => ?_, fun x hx => ?_⟩
 ·unfold SM.alloc; simpa using h.cap
 ·unfold SM.alloc; simpa using h.gl
 ·obtain ⟨h1, h2⟩ := hmem i hi
  have h3 := h.rm i h1
  exact ⟨h3.1, by omega, by rw [hal i (by omega), if_neg h2]; exact h3.2.2⟩
 ·have h1 : S.alloc.rel = S.rel.dropLast := rfl
  rw [h1]; exact h.nd.sublist (List.dropLast_sublist _)
 ·rw [hal 0 (Int.le_refl _), if_neg (by omega)]; exact h.u0
 ·rcases Int.lt_or_le i 0 with h0 | h0
  ·exact hneg i h0
  ·rw [hal i h0]
   have hne : i ≠ S.next := fun e => by
    by_cases hr : S.rel = []
    ·have e2 : S.alloc.fresh = S.fresh + 1 := by unfold SM.alloc; simp only; rw [if_pos hr]
     have e3 := SM.next_nil hr
     omega
    ·have := h.rm S.next (by rw [XE hr]; simp)
     omega
   rw [if_neg hne]
   exact h.hi i (by omega)
 ·rw [hal i (by omega)] at h3
  split at h3
  ·cases h3
  ·rename_i hne
   have h1r : S.alloc.rel = S.rel.dropLast := rfl
   rw [h1r]
   by_cases hr : S.rel = []
   ·have e2 : S.alloc.fresh = S.fresh + 1 := by unfold SM.alloc; simp only; rw [if_pos hr]
    have e3 := SM.next_nil hr
    have := h.cov i h1 (by omega) h3
    rw [hr] at this; cases this
   ·have e2 : S.alloc.fresh = S.fresh := by unfold SM.alloc; simp only; rw [if_neg hr]
    have := h.cov i h1 (by omega) h3
    rw [XE hr] at this
    rcases List.mem_append.1 this with h4 | h4
    ·exact h4
    ·exact absurd (List.mem_singleton.1 h4) hne
 ·have hx2 : x ∈ S.gen.set S.next.toNat ((S.genOf S.next + 1) % 4294967296) := hx
  rcases List.mem_or_eq_of_mem_set hx2 with h1 | rfl
  ·exact h.gr x h1
  ·omega
theorem SM.release_ok' {S : SM} (h : SOk S) {i : Int} (h0 : 0 ≤ i) (hi : S.ok i = true) {j : Int} (hj : 0 ≤ j) : (S.release i).ok j = if j = i then false else S.ok j :=
 SM.ok_set h0 hj (SM.ok_rng h h0 hi).2.2.2
theorem SM.release_sok {S : SM} (h : SOk S) {i : Int} (h0 : 0 ≤ i) (hi : S.ok i = true) : SOk (S.release i) := by
 have hr := SM.ok_rng h h0 hi
 have hcap : (S.release i).cap = S.cap := by unfold SM.cap SM.release; simp
 have hal := fun (j : Int) (hj : 0 ≤ j) => SM.release_ok' h h0 hi hj
 have hneg : ∀ j : Int, j < 0 → (S.release i).ok j = false := fun j hj => by
  have e : (S.release i).ok j = (S.release i).ok 0 := by unfold SM.ok; rw [show j.toNat = (0 : Int).toNat by omega]
  rw [e, hal 0 (Int.le_refl _), if_neg (by omega), h.u0]
 have hfr := h.fr
 refine ⟨?_, ?_, by rw [hcap]; exact h.fr, fun j hj => ?_, ?_, ?_, fun j hj => ?_, fun j h1 h2 h3 => ?_, h.gr⟩
 ·unfold SM.release; simpa using h.cap
 ·unfold SM.release; simpa using h.gl
 ·have hj2 : j ∈ S.rel ++ [i] := hj
  rcases List.mem_append.1 hj2 with h1 | h1
  ·have h2 := h.rm j h1
   refine ⟨h2.1, h2.2.1, ?_⟩
   rw [hal j (by omega)]
   split
   ·rfl
   ·exact h2.2.2
  ·rw [List.mem_singleton.1 h1]
   exact ⟨hr.1, hr.2.1, by rw [hal i h0, if_pos rfl]⟩
 ·show (S.rel ++ [i]).Nodup
  refine List.nodup_append.2 ⟨h.nd, List.pairwise_singleton _ _, fun a ha b hb e => ?_⟩
  rw [List.mem_singleton.1 hb] at e
  have := (h.rm a ha).2.2
  rw [e, hi] at this; cases this
 ·rw [hal 0 (Int.le_refl _), if_neg (by omega)]; exact h.u0
 ·have hj2 : S.fresh < j := hj
  rcases Int.lt_or_le j 0 with h1 | h1
  ·exact hneg j h1
  ·rw [hal j h1]
   split
   ·rfl
   ·exact h.hi j hj2
 ·have h2' : j ≤ S.fresh := h2
  show j ∈ S.rel ++ [i]
  rw [hal j (by omega)] at h3
  split at h3
  ·rename_i e; subst e; simp
  ·exact List.mem_append_left _ (h.cov j h1 h2' h3)
end Go.V
namespace Go.V
open Go Go.RowKit
structure SlA where
 ua : Option Addr
 uc : Nat
 ga : Option Addr
 gc : Nat
 ra : Option Addr
 rc : Nat
def Y0 (s : Nat) (S : SM) (x : SlA) : List HP := [Zd s #[.slice x.ua (YQ S.used).length x.uc, .slice x.ga (Zj S.gen).length x.gc, .slice x.ra (Zj S.rel).length x.rc, .int .u32 S.fresh] 227, Ze 4 1 (YQ S.used) x.ua x.uc, Ze 145 1 (Zj S.gen) x.ga x.gc, Ze 145 1 (Zj S.rel) x.ra x.rc]
def XR (s : Nat) (S : SM) : HP := ExB (Y0 s S)
structure AM where
 s : SM
 nodes : List Nd
 cnt : List Int
structure ArA where
 p : Nat
 na : Option Addr
 nc : Nat
 ca : Option Addr
 cc : Nat
 rd : Int
def XX (a : Nat) (A : AM) (x : ArA) : List HP := [Zd a #[.pointer (some ⟨x.p, 0, none⟩), .slice x.na (nds A.nodes).length x.nc, .slice x.ca (Zb A.cnt).length x.cc, .int .u64 x.rd] 221, XR x.p A.s, Ze 271 8 (nds A.nodes) x.na x.nc, Ze 3 1 (Zb A.cnt) x.ca x.cc]
def XT (a : Nat) (A : AM) : HP := ExB (XX a A)
structure TM where
 s : SM
 vals : List Int
structure TbA where
 p : Nat
 va : Option Addr
 vc : Nat
def Jx (t : Nat) (T : TM) (x : TbA) : List HP := [Zd t #[.pointer (some ⟨x.p, 0, none⟩), .slice x.va (Zj T.vals).length x.vc] 135, XR x.p T.s, Ze 145 1 (Zj T.vals) x.va x.vc]
def Qe (t : Nat) (T : TM) : HP := ExB (Jx t T)
end Go.V
namespace Go.V
open Go Go.RowKit
def AM.new (cap : Nat) : AM := ⟨SM.new cap, List.replicate (cap + 1) Nd.zero, List.replicate (cap + 1) 0⟩
def AM.cntOf (A : AM) (i : Int) : Int := (A.cnt[i.toNat]?).getD 0
def AM.inc (A : AM) (i : Int) : AM := ⟨A.s, A.nodes, A.cnt.set i.toNat (IntKind.i64.wrap (A.cntOf i + 1))⟩
structure AWf (A : AM) : Prop where
 s : SOk A.s
 nl : A.nodes.length = A.s.used.length
 cl : A.cnt.length = A.s.used.length
theorem AM.new_wf {cap : Nat} (h : 1 ≤ cap ∧ cap ≤ 65536) : AWf (AM.new cap) := ⟨SM.new_ok h, by simp [AM.new, SM.new], by simp [AM.new, SM.new]⟩
theorem AWf.inc {A : AM} (h : AWf A) (i : Int) : AWf (A.inc i) := ⟨h.s, h.nl, by simpa [AM.inc] using h.cl⟩
def AM.retE (A : AM) (i : Int) : Int := if i = 0 ∨ A.s.ok i = true then 0 else 3
def AM.ret (A : AM) (i : Int) : AM := if i ≠ 0 ∧ A.s.ok i = true then A.inc i else A
theorem SM.new_free (cap : Nat) : (SM.new cap).free = cap := by
 simp [SM.free, SM.cap, SM.new]
end Go.V
namespace Go.V
open Go Go.RowKit
theorem D8 {u x : Int} {m : Nat} (hu0 : 0 ≤ u) (hu : u < 2 ^ m) (hx : 0 ≤ x) (hs : u + x * 2 ^ m < 2 ^ 64) : JB .or .u64 (x * 2 ^ m) u = x * 2 ^ m + u := by
 have h1 := Ui hu0 hu hx hs
 have hb : (IntKind.u64).bits = 64 := rfl
 have hp : (0 : Int) ≤ x * 2 ^ m := Int.mul_nonneg hx (Int.le_of_lt (Int.pow_pos (by decide)))
 rw [HU hp (by rw [hb]; omega) hu0 (by rw [hb]; omega), Nat.or_comm, ← HU hu0 (by rw [hb]; omega) hp (by rw [hb]; omega), h1]
 omega
theorem Zav {i n : Int} (hi : 0 ≤ i ∧ i < 4294967296) (hn : 0 ≤ n ∧ n < 4294967296) : JB .or .u64 (IntKind.u64.wrap (n * p2 .u64 32)) i = n * 4294967296 + i := by
 have e : IntKind.u64.wrap (n * p2 .u64 32) = n * 2 ^ 32 := by
  have : p2 .u64 32 = 4294967296 := rfl
  rw [this, Ye (by omega)]; rfl
 rw [e, D8 hi.1 hi.2 hn.1 (by have : (2 : Int) ^ 64 = 18446744073709551616 := rfl; have : (2 : Int) ^ 32 = 4294967296 := rfl; omega)]
 have : (2 : Int) ^ 32 = 4294967296 := rfl
 omega
def SM.hd (S : SM) (i : Int) : Int := S.genOf i * 4294967296 + i
def SM.opn (S : SM) (h : Int) : Bool := S.ok (h % 4294967296) && decide (S.hd (h % 4294967296) = h)
structure TOk (T : TM) : Prop where
 s : SOk T.s
 vl : T.vals.length = T.s.used.length
 vr : ∀ x ∈ T.vals, 0 ≤ x ∧ x < 4294967296
def TM.val (T : TM) (h : Int) : Int := (T.vals[(h % 4294967296).toNat]?).getD 0
def TM.open (T : TM) (v : Int) : TM := ⟨T.s.alloc, T.vals.set T.s.next.toNat v⟩
def TM.newH (T : TM) : Int := T.s.alloc.hd T.s.next
def TM.close (T : TM) (h : Int) : TM := ⟨T.s.release (h % 4294967296), T.vals⟩
def TM.new (cap : Nat) : TM := ⟨SM.new cap, List.replicate (cap + 1) 0⟩
theorem TM.new_ok {cap : Nat} (h : 1 ≤ cap ∧ cap ≤ 65536) : TOk (TM.new cap) := ⟨SM.new_ok h, by simp [TM.new, SM.new], fun x hx => by rw [List.eq_of_mem_replicate hx]; omega⟩
theorem SOk.gen_rng {S : SM} (h : SOk S) (i : Int) : 0 ≤ S.genOf i ∧ S.genOf i < 4294967296 := by
 unfold SM.genOf
 cases hx : S.gen[i.toNat]? with
 | none => simp
 | some x => exact h.gr x (List.mem_of_getElem? hx)
theorem TOk.val_rng {T : TM} (h : TOk T) (x : Int) : 0 ≤ T.val x ∧ T.val x < 4294967296 := by
 unfold TM.val
 cases hx : T.vals[(x % 4294967296).toNat]? with
 | none => simp
 | some y => exact h.vr y (List.mem_of_getElem? hx)
theorem TOk.open {T : TM} (h : TOk T) (hf : 0 < T.s.free) {v : Int} (hv : 0 ≤ v ∧ v < 4294967296) : TOk (T.open v) := by
 refine ⟨SM.alloc_sok h.s hf, ?_, fun x hx => ?_⟩
 ·show (T.vals.set _ _).length = (T.s.used.set _ _).length
  rw [List.length_set, List.length_set]; exact h.vl
 ·rcases List.mem_or_eq_of_mem_set (show x ∈ T.vals.set _ _ from hx) with h1 | rfl
  ·exact h.vr x h1
  ·exact hv
theorem SM.opn_ok {S : SM} {h : Int} (ho : S.opn h = true) : S.ok (h % 4294967296) = true ∧ S.hd (h % 4294967296) = h := by
 unfold SM.opn at ho
 simpa using ho
theorem TOk.close {T : TM} (h : TOk T) {x : Int} (ho : T.s.opn x = true) : TOk (T.close x) :=
 ⟨SM.release_sok h.s (by omega) (SM.opn_ok ho).1, by
  show T.vals.length = (T.s.used.set _ _).length
  rw [List.length_set]; exact h.vl, h.vr⟩
end Go.V
namespace Go.V
open Go
inductive Tr where
 | nil
 | node (l : Tr) (k v : Int) (r : Tr)
namespace Tr
def n : Tr → Nat
 | nil => 0
 | node l _ _ r => l.n + r.n + 1
def ls : Tr → List (Int × Int)
 | nil => []
 | node l k v r => l.ls ++ (k, v) :: r.ls
def ht : Tr → Nat
 | nil => 0
 | node l _ _ r => max l.ht r.ht + 1
end Tr
abbrev Cf (a b : Nat) : Prop := a + 1 ≤ 3 * (b + 1) ∧ b + 1 ≤ 3 * (a + 1)
namespace Tr
def ok : Tr → Prop
 | nil => True
 | node l _ _ r => Cf l.n r.n ∧ l.ok ∧ r.ok
theorem ls_len : ∀ t : Tr, t.ls.length = t.n
 | nil => rfl
 | node l _ _ r => by simp [ls, n, ls_len l, ls_len r]; omega
def dbL (l : Tr) (k v fk fv : Int) (s : Tr) : Tr → Tr
 | nil => nil
 | node x gk gv y => node (node l k v x) gk gv (node y fk fv s)
def litL (l : Tr) (k v : Int) : Tr → Tr
 | nil => node l k v nil
 | node m fk fv s => if m.n = 0 ∨ (Cf l.n m.n ∧ Cf (l.n + m.n + 1) s.n) then node (node l k v m) fk fv s else dbL l k v fk fv s m
def dbR (r : Tr) (k v fk fv : Int) (s : Tr) : Tr → Tr
 | nil => nil
 | node x gk gv y => node (node s fk fv x) gk gv (node y k v r)
def litR (r : Tr) (k v : Int) : Tr → Tr
 | nil => node nil k v r
 | node s fk fv m => if m.n = 0 ∨ (Cf m.n r.n ∧ Cf s.n (m.n + r.n + 1)) then node s fk fv (node m k v r) else dbR r k v fk fv s m
def bal (l : Tr) (k v : Int) (r : Tr) : Tr := if Cf l.n r.n then node l k v r else if l.n < r.n then litL l k v r else litR r k v l
def join : Tr → Int → Int → Tr → Tr
 | nil, k, v, nil => node nil k v nil
 | nil, k, v, node m fk fv s => if Cf 0 (m.n + s.n + 1) then node nil k v (node m fk fv s) else bal (join nil k v m) fk fv s
 | node s fk fv m, k, v, nil => if Cf (s.n + m.n + 1) 0 then node (node s fk fv m) k v nil else bal s fk fv (join m k v nil)
 | node s fk fv m, k, v, node m' fk' fv' s' => if Cf (s.n + m.n + 1) (m'.n + s'.n + 1) then node (node s fk fv m) k v (node m' fk' fv' s')
  else if m'.n + s'.n < s.n + m.n then bal s fk fv (join m k v (node m' fk' fv' s')) else bal (join (node s fk fv m) k v m') fk' fv' s'
termination_by l _ _ r => l.n + r.n
decreasing_by all_goals simp only [n]; omega
def jc : Tr → Tr → Nat
 | nil, nil => 1
 | nil, node m _ _ s => if Cf 0 (m.n + s.n + 1) then 1 else jc nil m + 3
 | node s _ _ m, nil => if Cf (s.n + m.n + 1) 0 then 1 else jc m nil + 3
 | node s fk fv m, node m' fk' fv' s' => if Cf (s.n + m.n + 1) (m'.n + s'.n + 1) then 1
  else if m'.n + s'.n < s.n + m.n then jc m (node m' fk' fv' s') + 3 else jc (node s fk fv m) m' + 3
termination_by l r => l.n + r.n
decreasing_by all_goals simp only [n]; omega
def pop : Tr → Tr × Int × Int
 | nil => (nil, 0, 0)
 | node l k v nil => (l, k, v)
 | node l k v (node a b c d) => (join l k v (pop (node a b c d)).1, (pop (node a b c d)).2)
def pc : Tr → Nat
 | nil => 0
 | node _ _ _ nil => 0
 | node l _ _ (node a b c d) => pc (node a b c d) + jc l (pop (node a b c d)).1
def cat (l r : Tr) : Tr := match l, r with
 | nil, r => r
 | l, nil => l
 | l, r => join (pop l).1 (pop l).2.1 (pop l).2.2 r
def cc (l r : Tr) : Nat := match l, r with
 | nil, _ => 0
 | _, nil => 0
 | l, r => pc l + jc (pop l).1 r
end Tr
end Go.V
namespace Go.V
open Go
abbrev Kvs := List (Int × Int)
def Srt (l : Kvs) : Prop := l.Pairwise fun a b => a.1 < b.1
theorem Srt.app {a b : Kvs} (h : Srt (a ++ b)) : Srt a ∧ Srt b ∧ ∀ x ∈ a, ∀ y ∈ b, x.1 < y.1 := by
 obtain ⟨h1, h2, h3⟩ := List.pairwise_append.1 h
 exact ⟨h1, h2, h3⟩
namespace Tr
def get (k : Int) : Tr → Option Int
 | nil => none
 | node l x y r => if k < x then get k l else if x < k then get k r else some y
end Tr
end Go.V
namespace Go.V
open Go Go.RowKit
def AM.nd (A : AM) (i : Int) : Nd := (A.nodes[i.toNat]?).getD Nd.zero
def AM.live (A : AM) : List Int := ((List.range A.s.used.length).map fun i : Nat => (i : Int)).filter fun i => A.s.ok i
def AM.kids (A : AM) : List Int := A.live.flatMap fun i => [(A.nd i).lf, (A.nd i).rg]
def AM.sz (A : AM) (i : Int) : Int := if A.s.ok i = true then (A.nd i).size else 0
structure ARf (A : AM) (R : List Int) : Prop extends AWf A where
 kid : ∀ i, A.s.ok i = true → 0 ≤ i → ∀ c, c = (A.nd i).lf ∨ c = (A.nd i).rg → c = 0 ∨ (1 ≤ c ∧ A.s.ok c = true)
 sz : ∀ i, A.s.ok i = true → 0 ≤ i → (A.nd i).size = 1 + A.sz (A.nd i).lf + A.sz (A.nd i).rg ∧ (A.nd i).size ≤ 2147483647
 pos : ∀ i, A.s.ok i = true → 0 ≤ i → 1 ≤ (A.nd i).size
 ref : ∀ r ∈ R, r = 0 ∨ (1 ≤ r ∧ A.s.ok r = true)
 cnt : ∀ i, A.s.ok i = true → 0 ≤ i → A.cntOf i = ((R ++ A.kids).count i : Nat) ∧ 1 ≤ A.cntOf i
 zero : ∀ i, A.s.ok i = false → 1 ≤ i → A.nd i = Nd.zero
 len : R.length ≤ 1000000000
theorem AM.mem_live {A : AM} (i : Int) : i ∈ A.live ↔ 0 ≤ i ∧ A.s.ok i = true := by
 unfold AM.live
 rw [List.mem_filter, List.mem_map]
 constructor
 ·rintro ⟨⟨n, _, rfl⟩, h⟩; exact ⟨by omega, h⟩
 ·rintro ⟨h0, h⟩
  exact ⟨⟨i.toNat, List.mem_range.2 (Zba h), by omega⟩, h⟩
theorem AM.live_nodup (A : AM) : A.live.Nodup := by
 unfold AM.live
 refine List.Pairwise.filter _ (List.pairwise_map.2 ?_)
 exact (List.nodup_range).imp fun h e => h (by omega)
theorem DA {A B : AM} {k : Int} (hk : A.s.ok k = true) (h0 : 0 ≤ k) (h : ∀ j, 0 ≤ j → B.s.ok j = if j = k then false else A.s.ok j) : A.live.Perm (k :: B.live) := by
 refine (List.perm_ext_iff_of_nodup A.live_nodup (List.nodup_cons.2 ⟨fun hm => ?_, B.live_nodup⟩)).2 fun j => ?_
 ·have := ((B.mem_live k).1 hm).2
  rw [h k h0, if_pos rfl] at this; cases this
 ·rw [A.mem_live, List.mem_cons, B.mem_live]
  constructor
  ·rintro ⟨j0, j1⟩
   by_cases e : j = k
   ·exact .inl e
   ·exact .inr ⟨j0, by rw [h j j0, if_neg e]; exact j1⟩
  ·rintro (rfl | ⟨j0, j1⟩)
   ·exact ⟨h0, hk⟩
   ·rw [h j j0] at j1
    split at j1
    ·cases j1
    ·exact ⟨j0, j1⟩
theorem Uz {α β : Type} {f g : α → List β} : ∀ {l : List α}, (∀ x ∈ l, f x = g x) → l.flatMap f = l.flatMap g
 | [], _ => rfl
 | x :: l, h => by rw [List.flatMap_cons, List.flatMap_cons, h x (List.mem_cons_self ..), Uz fun y hy => h y (List.mem_cons_of_mem _ hy)]
theorem QD {A B : AM} {k : Int} (hk : A.s.ok k = true) (h0 : 0 ≤ k) (h : ∀ j, 0 ≤ j → B.s.ok j = if j = k then false else A.s.ok j) (hn : ∀ j, 0 ≤ j → j ≠ k → B.nd j = A.nd j) : A.kids.Perm ([(A.nd k).lf, (A.nd k).rg] ++ B.kids) := by
 have h1 := (DA hk h0 h).flatMap_right (fun i => [(A.nd i).lf, (A.nd i).rg])
 rw [List.flatMap_cons] at h1
 refine h1.trans (List.Perm.append_left _ (List.Perm.of_eq ?_))
 unfold AM.kids
 have hm : ∀ j ∈ B.live, [(A.nd j).lf, (A.nd j).rg] = [(B.nd j).lf, (B.nd j).rg] := fun j hj => by
  have hj2 := (B.mem_live j).1 hj
  have hne : j ≠ k := fun e => by subst e; have := hj2.2; rw [h j h0, if_pos rfl] at this; cases this
  rw [hn j hj2.1 hne]
 exact Uz hm
theorem AM.live_len (A : AM) : A.live.length ≤ A.s.used.length := by
 unfold AM.live
 exact Nat.le_trans (List.length_filter_le _ _) (by simp)
theorem AM.kids_len (A : AM) : A.kids.length = 2 * A.live.length := by
 unfold AM.kids
 induction A.live with
 | nil => rfl
 | cons x l ih => rw [List.flatMap_cons, List.length_append, ih]; simp; omega
theorem AM.mem_kids {A : AM} (c : Int) : c ∈ A.kids ↔ ∃ i, 0 ≤ i ∧ A.s.ok i = true ∧ (c = (A.nd i).lf ∨ c = (A.nd i).rg) := by
 unfold AM.kids
 rw [List.mem_flatMap]
 constructor
 ·rintro ⟨i, hi, hc⟩
  have := (A.mem_live i).1 hi
  exact ⟨i, this.1, this.2, by simpa using hc⟩
 ·rintro ⟨i, h0, h1, hc⟩
  exact ⟨i, (A.mem_live i).2 ⟨h0, h1⟩, by simpa using hc⟩
theorem ARf.perm {A : AM} {R R' : List Int} (h : ARf A R) (hp : R.Perm R') : ARf A R' :=
 ⟨h.toAWf, h.kid, h.sz, h.pos, fun r hr => h.ref r (hp.mem_iff.2 hr), fun i hi h0 => by
  rw [← (List.Perm.append_right A.kids hp).count_eq i]; exact h.cnt i hi h0, h.zero, by rw [← hp.length_eq]; exact h.len⟩
theorem ARf.cons0 {A : AM} {R : List Int} (h : ARf A R) (hl : R.length + 1 ≤ 1000000000) : ARf A (0 :: R) :=
 ⟨h.toAWf, h.kid, h.sz, h.pos, fun r hr => by
  rcases List.mem_cons.1 hr with rfl | hr
  ·exact .inl rfl
  ·exact h.ref r hr, fun i hi h0 => by
  have h1 := (SM.ok_rng h.s h0 hi).1
  rw [List.cons_append, List.count_cons_of_ne (by omega)]; exact h.cnt i hi h0, h.zero, by simpa using hl⟩
theorem ARf.cnt_le {A : AM} {R : List Int} (h : ARf A R) {i : Int} (hi : A.s.ok i = true) (h0 : 0 ≤ i) : 1 ≤ A.cntOf i ∧ A.cntOf i ≤ 2000000000 := by
 have h1 := h.cnt i hi h0
 have h2 := List.count_le_length (a := i) (l := R ++ A.kids)
 rw [List.length_append, A.kids_len] at h2
 have h3 := A.live_len
 have h4 := h.s.cap
 have h5 := h.len
 omega
theorem AM.cnt_set {A : AM} {s : SM} {n : List Nd} {k i x : Int} (hk : k.toNat < A.cnt.length) (h0 : 0 ≤ k) (hi : 0 ≤ i) : (AM.mk s n (A.cnt.set k.toNat x)).cntOf i = if i = k then x else A.cntOf i := by
 unfold AM.cntOf
 simp only
 rw [List.getElem?_set]
 by_cases h : i = k
 ·subst h; rw [if_pos rfl, if_pos hk, if_pos rfl]; rfl
 ·rw [if_neg (by omega), if_neg h]
theorem AM.nd_set {A : AM} {s : SM} {c : List Int} {k i : Int} {x : Nd} (hk : k.toNat < A.nodes.length) (h0 : 0 ≤ k) (hi : 0 ≤ i) : (AM.mk s (A.nodes.set k.toNat x) c).nd i = if i = k then x else A.nd i := by
 unfold AM.nd
 simp only
 rw [List.getElem?_set]
 by_cases h : i = k
 ·subst h; rw [if_pos rfl, if_pos hk, if_pos rfl]; rfl
 ·rw [if_neg (by omega), if_neg h]
theorem ARf.inc {A : AM} {R : List Int} {k : Int} (h : ARf A R) (hk : A.s.ok k = true) (h0 : 0 ≤ k) (hl : R.length + 1 ≤ 1000000000) : ARf (A.inc k) (k :: R) := by
 have hr := SM.ok_rng h.s h0 hk
 have hkl : k.toNat < A.cnt.length := by rw [h.cl]; exact hr.2.2.2
 have hb := h.cnt_le hk h0
 have hkids : (A.inc k).kids = A.kids := rfl
 refine ⟨h.toAWf.inc k, h.kid, h.sz, h.pos, fun r hr2 => ?_, fun i hi hi0 => ?_, h.zero, by simpa using hl⟩
 ·rcases List.mem_cons.1 hr2 with rfl | hr2
  ·exact .inr ⟨hr.1, hk⟩
  ·exact h.ref r hr2
 ·have hc := h.cnt i hi hi0
  rw [hkids, AM.inc, AM.cnt_set hkl h0 hi0]
  by_cases e : i = k
  ·subst e
   rw [if_pos rfl, List.cons_append, List.count_cons_self, ZF (by omega)]
   omega
  ·rw [if_neg e, List.cons_append, List.count_cons_of_ne (fun h => e h.symm)]; exact hc
def AM.freed (A : AM) (k : Int) : AM := ⟨A.s.release k, A.nodes.set k.toNat Nd.zero, A.cnt.set k.toNat (IntKind.i64.wrap (A.cntOf k - 1))⟩
theorem AM.freed_ok {A : AM} {k : Int} (h : SOk A.s) (hk : A.s.ok k = true) (h0 : 0 ≤ k) : ∀ j, 0 ≤ j → (A.freed k).s.ok j = if j = k then false else A.s.ok j := fun _ hj => SM.release_ok' h h0 hk hj
theorem ARf.free {A : AM} {R : List Int} {k : Int} (h : ARf A (k :: R)) (hk : A.s.ok k = true) (h0 : 0 ≤ k) (h1 : A.cntOf k = 1) (hl : R.length + 2 ≤ 1000000000) : ARf (A.freed k) ((A.nd k).lf :: (A.nd k).rg :: R) := by
 have hr := SM.ok_rng h.s h0 hk
 have hkl : k.toNat < A.cnt.length := by rw [h.cl]; exact hr.2.2.2
 have hkn : k.toNat < A.nodes.length := by rw [h.nl]; exact hr.2.2.2
 have hok := AM.freed_ok h.s hk h0
 have hnd : ∀ j, 0 ≤ j → j ≠ k → (A.freed k).nd j = A.nd j := fun j hj e => by
  unfold AM.freed; rw [AM.nd_set hkn h0 hj, if_neg e]
 have hkp := QD hk h0 hok hnd
 have hck := (h.cnt k hk h0).1
 rw [h1, List.cons_append, List.count_cons_self] at hck
 have hc0 : (R ++ A.kids).count k = 0 := by omega
 rw [List.count_append] at hc0
 have hnR : k ∉ R := List.count_eq_zero.1 (by omega)
 have hnK : k ∉ A.kids := List.count_eq_zero.1 (by omega)
 have hkid : ∀ i, A.s.ok i = true → 0 ≤ i → ∀ c, c = (A.nd i).lf ∨ c = (A.nd i).rg → c = 0 ∨ (1 ≤ c ∧ (A.freed k).s.ok c = true) := fun i hi hi0 c hc => by
  rcases h.kid i hi hi0 c hc with e | ⟨c1, c2⟩
  ·exact .inl e
  ·refine .inr ⟨c1, ?_⟩
   have hne : c ≠ k := fun e => hnK ((A.mem_kids k).2 ⟨i, hi0, hi, by rw [← e]; exact hc⟩)
   rw [hok c (by omega), if_neg hne]; exact c2
 have hback : ∀ i, 0 ≤ i → (A.freed k).s.ok i = true → i ≠ k ∧ A.s.ok i = true := fun i hi0 hi => by
  rw [hok i hi0] at hi
  split at hi
  ·cases hi
  ·rename_i e; exact ⟨e, hi⟩
 have hsz : ∀ i, A.s.ok i = true → 0 ≤ i → ∀ c, c = (A.nd i).lf ∨ c = (A.nd i).rg → (A.freed k).sz c = A.sz c := fun i hi hi0 c hc => by
  rcases h.kid i hi hi0 c hc with e | ⟨c1, c2⟩
  ·subst e
   unfold AM.sz
   have hu0 : A.s.ok 0 = false := h.s.u0
   rw [hok 0 (Int.le_refl _), if_neg (show ¬ (0 : Int) = k by omega), hu0]; rfl
  ·have hne : c ≠ k := fun e => hnK ((A.mem_kids k).2 ⟨i, hi0, hi, by rw [← e]; exact hc⟩)
   unfold AM.sz
   rw [hok c (by omega), if_neg hne, hnd c (by omega) hne]
 refine ⟨⟨SM.release_sok h.s h0 hk, ?_, ?_⟩, fun i hi hi0 c hc => ?_, fun i hi hi0 => ?_, fun i hi hi0 => ?_, fun r hr2 => ?_, fun i hi hi0 => ?_, fun i hi hi1 => ?_, ?_⟩
 ·show (A.nodes.set _ _).length = (A.s.used.set _ _).length
  rw [List.length_set, List.length_set]; exact h.nl
 ·show (A.cnt.set _ _).length = (A.s.used.set _ _).length
  rw [List.length_set, List.length_set]; exact h.cl
 ·obtain ⟨e, hi2⟩ := hback i hi0 hi
  rw [hnd i hi0 e] at hc
  exact hkid i hi2 hi0 c hc
 ·obtain ⟨e, hi2⟩ := hback i hi0 hi
  rw [hnd i hi0 e, hsz i hi2 hi0 _ (.inl rfl), hsz i hi2 hi0 _ (.inr rfl)]
  exact h.sz i hi2 hi0
 ·obtain ⟨e, hi2⟩ := hback i hi0 hi
  rw [hnd i hi0 e]; exact h.pos i hi2 hi0
 ·simp only [List.mem_cons] at hr2
  rcases hr2 with e | e | hr2
  ·exact hkid k hk h0 r (.inl e)
  ·exact hkid k hk h0 r (.inr e)
  ·rcases h.ref r (List.mem_cons_of_mem _ hr2) with e | ⟨r1, r2⟩
   ·exact .inl e
   ·have hne : r ≠ k := fun e => hnR (e ▸ hr2)
    exact .inr ⟨r1, by rw [hok r (by omega), if_neg hne]; exact r2⟩
 ·obtain ⟨e, hi2⟩ := hback i hi0 hi
  have hc := h.cnt i hi2 hi0
  have he : (A.freed k).cntOf i = A.cntOf i := by unfold AM.freed; rw [AM.cnt_set hkl h0 hi0, if_neg e]
  rw [he]
  rw [List.cons_append, List.count_cons_of_ne (fun h => e h.symm)] at hc
  have hp : (R ++ A.kids).Perm ((A.nd k).lf :: (A.nd k).rg :: R ++ (A.freed k).kids) := by
   refine (List.Perm.append_left R hkp).trans ?_
   simp only [List.cons_append, List.nil_append]
   exact (List.perm_middle).trans ((List.Perm.cons _ List.perm_middle))
  rw [← hp.count_eq i]; exact hc
 ·by_cases e : i = k
  ·subst e
   unfold AM.freed
   rw [AM.nd_set hkn h0 h0, if_pos rfl]
  ·have hi2 : A.s.ok i = false := by rw [hok i (by omega), if_neg e] at hi; exact hi
   rw [hnd i (by omega) e]; exact h.zero i hi2 hi1
 ·simpa using hl
end Go.V
namespace Go.V
open Go Go.RowKit
def AM.put (A : AM) (n : Nd) : AM := ⟨A.s.alloc, A.nodes.set A.s.next.toNat n, A.cnt.set A.s.next.toNat 1⟩
def AM.make (A : AM) (n : Nd) : AM := ((A.put n).inc n.lf).inc n.rg
theorem AM.inc_cnt {A : AM} {k j : Int} (hk : k.toNat < A.cnt.length) (h0 : 0 ≤ k) (hj : 0 ≤ j) : (A.inc k).cntOf j = if j = k then IntKind.i64.wrap (A.cntOf k + 1) else A.cntOf j := AM.cnt_set hk h0 hj
theorem ARf.rng {A : AM} {R : List Int} (h : ARf A R) {r : Int} (hr : r ∈ R) : 0 ≤ r ∧ r < 4294967296 ∧ r ≤ 65536 := by
 rcases h.ref r hr with e | ⟨h1, h2⟩
 ·omega
 ·have h3 := SM.ok_rng h.s (by omega) h2
  have h4 := h.s.cap
  have h5 : A.s.cap = (A.s.used.length : Int) - 1 := rfl
  omega
theorem ARf.okrng {A : AM} {R : List Int} (h : ARf A R) {c : Int} (hc : c = 0 ∨ (1 ≤ c ∧ A.s.ok c = true)) : 0 ≤ c ∧ c ≤ 65536 ∧ c.toNat < A.s.used.length := by
 have h4 := h.s.cap
 have h5 : A.s.cap = (A.s.used.length : Int) - 1 := rfl
 rcases hc with e | ⟨h1, h2⟩
 ·subst e; exact ⟨by omega, by omega, by show 0 < _; omega⟩
 ·have h3 := SM.ok_rng h.s (by omega) h2
  omega
theorem ARf.make {A : AM} {R : List Int} {n : Nd} (h : ARf A R) (hf : 0 < A.s.free) (hl : n.lf = 0 ∨ (1 ≤ n.lf ∧ A.s.ok n.lf = true)) (hr : n.rg = 0 ∨ (1 ≤ n.rg ∧ A.s.ok n.rg = true))
  (hs : n.size = 1 + A.sz n.lf + A.sz n.rg ∧ n.size ≤ 2147483647) (hp : 1 ≤ n.size) (hlen : R.length + 1 ≤ 1000000000) : ARf (A.make n) (A.s.next :: R) := by
 have hn := SM.next_rng h.s hf
 have hno : A.s.ok A.s.next = false := hn.2.2.2
 have hok : ∀ j, 0 ≤ j → (A.make n).s.ok j = if j = A.s.next then true else A.s.ok j := fun j hj => SM.alloc_ok' h.s hf hj
 have hnl : A.s.next.toNat < A.nodes.length := by rw [h.nl]; exact hn.2.2.1
 have hcl : A.s.next.toNat < A.cnt.length := by rw [h.cl]; exact hn.2.2.1
 have hnd : ∀ j, 0 ≤ j → (A.make n).nd j = if j = A.s.next then n else A.nd j := fun j hj => AM.nd_set hnl (by omega) hj
 have hne : ∀ c, (c = 0 ∨ (1 ≤ c ∧ A.s.ok c = true)) → c ≠ A.s.next := fun c hc e => by
  rcases hc with e2 | ⟨_, h2⟩
  ·omega
  ·rw [e, hno] at h2; cases h2
 have hup : ∀ c, (c = 0 ∨ (1 ≤ c ∧ A.s.ok c = true)) → (c = 0 ∨ (1 ≤ c ∧ (A.make n).s.ok c = true)) := fun c hc => by
  have h1 := hne c hc
  rcases hc with e2 | ⟨h3, h2⟩
  ·exact .inl e2
  ·exact .inr ⟨h3, by rw [hok c (by omega), if_neg h1]; exact h2⟩
 have hsz : ∀ c, (c = 0 ∨ (1 ≤ c ∧ A.s.ok c = true)) → (A.make n).sz c = A.sz c := fun c hc => by
  have h1 := hne c hc
  have h0 : 0 ≤ c := by omega
  unfold AM.sz
  rw [hok c h0, if_neg h1, hnd c h0, if_neg h1]
 have hkp : (A.make n).kids.Perm ([n.lf, n.rg] ++ A.kids) := by
  have h1 := QD (A := A.make n) (B := A) (k := A.s.next) (by rw [hok _ (by omega), if_pos rfl]) (by omega) (fun j hj => by
   rw [hok j hj]
   by_cases e : j = A.s.next
   ·subst e; rw [if_pos rfl]; exact hno
   ·rw [if_neg e, if_neg e]) (fun j hj e => by rw [hnd j hj, if_neg e])
  rw [hnd _ (by omega), if_pos rfl] at h1
  exact h1
 have hlr := h.okrng hl
 have hrr := h.okrng hr
 have hcnt : ∀ j, 1 ≤ j → (j = A.s.next ∨ A.s.ok j = true) → (A.make n).cntOf j = if j = A.s.next then 1 else A.cntOf j + (if j = n.lf then 1 else 0) + (if j = n.rg then 1 else 0) := fun j hj hjo => by
  have hpl : (A.put n).cnt.length = A.cnt.length := by simp [AM.put]
  have hpl2 : ((A.put n).inc n.lf).cnt.length = A.cnt.length := by simp [AM.inc, AM.put]
  have e1 : (A.make n).cntOf j = if j = n.rg then IntKind.i64.wrap (((A.put n).inc n.lf).cntOf n.rg + 1) else ((A.put n).inc n.lf).cntOf j := AM.inc_cnt (by rw [hpl2, h.cl]; exact hrr.2.2) hrr.1 (by omega)
  have e2 : ∀ x, 0 ≤ x → ((A.put n).inc n.lf).cntOf x = if x = n.lf then IntKind.i64.wrap ((A.put n).cntOf n.lf + 1) else (A.put n).cntOf x := fun x hx => AM.inc_cnt (by rw [hpl, h.cl]; exact hlr.2.2) hlr.1 hx
  have e3 : ∀ x, 0 ≤ x → (A.put n).cntOf x = if x = A.s.next then 1 else A.cntOf x := fun x hx => AM.cnt_set hcl (by omega) hx
  by_cases hj2 : j = A.s.next
  ·rw [if_pos hj2, e1, if_neg (fun e => hne _ hr (by rw [← e]; exact hj2)), e2 j (by omega), if_neg (fun e => hne _ hl (by rw [← e]; exact hj2)), e3 j (by omega), if_pos hj2]
  ·have hjo := hjo.resolve_left hj2
   have hb := h.cnt_le hjo (by omega)
   rw [if_neg hj2, e1]
   have e4 : ((A.put n).inc n.lf).cntOf j = A.cntOf j + (if j = n.lf then 1 else 0) := by
    rw [e2 j (by omega)]
    by_cases e : j = n.lf
    ·rw [if_pos e, if_pos e, ← e, e3 j (by omega), if_neg hj2, ZF (by omega)]
    ·rw [if_neg e, if_neg e, e3 j (by omega), if_neg hj2]; omega
   by_cases e : j = n.rg
   ·rw [if_pos e, if_pos e, ← e, e4, ZF (by split <;> omega)]
   ·rw [if_neg e, if_neg e, e4]; omega
 refine ⟨⟨SM.alloc_sok h.s hf, ?_, ?_⟩, fun i hi hi0 c hc => ?_, fun i hi hi0 => ?_, fun i hi hi0 => ?_, fun r hr2 => ?_, fun i hi hi0 => ?_, fun i hi hi1 => ?_, by simpa using hlen⟩
 ·show (A.nodes.set _ _).length = (A.s.used.set _ _).length
  rw [List.length_set, List.length_set]; exact h.nl
 ·show (((A.cnt.set _ _).set _ _).set _ _).length = (A.s.used.set _ _).length
  rw [List.length_set, List.length_set, List.length_set, List.length_set]; exact h.cl
 ·rw [hnd i hi0] at hc
  by_cases e : i = A.s.next
  ·rw [if_pos e] at hc
   rcases hc with hc | hc <;> rw [hc]
   ·exact hup _ hl
   ·exact hup _ hr
  ·rw [if_neg e] at hc
   rw [hok i hi0, if_neg e] at hi
   exact hup _ (h.kid i hi hi0 c hc)
 ·rw [hnd i hi0]
  by_cases e : i = A.s.next
  ·rw [if_pos e, hsz _ hl, hsz _ hr]; exact hs
  ·rw [if_neg e]
   rw [hok i hi0, if_neg e] at hi
   rw [hsz _ (h.kid i hi hi0 _ (.inl rfl)), hsz _ (h.kid i hi hi0 _ (.inr rfl))]
   exact h.sz i hi hi0
 ·rw [hnd i hi0]
  by_cases e : i = A.s.next
  ·rw [if_pos e]; exact hp
  ·rw [if_neg e]
   rw [hok i hi0, if_neg e] at hi
   exact h.pos i hi hi0
 ·rcases List.mem_cons.1 hr2 with e | hr2
  ·rw [e]; exact .inr ⟨hn.1, by rw [hok _ (by omega), if_pos rfl]⟩
  ·exact hup _ (h.ref r hr2)
 ·have h1 : 1 ≤ i := by
   rcases Int.lt_or_le i 1 with h1 | h1
   ·have : i = 0 := by omega
    subst this
    rw [hok 0 (by omega), if_neg (by omega), h.s.u0] at hi; cases hi
   ·exact h1
  rw [hok i hi0] at hi
  have hp2 : (A.s.next :: R ++ (A.make n).kids).count i = (A.s.next :: (R ++ ([n.lf, n.rg] ++ A.kids))).count i := by
   rw [List.cons_append]
   exact (List.Perm.cons _ (List.Perm.append_left R hkp)).count_eq i
  rw [hp2]
  by_cases e : i = A.s.next
  ·rw [hcnt i h1 (.inl e), if_pos e, e, List.count_cons_self, List.count_append, List.count_append]
   have c1 : R.count A.s.next = 0 := List.count_eq_zero.2 fun hm => hne _ (h.ref _ hm) rfl
   have c2 : [n.lf, n.rg].count A.s.next = 0 := List.count_eq_zero.2 fun hm => by
    rcases List.mem_cons.1 hm with e2 | hm
    ·exact hne _ hl e2.symm
    ·exact hne _ hr (List.mem_singleton.1 hm).symm
   have c3 : A.kids.count A.s.next = 0 := List.count_eq_zero.2 fun hm => by
    obtain ⟨j, j0, j1, jc⟩ := (A.mem_kids _).1 hm
    exact hne _ (h.kid j j1 j0 _ jc) rfl
   omega
  ·rw [if_neg e] at hi
   have hc2 := h.cnt i hi hi0
   have hb := h.cnt_le hi hi0
   rw [List.count_append] at hc2
   rw [hcnt i h1 (.inr hi), if_neg e, List.count_cons_of_ne (fun h => e h.symm), List.count_append, List.count_append]
   have c2 : ([n.lf, n.rg].count i : Nat) = (if i = n.lf then 1 else 0) + (if i = n.rg then 1 else 0) := by
    rw [List.count_cons, List.count_cons, List.count_nil]
    have q1 : (n.lf == i) = decide (i = n.lf) := by rw [Bool.eq_iff_iff, beq_iff_eq, decide_eq_true_eq]; exact ⟨Eq.symm, Eq.symm⟩
    have q2 : (n.rg == i) = decide (i = n.rg) := by rw [Bool.eq_iff_iff, beq_iff_eq, decide_eq_true_eq]; exact ⟨Eq.symm, Eq.symm⟩
    rw [q1, q2]
    simp only [decide_eq_true_eq]
    omega
   rw [c2]
   split <;> split <;> omega
 ·rw [hnd i (by omega)]
  rw [hok i (by omega)] at hi
  by_cases e : i = A.s.next
  ·rw [if_pos e] at hi; cases hi
  ·rw [if_neg e] at hi ⊢
   exact h.zero i hi hi1
theorem SOk.free_rng {S : SM} (h : SOk S) : 0 ≤ S.free ∧ S.free ≤ 131072 := by
 have h1 := h.rle; have h2 := h.cap; have h3 := h.fr; have h4 : S.cap = (S.used.length : Int) - 1 := rfl
 unfold SM.free; omega
theorem AM.cnt_live {A : AM} (h : SOk A.s) : A.s.free + A.live.length = A.s.cap := by
 have hc : A.s.cap = (A.s.used.length : Int) - 1 := rfl
 have hcp := h.cap
 have hfr := h.fr
 have hp : ((List.range A.s.cap.toNat).map fun i : Nat => (i : Int) + 1).Perm (A.live ++ (A.s.rel ++ (List.range (A.s.cap - A.s.fresh).toNat).map fun i : Nat => A.s.fresh + 1 + (i : Int))) := by
  refine (List.perm_ext_iff_of_nodup ?_ ?_).2 fun j => ?_
  ·exact List.pairwise_map.2 ((List.nodup_range).imp fun h e => h (by omega))
  ·refine List.nodup_append.2 ⟨A.live_nodup, List.nodup_append.2 ⟨h.nd, List.pairwise_map.2 ((List.nodup_range).imp fun h e => h (by omega)), fun a ha b hb e => ?_⟩, fun a ha b hb e => ?_⟩
   ·have h1 := h.rm a ha
    obtain ⟨i, _, rfl⟩ := List.mem_map.1 hb
    omega
   ·have h1 := (A.mem_live a).1 ha
    rcases List.mem_append.1 hb with hb | hb
    ·have h2 := (h.rm b hb).2.2
     rw [← e, h1.2] at h2; cases h2
    ·obtain ⟨i, _, e2⟩ := List.mem_map.1 hb
     have h2 := h.hi a (by omega)
     rw [h1.2] at h2; cases h2
  ·rw [List.mem_append, List.mem_append, A.mem_live, List.mem_map, List.mem_map]
   constructor
   ·rintro ⟨i, hi, rfl⟩
    have hi := List.mem_range.1 hi
    by_cases ho : A.s.ok ((i : Int) + 1) = true
    ·exact .inl ⟨by omega, ho⟩
    ·right
     by_cases hf : (i : Int) + 1 ≤ A.s.fresh
     ·exact .inl (h.cov _ (by omega) hf (by simpa using ho))
     ·exact .inr ⟨((i : Int) - A.s.fresh).toNat, List.mem_range.2 (by omega), by omega⟩
   ·rintro (⟨h0, h1⟩ | h1 | ⟨i, hi, rfl⟩)
    ·have h2 := SM.ok_rng h h0 h1
     exact ⟨(j - 1).toNat, List.mem_range.2 (by omega), by omega⟩
    ·have h2 := h.rm j h1
     exact ⟨(j - 1).toNat, List.mem_range.2 (by omega), by omega⟩
    ·have hi := List.mem_range.1 hi
     exact ⟨(A.s.fresh + i).toNat, List.mem_range.2 (by omega), by omega⟩
 have h1 := hp.length_eq
 simp only [List.length_map, List.length_range, List.length_append] at h1
 unfold SM.free
 omega
def UC (l r : Int) (k : Nat) : Int := if k = 0 then l else r
def ndAdd (n x : Nd) : Nd := ⟨n.key, n.val, n.lf, n.rg, n.size + x.size, IntKind.i64.wrap (n.sum + x.sum), min n.mn x.mn, max n.mx x.mx⟩
def JU (A : AM) (l r : Int) (n : Nd) : Nat → Nd
 | 0 => n
 | k + 1 => if UC l r k = 0 then JU A l r n k else ndAdd (JU A l r n k) (A.nd (UC l r k))
def Vp (key val l r : Int) : Nd := ⟨key, val, l, r, 1, val, val, val⟩
def AM.nodeOf (A : AM) (key val l r : Int) : Nd := JU A l r (Vp key val l r) 2
theorem Q4 (A : AM) (l r : Int) (n : Nd) : ∀ k, (JU A l r n k).lf = n.lf ∧ (JU A l r n k).rg = n.rg ∧ (JU A l r n k).key = n.key ∧ (JU A l r n k).val = n.val
 | 0 => ⟨rfl, rfl, rfl, rfl⟩
 | k + 1 => by
  unfold JU
  split
  ·exact Q4 A l r n k
  ·exact Q4 A l r n k
structure Kd (A : AM) (l r : Int) : Prop where
 cl : l = 0 ∨ (1 ≤ l ∧ A.s.ok l = true)
 cr : r = 0 ∨ (1 ≤ r ∧ A.s.ok r = true)
 lz : 0 ≤ A.sz l
 rz : 0 ≤ A.sz r
 z : 1 + A.sz l + A.sz r ≤ 2147483647
theorem sz_0 {A : AM} (h : SOk A.s) : A.sz 0 = 0 := by unfold AM.sz; rw [h.u0]; rfl
theorem sz_ok {A : AM} {c : Int} (h : A.s.ok c = true) : A.sz c = (A.nd c).size := by unfold AM.sz; rw [if_pos h]
theorem Kd.at_ {A : AM} {l r : Int} (h : Kd A l r) (k : Nat) : (UC l r k = 0 ∨ (1 ≤ UC l r k ∧ A.s.ok (UC l r k) = true)) ∧ 0 ≤ A.sz (UC l r k) := by
 unfold UC
 split
 ·exact ⟨h.cl, h.lz⟩
 ·exact ⟨h.cr, h.rz⟩
theorem Dh {A : AM} (hA : AWf A) {l r : Int} (h : Kd A l r) (n : Nd) (k : Nat) : (JU A l r n (k + 1)).size = (JU A l r n k).size + A.sz (UC l r k) := by
 rw [JU]
 split
 ·rename_i e; rw [e, sz_0 hA.s]; omega
 ·rename_i e; rw [sz_ok ((h.at_ k).1.resolve_left e).2]; rfl
theorem DZ {A : AM} (hA : AWf A) {key val l r : Int} (h : Kd A l r) : (A.nodeOf key val l r).size = 1 + A.sz l + A.sz r := by
 unfold AM.nodeOf
 rw [Dh hA h, Dh hA h]; rfl
theorem Ze2 {A : AM} (h : AWf A) {c : Int} (hc : c = 0 ∨ (1 ≤ c ∧ A.s.ok c = true)) : 0 ≤ c ∧ c ≤ 65536 ∧ c.toNat < A.s.used.length := by
 have h4 := h.s.cap
 have h5 : A.s.cap = (A.s.used.length : Int) - 1 := rfl
 rcases hc with e | ⟨h1, h2⟩
 ·subst e; exact ⟨by omega, by omega, by show 0 < _; omega⟩
 ·have h3 := SM.ok_rng h.s (by omega) h2
  omega
def Is (A : AM) : Tr → Int → Prop
 | .nil, i => i = 0
 | .node l k v r, i => 1 ≤ i ∧ A.s.ok i = true ∧ (A.nd i).key = k ∧ (A.nd i).val = v ∧ Is A l (A.nd i).lf ∧ Is A r (A.nd i).rg
theorem Is.sz {A : AM} {R : List Int} (h : ARf A R) : ∀ (t : Tr) (i : Int), Is A t i → A.sz i = t.n
 | .nil, i, hi => by
  have : i = 0 := hi
  subst this
  unfold AM.sz
  rw [h.s.u0]; rfl
 | .node l k v r, i, ⟨h1, h2, _, _, h5, h6⟩ => by
  have hs := (h.sz i h2 (by omega)).1
  rw [Is.sz h l _ h5, Is.sz h r _ h6] at hs
  unfold AM.sz
  rw [if_pos h2, hs]; simp only [Tr.n]; omega
theorem Is.ref {A : AM} : ∀ {t : Tr} {i : Int}, Is A t i → i = 0 ∨ (1 ≤ i ∧ A.s.ok i = true)
 | .nil, _, h => .inl h
 | .node _ _ _ _, _, h => .inr ⟨h.1, h.2.1⟩
theorem ARf.tree {A : AM} {R : List Int} (h : ARf A R) : ∀ (m : Nat) (i : Int), (i = 0 ∨ (1 ≤ i ∧ A.s.ok i = true)) → A.sz i ≤ m → ∃ t, Is A t i
 | m, i, hi, hm => by
  induction m using Nat.strongRecOn generalizing i with
  | _ m ih =>
   rcases hi with e | ⟨h1, h2⟩
   ·exact ⟨.nil, e⟩
   ·have hs := (h.sz i h2 (by omega)).1
    have hp := h.pos i h2 (by omega)
    have e : A.sz i = (A.nd i).size := by unfold AM.sz; rw [if_pos h2]
    have hk := fun c hc => h.kid i h2 (by omega) c hc
    have hn : ∀ c, (c = 0 ∨ (1 ≤ c ∧ A.s.ok c = true)) → 0 ≤ A.sz c := fun c hc => by
     rcases hc with e | ⟨c1, c2⟩
     ·subst e; unfold AM.sz; rw [h.s.u0]; exact Int.le_refl _
     ·have := h.pos c c2 (by omega); unfold AM.sz; rw [if_pos c2]; omega
    have hl := hn _ (hk _ (.inl rfl))
    have hr := hn _ (hk _ (.inr rfl))
    obtain ⟨l, il⟩ := ih (m - 1) (by omega) _ (hk _ (.inl rfl)) (by omega)
    obtain ⟨r, ir⟩ := ih (m - 1) (by omega) _ (hk _ (.inr rfl)) (by omega)
    exact ⟨.node l _ _ r, h1, h2, rfl, rfl, il, ir⟩
def ixs (A : AM) : Tr → Int → List Int
 | .nil, _ => []
 | .node l _ _ r, i => ixs A l (A.nd i).lf ++ i :: ixs A r (A.nd i).rg
theorem Xv {A B : AM} (h : ∀ j, 1 ≤ j → A.s.ok j = true → B.nd j = A.nd j) : ∀ (t : Tr) (i : Int), Is A t i → ixs B t i = ixs A t i
 | .nil, _, _ => rfl
 | .node l k v r, i, ⟨h1, h2, _, _, h5, h6⟩ => by
  unfold ixs
  rw [h i h1 h2, Xv h l _ h5, Xv h r _ h6]
structure Kp (A B : AM) (R : List Int) : Prop where
 is : ∀ r ∈ R, ∀ t, Is A t r → Is B t r
 ix : ∀ r ∈ R, ∀ t, Is A t r → ixs B t r = ixs A t r
instance {A B : AM} {R : List Int} : CoeFun (Kp A B R) fun _ => ∀ r ∈ R, ∀ t, Is A t r → Is B t r := ⟨Kp.is⟩
theorem Kp.refl (A : AM) (R : List Int) : Kp A A R := ⟨fun _ _ _ h => h, fun _ _ _ _ => rfl⟩
theorem Kp.trans {A B C : AM} {R : List Int} (h : Kp A B R) (k : Kp B C R) : Kp A C R := ⟨fun r hr t ht => k.is r hr t (h.is r hr t ht), fun r hr t ht => (k.ix r hr t (h.is r hr t ht)).trans (h.ix r hr t ht)⟩
theorem Kp.sub {A B : AM} {R R' : List Int} (h : Kp A B R) (hs : ∀ r ∈ R', r ∈ R) : Kp A B R' := ⟨fun r hr t ht => h.is r (hs r hr) t ht, fun r hr t ht => h.ix r (hs r hr) t ht⟩
theorem Kp.cons {A B : AM} {R : List Int} {x : Int} (h : Kp A B (x :: R)) : Kp A B R := h.sub fun _ hr => List.mem_cons_of_mem _ hr
theorem Is.mono {A B : AM} {RB : List Int} (hB : ARf B RB) (h : ∀ j, 0 ≤ j → B.s.ok j = true → B.nd j = A.nd j) : ∀ (t : Tr) (i : Int), Is A t i → (i = 0 ∨ B.s.ok i = true) → Is B t i
 | .nil, _, hi, _ => hi
 | .node l k v r, i, ⟨h1, h2, h3, h4, h5, h6⟩, hb => by
  have hb : B.s.ok i = true := hb.resolve_left (by omega)
  have hk := fun c hc => hB.kid i hb (by omega) c hc
  have e := h i (by omega) hb
  refine ⟨h1, hb, by rw [e]; exact h3, by rw [e]; exact h4, ?_, ?_⟩
  ·rw [e]; exact Is.mono hB h l _ h5 ((hk _ (.inl (by rw [e]))).imp id (·.2))
  ·rw [e]; exact Is.mono hB h r _ h6 ((hk _ (.inr (by rw [e]))).imp id (·.2))
theorem Is.up {A B : AM} (h : ∀ j, 1 ≤ j → A.s.ok j = true → B.s.ok j = true ∧ B.nd j = A.nd j) : ∀ (t : Tr) (i : Int), Is A t i → Is B t i
 | .nil, _, hi => hi
 | .node l k v r, i, ⟨h1, h2, h3, h4, h5, h6⟩ => by
  obtain ⟨hb, e⟩ := h i h1 h2
  refine ⟨h1, hb, by rw [e]; exact h3, by rw [e]; exact h4, ?_, ?_⟩
  ·rw [e]; exact Is.up h l _ h5
  ·rw [e]; exact Is.up h r _ h6
structure TOp (A B : AM) (R : List Int) (i : Int) (t : Tr) (c : Nat) : Prop where
 ref : ARf B (i :: R)
 is : Is B t i
 kp : Kp A B R
 fr : A.s.free ≤ B.s.free + c
 cap : B.s.used.length = A.s.used.length
theorem TOp.rng {A B : AM} {R : List Int} {i : Int} {t : Tr} {c : Nat} (h : TOp A B R i t c) : 0 ≤ i ∧ i < 4294967296 := ⟨(h.ref.rng (List.mem_cons_self ..)).1, (h.ref.rng (List.mem_cons_self ..)).2.1⟩
theorem ARf.refl {A : AM} {R : List Int} {i : Int} {t : Tr} (h : ARf A (i :: R)) (hi : Is A t i) : TOp A A R i t 0 := ⟨h, hi, Kp.refl _ _, by omega, rfl⟩
theorem TOp.trans {A B C : AM} {R R' : List Int} {i j : Int} {t u : Tr} {c d : Nat} (h : TOp A B R' i t c) (k : TOp B C R j u d) (hs : ∀ r ∈ R, r ∈ R') : TOp A C R j u (c + d) :=
 ⟨k.ref, k.is, (h.kp.sub hs).trans k.kp, by have := h.fr; have := k.fr; omega, k.cap.trans h.cap⟩
theorem AM.ret_eq {A : AM} {R : List Int} (h : ARf A R) {i : Int} (hi : i = 0 ∨ (1 ≤ i ∧ A.s.ok i = true)) (hl : R.length + 1 ≤ 1000000000) : ARf (A.ret i) (i :: R) ∧ A.retE i = 0 := by
 unfold AM.ret AM.retE
 rcases hi with e | ⟨h1, h2⟩
 ·subst e; rw [if_neg (fun h => h.1 rfl), if_pos (.inl rfl)]; exact ⟨h.cons0 hl, rfl⟩
 ·rw [if_pos ⟨by omega, h2⟩, if_pos (.inr h2)]; exact ⟨h.inc h2 (by omega) hl, rfl⟩
theorem Is.same {A B : AM} (hs : B.s = A.s) (hn : B.nodes = A.nodes) : ∀ (t : Tr) (i : Int), Is A t i → Is B t i := by
 refine fun t i h => Is.up (fun j _ hj => ⟨by rw [hs]; exact hj, ?_⟩) t i h
 unfold AM.nd; rw [hn]
theorem AM.ret_same (A : AM) (i : Int) : (A.ret i).s = A.s ∧ (A.ret i).nodes = A.nodes := by
 unfold AM.ret
 split <;> exact ⟨rfl, rfl⟩
theorem Is.ret {A : AM} {t : Tr} {j : Int} (i : Int) (h : Is A t j) : Is (A.ret i) t j := Is.same (A.ret_same i).1 (A.ret_same i).2 t j h
theorem Kp.ret (A : AM) (i : Int) (R : List Int) : Kp A (A.ret i) R := ⟨fun _ _ _ h => h.ret i, fun _ _ t ht => Xv (fun j _ _ => by unfold AM.nd; rw [(A.ret_same i).2]) t _ ht⟩
end Go.V
namespace Go.V
open Go Go.RowKit
theorem AM.make_keep {A : AM} {n : Nd} (h : AWf A) (hf : 0 < A.s.free) : (∀ j, 1 ≤ j → A.s.ok j = true → (A.make n).s.ok j = true ∧ (A.make n).nd j = A.nd j) ∧ (A.make n).s.ok A.s.next = true ∧ (A.make n).nd A.s.next = n ∧ (A.make n).s.free = A.s.free - 1 ∧ (A.make n).s.used.length = A.s.used.length := by
 have hn := SM.next_rng h.s hf
 have hnl : A.s.next.toNat < A.nodes.length := by rw [h.nl]; exact hn.2.2.1
 have hok : ∀ j, 0 ≤ j → (A.make n).s.ok j = if j = A.s.next then true else A.s.ok j := fun j hj => SM.alloc_ok' h.s hf hj
 have hnd : ∀ j, 0 ≤ j → (A.make n).nd j = if j = A.s.next then n else A.nd j := fun j hj => AM.nd_set hnl (by omega) hj
 refine ⟨fun j hj ho => ?_, by rw [hok _ (by omega), if_pos rfl], by rw [hnd _ (by omega), if_pos rfl], SM.alloc_free _, ?_⟩
 ·have hne : j ≠ A.s.next := fun e => by rw [e, hn.2.2.2] at ho; cases ho
  rw [hok j (by omega), hnd j (by omega), if_neg hne, if_neg hne]; exact ⟨ho, rfl⟩
 ·show (A.s.used.set _ _).length = _
  rw [List.length_set]
structure Mk (A : AM) (R : List Int) (l r : Int) (tl tr : Tr) (k v : Int) : Prop where
 kd : Kd A l r
 rf : ARf (A.make (A.nodeOf k v l r)) (A.s.next :: l :: r :: R)
 is : Is (A.make (A.nodeOf k v l r)) (.node tl k v tr) A.s.next
 kp : Kp A (A.make (A.nodeOf k v l r)) (l :: r :: R)
 fr : (A.make (A.nodeOf k v l r)).s.free = A.s.free - 1
 cap : (A.make (A.nodeOf k v l r)).s.used.length = A.s.used.length
theorem Mk.of {A : AM} {R : List Int} {l r : Int} {tl tr : Tr} {k v : Int} (hA : ARf A (l :: r :: R)) (hl : Is A tl l) (hr : Is A tr r) (hf : 0 < A.s.free) (hz : tl.n + tr.n ≤ 2000000000) (hlen : R.length + 4 ≤ 1000000000) : Mk A R l r tl tr k v := by
 have hn := SM.next_rng hA.s hf
 have e1 := Is.sz hA tl l hl
 have e2 := Is.sz hA tr r hr
 have kd : Kd A l r := ⟨hl.ref, hr.ref, by omega, by omega, by omega⟩
 have hnl := Q4 A l r (Vp k v l r) 2
 have hlf : (A.nodeOf k v l r).lf = l := hnl.1
 have hrg : (A.nodeOf k v l r).rg = r := hnl.2.1
 have hky : (A.nodeOf k v l r).key = k := hnl.2.2.1
 have hvl : (A.nodeOf k v l r).val = v := hnl.2.2.2
 have hsz := DZ hA.toAWf (key := k) (val := v) kd
 obtain ⟨k1, k2, k3, k4, k5⟩ := AM.make_keep (n := A.nodeOf k v l r) hA.toAWf hf
 have rf := hA.make (n := A.nodeOf k v l r) hf (by rw [hlf]; exact hl.ref) (by rw [hrg]; exact hr.ref) (by rw [hlf, hrg]; omega) (by omega) (by simp; omega)
 refine ⟨kd, rf, ⟨hn.1, k2, by rw [k3]; exact hky, by rw [k3]; exact hvl, ?_, ?_⟩, ⟨fun x _ t ht => Is.up k1 t x ht, fun x _ t ht => Xv (fun j h0 hj => (k1 j h0 hj).2) t x ht⟩, k4, k5⟩
 ·rw [k3, hlf]; exact Is.up k1 tl l hl
 ·rw [k3, hrg]; exact Is.up k1 tr r hr
structure Rl (A B : AM) (R : List Int) : Prop where
 ref : ARf B R
 kp : Kp A B R
 fr : A.s.free ≤ B.s.free
 cap : B.s.used.length = A.s.used.length
theorem Mk.op {A B C : AM} {R : List Int} {l r : Int} {tl tr : Tr} {k v : Int} (h : Mk A R l r tl tr k v) (h1 : Rl (A.make (A.nodeOf k v l r)) B (A.s.next :: r :: R)) (h2 : Rl B C (A.s.next :: R)) : TOp A C R A.s.next (.node tl k v tr) 1 :=
 ⟨h2.ref, h2.kp _ (List.mem_cons_self ..) _ (h1.kp _ (List.mem_cons_self ..) _ h.is),
  ((h.kp.cons.cons.trans h1.kp.cons.cons).trans h2.kp.cons),
  by have := h.fr; have := h1.fr; have := h2.fr; omega, by rw [h2.cap, h1.cap, h.cap]⟩
theorem Mk.p1 {A : AM} {R : List Int} {l r : Int} {tl tr : Tr} {k v : Int} (h : Mk A R l r tl tr k v) : ARf (A.make (A.nodeOf k v l r)) (l :: A.s.next :: r :: R) := h.rf.perm (List.Perm.swap _ _ _)
theorem Rl.p1 {A B : AM} {R : List Int} {x r : Int} (h : Rl A B (x :: r :: R)) : ARf B (r :: x :: R) := h.ref.perm (List.Perm.swap _ _ _)
structure Opn (A B : AM) (R : List Int) (x y : Int) (l r : Tr) : Prop where
 ref : ARf B (x :: y :: R)
 il : Is B l x
 ir : Is B r y
 kp : Kp A B R
 fr : A.s.free ≤ B.s.free
 cap : B.s.used.length = A.s.used.length
theorem Opn.rng {A B : AM} {R : List Int} {x y : Int} {l r : Tr} (h : Opn A B R x y l r) : (0 ≤ x ∧ x < 4294967296) ∧ 0 ≤ y ∧ y < 4294967296 := by
 have h1 := h.ref.rng (r := x) (by simp)
 have h2 := h.ref.rng (r := y) (by simp)
 omega
theorem Opn.of {A B : AM} {R : List Int} {i k v : Int} {l r : Tr} (hi : Is A (.node l k v r) i) (h : Rl ((A.ret (A.nd i).lf).ret (A.nd i).rg) B ((A.nd i).lf :: (A.nd i).rg :: R)) : Opn A B R (A.nd i).lf (A.nd i).rg l r :=
 ⟨h.ref, h.kp _ (by simp) _ ((hi.2.2.2.2.1.ret _).ret _), h.kp _ (by simp) _ ((hi.2.2.2.2.2.ret _).ret _), ((Kp.ret _ _ _).trans (Kp.ret _ _ _)).trans h.kp.cons.cons,
  by have := h.fr; rw [(AM.ret_same _ _).1, (AM.ret_same _ _).1] at this; exact this, by rw [h.cap, (AM.ret_same _ _).1, (AM.ret_same _ _).1]⟩
theorem Opn.swap {A B : AM} {R : List Int} {x y : Int} {l r : Tr} (h : Opn A B R x y l r) : ARf B (y :: x :: R) := h.ref.perm (List.Perm.swap _ _ _)
structure Ch (A B : AM) (R : List Int) (c : Nat) : Prop where
 kp : Kp A B R
 fr : A.s.free ≤ B.s.free + c
 cap : B.s.used.length = A.s.used.length
theorem Ch.trans {A B C : AM} {R R' R'' : List Int} {c d : Nat} (h : Ch A B R' c) (k : Ch B C R'' d) (h1 : ∀ r ∈ R, r ∈ R') (h2 : ∀ r ∈ R, r ∈ R'') : Ch A C R (c + d) :=
 ⟨(h.kp.sub h1).trans (k.kp.sub h2), by have := h.fr; have := k.fr; omega, k.cap.trans h.cap⟩
theorem Opn.ch {A B : AM} {R : List Int} {x y : Int} {l r : Tr} (h : Opn A B R x y l r) : Ch A B R 0 := ⟨h.kp, by have := h.fr; omega, h.cap⟩
theorem TOp.ch {A B : AM} {R : List Int} {i : Int} {t : Tr} {c : Nat} (h : TOp A B R i t c) : Ch A B R c := ⟨h.kp, h.fr, h.cap⟩
theorem Rl.ch {A B : AM} {R : List Int} (h : Rl A B R) : Ch A B R 0 := ⟨h.kp, by have := h.fr; omega, h.cap⟩
theorem TOp.after {A B C : AM} {R R' : List Int} {i : Int} {t : Tr} {c d e : Nat} (k : TOp B C R i t d) (h : Ch A B R' c) (h1 : ∀ r ∈ R, r ∈ R') (he : c + d ≤ e) : TOp A C R i t e :=
 let q := h.trans k.ch h1 (fun _ h => h)
 ⟨k.ref, k.is, q.kp, by have := q.fr; omega, q.cap⟩
theorem ARf.r3 {A : AM} {R : List Int} {a b c : Int} (h : ARf A (a :: b :: c :: R)) : ARf A (c :: a :: b :: R) := h.perm ((List.Perm.cons a (List.Perm.swap c b R)).trans (List.Perm.swap c a _))
theorem ARf.r4 {A : AM} {R : List Int} {a b c d : Int} (h : ARf A (a :: b :: c :: d :: R)) : ARf A (d :: a :: b :: c :: R) := h.perm ((List.Perm.cons a ((List.Perm.cons b (List.Perm.swap d c R)).trans (List.Perm.swap d b _))).trans (List.Perm.swap d a _))
end Go.V
namespace Go.V
open Go Go.RowKit
theorem X6 (A : AM) : ∀ (t : Tr) (i : Int), Is A t i → (ixs A t i).map (fun j => ((A.nd j).key, (A.nd j).val)) = t.ls
 | .nil, _, _ => rfl
 | .node l k v r, i, ⟨_, _, h3, h4, h5, h6⟩ => by
  unfold ixs Tr.ls
  rw [List.map_append, List.map_cons, X6 A l _ h5, X6 A r _ h6, h3, h4]
theorem VU (A : AM) {t : Tr} {i : Int} (h : Is A t i) : (ixs A t i).length = t.n := by
 rw [← Tr.ls_len, ← X6 A t i h, List.length_map]
theorem D6 {A : AM} {t : Tr} {i : Int} (h : Is A t i) (hs : Srt t.ls) : (ixs A t i).Nodup := by
 have h1 := X6 A t i h
 rw [← h1] at hs
 have h2 := List.pairwise_map.1 hs
 exact h2.imp fun {a b} hab e => by subst e; exact absurd hab (by omega)
theorem Hn (A : AM) : ∀ (t : Tr) (i : Int), Is A t i → ∀ j ∈ ixs A t i, 1 ≤ j ∧ A.s.ok j = true
 | .nil, _, _, _, hj => by cases hj
 | .node l k v r, i, ⟨h1, h2, _, _, h5, h6⟩, j, hj => by
  unfold ixs at hj
  rcases List.mem_append.1 hj with hj | hj
  ·exact Hn A l _ h5 j hj
  ·rcases List.mem_cons.1 hj with rfl | hj
   ·exact ⟨h1, h2⟩
   ·exact Hn A r _ h6 j hj
theorem JW {A : AM} : ∀ {t : Tr} {i : Int}, Is A t i → i ≠ 0 → i ∈ ixs A t i
 | .nil, _, h, hne => absurd h hne
 | .node _ _ _ _, _, _, _ => by unfold ixs; simp
theorem QR {A : AM} : ∀ (t : Tr) (i : Int), Is A t i → ∀ j ∈ ixs A t i, ∀ c, c = (A.nd j).lf ∨ c = (A.nd j).rg → c ≠ 0 → c ∈ ixs A t i
 | .nil, _, _, _, hj, _, _, _ => by cases hj
 | .node l k v r, i, ⟨h1, h2, _, _, h5, h6⟩, j, hj, c, hc, hne => by
  unfold ixs at hj ⊢
  rcases List.mem_append.1 hj with hj | hj
  ·exact List.mem_append_left _ (QR l _ h5 j hj c hc hne)
  ·rcases List.mem_cons.1 hj with rfl | hj
   ·rcases hc with rfl | rfl
    ·exact List.mem_append_left _ (JW h5 hne)
    ·exact List.mem_append_right _ (List.mem_cons_of_mem _ (JW h6 hne))
   ·exact List.mem_append_right _ (List.mem_cons_of_mem _ (QR r _ h6 j hj c hc hne))
theorem reach {A : AM} {R : List Int} (h : ARf A R) (S : Int → Prop) (hR : ∀ r ∈ R, r ≠ 0 → S r) (hK : ∀ j, 1 ≤ j → A.s.ok j = true → S j → ∀ c, c = (A.nd j).lf ∨ c = (A.nd j).rg → c ≠ 0 → S c) : ∀ j, 1 ≤ j → A.s.ok j = true → S j := by
 have key : ∀ (m : Nat) (j : Int), 1 ≤ j → A.s.ok j = true → 2147483647 - (A.nd j).size < m → S j := by
  intro m
  induction m with
  | zero => intro j h1 h2 h3; have := (h.sz j h2 (by omega)).2; omega
  | succ m ih =>
   intro j h1 h2 h3
   have hc := h.cnt j h2 (by omega)
   have hm : j ∈ R ++ A.kids := List.count_pos_iff.1 (by omega)
   rcases List.mem_append.1 hm with hm | hm
   ·exact hR j hm (by omega)
   ·obtain ⟨p, p0, p1, p2⟩ := (A.mem_kids j).1 hm
    have hp1 := (SM.ok_rng h.s p0 p1).1
    have hsz := (h.sz p p1 p0).1
    have hn : ∀ c, (c = 0 ∨ (1 ≤ c ∧ A.s.ok c = true)) → 0 ≤ A.sz c := fun c hc => by
     rcases hc with e | ⟨c1, c2⟩
     ·subst e; unfold AM.sz; rw [h.s.u0]; exact Int.le_refl _
     ·have := h.pos c c2 (by omega); unfold AM.sz; rw [if_pos c2]; omega
    have hl := hn _ (h.kid p p1 p0 _ (.inl rfl))
    have hr := hn _ (h.kid p p1 p0 _ (.inr rfl))
    have hsj : A.sz j = (A.nd j).size := by unfold AM.sz; rw [if_pos h2]
    have hlt : (A.nd j).size < (A.nd p).size := by
     rcases p2 with e | e
     ·rw [← hsj, e]; omega
     ·rw [← hsj, e]; omega
    exact hK p hp1 p1 (ih p hp1 p1 (by omega)) j p2 (by omega)
 intro j h1 h2
 exact key ((2147483647 - (A.nd j).size).toNat + 1) j h1 h2 (by have := (h.sz j h2 (by omega)).2; omega)
theorem Va {A : AM} {r : Int} {t : Tr} (h : ARf A [r]) (hi : Is A t r) (hs : Srt t.ls) : A.s.cap - A.s.free = t.n := by
 have h1 := AM.cnt_live h.s
 have hp : A.live.Perm (ixs A t r) := (List.perm_ext_iff_of_nodup A.live_nodup (D6 hi hs)).2 fun j => by
  rw [A.mem_live]
  constructor
  ·rintro ⟨h0, h2⟩
   have h3 := (SM.ok_rng h.s h0 h2).1
   refine reach h (fun j => j ∈ ixs A t r) (fun x hx hne => ?_) (fun j _ _ hj c hc hne => QR t r hi j hj c hc hne) j h3 h2
   rw [List.mem_singleton.1 hx] at hne ⊢
   exact JW hi hne
  ·intro hj
   have := Hn A t r hi j hj
   exact ⟨by omega, this.2⟩
 have h2 := hp.length_eq
 rw [VU A hi] at h2
 omega
end Go.V
namespace Go.Proofs.YtlifpobidhfbfaaGreatDoor
open Go Go.V
variable {g w : World} {L : List HP}
theorem Zbf (s : Nat) (ua ga ra : Option Addr) (n ng nr uc gc rc : Nat) (fr : Int) (hn : n ≤ 65537) (Z : St g (Zd s #[.slice ua n uc, .slice ga ng gc, .slice ra nr rc, .int .u32 fr] 227 :: L) w) :
  Sp Tryz.prog 139 [.pointer (some ⟨s, 0, none⟩)] w (fun v w' => v = .int .i64 (n - 1) ∧ St g (Zd s #[.slice ua n uc, .slice ga ng gc, .slice ra nr rc, .int .u32 fr] 227 :: L) w') := by
 refine Sp.enter Tryz.func139 rfl (by kernel_rfl) (by kernel_rfl) ?_
 refine Ze7 <| WC.region <| Ze6 1 rfl <| Ze8 <| Ze7 <| WC.region <| Zfd 6 [.slice ua n uc] rfl (by exact Z.ld 0 rfl rfl) ?_
 refine Zfi 8 rfl (ZF (by omega)) ?_
 refine Ze6 1 rfl <| Ze8 <| Zfa ?_
 refine ⟨[.int .i64 ((n : Int) - 1)], rfl, ?_⟩
 exact ⟨rfl, Z⟩
theorem Zeb (s : Nat) (S : SM) (hl : S.used.length ≤ 65537) (Z : St g (XR s S :: L) w) :
  Sp Tryz.prog 139 [.pointer (some ⟨s, 0, none⟩)] w (fun v w' => v = .int .i64 S.cap ∧ St g (XR s S :: L) w') := by
 refine Sp.enter Tryz.func139 rfl (by kernel_rfl) (by kernel_rfl) ?_
 refine Ze7 <| WC.region ?_
 obtain ⟨⟨ua, uc, ga, gc, ra, rc⟩, Z⟩ := St.exOpen (f := Y0 s S) Z; have hbu := XD S.used; have hbg := ZB S.gen; have hbr := ZB S.rel
 replace Z : St g (Zd s #[.slice ua (YQ S.used).length uc, .slice ga (Zj S.gen).length gc, .slice ra (Zj S.rel).length rc, .int .u32 S.fresh] 227 :: Ze 4 1 (YQ S.used) ua uc :: Ze 145 1 (Zj S.gen) ga gc :: Ze 145 1 (Zj S.rel) ra rc :: L) w := Z
 refine Ze6 1 rfl <| Ze8 <| Ze7 <| WC.region <| Zfd 6 [.slice ua (YQ S.used).length uc] rfl (by exact Z.ld 0 rfl rfl) ?_
 refine Zfi 8 rfl (ZF (by omega)) ?_
 refine Ze6 1 rfl <| Ze8 <| Zfa ?_
 replace Z := St.exClose (f := Y0 s S) ⟨ua, uc, ga, gc, ra, rc⟩ Z
 replace Z : St g (XR s S :: L) w := Z
 refine ⟨[.int .i64 ((List.length (YQ S.used) : Int) - 1)], rfl, ?_⟩
 exact ⟨congrArg (Value.int .i64) (by rw [XD]; rfl), Z⟩
theorem Di (s : Nat) (S : SM) (hO : SOk S) (Z : St g (XR s S :: L) w) :
  Sp Tryz.prog 140 [.pointer (some ⟨s, 0, none⟩)] w (fun v w' => v = .int .i64 S.free ∧ St g (XR s S :: L) w') := by
 refine Sp.enter Tryz.func140 rfl (by kernel_rfl) (by kernel_rfl) ?_
 refine Ze7 <| WC.region ?_
 have hfr := hO.fr; have hcp : S.cap = (S.used.length : Int) - 1 := rfl; have hle := hO.le; have hrl := hO.rle
 obtain ⟨⟨ua, uc, ga, gc, ra, rc⟩, Z⟩ := St.exOpen (f := Y0 s S) Z; have hbu := XD S.used; have hbg := ZB S.gen; have hbr := ZB S.rel
 replace Z : St g (Zd s #[.slice ua (YQ S.used).length uc, .slice ga (Zj S.gen).length gc, .slice ra (Zj S.rel).length rc, .int .u32 S.fresh] 227 :: Ze 4 1 (YQ S.used) ua uc :: Ze 145 1 (Zj S.gen) ga gc :: Ze 145 1 (Zj S.rel) ra rc :: L) w := Z
 refine Ze6 1 rfl <| Ze8 <| Ze7 <| Zfr [([0, 5, 8, 1, 9, 2, 10, 3, 11, 4, 12], some (6, [0, 1, 2, 3, 4, 8, 9, 10, 11, 12])), ([7, 13, 14], none)] (by kernel_rfl) (by kernel_rfl) ?_
 refine Zfp 11 [.slice ra (Zj S.rel).length rc, .int .u32 S.fresh] rfl (by exact ⟨Z.ld 0 rfl rfl, Z.ld 0 rfl rfl⟩) ?_
 refine Zf8 15 rfl (ZF (by omega)) ?_
 refine WQ.dn Z (fun w Z => ?_)
 refine Zfb rfl rfl (Zbf _ ua ga ra (YQ S.used).length (Zj S.gen).length (Zj S.rel).length uc gc rc S.fresh (by omega) Z) rfl ?_
 clear Z; rintro _ w ⟨rfl, Z⟩
 replace Z := Z.n4 L rfl
 refine Ze8 ?_
 refine ⟨by exact ⟨Zff rfl rfl rfl rfl, Zff rfl rfl rfl rfl, Zff rfl rfl rfl rfl, Zfq rfl rfl rfl rfl (Z.ld 0 rfl rfl), Zff rfl rfl rfl rfl, Zff rfl rfl rfl rfl, Zff rfl rfl rfl rfl, Zff rfl rfl rfl rfl, Zfq rfl rfl rfl rfl (Z.ld 0 rfl rfl), Zff rfl rfl rfl (congrArg (Value.int .i64) (Eq.symm (ZF (by omega))))⟩, ?_⟩
 refine Zfg 1 rfl <| Zf8 10 rfl (ZF (by omega)) ?_
 refine Zfg 1 rfl <| Zf8 16 rfl (ZF (by omega)) ?_
 refine Zfg 1 rfl <| Zfo ?_
 refine Z.dn (fun w Z => ?_)
 as_aux_lemma =>
 refine Zfa ?_
 replace Z := St.exClose (f := Y0 s S) ⟨ua, uc, ga, gc, ra, rc⟩ Z
 replace Z : St g (XR s S :: L) w := Z
 refine ⟨[.int .i64 (((List.length (Zj S.rel) : Int) + ((YQ S.used).length - 1)) - S.fresh)], rfl, ?_⟩
 exact ⟨congrArg (Value.int .i64) (by unfold SM.free; omega), Z⟩
theorem Zcm (s : Nat) (S : SM) (i : Int) (hl : S.used.length ≤ 65537) (hi : 0 ≤ i ∧ i < 4294967296) (Z : St g (XR s S :: L) w) :
  Sp Tryz.prog 144 [.pointer (some ⟨s, 0, none⟩), .int .u32 i] w (fun v w' => v = .bool (S.ok i) ∧ St g (XR s S :: L) w') := by
 refine Sp.enter Tryz.func144 rfl (by kernel_rfl) (by kernel_rfl) ?_
 refine Ze7 <| WC.region ?_
 obtain ⟨⟨ua, uc, ga, gc, ra, rc⟩, Z⟩ := St.exOpen (f := Y0 s S) Z; have hbu := XD S.used; have hbg := ZB S.gen; have hbr := ZB S.rel
 replace Z : St g (Zd s #[.slice ua (YQ S.used).length uc, .slice ga (Zj S.gen).length gc, .slice ra (Zj S.rel).length rc, .int .u32 S.fresh] 227 :: Ze 4 1 (YQ S.used) ua uc :: Ze 145 1 (Zj S.gen) ga gc :: Ze 145 1 (Zj S.rel) ra rc :: L) w := Z
 refine Ze6 1 rfl <| Ze8 <| Ze7 <| WC.region <| Ze6 2 rfl <| Zfi 6 rfl (ZF (by omega)) ?_
 refine Zfd 7 [.slice ua (YQ S.used).length uc] rfl (by exact Z.ld 0 rfl rfl) ?_
 by_cases cg1 : i < (List.length (YQ S.used) : Int)
 ·refine Zfm 13 (.bool true) (congrArg Value.bool (decide_eq_true cg1)) <| Zfh rfl rfl rfl <| Ze6 1 rfl <| Zfh rfl rfl rfl <| Ze6 1 rfl <| Zfh rfl rfl rfl <| Ze6 1 rfl <| Zfh rfl rfl rfl <| Zfd 1 [.slice ua (YQ S.used).length uc] rfl (by exact Z.ld 0 rfl rfl) ?_
  refine Zfh rfl rfl rfl <| Ze6 1 rfl <| Zfh rfl rfl rfl ?_
  obtain ⟨x, hx⟩ : ∃ x, S.used[i.toNat]? = some x := ⟨_, List.getElem?_eq_getElem (by omega)⟩
  refine Zfw rfl rfl (i := i) (i.toNat) el_225 rfl rfl (by omega) (by omega) (Z.rdO 1 rfl (Q7 hx)).1 ?_
  refine Zfh rfl rfl rfl <| Zfd 3 [.bool x] rfl (by exact (Z.rdO 1 rfl (Q7 hx)).2 0 _ rfl) ?_
  refine Ze8 ?_
  as_aux_lemma =>
  refine Zfa ?_
  replace Z := St.exClose (f := Y0 s S) ⟨ua, uc, ga, gc, ra, rc⟩ Z
  replace Z : St g (XR s S :: L) w := Z
  refine ⟨[.bool x], rfl, ?_⟩
  first | exact ⟨congrArg Value.bool (by unfold SM.ok; rw [hx]; rfl), Z⟩ | exact ⟨congrArg Value.bool (by unfold SM.ok; rw [List.getElem?_eq_none (by omega)]; rfl), Z⟩
 ·refine Zfm 13 (.bool false) (congrArg Value.bool (decide_eq_false cg1)) <| Ze9 rfl rfl rfl rfl <| Ze9 rfl rfl rfl rfl <| Ze9 rfl rfl rfl rfl <| Ze9 rfl rfl rfl rfl <| Ze9 rfl rfl rfl rfl <| Ze9 rfl rfl rfl rfl <| Ze9 rfl rfl rfl rfl <| Ze6 2 rfl <| Ze8 <| Zfa ?_
  replace Z := St.exClose (f := Y0 s S) ⟨ua, uc, ga, gc, ra, rc⟩ Z
  replace Z : St g (XR s S :: L) w := Z
  refine ⟨[.bool false], rfl, ?_⟩
  first | exact ⟨congrArg Value.bool (by unfold SM.ok; rw [hx]; rfl), Z⟩ | exact ⟨congrArg Value.bool (by unfold SM.ok; rw [List.getElem?_eq_none (by omega)]; rfl), Z⟩
theorem Zd2 (s : Nat) (S : SM) (i : Int) (hl : S.gen.length ≤ 65537) (hi : 0 ≤ i ∧ i < 4294967296) (Z : St g (XR s S :: L) w) :
  Sp Tryz.prog 255 [.pointer (some ⟨s, 0, none⟩), .int .u32 i] w (fun v w' => v = .int .u32 (S.genOf i) ∧ St g (XR s S :: L) w') := by
 refine Sp.enter Tryz.func255 rfl (by kernel_rfl) (by kernel_rfl) ?_
 refine Ze7 <| WC.region <| Ze6 1 rfl <| Ze8 <| Ze7 <| Ze7 <| WC.region ?_
 obtain ⟨⟨ua, uc, ga, gc, ra, rc⟩, Z⟩ := St.exOpen (f := Y0 s S) Z; have hbu := XD S.used; have hbg := ZB S.gen; have hbr := ZB S.rel
 replace Z : St g (Zd s #[.slice ua (YQ S.used).length uc, .slice ga (Zj S.gen).length gc, .slice ra (Zj S.rel).length rc, .int .u32 S.fresh] 227 :: Ze 4 1 (YQ S.used) ua uc :: Ze 145 1 (Zj S.gen) ga gc :: Ze 145 1 (Zj S.rel) ra rc :: L) w := Z
 refine Ze6 2 rfl <| Zfi 6 rfl (ZF (by omega)) ?_
 refine Zfd 6 [.slice ga (Zj S.gen).length gc] rfl (by exact Z.ld 0 rfl rfl) ?_
 refine Ze8 <| Zfe rfl (fun cd1 => ?_) (fun cd1 => ?_)
 ·refine Ze7 <| WC.region <| Ze6 1 rfl <| Ze8 <| Zfa ?_
  replace Z := St.exClose (f := Y0 s S) ⟨ua, uc, ga, gc, ra, rc⟩ Z
  replace Z : St g (XR s S :: L) w := Z
  refine ⟨[.int .u32 0], rfl, ?_⟩
  exact ⟨congrArg (Value.int .u32) (by unfold SM.genOf; rw [List.getElem?_eq_none (by omega)]; rfl), Z⟩
 ·refine Zfc <| Ze7 <| WC.region <| Zfd 5 [.slice ga (Zj S.gen).length gc] rfl (by exact Z.ld 0 rfl rfl) ?_
  obtain ⟨x, hx⟩ : ∃ x, S.gen[i.toNat]? = some x := ⟨_, List.getElem?_eq_getElem (by omega)⟩
  refine Zfw rfl rfl (i := i) (i.toNat) el_133 rfl rfl (by omega) (by omega) (Z.rdO 2 rfl (Z' hx)).1 ?_
  refine Zfd 2 [.int .u32 x] rfl (by exact (Z.rdO 2 rfl (Z' hx)).2 0 _ rfl) ?_
  refine Ze8 <| Zfa ?_
  replace Z := St.exClose (f := Y0 s S) ⟨ua, uc, ga, gc, ra, rc⟩ Z
  replace Z : St g (XR s S :: L) w := Z
  refine ⟨[.int .u32 x], rfl, ?_⟩
  exact ⟨congrArg (Value.int .u32) (by unfold SM.genOf; rw [hx]; rfl), Z⟩
end Go.Proofs.YtlifpobidhfbfaaGreatDoor
namespace Go.Proofs.YtlifpobidhfbfaaGreatDoor
open Go Go.V
theorem QZ {S : SM} (h : ¬ 0 ≤ (List.length (Zj S.rel) : Int) - 1) : S.rel = [] := by
 rw [ZB] at h
 exact List.length_eq_zero_iff.1 (by omega)
variable {g w : World} {L : List HP}
theorem Yz {n s : Nat} {ua ga : Option Addr} {uc gc : Nat} (Z : St g (Zd s #[.slice ua (n + 1) uc, .slice ga (n + 1) gc, .slice none 0 0, .int .u32 0] 227 :: Ze 4 1 (YQ (List.replicate (n + 1) false)) ua uc :: Ze 145 1 (Zj (List.replicate (n + 1) 0)) ga gc :: Ze 145 1 [] none 0 :: L) w) : St g (Y0 s (SM.new n) ⟨ua, uc, ga, gc, none, 0⟩ ++ L) w := by
 have e1 : (YQ (SM.new n).used).length = n + 1 := by simp [SM.new]
 have e2 : (Zj (SM.new n).gen).length = n + 1 := by simp [SM.new]
 unfold Y0
 rw [e1, e2]
 exact Z
theorem Qz (cap : Int) (hc : 1 ≤ cap ∧ cap ≤ 65536) (Z : St g (L) w) :
  Sp Tryz.prog 72 [.int .i64 cap] w (fun v w' => ∃ (s : Nat), v = .tuple #[.pointer (some ⟨s, 0, none⟩), .int .i64 0] ∧ St g (XR s (SM.new cap.toNat) :: L) w') := by
 refine Sp.enter Tryz.func72 rfl (by kernel_rfl) (by kernel_rfl) ?_
 refine Ze7 <| WC.region <| Ze6 2 rfl <| Ze8 <| Ze7 <| Ze7 <| WC.region <| Ze6 2 rfl <| Zgd 4 rfl (fun j => ?_)
 refine Zf4 9 rfl (Uw (dd _) (dd _)) <| Ze8 <| Zfl rfl (decide_eq_false ((by omega))) ?_
 refine Zfc <| Ze7 <| Zgq (.two [0, 3, 1, 4] 2 [3, 4] (.one [] 5 [0, 1] (.one [6] 7 [] (.seg [8, 9] .nil))) 5 [0, 1] (.one [] 2 [3, 4] (.one [6] 7 [] (.seg [8, 9] .nil)))) (by kernel_rfl) (by kernel_rfl) ?_
 refine Zfg 3 rfl <| Zf8 11 rfl (ZF (by omega)) ?_
 refine Zfg 1 rfl <| Zf8 14 rfl (ZF (by omega)) ?_
 refine Zfo ?_
 intro m1
 replace Z := Z.drewN m1; generalize hwm1 : World.drewN _ _ = w at *; clear hwm1
 refine ⟨?_, ?_⟩
 ·refine Zga rfl rfl (v := cap + 1) (v' := cap + 1) (cap.toNat + 1) (cap.toNat + 1) el_225 Z rfl (by omega) rfl (by omega) (by omega) (Rm.of (by omega) (by decide)) (fun b1 w Z => ?_)
  replace Z : St g (Ze 4 1 (List.replicate (cap.toNat + 1) [.bool false]) (some ⟨b1, 0, none⟩) (cap.toNat + 1) :: L) w := Z
  refine Ze8 ?_
  refine ⟨by exact ⟨Zff rfl rfl rfl rfl, Zff rfl rfl rfl (congrArg (Value.int .i64) (Eq.symm (ZF (by omega))))⟩, ?_⟩
  refine WQ.dn Z (fun w Z => ?_)
  refine Zga rfl rfl (v := cap + 1) (v' := cap + 1) (cap.toNat + 1) (cap.toNat + 1) el_133 Z rfl (by omega) rfl (by omega) (by omega) (Rm.of (by omega) (by decide)) (fun b2 w Z => ?_)
  replace Z := Z.n2 L (a0 := Ze 145 1 (List.replicate (cap.toNat + 1) [.int .u32 0]) (some ⟨b2, 0, none⟩) (cap.toNat + 1)) rfl
  refine Ze8 ?_
  refine ⟨by exact ⟨Zff rfl rfl rfl rfl, Zff rfl rfl rfl (congrArg (Value.int .i64) (Eq.symm (ZF (by omega))))⟩, ?_⟩
  refine Zgl rfl rfl (cs := [.slice (some ⟨b1, 0, none⟩) (cap.toNat + 1) (cap.toNat + 1), .slice (some ⟨b2, 0, none⟩) (cap.toNat + 1) (cap.toNat + 1), .slice none 0 0, .int .u32 0]) C5 rfl rfl <| WQ.dn Z (fun w Z => ?_)
  refine Zf0 rfl rfl #[.slice (some ⟨b1, 0, none⟩) (cap.toNat + 1) (cap.toNat + 1), .slice (some ⟨b2, 0, none⟩) (cap.toNat + 1) (cap.toNat + 1), .slice none 0 0, .int .u32 0] Z rfl rfl (fun b3 w Z => ?_)
  refine Ze8 ?_
  refine ⟨by exact trivial, ?_⟩
  refine Zfg 2 rfl <| Zfo ?_
  refine Z.dn (fun w Z => ?_)
  as_aux_lemma =>
  refine Zfa ?_
  rw [Dl, JX] at Z
  first
  | (replace Z : St g (Zd b3 #[.slice (some ⟨b1, 0, none⟩) (cap.toNat + 1) (cap.toNat + 1), .slice (some ⟨b2, 0, none⟩) (cap.toNat + 1) (cap.toNat + 1), .slice none 0 0, .int .u32 0] 227 :: Ze 4 1 (YQ (List.replicate (cap.toNat + 1) false)) (some ⟨b1, 0, none⟩) (cap.toNat + 1) :: Ze 145 1 (Zj (List.replicate (cap.toNat + 1) 0)) (some ⟨b2, 0, none⟩) (cap.toNat + 1) :: Ze 145 1 [] none 0 :: L) w := (Z.nil_ 145 1).sel 4 [1, 2, 1, 0] rfl; replace Z := St.exClose (f := Y0 b3 (SM.new cap.toNat)) ⟨some ⟨b1, 0, none⟩, cap.toNat + 1, some ⟨b2, 0, none⟩, cap.toNat + 1, none, 0⟩ (Yz Z))
  | (replace Z : St g (Zd b3 #[.slice (some ⟨b2, 0, none⟩) (cap.toNat + 1) (cap.toNat + 1), .slice (some ⟨b1, 0, none⟩) (cap.toNat + 1) (cap.toNat + 1), .slice none 0 0, .int .u32 0] 227 :: Ze 4 1 (YQ (List.replicate (cap.toNat + 1) false)) (some ⟨b2, 0, none⟩) (cap.toNat + 1) :: Ze 145 1 (Zj (List.replicate (cap.toNat + 1) 0)) (some ⟨b1, 0, none⟩) (cap.toNat + 1) :: Ze 145 1 [] none 0 :: L) w := (Z.nil_ 145 1).sel 4 [1, 1, 1, 0] rfl; replace Z := St.exClose (f := Y0 b3 (SM.new cap.toNat)) ⟨some ⟨b2, 0, none⟩, cap.toNat + 1, some ⟨b1, 0, none⟩, cap.toNat + 1, none, 0⟩ (Yz Z))
  replace Z : St g (XR b3 (SM.new cap.toNat) :: L) w := Z
  refine ⟨[.pointer (some ⟨b3, 0, none⟩), .int .i64 0], ⟨rfl, rfl⟩, ?_⟩
  exact ⟨_, rfl, Z⟩
 ·refine Zga rfl rfl (v := cap + 1) (v' := cap + 1) (cap.toNat + 1) (cap.toNat + 1) el_133 Z rfl (by omega) rfl (by omega) (by omega) (Rm.of (by omega) (by decide)) (fun b1 w Z => ?_)
  replace Z : St g (Ze 145 1 (List.replicate (cap.toNat + 1) [.int .u32 0]) (some ⟨b1, 0, none⟩) (cap.toNat + 1) :: L) w := Z
  refine Ze8 ?_
  refine ⟨by exact ⟨Zff rfl rfl rfl rfl, Zff rfl rfl rfl (congrArg (Value.int .i64) (Eq.symm (ZF (by omega))))⟩, ?_⟩
  refine WQ.dn Z (fun w Z => ?_)
  refine Zga rfl rfl (v := cap + 1) (v' := cap + 1) (cap.toNat + 1) (cap.toNat + 1) el_225 Z rfl (by omega) rfl (by omega) (by omega) (Rm.of (by omega) (by decide)) (fun b2 w Z => ?_)
  replace Z := Z.n2 L (a0 := Ze 4 1 (List.replicate (cap.toNat + 1) [.bool false]) (some ⟨b2, 0, none⟩) (cap.toNat + 1)) rfl
  refine Ze8 ?_
  refine ⟨by exact ⟨Zff rfl rfl rfl rfl, Zff rfl rfl rfl (congrArg (Value.int .i64) (Eq.symm (ZF (by omega))))⟩, ?_⟩
  refine Zgl rfl rfl (cs := [.slice (some ⟨b2, 0, none⟩) (cap.toNat + 1) (cap.toNat + 1), .slice (some ⟨b1, 0, none⟩) (cap.toNat + 1) (cap.toNat + 1), .slice none 0 0, .int .u32 0]) C5 rfl rfl <| WQ.dn Z (fun w Z => ?_)
  refine Zf0 rfl rfl #[.slice (some ⟨b2, 0, none⟩) (cap.toNat + 1) (cap.toNat + 1), .slice (some ⟨b1, 0, none⟩) (cap.toNat + 1) (cap.toNat + 1), .slice none 0 0, .int .u32 0] Z rfl rfl (fun b3 w Z => ?_)
  refine Ze8 ?_
  refine ⟨by exact trivial, ?_⟩
  refine Zfg 2 rfl <| Zfo ?_
  refine Z.dn (fun w Z => ?_)
  as_aux_lemma =>
  refine Zfa ?_
  rw [Dl, JX] at Z
  first
  | (replace Z : St g (Zd b3 #[.slice (some ⟨b1, 0, none⟩) (cap.toNat + 1) (cap.toNat + 1), .slice (some ⟨b2, 0, none⟩) (cap.toNat + 1) (cap.toNat + 1), .slice none 0 0, .int .u32 0] 227 :: Ze 4 1 (YQ (List.replicate (cap.toNat + 1) false)) (some ⟨b1, 0, none⟩) (cap.toNat + 1) :: Ze 145 1 (Zj (List.replicate (cap.toNat + 1) 0)) (some ⟨b2, 0, none⟩) (cap.toNat + 1) :: Ze 145 1 [] none 0 :: L) w := (Z.nil_ 145 1).sel 4 [1, 2, 1, 0] rfl; replace Z := St.exClose (f := Y0 b3 (SM.new cap.toNat)) ⟨some ⟨b1, 0, none⟩, cap.toNat + 1, some ⟨b2, 0, none⟩, cap.toNat + 1, none, 0⟩ (Yz Z))
  | (replace Z : St g (Zd b3 #[.slice (some ⟨b2, 0, none⟩) (cap.toNat + 1) (cap.toNat + 1), .slice (some ⟨b1, 0, none⟩) (cap.toNat + 1) (cap.toNat + 1), .slice none 0 0, .int .u32 0] 227 :: Ze 4 1 (YQ (List.replicate (cap.toNat + 1) false)) (some ⟨b2, 0, none⟩) (cap.toNat + 1) :: Ze 145 1 (Zj (List.replicate (cap.toNat + 1) 0)) (some ⟨b1, 0, none⟩) (cap.toNat + 1) :: Ze 145 1 [] none 0 :: L) w := (Z.nil_ 145 1).sel 4 [1, 1, 1, 0] rfl; replace Z := St.exClose (f := Y0 b3 (SM.new cap.toNat)) ⟨some ⟨b2, 0, none⟩, cap.toNat + 1, some ⟨b1, 0, none⟩, cap.toNat + 1, none, 0⟩ (Yz Z))
  replace Z : St g (XR b3 (SM.new cap.toNat) :: L) w := Z
  refine ⟨[.pointer (some ⟨b3, 0, none⟩), .int .i64 0], ⟨rfl, rfl⟩, ?_⟩
  exact ⟨_, rfl, Z⟩
theorem Un (s : Nat) (S : SM) (hO : SOk S) (hf : 0 < S.free) (Z : St g (XR s S :: L) w) :
  Sp Tryz.prog 179 [.pointer (some ⟨s, 0, none⟩)] w (fun v w' => v = .tuple #[.int .u32 S.next, .int .i64 0] ∧ St g (XR s S.alloc :: L) w') := by
 refine Sp.enter Tryz.func179 rfl (by kernel_rfl) (by kernel_rfl) ?_
 refine Ze7 <| WC.region <| Ze6 2 rfl <| Ze8 <| Ze7 <| Ze7 <| WC.region <| Ze6 1 rfl <| Zfb rfl rfl (Di _ _ (by assumption) Z) rfl ?_
 clear Z; rintro _ w ⟨rfl, Z⟩
 replace Z := Z.n1 L rfl
 refine Ze6 1 rfl <| Ze8 <| Zfl rfl (decide_eq_false ((by omega))) ?_
 refine Zfc <| Ze7 <| WC.region <| Ze6 1 rfl <| Ze8 <| Ze7 <| Ze7 <| WC.region ?_
 have hfr := hO.fr; have hcp : S.cap = (S.used.length : Int) - 1 := rfl; have hle := hO.cap; have hrl := hO.rle; have hnx := S.next_rng hO hf; have hgl := hO.gl
 obtain ⟨⟨ua, uc, ga, gc, ra, rc⟩, Z⟩ := St.exOpen (f := Y0 s S) Z; have hbu := XD S.used; have hbg := ZB S.gen; have hbr := ZB S.rel
 replace Z : St g (Zd s #[.slice ua (YQ S.used).length uc, .slice ga (Zj S.gen).length gc, .slice ra (Zj S.rel).length rc, .int .u32 S.fresh] 227 :: Ze 4 1 (YQ S.used) ua uc :: Ze 145 1 (Zj S.gen) ga gc :: Ze 145 1 (Zj S.rel) ra rc :: L) w := Z
 refine Zfd 6 [.slice ra (Zj S.rel).length rc] rfl (by exact Z.ld 0 rfl rfl) ?_
 refine Zfi 14 rfl (ZF (by omega)) ?_
 refine Ze6 1 rfl <| Ze8 ?_
 as_aux_lemma =>
 refine Ze7 <| WC.region <| Ze6 2 rfl <| Ze8 <| Zgi [0, 2, 3, 4] (fun vs w => ∃ (nx : Int) (rl : List Int) (fr : Int) (ra2 : Option Addr) (rc2 : Nat), vs = [.pointer (some ⟨s, 0, none⟩), .int .u32 0, .int .i64 0, .int .u32 nx] ∧ St g (Zd s #[.slice ua (YQ S.used).length uc, .slice ga (Zj S.gen).length gc, .slice ra2 (Zj rl).length rc2, .int .u32 fr] 227 :: Ze 4 1 (YQ S.used) ua uc :: Ze 145 1 (Zj S.gen) ga gc :: Ze 145 1 (Zj rl) ra2 rc2 :: L) w ∧ (nx = S.next) ∧ (rl = S.alloc.rel) ∧ (fr = S.alloc.fresh)) ?_ ?_
 ·refine Zfe rfl (fun cd1 => ?_) (fun cd1 => ?_)
  ·refine Ze7 <| WC.region <| Zfd 5 [.slice ra (Zj S.rel).length rc] rfl (by exact Z.ld 0 rfl rfl) ?_
   have hne : S.rel ≠ [] := (fun e => by have h9 := congrArg List.length e; rw [List.length_nil] at h9; omega); have hx : S.rel[S.rel.length - 1]? = some S.next := by rw [XE hne]; simp
   refine Zfw rfl rfl (i := (List.length (Zj S.rel) : Int) - 1) (S.rel.length - 1) el_133 rfl rfl (by omega) (by omega) (Z.rdO 3 rfl (Z' hx)).1 ?_
   refine Zfd 2 [.int .u32 S.next] rfl (by exact (Z.rdO 3 rfl (Z' hx)).2 0 _ rfl) ?_
   refine Ze8 <| WC.region <| Zfd 6 [.slice ra (Zj S.rel).length rc] rfl (by exact Z.ld 0 rfl rfl) ?_
   refine Zg3 rfl rfl (v := (List.length (Zj S.rel) : Int) - 1) 3 (S.rel.length - 1) (Zj (S.rel.take (S.rel.length - 1))) el_133 Z rfl rfl rfl (by omega) (by omega) (DT _ _) (fun Z => ?_)
   replace Z := Z.n4 L (a3 := Ze 145 1 (Zj (S.rel.take ((List.length S.rel) - 1))) ra rc) rfl
   refine Ze6 2 rfl <| Zfn rfl rfl rfl 0 Z rfl rfl rfl rfl rfl rfl (fun w Z => ?_)
   replace Z := Z.n4 L (a0 := Zd s #[.slice ua (YQ S.used).length uc, .slice ga (Zj S.gen).length gc, .slice ra (List.length (Zj (S.rel.take ((List.length S.rel) - 1)))) rc, .int .u32 S.fresh] 227) rfl
   refine Ze8 ?_
   exact ⟨S.next, S.rel.take (S.rel.length - 1), S.fresh, ra, rc, rfl, Z, (rfl), (List.dropLast_eq_take (l := S.rel)).symm, (if_neg hne).symm⟩
  ·refine Ze7 <| WC.region <| Zfd 5 [.int .u32 S.fresh] rfl (by exact Z.ld 0 rfl rfl) ?_
   refine Zfi 37 rfl (wu32 (by omega)) ?_
   refine Ze6 2 rfl <| Zfn rfl rfl rfl 0 Z rfl rfl rfl rfl rfl rfl (fun w Z => ?_)
   replace Z := Z.n4 L (a0 := Zd s #[.slice ua (YQ S.used).length uc, .slice ga (Zj S.gen).length gc, .slice ra (Zj S.rel).length rc, .int .u32 (S.fresh + 1)] 227) rfl
   refine Ze8 <| WC.region <| Zfd 5 [.int .u32 (S.fresh + 1)] rfl (by exact Z.ld 0 rfl rfl) ?_
   refine Ze8 ?_
   exact ⟨S.fresh + 1, S.rel, S.fresh + 1, ra, rc, rfl, Z, (SM.next_nil (QZ cd1)).symm, (by show S.rel = S.rel.dropLast; rw [QZ cd1]; rfl), (if_pos (QZ cd1)).symm⟩
 clear Z; rintro _ w j ⟨nx, rl, fr, ra2, rc2, rfl, Z, hnx, hrl, hfr⟩
 refine Ze7 <| WC.region <| Zfd 5 [.slice ua (YQ S.used).length uc] rfl (by exact Z.ld 0 rfl rfl) ?_
 obtain ⟨u, hu⟩ : ∃ u, S.used[nx.toNat]? = some u := ⟨_, List.getElem?_eq_getElem (by omega)⟩
 refine Zfw rfl rfl (i := nx) (nx.toNat) el_225 rfl rfl (by omega) (by omega) (Z.rdO 1 rfl (Q7 hu)).1 ?_
 refine Zgk rfl rfl rfl 1 (nx.toNat) 0 [.bool u] (YQ (S.used.set nx.toNat true)) Z rfl (Q7 hu) rfl rfl rfl rfl rfl (Zbg _ _ _) (fun w Z => ?_)
 replace Z := Z.n4 L (a1 := Ze 4 1 (YQ (S.used.set nx.toNat true)) ua uc) rfl
 refine Ze8 <| Ze7 <| WC.region <| Zfd 5 [.slice ga (Zj S.gen).length gc] rfl (by exact Z.ld 0 rfl rfl) ?_
 obtain ⟨v, hv⟩ : ∃ v, S.gen[nx.toNat]? = some v := ⟨_, List.getElem?_eq_getElem (by omega)⟩
 refine Zfw rfl rfl (i := nx) (nx.toNat) el_133 rfl rfl (by omega) (by omega) (Z.rdO 2 rfl (Z' hv)).1 ?_
 refine Zfd 2 [.int .u32 v] rfl (by exact (Z.rdO 2 rfl (Z' hv)).2 0 _ rfl) ?_
 refine Zfm 57 (.int .u32 ((v + 1) % 4294967296)) (congrArg (Value.int .u32) (by rfl)) ?_
 refine Zfw rfl rfl (i := nx) (nx.toNat) el_133 rfl rfl (by omega) (by omega) (Z.rdO 2 rfl (Z' hv)).1 ?_
 refine Zgk rfl rfl rfl 2 (nx.toNat) 0 [.int .u32 v] (Zj (S.gen.set nx.toNat ((v + 1) % 4294967296))) Z rfl (Z' hv) rfl rfl rfl rfl rfl (UY _ _ _) (fun w Z => ?_)
 replace Z := Z.n4 L (a2 := Ze 145 1 (Zj (S.gen.set nx.toNat ((v + 1) % 4294967296))) ga gc) rfl
 refine Ze8 ?_
 as_aux_lemma =>
 refine Ze7 <| WC.region <| Ze6 3 rfl <| Ze8 <| Zfa ?_
 replace Z := St.exClose (f := Y0 s S.alloc) ⟨ua, uc, ga, gc, ra2, rc2⟩ (by
  subst hnx; subst hrl; subst hfr
  have hge : S.genOf S.next = v := by unfold SM.genOf; rw [hv]; rfl
  have e1 : (YQ S.alloc.used).length = (YQ S.used).length := by simp [SM.alloc]
  have e2 : (Zj S.alloc.gen).length = (Zj S.gen).length := by simp [SM.alloc]
  have e3 : S.alloc.gen = S.gen.set S.next.toNat ((v + 1) % 4294967296) := by rw [← hge]; rfl
  unfold Y0
  rw [e1, e2, e3]
  exact Z)
 replace Z : St g (XR s S.alloc :: L) w := Z
 refine ⟨[.int .u32 nx, .int .i64 0], ⟨rfl, rfl⟩, ?_⟩
 exact ⟨by rw [hnx]; rfl, Z⟩
end Go.Proofs.YtlifpobidhfbfaaGreatDoor
namespace Go.Proofs.YtlifpobidhfbfaaGreatDoor
open Go Go.V
variable {g w : World} {L : List HP}
theorem Dx (i n : Int) (hi : 0 ≤ i ∧ i < 4294967296) (hn : 0 ≤ n ∧ n < 4294967296) (Z : St g (L) w) :
  Sp Tryz.prog 254 [.int .u32 i, .int .u32 n] w (fun v w' => v = .int .u64 (n * 4294967296 + i) ∧ St g (L) w') := by
 refine Sp.enter Tryz.func254 rfl (by kernel_rfl) (by kernel_rfl) ?_
 refine Ze7 <| WC.region <| Ze6 1 rfl <| Ze8 <| Ze7 <| WC.region <| Ze6 2 rfl <| Zfi 6 rfl (Ye (by omega)) ?_
 refine Ze6 1 rfl <| Ze6 2 rfl <| Zfi 9 rfl (Ye (by omega)) ?_
 refine Ze6 1 rfl <| Zfm 10 (.int .u64 (n * 4294967296 + i)) (congrArg (Value.int .u64) (by exact Zav hi hn)) ?_
 refine Ze6 1 rfl <| Ze8 <| Zfa ?_
 refine ⟨[.int .u64 (n * 4294967296 + i)], rfl, ?_⟩
 exact ⟨rfl, Z⟩
theorem Uu (h : Int) (hh : 0 ≤ h ∧ h ≤ 18446744073709551615) (Z : St g (L) w) :
  Sp Tryz.prog 251 [.int .u64 h] w (fun v w' => v = .tuple #[.int .u32 (h % 4294967296), .int .u32 (h / 4294967296)] ∧ St g (L) w') := by
 refine Sp.enter Tryz.func251 rfl (by kernel_rfl) (by kernel_rfl) ?_
 refine Ze7 <| WC.region <| Ze6 2 rfl <| Ze8 <| Ze7 <| WC.region <| Ze6 2 rfl <| Zfm 5 (.int .u32 (h % 4294967296)) (congrArg (Value.int .u32) (by rfl)) ?_
 refine Ze6 2 rfl <| Zfm 7 (.int .u64 (h / 4294967296)) (congrArg (Value.int .u64) (by rfl)) ?_
 refine Ze6 1 rfl <| Zfm 8 (.int .u32 (h / 4294967296)) (congrArg (Value.int .u32) (by show (h / 4294967296) % 4294967296 = h / 4294967296; omega)) ?_
 refine Ze6 2 rfl <| Ze8 <| Zfa ?_
 refine ⟨[.int .u32 (h % 4294967296), .int .u32 (h / 4294967296)], ⟨rfl, rfl⟩, ?_⟩
 exact ⟨rfl, Z⟩
theorem hd0 (t p : Nat) (S : SM) (va : Option Addr) (n vc : Nat) (i : Int) (hO : SOk S) (hi : 0 ≤ i ∧ i < 4294967296) (Z : St g (Zd t #[.pointer (some ⟨p, 0, none⟩), .slice va n vc] 135 :: XR p S :: L) w) :
  Sp Tryz.prog 180 [.pointer (some ⟨t, 0, none⟩), .int .u32 i] w (fun v w' => v = .int .u64 (S.hd i) ∧ St g (Zd t #[.pointer (some ⟨p, 0, none⟩), .slice va n vc] 135 :: XR p S :: L) w') := by
 refine Sp.enter Tryz.func180 rfl (by kernel_rfl) (by kernel_rfl) ?_
 refine Ze7 <| WC.region ?_
 have hg := hO.gen_rng i
 refine Ze6 1 rfl <| Ze8 <| Ze7 <| WC.region <| Zfd 6 [.pointer (some ⟨p, 0, none⟩)] rfl (by exact Z.ld 0 rfl rfl) ?_
 refine Zfb rfl rfl (Zd2 _ _ i (by first | assumption | exact SOk.gle (by assumption)) (by omega) (Z.sel 2 [1, 0] rfl)) rfl ?_
 clear Z; rintro _ w ⟨rfl, Z⟩
 replace Z := Z.n2 L rfl
 refine Zfb rfl rfl (Dx i (S.genOf i) (by omega) (by first | omega | exact SOk.gen_rng (by assumption) _) Z) rfl ?_
 clear Z; rintro _ w ⟨rfl, Z⟩
 replace Z := Z.n2 L rfl
 refine Ze6 1 rfl <| Ze8 <| Zfa ?_
 refine ⟨[.int .u64 ((S.genOf i) * 4294967296 + i)], rfl, ?_⟩
 replace Z := (Z.sel 2 [1, 0] rfl)
 exact ⟨rfl, Z⟩
theorem ent0 (t p : Nat) (S : SM) (va : Option Addr) (n vc : Nat) (h : Int) (hO : SOk S) (hh : 0 ≤ h ∧ h ≤ 18446744073709551615) (Z : St g (Zd t #[.pointer (some ⟨p, 0, none⟩), .slice va n vc] 135 :: XR p S :: L) w) :
  Sp Tryz.prog 172 [.pointer (some ⟨t, 0, none⟩), .int .u64 h] w (fun v w' => v = .tuple #[.int .u32 (h % 4294967296), .bool (S.opn h)] ∧ St g (Zd t #[.pointer (some ⟨p, 0, none⟩), .slice va n vc] 135 :: XR p S :: L) w') := by
 refine Sp.enter Tryz.func172 rfl (by kernel_rfl) (by kernel_rfl) ?_
 refine Ze7 <| WC.region <| Ze6 2 rfl <| Ze8 <| Ze7 <| WC.region <| Ze6 1 rfl <| Zfb rfl rfl (Uu h (by omega) Z) rfl ?_
 clear Z; rintro _ w ⟨rfl, Z⟩
 replace Z := Z.n2 L rfl
 refine Ze6 5 rfl <| Ze8 <| Ze7 <| WC.region <| Zfd 6 [.pointer (some ⟨p, 0, none⟩)] rfl (by exact Z.ld 0 rfl rfl) ?_
 refine Zfb rfl rfl (Zcm _ _ (h % 4294967296) (by first | assumption | exact SOk.le (by assumption)) (by omega) (Z.sel 2 [1, 0] rfl)) rfl ?_
 clear Z; rintro _ w ⟨rfl, Z⟩
 replace Z := Z.n2 L rfl
 refine Ze6 1 rfl ?_
 by_cases cg1 : (S.ok (h % 4294967296)) = true
 ·refine Zfm 20 (.bool true) (congrArg Value.bool cg1) <| Zfh rfl rfl rfl <| Ze6 1 rfl <| Zfh rfl rfl rfl <| Ze6 1 rfl <| Zfh rfl rfl rfl <| Zfb rfl rfl (hd0 _ _ _ va n vc (h % 4294967296) (by assumption) (by omega) (Z.sel 2 [1, 0] rfl)) rfl ?_
  clear Z; rintro _ w ⟨rfl, Z⟩
  replace Z := Z.n2 L rfl
  refine Zfh rfl rfl rfl <| Ze6 1 rfl <| Zfh rfl rfl rfl <| Ze6 4 rfl <| Ze8 ?_
  as_aux_lemma =>
  refine Zfa ?_
  refine ⟨[.int .u32 (h % 4294967296), .bool (decide ((S.hd (h % 4294967296)) = h))], ⟨rfl, rfl⟩, ?_⟩
  first | exact ⟨congrArg (fun b => Value.tuple #[.int .u32 (h % 4294967296), .bool b]) (by unfold SM.opn; rw [show S.ok (h % 4294967296) = true from cg1]; rfl), Z⟩ | exact ⟨congrArg (fun b => Value.tuple #[.int .u32 (h % 4294967296), .bool b]) (by unfold SM.opn; rw [Bool.eq_false_iff.2 cg1]; rfl), Z⟩
 ·refine Zfm 20 (.bool false) (congrArg Value.bool (Bool.eq_false_iff.2 cg1)) <| Ze9 rfl rfl rfl rfl <| Ze9 rfl rfl rfl rfl <| Ze9 rfl rfl rfl rfl <| Ze9 rfl rfl rfl rfl <| Ze9 rfl rfl rfl rfl <| Ze6 3 rfl <| Ze8 ?_
  as_aux_lemma =>
  refine Zfa ?_
  refine ⟨[.int .u32 (h % 4294967296), .bool false], ⟨rfl, rfl⟩, ?_⟩
  replace Z := (Z.sel 2 [1, 0] rfl)
  first | exact ⟨congrArg (fun b => Value.tuple #[.int .u32 (h % 4294967296), .bool b]) (by unfold SM.opn; rw [show S.ok (h % 4294967296) = true from cg1]; rfl), Z⟩ | exact ⟨congrArg (fun b => Value.tuple #[.int .u32 (h % 4294967296), .bool b]) (by unfold SM.opn; rw [Bool.eq_false_iff.2 cg1]; rfl), Z⟩
theorem Qu (t : Nat) (T : TM) (h : Int) (hT : TOk T) (hh : 0 ≤ h ∧ h ≤ 18446744073709551615) (hn : T.s.opn h = false) (Z : St g (Qe t T :: L) w) :
  Sp Tryz.prog 135 [.pointer (some ⟨t, 0, none⟩), .int .u64 h] w (fun v w' => v = .tuple #[.int .u32 0, .int .i64 5] ∧ St g (Qe t T :: L) w') := by
 refine Sp.enter Tryz.func135 rfl (by kernel_rfl) (by kernel_rfl) ?_
 refine Ze7 <| WC.region <| Ze6 2 rfl <| Ze8 <| Ze7 <| WC.region ?_
 obtain ⟨⟨p, va, vc⟩, Z⟩ := St.exOpen (f := Jx t T) Z; have hbv := ZB T.vals; have hTs := hT.s; have hvl := hT.vl; have hcp := hTs.cap
 replace Z : St g (Zd t #[.pointer (some ⟨p, 0, none⟩), .slice va (Zj T.vals).length vc] 135 :: XR p T.s :: Ze 145 1 (Zj T.vals) va vc :: L) w := Z
 refine Ze6 2 rfl <| Zfb rfl rfl (ent0 _ _ T.s va (Zj T.vals).length vc h (by assumption) hh Z) rfl ?_
 clear Z; rintro _ w ⟨rfl, Z⟩
 replace Z := Z.n3 L rfl
 refine Ze6 5 rfl <| Ze8 <| Ze7 <| Ze7 <| WC.region <| Ze6 2 rfl <| Ze8 <| Zfs rfl (by rw [hn]; rfl) ?_
 refine Ze7 <| WC.region <| Ze6 2 rfl <| Ze8 ?_
 as_aux_lemma =>
 refine Zfa ?_
 replace Z := St.exClose (f := Jx t T) ⟨p, va, vc⟩ Z
 replace Z : St g (Qe t T :: L) w := Z
 refine ⟨[.int .u32 0, .int .i64 5], ⟨rfl, rfl⟩, ?_⟩
 exact ⟨rfl, Z⟩
theorem Ue (t : Nat) (T : TM) (h : Int) (hT : TOk T) (hh : 0 ≤ h ∧ h ≤ 18446744073709551615) (hn : T.s.opn h = true) (Z : St g (Qe t T :: L) w) :
  Sp Tryz.prog 135 [.pointer (some ⟨t, 0, none⟩), .int .u64 h] w (fun v w' => v = .tuple #[.int .u32 (T.val h), .int .i64 0] ∧ St g (Qe t T :: L) w') := by
 refine Sp.enter Tryz.func135 rfl (by kernel_rfl) (by kernel_rfl) ?_
 refine Ze7 <| WC.region <| Ze6 2 rfl <| Ze8 <| Ze7 <| WC.region ?_
 obtain ⟨⟨p, va, vc⟩, Z⟩ := St.exOpen (f := Jx t T) Z; have hbv := ZB T.vals; have hTs := hT.s; have hvl := hT.vl; have hcp := hTs.cap
 replace Z : St g (Zd t #[.pointer (some ⟨p, 0, none⟩), .slice va (Zj T.vals).length vc] 135 :: XR p T.s :: Ze 145 1 (Zj T.vals) va vc :: L) w := Z
 refine Ze6 2 rfl <| Zfb rfl rfl (ent0 _ _ T.s va (Zj T.vals).length vc h (by assumption) hh Z) rfl ?_
 clear Z; rintro _ w ⟨rfl, Z⟩
 replace Z := Z.n3 L rfl
 refine Ze6 5 rfl <| Ze8 <| Ze7 <| Ze7 <| WC.region <| Ze6 2 rfl <| Ze8 <| Zfl rfl (by rw [hn]; decide) ?_
 refine Zfc <| Ze7 <| WC.region ?_
 have hrg := SM.ok_rng hTs (by omega) (SM.opn_ok hn).1
 refine Zfd 5 [.slice va (Zj T.vals).length vc] rfl (by exact Z.ld 0 rfl rfl) ?_
 obtain ⟨v, hv⟩ : ∃ v, T.vals[(h % 4294967296).toNat]? = some v := ⟨_, List.getElem?_eq_getElem (by omega)⟩
 refine Zfw rfl rfl (i := h % 4294967296) ((h % 4294967296).toNat) el_133 rfl rfl (by omega) (by omega) (Z.rdO 2 rfl (Z' hv)).1 ?_
 refine Zfd 3 [.int .u32 v] rfl (by exact (Z.rdO 2 rfl (Z' hv)).2 0 _ rfl) ?_
 refine Ze8 ?_
 as_aux_lemma =>
 refine Zfa ?_
 replace Z := St.exClose (f := Jx t T) ⟨p, va, vc⟩ Z
 replace Z : St g (Qe t T :: L) w := Z
 refine ⟨[.int .u32 v, .int .i64 0], ⟨rfl, rfl⟩, ?_⟩
 exact ⟨by rw [TM.val, hv]; rfl, Z⟩
theorem Zee (t : Nat) (T : TM) (hT : TOk T) (Z : St g (Qe t T :: L) w) :
  Sp Tryz.prog 80 [.pointer (some ⟨t, 0, none⟩)] w (fun v w' => v = .int .i64 (T.s.cap - T.s.free) ∧ St g (Qe t T :: L) w') := by
 refine Sp.enter Tryz.func80 rfl (by kernel_rfl) (by kernel_rfl) ?_
 refine Ze7 <| WC.region ?_
 have hfr := hT.s.fr; have hrl := hT.s.rle; have hcp0 := hT.s.cap; have e1 : T.s.cap = (T.s.used.length : Int) - 1 := rfl; have e2 : T.s.free = (T.s.rel.length : Int) + T.s.cap - T.s.fresh := rfl
 obtain ⟨⟨p, va, vc⟩, Z⟩ := St.exOpen (f := Jx t T) Z; have hbv := ZB T.vals; have hTs := hT.s; have hvl := hT.vl; have hcp := hTs.cap
 replace Z : St g (Zd t #[.pointer (some ⟨p, 0, none⟩), .slice va (Zj T.vals).length vc] 135 :: XR p T.s :: Ze 145 1 (Zj T.vals) va vc :: L) w := Z
 refine Ze6 1 rfl <| Ze8 <| Ze7 <| Zfr [([0, 5, 1, 6, 2, 7, 3, 8], some (4, [5, 6, 7, 8])), ([], some (9, [])), ([10, 11], none)] (by kernel_rfl) (by kernel_rfl) ?_
 refine Zfp 8 [.pointer (some ⟨p, 0, none⟩), .pointer (some ⟨p, 0, none⟩)] rfl (by exact ⟨Z.ld 0 rfl rfl, Z.ld 0 rfl rfl⟩) ?_
 refine WQ.dn Z (fun w Z => ?_)
 refine Zfb rfl rfl (Zeb _ T.s (by first | assumption | exact SOk.le (by assumption)) (Z.sel 2 [1, 0] rfl)) rfl ?_
 clear Z; rintro _ w ⟨rfl, Z⟩
 replace Z := Z.n3 L rfl
 refine Ze8 ?_
 refine ⟨by exact ⟨Zff rfl rfl rfl rfl, Zff rfl rfl rfl rfl, Zff rfl rfl rfl rfl, Zfq rfl rfl rfl rfl (Z.ld 1 rfl rfl)⟩, ?_⟩
 refine WQ.dn Z (fun w Z => ?_)
 refine Zfb rfl rfl (Di _ T.s (by assumption) Z) rfl ?_
 clear Z; rintro _ w ⟨rfl, Z⟩
 replace Z := Z.n3 L rfl
 refine Ze8 ?_
 refine ⟨by exact trivial, ?_⟩
 refine Zfg 1 rfl <| Zf8 13 rfl (ZF (by omega)) ?_
 refine Zfg 1 rfl <| Zfo ?_
 refine Z.dn (fun w Z => ?_)
 as_aux_lemma =>
 refine Zfa ?_
 replace Z := St.exClose (f := Jx t T) ⟨p, va, vc⟩ (by first | exact Z | exact Z.sel 3 [1, 0, 0] rfl)
 replace Z : St g (Qe t T :: L) w := Z
 refine ⟨[.int .i64 (T.s.cap - T.s.free)], rfl, ?_⟩
 exact ⟨rfl, Z⟩
theorem U' (t : Nat) (T : TM) (y : Int) (hT : TOk T) (hf : 0 < T.s.free) (Z : St g (Qe t T :: L) w) :
  Sp Tryz.prog 102 [.pointer (some ⟨t, 0, none⟩), .int .u32 y] w (fun v w' => v = .tuple #[.int .u64 T.newH, .int .i64 0] ∧ St g (Qe t (T.open y) :: L) w') := by
 refine Sp.enter Tryz.func102 rfl (by kernel_rfl) (by kernel_rfl) ?_
 refine Ze7 <| WC.region <| Ze6 2 rfl <| Ze8 <| Ze7 <| WC.region ?_
 obtain ⟨⟨p, va, vc⟩, Z⟩ := St.exOpen (f := Jx t T) Z; have hbv := ZB T.vals; have hTs := hT.s; have hvl := hT.vl; have hcp := hTs.cap
 replace Z : St g (Zd t #[.pointer (some ⟨p, 0, none⟩), .slice va (Zj T.vals).length vc] 135 :: XR p T.s :: Ze 145 1 (Zj T.vals) va vc :: L) w := Z
 refine Zfd 4 [.pointer (some ⟨p, 0, none⟩)] rfl (by exact Z.ld 0 rfl rfl) ?_
 refine Zfb rfl rfl (Un _ T.s (by assumption) hf (Z.sel 2 [1, 0] rfl)) rfl ?_
 clear Z; rintro _ w ⟨rfl, Z⟩
 replace Z := Z.n3 L rfl
 refine Ze6 5 rfl <| Ze8 <| Ze7 <| Ze7 <| WC.region <| Ze6 2 rfl <| Ze8 <| Zfl rfl (decide_eq_false ((by decide))) ?_
 refine Zfc <| Ze7 <| WC.region ?_
 have hnx := T.s.next_rng hTs hf; have hO2 := SM.alloc_sok hTs hf
 refine Zfd 6 [.slice va (Zj T.vals).length vc] rfl (by exact Z.ld 1 rfl rfl) ?_
 obtain ⟨u, hv⟩ : ∃ u, T.vals[T.s.next.toNat]? = some u := ⟨_, List.getElem?_eq_getElem (by omega)⟩
 refine Zfw rfl rfl (i := T.s.next) (T.s.next.toNat) el_133 rfl rfl (by omega) (by omega) (Z.rdO 2 rfl (Z' hv)).1 ?_
 refine Zgk rfl rfl rfl 2 (T.s.next.toNat) 0 [.int .u32 u] (Zj (T.vals.set T.s.next.toNat y)) Z rfl (Z' hv) rfl rfl rfl rfl rfl (UY _ _ _) (fun w Z => ?_)
 replace Z := Z.n3 L (a2 := Ze 145 1 (Zj (T.vals.set T.s.next.toNat y)) va vc) rfl
 refine Ze8 ?_
 as_aux_lemma =>
 refine Ze7 <| WC.region <| Ze6 2 rfl <| Zfb rfl rfl (hd0 _ _ T.s.alloc va (Zj T.vals).length vc T.s.next (by assumption) (by omega) (Z.sel 2 [1, 0] rfl)) rfl ?_
 clear Z; rintro _ w ⟨rfl, Z⟩
 replace Z := Z.n3 L rfl
 refine Ze6 2 rfl <| Ze8 <| Zfa ?_
 replace Z := St.exClose (f := Jx t (T.open y)) ⟨p, va, vc⟩ (by
  have e1 : (Zj (T.open y).vals).length = (Zj T.vals).length := by simp [TM.open]
  unfold Jx
  rw [e1]
  first | exact Z | exact Z.sel 3 [1, 0, 0] rfl)
 replace Z : St g (Qe t (T.open y) :: L) w := Z
 refine ⟨[.int .u64 (T.s.alloc.hd T.s.next), .int .i64 0], ⟨rfl, rfl⟩, ?_⟩
 exact ⟨rfl, Z⟩
theorem Jb (cap : Int) (hc : 1 ≤ cap ∧ cap ≤ 4096) (Z : St g (L) w) :
  Sp Tryz.prog 45 [.int .i64 cap] w (fun v w' => ∃ (t : Nat), v = .tuple #[.pointer (some ⟨t, 0, none⟩), .int .i64 0] ∧ St g (Qe t (TM.new cap.toNat) :: L) w') := by
 refine Sp.enter Tryz.func45 rfl (by kernel_rfl) (by kernel_rfl) ?_
 refine Ze7 <| WC.region <| Ze6 2 rfl <| Ze8 <| Ze7 <| Ze7 <| WC.region <| Ze6 2 rfl <| Zgd 4 rfl (fun j => ?_)
 refine Zf4 11 rfl (Uw (dd _) (dd _)) <| Ze8 <| Zfl rfl (decide_eq_false ((by omega))) ?_
 refine Zfc <| Ze7 <| WC.region <| Ze6 1 rfl <| Zfb rfl rfl (Qz cap (by omega) Z) rfl ?_
 clear Z; rintro _ w ⟨s1, rfl, Z⟩
 replace Z := Z.n1 L rfl
 refine Ze6 5 rfl <| Ze8 <| Ze7 <| Ze7 <| WC.region <| Ze6 2 rfl <| Ze8 ?_
 as_aux_lemma =>
 refine Zfl rfl (decide_eq_false ((by decide))) ?_
 refine Zfc <| Ze7 <| WC.region <| Ze6 3 rfl <| Zfi 22 rfl (ZF (by omega)) ?_
 refine Zga rfl rfl (v := cap + 1) (v' := cap + 1) (cap.toNat + 1) (cap.toNat + 1) el_133 Z rfl (by omega) rfl (by omega) (by omega) (Rm.of (by omega) (by decide)) (fun b1 w Z => ?_)
 replace Z := Z.n2 L (a0 := Ze 145 1 (List.replicate (cap.toNat + 1) [.int .u32 0]) (some ⟨b1, 0, none⟩) (cap.toNat + 1)) rfl
 refine Zf7 rfl rfl (cs := [.pointer (some ⟨s1, 0, none⟩), .slice (some ⟨b1, 0, none⟩) (cap.toNat + 1) (cap.toNat + 1)]) Zeq rfl rfl <| Zf0 rfl rfl #[.pointer (some ⟨s1, 0, none⟩), .slice (some ⟨b1, 0, none⟩) (cap.toNat + 1) (cap.toNat + 1)] Z rfl rfl (fun b2 w Z => ?_)
 refine Ze6 2 rfl <| Ze8 <| Zfa ?_
 rw [JX] at Z
 replace Z := St.exClose (f := Jx b2 (TM.new cap.toNat)) ⟨s1, some ⟨b1, 0, none⟩, cap.toNat + 1⟩ (by
  have e1 : (Zj (TM.new cap.toNat).vals).length = cap.toNat + 1 := by simp [TM.new]
  unfold Jx
  rw [e1]
  exact Z.sel 3 [0, 1, 0] rfl)
 replace Z : St g (Qe b2 (TM.new cap.toNat) :: L) w := Z
 refine ⟨[.pointer (some ⟨b2, 0, none⟩), .int .i64 0], ⟨rfl, rfl⟩, ?_⟩
 exact ⟨_, rfl, Z⟩
end Go.Proofs.YtlifpobidhfbfaaGreatDoor
namespace Go.Proofs.YtlifpobidhfbfaaGreatDoor
open Go Go.V
theorem X8 {n : Nat} : (nds (AM.new n).nodes).length = n + 1 := by simp [AM.new]
theorem XV {n : Nat} : (Zb (AM.new n).cnt).length = n + 1 := by simp [AM.new]
variable {g w : World} {L : List HP}
theorem DQ (cap : Int) (hc : 1 ≤ cap ∧ cap ≤ 65536) (Z : St g (L) w) :
  Sp Tryz.prog 70 [.int .i64 cap] w (fun v w' => ∃ (a : Nat), v = .tuple #[.pointer (some ⟨a, 0, none⟩), .int .i64 0] ∧ St g (XT a (AM.new cap.toNat) :: L) w') := by
 refine Sp.enter Tryz.func70 rfl (by kernel_rfl) (by kernel_rfl) ?_
 refine Ze7 <| WC.region <| Ze6 2 rfl <| Ze8 <| Ze7 <| WC.region <| Ze6 1 rfl <| Zfb rfl rfl (Qz cap hc Z) rfl ?_
 clear Z; rintro _ w ⟨s1, rfl, Z⟩
 replace Z := Z.n1 L rfl
 refine Ze6 5 rfl <| Ze8 <| Ze7 <| Ze7 <| WC.region <| Ze6 2 rfl <| Ze8 <| Zfl rfl (decide_eq_false ((by decide))) ?_
 refine Zfc <| Ze7 <| Zgq (.two [0, 1, 4, 2, 5] 3 [0, 4, 5] (.one [] 6 [0, 1, 2] (.one [7] 8 [] (.seg [9, 10] .nil))) 6 [0, 1, 2] (.one [] 3 [0, 4, 5] (.one [7] 8 [] (.seg [9, 10] .nil)))) (by kernel_rfl) (by kernel_rfl) ?_
 refine Zfg 4 rfl <| Zf8 16 rfl (ZF (by omega)) ?_
 refine Zfg 1 rfl <| Zf8 19 rfl (ZF (by omega)) ?_
 refine Zfo ?_
 intro m1
 replace Z := Z.drewN m1; generalize hwm1 : World.drewN _ _ = w at *; clear hwm1
 refine ⟨?_, ?_⟩
 ·refine Zga rfl rfl (v := cap + 1) (v' := cap + 1) (cap.toNat + 1) (cap.toNat + 1) el_219 Z rfl (by omega) rfl (by omega) (by omega) (Rm.of (by omega) (by decide)) (fun b1 w Z => ?_)
  replace Z := Z.n2 L (a0 := Ze 271 8 (List.replicate (cap.toNat + 1) [.int .i64 0, .int .i64 0, .int .u32 0, .int .u32 0, .int .i64 0, .int .i64 0, .int .i64 0, .int .i64 0]) (some ⟨b1, 0, none⟩) (cap.toNat + 1)) rfl
  refine Ze8 ?_
  refine ⟨by exact ⟨Zff rfl rfl rfl rfl, Zff rfl rfl rfl rfl, Zff rfl rfl rfl (congrArg (Value.int .i64) (Eq.symm (ZF (by omega))))⟩, ?_⟩
  refine WQ.dn Z (fun w Z => ?_)
  refine Zga rfl rfl (v := cap + 1) (v' := cap + 1) (cap.toNat + 1) (cap.toNat + 1) el_148 Z rfl (by omega) rfl (by omega) (by omega) (Rm.of (by omega) (by decide)) (fun b2 w Z => ?_)
  replace Z := Z.n3 L (a0 := Ze 3 1 (List.replicate (cap.toNat + 1) [.int .i64 0]) (some ⟨b2, 0, none⟩) (cap.toNat + 1)) rfl
  refine Ze8 ?_
  refine ⟨by exact ⟨Zff rfl rfl rfl rfl, Zff rfl rfl rfl rfl, Zff rfl rfl rfl (congrArg (Value.int .i64) (Eq.symm (ZF (by omega))))⟩, ?_⟩
  refine Zgl rfl rfl (cs := [.pointer (some ⟨s1, 0, none⟩), .slice (some ⟨b1, 0, none⟩) (cap.toNat + 1) (cap.toNat + 1), .slice (some ⟨b2, 0, none⟩) (cap.toNat + 1) (cap.toNat + 1), .int .u64 0]) VF rfl rfl <| WQ.dn Z (fun w Z => ?_)
  refine Zf0 rfl rfl #[.pointer (some ⟨s1, 0, none⟩), .slice (some ⟨b1, 0, none⟩) (cap.toNat + 1) (cap.toNat + 1), .slice (some ⟨b2, 0, none⟩) (cap.toNat + 1) (cap.toNat + 1), .int .u64 0] Z rfl rfl (fun b3 w Z => ?_)
  refine Ze8 ?_
  refine ⟨by exact trivial, ?_⟩
  refine Zfg 2 rfl <| Zfo ?_
  refine Z.dn (fun w Z => ?_)
  as_aux_lemma =>
  refine Zfa ?_
  rw [Df, UT] at Z
  first
  | (replace Z := St.exClose (f := XX b3 (AM.new cap.toNat)) ⟨s1, some ⟨b1, 0, none⟩, cap.toNat + 1, some ⟨b2, 0, none⟩, cap.toNat + 1, 0⟩ (by
    unfold XX
    rw [X8, XV]
    exact Z.sel 4 [0, 2, 1, 0] rfl))
  | (replace Z := St.exClose (f := XX b3 (AM.new cap.toNat)) ⟨s1, some ⟨b2, 0, none⟩, cap.toNat + 1, some ⟨b1, 0, none⟩, cap.toNat + 1, 0⟩ (by
    unfold XX
    rw [X8, XV]
    exact Z.sel 4 [0, 2, 0, 0] rfl))
  replace Z : St g (XT b3 (AM.new cap.toNat) :: L) w := Z
  refine ⟨[.pointer (some ⟨b3, 0, none⟩), .int .i64 0], ⟨rfl, rfl⟩, ?_⟩
  exact ⟨_, rfl, Z⟩
 ·refine Zga rfl rfl (v := cap + 1) (v' := cap + 1) (cap.toNat + 1) (cap.toNat + 1) el_148 Z rfl (by omega) rfl (by omega) (by omega) (Rm.of (by omega) (by decide)) (fun b1 w Z => ?_)
  replace Z := Z.n2 L (a0 := Ze 3 1 (List.replicate (cap.toNat + 1) [.int .i64 0]) (some ⟨b1, 0, none⟩) (cap.toNat + 1)) rfl
  refine Ze8 ?_
  refine ⟨by exact ⟨Zff rfl rfl rfl rfl, Zff rfl rfl rfl rfl, Zff rfl rfl rfl (congrArg (Value.int .i64) (Eq.symm (ZF (by omega))))⟩, ?_⟩
  refine WQ.dn Z (fun w Z => ?_)
  refine Zga rfl rfl (v := cap + 1) (v' := cap + 1) (cap.toNat + 1) (cap.toNat + 1) el_219 Z rfl (by omega) rfl (by omega) (by omega) (Rm.of (by omega) (by decide)) (fun b2 w Z => ?_)
  replace Z := Z.n3 L (a0 := Ze 271 8 (List.replicate (cap.toNat + 1) [.int .i64 0, .int .i64 0, .int .u32 0, .int .u32 0, .int .i64 0, .int .i64 0, .int .i64 0, .int .i64 0]) (some ⟨b2, 0, none⟩) (cap.toNat + 1)) rfl
  refine Ze8 ?_
  refine ⟨by exact ⟨Zff rfl rfl rfl rfl, Zff rfl rfl rfl rfl, Zff rfl rfl rfl (congrArg (Value.int .i64) (Eq.symm (ZF (by omega))))⟩, ?_⟩
  refine Zgl rfl rfl (cs := [.pointer (some ⟨s1, 0, none⟩), .slice (some ⟨b2, 0, none⟩) (cap.toNat + 1) (cap.toNat + 1), .slice (some ⟨b1, 0, none⟩) (cap.toNat + 1) (cap.toNat + 1), .int .u64 0]) VF rfl rfl <| WQ.dn Z (fun w Z => ?_)
  refine Zf0 rfl rfl #[.pointer (some ⟨s1, 0, none⟩), .slice (some ⟨b2, 0, none⟩) (cap.toNat + 1) (cap.toNat + 1), .slice (some ⟨b1, 0, none⟩) (cap.toNat + 1) (cap.toNat + 1), .int .u64 0] Z rfl rfl (fun b3 w Z => ?_)
  refine Ze8 ?_
  refine ⟨by exact trivial, ?_⟩
  refine Zfg 2 rfl <| Zfo ?_
  refine Z.dn (fun w Z => ?_)
  as_aux_lemma =>
  refine Zfa ?_
  rw [Df, UT] at Z
  first
  | (replace Z := St.exClose (f := XX b3 (AM.new cap.toNat)) ⟨s1, some ⟨b1, 0, none⟩, cap.toNat + 1, some ⟨b2, 0, none⟩, cap.toNat + 1, 0⟩ (by
    unfold XX
    rw [X8, XV]
    exact Z.sel 4 [0, 2, 1, 0] rfl))
  | (replace Z := St.exClose (f := XX b3 (AM.new cap.toNat)) ⟨s1, some ⟨b2, 0, none⟩, cap.toNat + 1, some ⟨b1, 0, none⟩, cap.toNat + 1, 0⟩ (by
    unfold XX
    rw [X8, XV]
    exact Z.sel 4 [0, 2, 0, 0] rfl))
  replace Z : St g (XT b3 (AM.new cap.toNat) :: L) w := Z
  refine ⟨[.pointer (some ⟨b3, 0, none⟩), .int .i64 0], ⟨rfl, rfl⟩, ?_⟩
  exact ⟨_, rfl, Z⟩
theorem DM (a : Nat) (A : AM) (i : Int) (hA : AWf A) (hi : 0 ≤ i ∧ i < 4294967296) (Z : St g (XT a A :: L) w) :
  Sp Tryz.prog 84 [.pointer (some ⟨a, 0, none⟩), .int .u32 i] w (fun v w' => v = .int .i64 (A.retE i) ∧ St g (XT a (A.ret i) :: L) w') := by
 refine Sp.enter Tryz.func84 rfl (by kernel_rfl) (by kernel_rfl) ?_
 refine Ze7 <| WC.region ?_
 obtain ⟨⟨p, na, nc, ca, cc, rd⟩, Z⟩ := St.exOpen (f := XX a A) Z; have hAs := hA.s; have hcp := hAs.cap; have hnl := hA.nl; have hcl := hA.cl; have hbn := V6 A.nodes; have hbc := Zh A.cnt
 replace Z : St g (Zd a #[.pointer (some ⟨p, 0, none⟩), .slice na (nds A.nodes).length nc, .slice ca (Zb A.cnt).length cc, .int .u64 rd] 221 :: XR p A.s :: Ze 271 8 (nds A.nodes) na nc :: Ze 3 1 (Zb A.cnt) ca cc :: L) w := Z
 refine Ze6 1 rfl <| Ze8 <| Ze7 <| Ze7 <| WC.region <| Ze6 2 rfl <| Ze8 <| Zfe rfl (fun cd1 => ?_) (fun cd1 => ?_)
 ·refine Ze7 <| WC.region <| Ze6 1 rfl <| Ze8 <| Zfa ?_
  replace Z := St.exClose (f := XX a A) ⟨p, na, nc, ca, cc, rd⟩ Z; replace Z : St g (XT a (A.ret i) :: L) w := by rw [AM.ret, if_neg (fun h => h.1 cd1)]; exact Z
  replace Z : St g (XT a (A.ret i) :: L) w := Z
  refine ⟨[.int .i64 0], rfl, ?_⟩
  exact ⟨congrArg (Value.int .i64) (if_pos (.inl cd1)).symm, Z⟩
 ·refine Zfc <| Ze7 <| Ze7 <| WC.region <| Zfd 5 [.pointer (some ⟨p, 0, none⟩)] rfl (by exact Z.ld 0 rfl rfl) ?_
  refine Zfb rfl rfl (Zcm _ A.s i (by first | assumption | exact SOk.le (by assumption)) (by omega) (Z.sel 2 [1, 0] rfl)) rfl ?_
  clear Z; rintro _ w ⟨rfl, Z⟩
  replace Z := Z.n4 L rfl
  refine Ze6 1 rfl <| Ze8 <| Zgf rfl (fun cd2 => ?_) (fun cd2 => ?_)
  ·refine Ze7 <| WC.region <| Ze6 1 rfl <| Ze8 ?_
   as_aux_lemma =>
   refine Zfa ?_
   replace Z := St.exClose (f := XX a A) ⟨p, na, nc, ca, cc, rd⟩ (by first | exact Z | exact Z.sel 4 [1, 0, 0, 0] rfl); replace Z : St g (XT a (A.ret i) :: L) w := by rw [AM.ret, if_neg (fun h => by rw [h.2] at cd2; cases cd2)]; exact Z
   replace Z : St g (XT a (A.ret i) :: L) w := Z
   refine ⟨[.int .i64 3], rfl, ?_⟩
   exact ⟨congrArg (Value.int .i64) (if_neg (fun h => h.elim cd1 (fun k => by rw [k] at cd2; cases cd2))).symm, Z⟩
  ·refine Zfc ?_
   as_aux_lemma =>
   refine Ze7 <| WC.region ?_
   have hik := SM.ok_rng hAs hi.1 (by simpa using cd2)
   refine Zfd 5 [.slice ca (Zb A.cnt).length cc] rfl (by exact Z.ld 1 rfl rfl) ?_
   obtain ⟨x, hx⟩ : ∃ x, A.cnt[i.toNat]? = some x := ⟨_, List.getElem?_eq_getElem (by omega)⟩
   refine Zfw rfl rfl (i := i) (i.toNat) el_148 rfl rfl (by omega) (by omega) (Z.rdO 3 rfl (Zg hx)).1 ?_
   refine Zfd 2 [.int .i64 x] rfl (by exact (Z.rdO 3 rfl (Zg hx)).2 0 _ rfl) ?_
   refine Zfw rfl rfl (i := i) (i.toNat) el_148 rfl rfl (by omega) (by omega) (Z.rdO 3 rfl (Zg hx)).1 ?_
   refine Zgk rfl rfl rfl 3 (i.toNat) 0 [.int .i64 x] (Zb (A.cnt.set i.toNat (IntKind.i64.wrap (x + 1)))) Z rfl (Zg hx) rfl rfl rfl rfl rfl (C1 _ _ _) (fun w Z => ?_)
   replace Z := Z.n4 L (a3 := Ze 3 1 (Zb (A.cnt.set i.toNat (IntKind.i64.wrap (x + 1)))) ca cc) rfl
   refine Ze8 <| Ze7 <| WC.region <| Ze6 1 rfl <| Ze8 <| Zfa ?_
   replace Z := St.exClose (f := XX a (A.inc i)) ⟨p, na, nc, ca, cc, rd⟩ (by
    have e1 : (Zb (A.inc i).cnt).length = (Zb A.cnt).length := by simp [AM.inc]
    have e2 : (A.inc i).cnt = A.cnt.set i.toNat (IntKind.i64.wrap (x + 1)) := by unfold AM.inc AM.cntOf; rw [hx]; rfl
    unfold XX
    rw [e1, e2]
    first | exact Z | exact Z.sel 4 [1, 0, 0, 0] rfl)
   replace Z : St g (XT a (A.ret i) :: L) w := by rw [AM.ret, if_pos ⟨cd1, by simpa using cd2⟩]; exact Z
   replace Z : St g (XT a (A.ret i) :: L) w := Z
   refine ⟨[.int .i64 0], rfl, ?_⟩
   exact ⟨congrArg (Value.int .i64) (if_pos (.inr (by simpa using cd2))).symm, Z⟩
theorem Uk (a : Nat) (A : AM) (Z : St g (XT a A :: L) w) :
  Sp Tryz.prog 97 [.pointer (some ⟨a, 0, none⟩), .int .u32 0] w (fun v w' => v = .tuple #[.int .i64 0, .int .i64 0] ∧ St g (XT a A :: L) w') := by
 refine Sp.enter Tryz.func97 rfl (by kernel_rfl) (by kernel_rfl) ?_
 refine Ze7 <| WC.region <| Ze6 2 rfl <| Ze8 <| Ze7 <| Ze7 <| WC.region <| Ze6 2 rfl <| Ze8 <| Zfs rfl (decide_eq_true ((by decide))) ?_
 refine Ze7 <| WC.region <| Ze6 2 rfl <| Ze8 <| Zfa ?_
 refine ⟨[.int .i64 0, .int .i64 0], ⟨rfl, rfl⟩, ?_⟩
 exact ⟨rfl, Z⟩
end Go.Proofs.YtlifpobidhfbfaaGreatDoor
namespace Go.Proofs.YtlifpobidhfbfaaGreatDoor
open Go Go.V
structure Shr (A B : AM) : Prop where
 ok : ∀ j, 0 ≤ j → B.s.ok j = true → A.s.ok j = true ∧ B.nd j = A.nd j
 cap : B.s.used.length = A.s.used.length
 gen : B.s.gen = A.s.gen
theorem Shr.refl (A : AM) : Shr A A := ⟨fun _ _ h => ⟨h, rfl⟩, rfl, rfl⟩
theorem Shr.free {A B : AM} {k : Int} (h : Shr A B) (hB : AWf B) (hk : B.s.ok k = true) (h0 : 0 ≤ k) : Shr A (B.freed k) := ⟨fun j hj hjk => by
 rw [AM.freed_ok hB.s hk h0 j hj] at hjk
 split at hjk
 ·cases hjk
 ·rename_i e
  have h1 := h.ok j hj hjk
  refine ⟨h1.1, ?_⟩
  unfold AM.freed
  rw [AM.nd_set (by rw [hB.nl]; exact (SM.ok_rng hB.s h0 hk).2.2.2) h0 hj, if_neg e]
  exact h1.2, by rw [← h.cap]; exact List.length_set, h.gen⟩
end Go.Proofs.YtlifpobidhfbfaaGreatDoor
namespace Go.Proofs.YtlifpobidhfbfaaGreatDoor
open Go Go.V
theorem Shr.kp {A B : AM} {R : List Int} (h : Shr A B) (hB : ARf B R) : Kp A B R :=
 have h1 : ∀ r ∈ R, ∀ t, Is A t r → Is B t r := fun r hr t ht => Is.mono hB (fun j h0 hj => (h.ok j h0 hj).2) t r ht ((hB.ref r hr).imp id (·.2))
 ⟨h1, fun r hr t ht => (Xv (fun j h0 hj => ((h.ok j (by omega) hj).2).symm) t r (h1 r hr t ht)).symm⟩
end Go.Proofs.YtlifpobidhfbfaaGreatDoor
namespace Go.V
open Go Go.RowKit
structure RN where
 n : Int
 root : Int
 born : Nat
def rK (x : RN) : Value × Value × Nat := (.int .i64 x.n, .int .u32 x.root, x.born)
structure VM where
 T : TM
 xs : List VN
 q : Nat
 last : Int
 rs : List RN
 q2 : Nat
 cap : Int
structure VsA where
 t : Nat
 p : Nat
 m : Nat
 m2 : Nat
def Jn (s a : Nat) (V : VM) (x : VsA) : List HP := [Zd s #[.pointer (some ⟨a, 0, none⟩), .pointer (some ⟨x.t, 0, none⟩), .pointer (some ⟨x.p, 0, none⟩), .map (some x.m2), .int .i64 V.cap] 129, Qe x.t V.T, Zd x.p #[.int .i64 V.cap, .int .i64 V.last, .map (some x.m)] 224, ZN x.m (.map (mE (List.map vK V.xs)) V.q), ZP vF V.xs, ZN x.m2 (.map (mE (List.map rK V.rs)) V.q2)]
def Ju (s a : Nat) (V : VM) : HP := ExB (Jn s a V)
def TM.vl (T : TM) (i : Int) : Int := (T.vals[i.toNat]?).getD 0
structure VI (V : VM) (A : AM) (R : List Int) : Prop where
 t : TOk V.T
 g : GI V.xs V.q V.cap V.last
 k : KOk rK RN.n V.rs V.q2
 pre : ∀ z, (∃ r ∈ V.rs, r.n = z) ↔ ZX V.xs z = true
 lv : ∀ i : Int, 0 ≤ i → V.T.s.ok i = true → Zi V.xs (V.T.vl i) = true
 inj : ∀ i j : Int, 0 ≤ i → 0 ≤ j → V.T.s.ok i = true → V.T.s.ok j = true → V.T.vl i = V.T.vl j → i = j
 all : ∀ z, Zi V.xs z = true → ∃ i : Int, 0 ≤ i ∧ V.T.s.ok i = true ∧ V.T.vl i = z
 ref : ARf A (V.rs.map RN.root ++ R)
 cp : V.T.s.cap = V.cap
def VM.new (cap : Nat) : VM := ⟨TM.new cap, [], 0, 0, [], 0, cap⟩
theorem VM.open_val {V : VM} {A : AM} {R : List Int} (h : VI V A R) {x : Int} (ho : V.T.s.opn x = true) : Zi V.xs (V.T.val x) = true ∧ ∃ (k : Nat) (r : RN), V.rs[k]? = some r ∧ r.n = V.T.val x := by
 have h1 := h.lv (x % 4294967296) (by omega) (SM.opn_ok ho).1
 refine ⟨h1, ?_⟩
 obtain ⟨r, hr, hn⟩ := (h.pre _).2 (Xm h1)
 obtain ⟨k, hk⟩ := List.mem_iff_getElem?.1 hr
 exact ⟨k, r, hk, hn⟩
theorem SM.new_live (cap : Nat) (i : Int) : (SM.new cap).ok i = false := by
 unfold SM.ok SM.new
 simp only
 cases hx : (List.replicate (cap + 1) false)[i.toNat]? with
 | none => rfl
 | some b => rw [List.eq_of_mem_replicate (List.mem_of_getElem? hx)]; rfl
theorem AM.new_rf {cap : Nat} (h : 1 ≤ cap ∧ cap ≤ 65536) : ARf (AM.new cap) [] := by
 have hno := SM.new_live cap
 refine ⟨AM.new_wf h, fun i hi => ?_, fun i hi => ?_, fun i hi => ?_, fun _ hr => (by cases hr), fun i hi => ?_, fun i _ _ => ?_, by simp⟩
 ·have := hno i; rw [show (AM.new cap).s = SM.new cap from rfl, this] at hi; cases hi
 ·have := hno i; rw [show (AM.new cap).s = SM.new cap from rfl, this] at hi; cases hi
 ·have := hno i; rw [show (AM.new cap).s = SM.new cap from rfl, this] at hi; cases hi
 ·have := hno i; rw [show (AM.new cap).s = SM.new cap from rfl, this] at hi; cases hi
 ·unfold AM.nd AM.new
  simp only
  cases hx : (List.replicate (cap + 1) Nd.zero)[i.toNat]? with
  | none => rfl
  | some b => rw [List.eq_of_mem_replicate (List.mem_of_getElem? hx)]; rfl
theorem VI.new {slots cap : Nat} (h1 : 1 ≤ slots ∧ slots ≤ 65536) (h2 : 1 ≤ cap ∧ cap ≤ 4096) : VI (VM.new cap) (AM.new slots) [] := by
 have hno := SM.new_live cap
 refine ⟨TM.new_ok (by omega), ⟨GOk.nil, fun _ h => (by cases h), Int.le_refl _, by show 1 ≤ (cap : Int) ∧ (cap : Int) ≤ 4096; omega⟩, KOk.nil, fun z => ?_, fun i _ hi => ?_, fun i j _ _ hi => ?_, fun z hz => (by cases hz), AM.new_rf h1, ?_⟩
 ·exact ⟨fun ⟨_, h, _⟩ => (by cases h), fun h => (by cases h)⟩
 ·rw [show (VM.new cap).T.s = SM.new cap from rfl, hno i] at hi; cases hi
 ·rw [show (VM.new cap).T.s = SM.new cap from rfl, hno i] at hi; cases hi
 ·show (((List.replicate (cap + 1) false).length : Nat) : Int) - 1 = cap
  simp
def VM.room (V : VM) : Int := min (V.cap - V.xs.length) (V.cap - (V.T.s.cap - V.T.s.free))
def VM.rootOf (V : VM) (z : Int) : Int := ((V.rs.find? fun r => decide (r.n = z)).map RN.root).getD 0
theorem VM.rootOf_at {V : VM} (hu : V.rs.Pairwise fun x y => RN.n x ≠ RN.n y) {k : Nat} {r : RN} (hr : V.rs[k]? = some r) : V.rootOf r.n = r.root := by
 unfold VM.rootOf
 have : V.rs.find? (fun x => decide (x.n = r.n)) = some r := by
  cases hf : V.rs.find? (fun x => decide (x.n = r.n)) with
  | none => exact absurd (decide_eq_true rfl) (List.find?_eq_none.1 hf r (List.mem_of_getElem? hr))
  | some y =>
   have hn : y.n = r.n := of_decide_eq_true (List.find?_some (p := fun q : RN => decide (q.n = r.n)) hf)
   obtain ⟨j, hj⟩ := List.mem_iff_getElem?.1 (List.mem_of_find?_eq_some hf)
   have h1 := (List.getElem?_eq_some_iff.1 hj).1
   have h2 := (List.getElem?_eq_some_iff.1 hr).1
   have e1 : V.rs[j] = y := (List.getElem?_eq_some_iff.1 hj).2
   have e2 : V.rs[k] = r := (List.getElem?_eq_some_iff.1 hr).2
   rcases Nat.lt_trichotomy j k with hl | hl | hl
   ·exact absurd (by rw [e1, e2]; exact hn) (List.pairwise_iff_getElem.1 hu j k h1 h2 hl)
   ·subst hl; rw [hj] at hr; exact hr
   ·exact absurd (by rw [e1, e2]; exact hn.symm) (List.pairwise_iff_getElem.1 hu k j h2 h1 hl)
 rw [this]; rfl
end Go.V
namespace Go.V
open Go Go.RowKit
theorem TM.open_vl {T : TM} (h : TOk T) (hf : 0 < T.s.free) (v : Int) {i : Int} (hi : 0 ≤ i) : (T.open v).vl i = if i = T.s.next then v else T.vl i := by
 have hn := SM.next_rng h.s hf
 unfold TM.vl TM.open
 simp only
 rw [List.getElem?_set]
 by_cases e : i = T.s.next
 ·subst e; rw [if_pos rfl, if_pos (by rw [h.vl]; exact hn.2.2.1), if_pos rfl]; rfl
 ·rw [if_neg (by omega), if_neg e]
theorem TM.open_ok {T : TM} (h : TOk T) (hf : 0 < T.s.free) (v : Int) {i : Int} (hi : 0 ≤ i) : (T.open v).s.ok i = if i = T.s.next then true else T.s.ok i := SM.alloc_ok' h.s hf hi
theorem Zex {V : VM} {A : AM} {R : List Int} (h : VI V A R) : V.rs.length ≤ V.xs.length := by
 have h1 := VD (l := V.rs.map RN.n) (m := V.xs.map VN.n) (List.pairwise_map.2 h.k.uniq) (fun z hz => by
  obtain ⟨r, hr, e⟩ := List.mem_map.1 hz
  obtain ⟨x, hx, e2⟩ := ZY.1 ((h.pre z).1 ⟨r, hr, e⟩)
  exact List.mem_map.2 ⟨x, hx, e2⟩)
 simpa using h1
def VM.add (V : VM) (xs2 : List VN) (q : Nat) (root : Int) : VM := ⟨V.T.open (V.last + 1), xs2, q, V.last + 1, V.rs ++ [⟨V.last + 1, root, V.q2⟩], V.q2 + 1, V.cap⟩
theorem VI.add {V : VM} {A : AM} {R : List Int} (h : VI V A R) {root : Int} (hr : root = 0 ∨ (1 ≤ root ∧ A.s.ok root = true)) {ps : List Int} {xs2 : List VN} {q : Nat} (h0 : YP V.xs V.cap ps = 0) (hA : AddP V.xs V.cap V.last ps xs2 (V.last + 1))
  (hG : GI xs2 q V.cap (V.last + 1)) (hf : 0 < V.T.s.free) (hla : V.last < 1000000000) (hlen : R.length ≤ 900000000) : VI (V.add xs2 q root) (A.ret root) R := by
 have hla0 := h.g.la
 have hle := Zex h
 have hnum := hG.ok.num
 obtain ⟨_, _, hn, hlv, hpr, hxl⟩ := (AddP.facts h.g.le hA).resolve_left fun e => e.1 h0
 have hlast : ∀ z, ZX V.xs z = true → z ≤ V.last := fun z hz => by
  obtain ⟨x, hx, e⟩ := ZY.1 hz
  have := h.g.le x hx; omega
 have hnx := SM.next_rng h.t.s hf
 have hlvl : ∀ i : Int, 0 ≤ i → V.T.s.ok i = true → V.T.vl i ≤ V.last := fun i h0 hi => hlast _ (Xm (h.lv i h0 hi))
 refine ⟨h.t.open hf (by omega), hG, h.k.snoc rfl (fun y hy e => ?_) rfl (by show _ ≤ V.last + 1 ∧ V.last + 1 ≤ _; omega) (by omega), fun z => ?_, fun i hi ho => ?_, fun i j hi hj ho ho2 e => ?_, fun z hz => ?_, ?_, ?_⟩
 ·have := hlast _ ((h.pre y.n).1 ⟨y, hy, rfl⟩)
  have e2 : y.n = V.last + 1 := e
  omega
 ·show (∃ r ∈ V.rs ++ [_], r.n = z) ↔ ZX xs2 z = true
  rw [hpr z, Bool.or_eq_true, ← h.pre z]
  constructor
  ·rintro ⟨r, hr2, e⟩
   rcases List.mem_append.1 hr2 with hr2 | hr2
   ·exact .inl ⟨r, hr2, e⟩
   ·rw [List.mem_singleton.1 hr2] at e
    exact .inr (decide_eq_true e.symm)
  ·rintro (⟨r, hr2, e⟩ | e)
   ·exact ⟨r, List.mem_append_left _ hr2, e⟩
   ·exact ⟨_, List.mem_append_right _ (List.mem_singleton.2 rfl), (of_decide_eq_true e).symm⟩
 ·show Zi xs2 ((V.T.open (V.last + 1)).vl i) = true
  rw [TM.open_vl h.t hf _ hi, hlv]
  rw [show (V.add xs2 q root).T.s.ok i = _ from TM.open_ok h.t hf _ hi] at ho
  by_cases e : i = V.T.s.next
  ·rw [if_pos e]; simp
  ·rw [if_neg e] at ho ⊢
   rw [h.lv i hi ho, Bool.true_or]
 ·rw [show (V.add xs2 q root).T.s.ok i = _ from TM.open_ok h.t hf _ hi] at ho
  rw [show (V.add xs2 q root).T.s.ok j = _ from TM.open_ok h.t hf _ hj] at ho2
  rw [show (V.add xs2 q root).T.vl i = _ from TM.open_vl h.t hf _ hi, show (V.add xs2 q root).T.vl j = _ from TM.open_vl h.t hf _ hj] at e
  by_cases e1 : i = V.T.s.next
  ·by_cases e2 : j = V.T.s.next
   ·rw [e1, e2]
   ·rw [if_neg e2] at ho2
    rw [if_pos e1, if_neg e2] at e
    have := hlvl j hj ho2; omega
  ·rw [if_neg e1] at ho
   by_cases e2 : j = V.T.s.next
   ·rw [if_neg e1, if_pos e2] at e
    have := hlvl i hi ho; omega
   ·rw [if_neg e2] at ho2
    rw [if_neg e1, if_neg e2] at e
    exact h.inj i j hi hj ho ho2 e
 ·have hz2 : (Zi V.xs z || decide (z = V.last + 1)) = true := by rw [← hlv z]; exact hz
  rcases Bool.or_eq_true_iff.1 hz2 with hz2 | hz2
  ·obtain ⟨i, h1, h2, h3⟩ := h.all z hz2
   have hne : i ≠ V.T.s.next := fun e => by rw [e, hnx.2.2.2] at h2; cases h2
   exact ⟨i, h1, by rw [show (V.add xs2 q root).T.s.ok i = _ from TM.open_ok h.t hf _ h1, if_neg hne]; exact h2, by rw [show (V.add xs2 q root).T.vl i = _ from TM.open_vl h.t hf _ h1, if_neg hne]; exact h3⟩
  ·have h1 : 0 ≤ V.T.s.next := by omega
   exact ⟨V.T.s.next, h1, by rw [show (V.add xs2 q root).T.s.ok _ = _ from TM.open_ok h.t hf _ h1, if_pos rfl], by rw [show (V.add xs2 q root).T.vl _ = _ from TM.open_vl h.t hf _ h1, if_pos rfl]; exact (of_decide_eq_true hz2).symm⟩
 ·have h1 := (AM.ret_eq h.ref hr (by rw [List.length_append, List.length_map]; omega)).1
  refine h1.perm ?_
  show (root :: (V.rs.map RN.root ++ R)).Perm ((V.rs ++ [(⟨V.last + 1, root, V.q2⟩ : RN)]).map RN.root ++ R)
  rw [List.map_append]
  simpa using (List.perm_middle (a := root) (l₁ := V.rs.map RN.root) (l₂ := R)).symm
 ·show (V.T.s.alloc).cap = V.cap
  rw [← h.cp]
  unfold SM.cap SM.alloc; simp
theorem Cq {V : VM} {A : AM} {R : List Int} (h : VI V A R) {x y : Int} (hx : V.T.s.opn x = true) (hy : V.T.s.opn y = true) (e : V.T.val x = V.T.val y) : x = y := by
 obtain ⟨h1, h2⟩ := SM.opn_ok hx
 obtain ⟨h3, h4⟩ := SM.opn_ok hy
 have := h.inj (x % 4294967296) (y % 4294967296) (by omega) (by omega) h1 h3 e
 rw [← h2, ← h4, this]
theorem C3 {V : VM} {A : AM} {R : List Int} (h : VI V A R) {hs : List Int} (hp : X2 hs) (ho : ∀ x ∈ hs, V.T.s.opn x = true) : X2 (hs.map V.T.val) := by
 refine ⟨by simpa using hp.1, fun x y e => ?_⟩
 match hs, hp, ho, e with
 | [u, v], hp, ho, e =>
  simp only [List.map_cons, List.map_nil, List.cons.injEq, and_true] at e
  obtain ⟨e1, e2⟩ := e
  intro e3
  exact hp.2 u v rfl (Cq h (ho u (by simp)) (ho v (by simp)) (by rw [e1, e2]; exact e3))
theorem Us {V : VM} {A : AM} {R : List Int} (h : VI V A R) (hr : 0 < V.room) : (V.xs.length : Int) < V.cap ∧ 0 < V.T.s.free := by
 have := h.cp
 unfold VM.room at hr
 omega
theorem Dz {V : VM} {A : AM} {R : List Int} (h : VI V A R) {hs : List Int} (hp : X2 hs) (ho : ∀ x ∈ hs, V.T.s.opn x = true) (hr : 0 < V.room) : YP V.xs V.cap (hs.map V.T.val) = 0 := by
 refine Dc (C3 h hp ho) (fun z hz => ?_) (by have := (Us h hr).1; omega)
 obtain ⟨x, hx, rfl⟩ := List.mem_map.1 hz
 exact (VM.open_val h (ho x hx)).1
end Go.V
namespace Go.V
open Go Go.RowKit
theorem Hs {xs : List VN} {m : Int} (hu : VUq xs) (h : ∀ z, ZX xs z = true ↔ z = m) : xs.length = 1 := by
 match xs, hu, h with
 | [], _, h => exact absurd ((h m).2 rfl) (by simp [ZX, ZQ])
 | [_], _, _ => rfl
 | x :: y :: t, hu, h =>
  have h1 := (h x.n).1 (ZY.2 ⟨x, by simp, rfl⟩)
  have h2 := (h y.n).1 (ZY.2 ⟨y, by simp, rfl⟩)
  have := (List.pairwise_cons.1 hu).1 y (by simp)
  rw [h1, h2] at this; exact absurd rfl this
structure FvS (V : VM) (A : AM) (hd root : Int) (t : Tr) : Prop where
 vi : VI V A []
 opn : V.T.s.opn hd = true
 rng : 0 ≤ hd ∧ hd ≤ 18446744073709551615
 val : V.T.val hd = V.last
 pre : ∀ z, ZX V.xs z = true ↔ z = V.last
 free : V.T.s.free = 49
 cap : V.cap = 50
 rs : ∃ b, V.rs = [⟨V.last, root, b⟩]
 is : Is A t root
 ok : t.ok
 srt : Srt t.ls
 acap : A.s.used.length = 601
theorem FvS.len {V : VM} {A : AM} {hd root : Int} {t : Tr} (h : FvS V A hd root t) : V.xs.length = 1 := Hs h.vi.g.ok.uniq h.pre
theorem FvS.room {V : VM} {A : AM} {hd root : Int} {t : Tr} (h : FvS V A hd root t) : V.room = 49 := by
 have h1 := h.len; have h2 := h.vi.cp; have h3 := h.cap; have h4 := h.free
 unfold VM.room; omega
theorem FvS.root {V : VM} {A : AM} {hd root : Int} {t : Tr} (h : FvS V A hd root t) : V.rootOf (V.T.val hd) = root := by
 obtain ⟨b, hb⟩ := h.rs
 rw [h.val]
 exact VM.rootOf_at (V := V) h.vi.k.uniq (k := 0) (r := ⟨V.last, root, b⟩) (by rw [hb]; rfl)
theorem FvS.ref {V : VM} {A : AM} {hd root : Int} {t : Tr} (h : FvS V A hd root t) : ARf A [root] := by
 obtain ⟨b, hb⟩ := h.rs
 have := h.vi.ref
 rw [hb] at this; exact this
theorem FvS.used {V : VM} {A : AM} {hd root : Int} {t : Tr} (h : FvS V A hd root t) : A.s.cap = 600 ∧ A.s.cap - A.s.free = t.n := by
 have h1 := Va h.ref h.is h.srt
 have h2 : A.s.cap = (A.s.used.length : Int) - 1 := rfl
 have h3 := h.acap
 omega
end Go.V
namespace Go.Proofs.YtlifpobidhfbfaaGreatDoor
open Go Go.V Go.RowKit Go.Maps Go.Sort Go.Shelf
variable {g w : World} {L : List HP}
theorem D9 (sl cap : Int) (hc : 1 ≤ cap ∧ cap ≤ 4096) (hs : 1 ≤ sl ∧ sl ≤ 65536) (Z : St g (L) w) :
  Sp Tryz.prog 44 [.int .i64 sl, .int .i64 cap] w (fun v w' => ∃ (s a : Nat), v = .tuple #[.pointer (some ⟨s, 0, none⟩), .int .i64 0] ∧ St g (Ju s a (VM.new cap.toNat) :: XT a (AM.new sl.toNat) :: L) w') := by
 refine Sp.enter Tryz.func44 rfl (by kernel_rfl) (by kernel_rfl) ?_
 refine Ze7 <| WC.region <| Ze6 2 rfl <| Ze8 <| Ze7 <| Ze7 <| WC.region <| Ze6 2 rfl <| Zgd 4 rfl (fun j => ?_)
 refine Zf4 15 rfl (Uw (dd _) (dd _)) <| Ze8 <| Zfl rfl (decide_eq_false ((by omega))) ?_
 refine Zfc <| Ze7 <| WC.region <| Ze6 1 rfl <| Zfb rfl rfl (DQ sl hs Z) rfl ?_
 clear Z; rintro _ w ⟨a1, rfl, Z⟩
 replace Z := Z.n1 L rfl
 refine Ze6 5 rfl <| Ze8 <| Ze7 <| Ze7 <| WC.region <| Ze6 2 rfl <| Ze8 ?_
 as_aux_lemma =>
 refine Zfl rfl (decide_eq_false ((by decide))) ?_
 refine Zfc <| Ze7 <| WC.region <| Ze6 1 rfl <| Zfb rfl rfl (Jb cap hc Z) rfl ?_
 clear Z; rintro _ w ⟨t1, rfl, Z⟩
 replace Z := Z.n2 L rfl
 refine Ze6 5 rfl <| Ze8 <| Ze7 <| Ze7 <| WC.region <| Ze6 2 rfl <| Ze8 <| Zfl rfl (decide_eq_false ((by decide))) ?_
 refine Zfc <| Ze7 <| WC.region <| Ze6 1 rfl <| Zfb rfl rfl (new_ok cap hc Z) rfl ?_
 clear Z; rintro _ w ⟨p1, m1, rfl, Z⟩
 replace Z := Z.n5 L rfl
 refine Ze6 5 rfl <| Ze8 ?_
 as_aux_lemma =>
 refine Ze7 <| Ze7 <| WC.region <| Ze6 2 rfl <| Ze8 <| Zfl rfl (decide_eq_false ((by decide))) ?_
 refine Zfc <| Ze7 <| WC.region <| Ze6 3 rfl <| Zgn rfl rfl Z (fun b1 w Z => ?_)
 refine Zf7 rfl rfl (cs := [.pointer (some ⟨p1, 0, none⟩), .map (some b1)]) Zc8 rfl rfl <| Ze6 1 rfl <| Zf7 rfl rfl (cs := [.pointer (some ⟨a1, 0, none⟩), .pointer (some ⟨t1, 0, none⟩), .pointer (some ⟨p1, 0, none⟩), .map (some b1), .int .i64 cap]) Zc4 rfl rfl <| Zf0 rfl rfl #[.pointer (some ⟨a1, 0, none⟩), .pointer (some ⟨t1, 0, none⟩), .pointer (some ⟨p1, 0, none⟩), .map (some b1), .int .i64 cap] Z rfl rfl (fun b2 w Z => ?_)
 refine Ze6 2 rfl <| Ze8 <| Zfa ?_
 replace Z := St.exClose (f := Jn b2 a1 (VM.new cap.toNat)) (L := XT a1 (AM.new sl.toNat) :: L) ⟨t1, p1, m1, b1⟩ (by
  have hc2 : (VM.new cap.toNat).cap = cap := (by show ((cap.toNat : Nat) : Int) = cap; omega)
  unfold Jn
  rw [hc2]
  exact (Z.sel 6 [0, 4, 1, 1, 1, 0] rfl))
 replace Z := Z.n2 L (a0 := Ju b2 a1 (VM.new cap.toNat)) rfl
 refine ⟨[.pointer (some ⟨b2, 0, none⟩), .int .i64 0], ⟨rfl, rfl⟩, ?_⟩
 exact ⟨_, _, rfl, Z⟩
theorem U9 (s a : Nat) (V : VM) (h : Int) (hT : TOk V.T) (hh : 0 ≤ h ∧ h ≤ 18446744073709551615) (hn : V.T.s.opn h = false) (Z : St g (Ju s a V :: L) w) :
  Sp Tryz.prog 136 [.pointer (some ⟨s, 0, none⟩), .int .u64 h] w (fun v w' => v = .tuple #[.int .i64 0, .int .i64 5] ∧ St g (Ju s a V :: L) w') := by
 refine Sp.enter Tryz.func136 rfl (by kernel_rfl) (by kernel_rfl) ?_
 refine Ze7 <| WC.region <| Ze6 2 rfl <| Ze8 <| Ze7 <| WC.region ?_
 obtain ⟨⟨vt, vp, vm, vr⟩, Z⟩ := St.exOpen (f := Jn s a V) Z
 replace Z : St g (Zd s #[.pointer (some ⟨a, 0, none⟩), .pointer (some ⟨vt, 0, none⟩), .pointer (some ⟨vp, 0, none⟩), .map (some vr), .int .i64 V.cap] 129 :: Qe vt V.T :: Zd vp #[.int .i64 V.cap, .int .i64 V.last, .map (some vm)] 224 :: ZN vm (.map (mE (List.map vK V.xs)) V.q) :: ZP vF V.xs :: ZN vr (.map (mE (List.map rK V.rs)) V.q2) :: L) w := Z
 refine Zfd 5 [.pointer (some ⟨vt, 0, none⟩)] rfl (by exact Z.ld 0 rfl rfl) ?_
 refine Zfb rfl rfl (Qu _ V.T h hT hh hn (Z.sel 2 [1, 0] rfl)) rfl ?_
 clear Z; rintro _ w ⟨rfl, Z⟩
 replace Z := Z.n6 L rfl
 refine Ze6 5 rfl <| Ze8 <| Ze7 <| WC.region <| Ze6 2 rfl <| Zfi 18 rfl (ZF (by omega)) ?_
 refine Ze6 3 rfl <| Ze8 <| Zfa ?_
 replace Z := St.exClose (f := Jn s a V) (L := L) ⟨vt, vp, vm, vr⟩ ((Z.sel 2 [1, 0] rfl))
 replace Z : St g (Ju s a V :: L) w := Z
 refine ⟨[.int .i64 0, .int .i64 5], ⟨rfl, rfl⟩, ?_⟩
 exact ⟨rfl, Z⟩
theorem Ds (s a : Nat) (V : VM) (h : Int) (hT : TOk V.T) (hh : 0 ≤ h ∧ h ≤ 18446744073709551615) (hn : V.T.s.opn h = true) (Z : St g (Ju s a V :: L) w) :
  Sp Tryz.prog 136 [.pointer (some ⟨s, 0, none⟩), .int .u64 h] w (fun v w' => v = .tuple #[.int .i64 (V.T.val h), .int .i64 0] ∧ St g (Ju s a V :: L) w') := by
 refine Sp.enter Tryz.func136 rfl (by kernel_rfl) (by kernel_rfl) ?_
 refine Ze7 <| WC.region <| Ze6 2 rfl <| Ze8 <| Ze7 <| WC.region ?_
 obtain ⟨⟨vt, vp, vm, vr⟩, Z⟩ := St.exOpen (f := Jn s a V) Z
 replace Z : St g (Zd s #[.pointer (some ⟨a, 0, none⟩), .pointer (some ⟨vt, 0, none⟩), .pointer (some ⟨vp, 0, none⟩), .map (some vr), .int .i64 V.cap] 129 :: Qe vt V.T :: Zd vp #[.int .i64 V.cap, .int .i64 V.last, .map (some vm)] 224 :: ZN vm (.map (mE (List.map vK V.xs)) V.q) :: ZP vF V.xs :: ZN vr (.map (mE (List.map rK V.rs)) V.q2) :: L) w := Z
 refine Zfd 5 [.pointer (some ⟨vt, 0, none⟩)] rfl (by exact Z.ld 0 rfl rfl) ?_
 refine Zfb rfl rfl (Ue _ V.T h hT hh hn (Z.sel 2 [1, 0] rfl)) rfl ?_
 clear Z; rintro _ w ⟨rfl, Z⟩
 replace Z := Z.n6 L rfl
 refine Ze6 5 rfl <| Ze8 <| Ze7 <| WC.region ?_
 have hv := hT.val_rng h
 refine Ze6 2 rfl <| Zfi 18 rfl (ZF (by omega)) ?_
 refine Ze6 3 rfl <| Ze8 <| Zfa ?_
 replace Z := St.exClose (f := Jn s a V) (L := L) ⟨vt, vp, vm, vr⟩ ((Z.sel 2 [1, 0] rfl))
 replace Z : St g (Ju s a V :: L) w := Z
 refine ⟨[.int .i64 (V.T.val h), .int .i64 0], ⟨rfl, rfl⟩, ?_⟩
 exact ⟨rfl, Z⟩
theorem UG (s a : Nat) (V : VM) (h : Int) (hT : TOk V.T) (hh : 0 ≤ h ∧ h ≤ 18446744073709551615) (hn : V.T.s.opn h = false) (Z : St g (Ju s a V :: L) w) :
  Sp Tryz.prog 78 [.pointer (some ⟨s, 0, none⟩), .int .u64 h] w (fun v w' => v = .tuple #[.int .u32 0, .int .i64 5] ∧ St g (Ju s a V :: L) w') := by
 refine Sp.enter Tryz.func78 rfl (by kernel_rfl) (by kernel_rfl) ?_
 refine Ze7 <| WC.region <| Ze6 2 rfl <| Ze8 <| Ze7 <| WC.region <| Ze6 2 rfl <| Zfb rfl rfl (U9 _ _ _ h hT hh hn Z) rfl ?_
 clear Z; rintro _ w ⟨rfl, Z⟩
 replace Z := Z.n1 L rfl
 refine Ze6 5 rfl <| Ze8 <| Ze7 <| Ze7 <| WC.region <| Ze6 2 rfl <| Ze8 <| Zfs rfl (decide_eq_true ((by decide))) ?_
 refine Ze7 <| WC.region <| Ze6 3 rfl <| Ze8 <| Zfa ?_
 refine ⟨[.int .u32 0, .int .i64 5], ⟨rfl, rfl⟩, ?_⟩
 exact ⟨rfl, Z⟩
end Go.Proofs.YtlifpobidhfbfaaGreatDoor
namespace Go.Proofs.YtlifpobidhfbfaaGreatDoor
open Go Go.V Go.RowKit Go.Maps Go.Sort Go.Shelf
def hup (T : TM) (k : Nat) : List Int := ((List.range k).filter fun i : Nat => T.s.ok (i : Int)).map fun i : Nat => T.s.hd (i : Int)
variable {g w : World} {L : List HP}
theorem H6 (s a : Nat) (V : VM) (ss : List Int) (hT : TOk V.T) (hG : GI V.xs V.q V.cap V.last) (hp : ss.Perm (V.xs.map VN.n)) (hs : ss.Pairwise (· ≤ ·)) (Z : St g (Ju s a V :: L) w) :
  Sp Tryz.prog 53 [.pointer (some ⟨s, 0, none⟩)] w (fun v w' => v = .int .i64 V.room ∧ St g (Ju s a V :: L) w') := by
 refine Sp.enter Tryz.func53 rfl (by kernel_rfl) (by kernel_rfl) ?_
 refine Ze7 <| WC.region <| Ze6 1 rfl <| Ze8 <| Ze7 <| Zfr [([0, 4, 12, 16, 1, 5, 13, 17, 2, 6, 14, 18, 3, 7, 15, 19, 8], some (9, [0, 1, 2, 3, 12, 13, 14, 15, 16, 17, 18, 19])), ([10, 11], some (20, [0, 1, 2, 3, 10, 11, 12, 13, 14, 15])), ([21, 22, 23], none)] (by kernel_rfl) (by kernel_rfl) ?_
 obtain ⟨⟨vt, vp, vm, vr⟩, Z⟩ := St.exOpen (f := Jn s a V) Z
 replace Z : St g (Zd s #[.pointer (some ⟨a, 0, none⟩), .pointer (some ⟨vt, 0, none⟩), .pointer (some ⟨vp, 0, none⟩), .map (some vr), .int .i64 V.cap] 129 :: Qe vt V.T :: Zd vp #[.int .i64 V.cap, .int .i64 V.last, .map (some vm)] 224 :: ZN vm (.map (mE (List.map vK V.xs)) V.q) :: ZP vF V.xs :: ZN vr (.map (mE (List.map rK V.rs)) V.q2) :: L) w := Z
 have hsl := Zh ss; have hpl := hp.length_eq; rw [List.length_map] at hpl; have hnum := hG.ok.num; have hcp := hG.cp; have hfr := hT.s.free_rng; have hcc := hT.s.cap; have hce : V.T.s.cap = (V.T.s.used.length : Int) - 1 := rfl
 refine Zfp 17 [.int .i64 V.cap, .int .i64 V.cap, .pointer (some ⟨vt, 0, none⟩), .pointer (some ⟨vp, 0, none⟩)] rfl (by exact ⟨Z.ld 0 rfl rfl, Z.ld 0 rfl rfl, Z.ld 0 rfl rfl, Z.ld 0 rfl rfl⟩) ?_
 refine WQ.dn Z (fun w Z => ?_)
 refine Zfb rfl rfl (DK _ _ V.cap V.last V.xs V.q ss hG.ok.toVOk hp hs (Z.sel 5 [2, 2, 2, 0, 0] rfl)) rfl ?_
 clear Z; rintro _ w ⟨a1, c1, rfl, Z⟩
 replace Z := Z.n7 L rfl
 refine Ze8 ?_
 refine ⟨by exact ⟨Zff rfl rfl rfl rfl, Zff rfl rfl rfl rfl, Zff rfl rfl rfl rfl, Zfq rfl rfl rfl rfl (Z.ld 4 rfl rfl), Zff rfl rfl rfl rfl, Zff rfl rfl rfl rfl, Zff rfl rfl rfl rfl, Zfq rfl rfl rfl rfl (Z.ld 4 rfl rfl), Zff rfl rfl rfl rfl, Zff rfl rfl rfl rfl, Zff rfl rfl rfl rfl, Zfq rfl rfl rfl rfl (Z.ld 4 rfl rfl)⟩, ?_⟩
 refine Zfg 2 rfl <| Zf8 14 rfl (ZF (by omega)) ?_
 refine WQ.dn Z (fun w Z => ?_)
 refine Zfb rfl rfl (Zee _ V.T hT (Z.sel 6 [5, 0, 0, 0, 0, 0] rfl)) rfl ?_
 clear Z; rintro _ w ⟨rfl, Z⟩
 replace Z := Z.n7 L rfl
 refine Ze8 ?_
 refine ⟨by exact ⟨Zff rfl rfl rfl rfl, Zff rfl rfl rfl rfl, Zff rfl rfl rfl rfl, Zfq rfl rfl rfl rfl (Z.ld 5 rfl rfl), Zff rfl rfl rfl rfl, Zff rfl rfl rfl (congrArg (Value.int .i64) (Eq.symm (ZF (by omega)))), Zff rfl rfl rfl rfl, Zff rfl rfl rfl rfl, Zff rfl rfl rfl rfl, Zfq rfl rfl rfl rfl (Z.ld 5 rfl rfl)⟩, ?_⟩
 refine Zfg 1 rfl <| Zf8 24 rfl (ZF (by omega)) ?_
 refine Zfg 2 rfl <| Zfo ?_
 refine Z.dn (fun w Z => ?_)
 as_aux_lemma =>
 refine Zfa ?_
 replace Z := St.exClose (f := Jn s a V) (L := Ze 3 1 (Zb ss) a1 c1 :: L) ⟨vt, vp, vm, vr⟩ ((Z.sel 7 [5, 0, 1, 1, 1, 1, 0] rfl))
 replace Z := Z.n2 L (a0 := Ju s a V) rfl
 refine ⟨[.int .i64 (min (V.cap - (List.length (Zb ss) : Int)) (V.cap - (V.T.s.cap - V.T.s.free)))], rfl, ?_⟩
 replace Z := (Z.sel 2 [0] rfl)
 exact ⟨by unfold VM.room; rw [hsl, hpl]; rfl, Z⟩
end Go.Proofs.YtlifpobidhfbfaaGreatDoor
namespace Go.Proofs.YtlifpobidhfbfaaGreatDoor
open Go Go.V Go.RowKit
structure Com (V : VM) (root : Int) (ps : List Int) (V2 : VM) : Prop where
 ex : ∃ xs2 q, V2 = V.add xs2 q root ∧ AddP V.xs V.cap V.last ps xs2 (V.last + 1)
 e0 : YP V.xs V.cap ps = 0
variable {g w : World} {L : List HP}
theorem DY (s a : Nat) (V : VM) (A : AM) (R : List Int) (root : Int) (hs : List Int) (pa : Option Addr) (pc : Nat) (hV : VI V A R) (hr : root = 0 ∨ (1 ≤ root ∧ A.s.ok root = true)) (hps : X2 hs) (hop : ∀ x ∈ hs, (0 ≤ x ∧ x ≤ 18446744073709551615) ∧ V.T.s.opn x = true) (hrm : 0 < V.room) (hla : V.last < 1000000000) (hlen : R.length ≤ 900000000) (Z : St g (Ju s a V :: XT a A :: Sh 25 1 (YV hs) pa pc :: L) w) :
  Sp Tryz.prog 96 [.pointer (some ⟨s, 0, none⟩), .int .u32 root, .slice pa (YV hs).length pc] w (fun v w' => ∃ (V2 : VM), v = .tuple #[.int .u64 V.T.newH, .int .i64 0] ∧ St g (Ju s a V2 :: XT a (A.ret root) :: Sh 25 1 (YV hs) pa pc :: L) w' ∧ (VI V2 (A.ret root) R) ∧ (Com V root (hs.map V.T.val) V2)) := by
 refine Sp.enter Tryz.func96 rfl (by kernel_rfl) (by kernel_rfl) ?_
 refine Ze7 <| WC.region ?_
 have hpl := CC hs
 have hp2 := hps.1
 refine Ze6 2 rfl <| Ze8 <| Ze7 <| Ze7 <| Zgi [0, 1, 2, 6, 7, 31] (fun vs w => ∃ (t31 : Bool), vs = [.pointer (some ⟨s, 0, none⟩), .int .u32 root, .slice pa (YV hs).length pc, .int .u64 0, .int .i64 0, .bool t31] ∧ St g (Ju s a V :: XT a A :: Sh 25 1 (YV hs) pa pc :: L) w ∧ (t31 = false)) ?_ ?_
 ·refine Zfr [([0, 1, 2, 3, 4, 5, 6, 7, 8, 11, 9, 12, 10, 13, 14, 15, 16], none)] (by kernel_rfl) (by kernel_rfl) ?_
  refine Zfg 4 rfl <| Zf6 18 (.bool false) (congrArg Value.bool (decide_eq_false ((by omega)))) ?_
  refine Zfk rfl rfl rfl <| Zfg 1 rfl <| Zfk rfl rfl rfl <| Zfg 1 rfl <| Zfk rfl rfl rfl <| Zfg 1 rfl <| Zfk rfl rfl rfl <| Zfg 1 rfl ?_
  by_cases cg1 : (List.length (YV hs) : Int) = 2
  ·refine Zf6 22 (.bool true) (congrArg Value.bool (decide_eq_true cg1)) <| Zfk rfl rfl rfl <| Zfg 1 rfl <| Zfk rfl rfl rfl <| Zfg 1 rfl <| Zfk rfl rfl rfl ?_
   obtain ⟨p0, h0⟩ : ∃ u, hs[0]? = some u := ⟨_, List.getElem?_eq_getElem (by omega)⟩; obtain ⟨p1, h1⟩ : ∃ u, hs[1]? = some u := ⟨_, List.getElem?_eq_getElem (by omega)⟩
   refine Zf1 rfl rfl (i := 0) (0) el_150 rfl rfl (by omega) (by omega) (Z.rdS 2 rfl (Xz h0)).1 ?_
   refine Zfk rfl rfl rfl <| Zf1 rfl rfl (i := 1) (1) el_150 rfl rfl (by omega) (by omega) (Z.rdS 2 rfl (Xz h1)).1 ?_
   refine Zfk rfl rfl rfl <| Zfp 1 [.int .u64 p0] rfl (by exact (Z.rdS 2 rfl (Xz h0)).2 0 _ rfl) ?_
   refine Zfk rfl rfl rfl <| Zfp 1 [.int .u64 p1] rfl (by exact (Z.rdS 2 rfl (Xz h1)).2 0 _ rfl) ?_
   refine Zfk rfl rfl rfl <| Zfg 1 rfl <| Zfk rfl rfl rfl <| Zfg 2 rfl <| Zfo ?_
   refine Z.dn (fun w Z => ?_)
   exact ⟨decide (p0 = p1), rfl, Z, (decide_eq_false (JA hps h0 h1))⟩
  ·refine Zf6 22 (.bool false) (congrArg Value.bool (decide_eq_false cg1)) <| Zfx rfl rfl rfl rfl <| Zfx rfl rfl rfl rfl <| Zfx rfl rfl rfl rfl <| Zfx rfl rfl rfl rfl <| Zfx rfl rfl rfl rfl <| Zfx rfl rfl rfl rfl <| Zfx rfl rfl rfl rfl <| Zfk rfl rfl rfl <| Zfg 2 rfl <| Zfo ?_
   refine Z.dn (fun w Z => ?_)
   exact ⟨false, rfl, Z, (rfl)⟩
 clear Z; rintro _ w j ⟨t31, rfl, Z, h31⟩
 refine Zfl rfl h31 <| Zfc <| Ze7 <| WC.region <| Ze6 1 rfl <| Ze8 <| Ze7 <| Ze7 <| WC.region <| Ze6 3 rfl <| Ze8 <| Zfj ?_
 replace Z := Z.nil_ 3 1
 refine Zft [0, 1, 8, 32, 33, 34] (fun kM vs w => ∃ (k : Nat) (acc : List Int) (u : Option Addr) (d : Nat), vs = [.pointer (some ⟨s, 0, none⟩), .int .u32 root, .slice u (Zb acc).length d, .slice pa (YV hs).length pc, .int .i64 (List.length (YV hs) : Int), .int .i64 (k : Int)] ∧ St g (Ze 3 1 (Zb acc) u d :: Ju s a V :: XT a A :: Sh 25 1 (YV hs) pa pc :: L) w ∧ (k ≤ hs.length) ∧ (acc = (List.take k hs).map V.T.val) ∧ (hs.length - k) = kM) ((List.length hs) - 0) ⟨0, [], none, 0, rfl, Z, (Nat.zero_le _), (rfl), rfl⟩ ?_
 clear Z; rintro _ _ w j ⟨k, acc, u, d, rfl, Z, hk, ha, rfl⟩
 refine Ze7 <| WC.region <| Ze6 1 rfl <| Ze8 ?_
 as_aux_lemma =>
 refine Ze7 <| Zfe rfl (fun cd1 => ?_) (fun cd1 => ?_)
 ·refine Zfc <| Ze7 <| Zfj <| Ze7 <| WC.region ?_
  obtain ⟨z, hz⟩ : ∃ u, hs[k]? = some u := ⟨_, List.getElem?_eq_getElem (by omega)⟩; have hzo := hop z (List.mem_of_getElem? hz); have hacl := Zh acc; have hacl2 : acc.length = k := (by rw [ha, List.length_map, List.length_take]; omega)
  refine Zfw rfl rfl (i := (k : Int)) (k) el_150 rfl rfl (by omega) (by omega) (Z.rdS 3 rfl (Xz hz)).1 ?_
  refine Zfd 2 [.int .u64 z] rfl (by exact (Z.rdS 3 rfl (Xz hz)).2 0 _ rfl) ?_
  refine Ze8 <| Ze7 <| WC.region <| Ze6 2 rfl <| Zfb rfl rfl (Ds _ _ _ z hV.t hzo.1 hzo.2 (Z.sel 2 [1, 0] rfl)) rfl ?_
  clear Z; rintro _ w ⟨rfl, Z⟩
  replace Z := Z.n4 L rfl
  refine Ze6 5 rfl <| Ze8 <| Ze7 <| Ze7 <| WC.region <| Ze6 2 rfl <| Ze8 <| Zfl rfl (decide_eq_false ((by decide))) ?_
  refine Zfc ?_
  as_aux_lemma =>
  refine WC.region <| Ze6 2 rfl <| Zf3 rfl rfl (Zb [V.T.val z]) el_148 Z (by exact ⟨rfl, rfl⟩) (XW _) rfl (Nat.le_of_ble_eq_true rfl) (fun b1 w Z => ?_)
  refine Zfz rfl rfl 2 (Zb (acc ++ [V.T.val z])) el_148 Z rfl (Z.srcO 0 rfl) (JT _ _).symm (Rm.of (by first | omega | (simp <;> omega)) (by decide)) rfl rfl (fun a1 c1 w Z => ?_)
  replace Z := Z.n5 L (a0 := Ze 3 1 (Zb [V.T.val z]) (some ⟨b1, 0, none⟩) (Zb [V.T.val z]).length) (a2 := Ze 3 1 (Zb (acc ++ [V.T.val z])) a1 c1) rfl
  refine Ze6 1 rfl <| Ze8 <| WC.region <| Ze6 1 rfl <| Zfi 51 rfl (ZF (by omega)) ?_
  refine Ze6 1 rfl <| Ze8 ?_
  exact ⟨_, by omega, k + 1, acc ++ [V.T.val z], a1, c1, rfl, (Z.sel 3 [2, 1] rfl), (by omega), (by rw [ha, List.take_add_one, hz]; simp), rfl⟩
 ·refine Zfv <| Ze7 <| Ze7 <| WC.region ?_
  have hke : acc = hs.map V.T.val := (by rw [ha, List.take_of_length_le (by omega)]); obtain ⟨ss, hK⟩ := H2 hV.g.ok.uniq
  refine Ze6 1 rfl <| Zfb rfl rfl (H6 _ _ _ ss hV.t hV.g hK.perm hK.le (Z.sel 2 [1, 0] rfl)) rfl ?_
  clear Z; rintro _ w ⟨rfl, Z⟩
  replace Z := Z.n4 L rfl
  refine Ze6 1 rfl <| Ze8 <| Zfl rfl (decide_eq_false ((by omega))) ?_
  refine Zfc <| Ze7 <| WC.region ?_
  obtain ⟨⟨vt, vp, vm, vr⟩, Z⟩ := St.exOpen (f := Jn s a V) Z
  replace Z := Z.n9 L (a0 := Zd s #[.pointer (some ⟨a, 0, none⟩), .pointer (some ⟨vt, 0, none⟩), .pointer (some ⟨vp, 0, none⟩), .map (some vr), .int .i64 V.cap] 129) (a1 := Qe vt V.T) (a2 := Zd vp #[.int .i64 V.cap, .int .i64 V.last, .map (some vm)] 224) (a3 := ZN vm (.map (mE (List.map vK V.xs)) V.q)) (a4 := ZP vF V.xs) (a5 := ZN vr (.map (mE (List.map rK V.rs)) V.q2)) rfl
  refine Zfd 6 [.pointer (some ⟨vp, 0, none⟩)] rfl (by exact Z.ld 0 rfl rfl) ?_
  replace Z := (Z.at_ 6 rfl).share
  replace Z := Z.n9 L (a0 := Sh 3 1 (Zb acc) u d) rfl
  refine Zfb rfl rfl (CH _ _ V.cap V.last V.xs V.q _ _ _ hV.g hla (Z.sel 6 [0, 2, 2, 2, 0, 0] rfl)) rfl ?_
  clear Z; rintro _ w ⟨xs1, q1, last1, rfl, Z, f1, f2⟩
  replace Z := Z.n9 L rfl
  refine Ze6 5 rfl <| Ze8 ?_
  as_aux_lemma =>
  refine Ze7 <| Ze7 <| WC.region ?_
  have he0 := Dz hV hps (fun x hx => (hop x hx).2) hrm; rw [← hke] at he0
  refine Ze6 2 rfl <| Ze8 <| Zfl rfl (decide_eq_false ((by rw [he0]; decide))) ?_
  refine Zfc <| Ze7 <| WC.region ?_
  rw [hke] at he0 f2; obtain ⟨_, rfl, _⟩ := (AddP.facts hV.g.le f2).resolve_left (fun e => e.1 he0); have hv0 : Hk V.xs V.cap V.last acc = V.last + 1 := (by unfold Hk; rw [hke, if_pos he0]); have hfr := (Us hV hrm).2; have hla0 := hV.g.la; have hV2 := hV.add hr he0 f2 f1 hfr hla hlen
  refine Zfm 13 (.int .i64 (V.last + 1)) (congrArg (Value.int .i64) hv0) <| Zfd 5 [.pointer (some ⟨a, 0, none⟩)] rfl (by exact Z.ld 4 rfl rfl) ?_
  refine Zfb rfl rfl (DM _ _ root hV.ref.toAWf (by have := Ze2 hV.ref.toAWf hr; omega) (Z.sel 8 [7, 0, 0, 0, 0, 0, 0, 0] rfl)) rfl ?_
  clear Z; rintro _ w ⟨rfl, Z⟩
  replace Z := Z.n9 L rfl
  refine Ze8 <| Ze7 <| WC.region <| Zfd 7 [.map (some vr)] rfl (by exact Z.ld 5 rfl rfl) ?_
  refine Zgw rfl rfl rfl Ze4 7 Z rfl rfl rfl rfl (by first | trivial | rfl) (Zdh (f := rK) hV.k.key (fun x hx e => by have h9 := (AddP.facts hV.g.le f2).resolve_left (fun e => e.1 he0); have h8 := (hV.pre x.n).1 ⟨x, hx, rfl⟩; rw [e, h9.2.2.1] at h8; cases h8)) (fun w Z => ?_)
  replace Z := Z.n9 L (a7 := ZN vr (.map (mE ((List.map rK V.rs) ++ [⟨.int .i64 (V.last + 1), .int .u32 root, V.q2⟩])) (V.q2 + 1))) rfl
  refine Ze8 <| Ze7 <| WC.region <| Zfd 6 [.pointer (some ⟨vt, 0, none⟩)] rfl (by exact Z.ld 5 rfl rfl) ?_
  refine Zfi 86 rfl (wu32 (by omega)) ?_
  refine Zfb rfl rfl (U' _ V.T (V.last + 1) hV.t hfr (Z.sel 7 [6, 0, 0, 0, 0, 0, 0] rfl)) rfl ?_
  clear Z; rintro _ w ⟨rfl, Z⟩
  replace Z := Z.n9 L rfl
  refine Ze6 4 rfl <| Ze8 ?_
  as_aux_lemma =>
  refine Zfa ?_
  replace Z := St.exClose (f := Jn s a (V.add xs1 q1 root)) (L := XT a (A.ret root) :: Sh 3 1 (Zb acc) u d :: Sh 25 1 (YV hs) pa pc :: L) ⟨vt, vp, vm, vr⟩ (by
   have hm : List.map rK V.rs ++ [(.int .i64 (V.last + 1), .int .u32 root, V.q2)] = List.map rK (V.add xs1 q1 root).rs := by simp [rK, VM.add]
   rw [hm] at Z
   exact (Z.sel 8 [6, 0, 2, 2, 2, 2, 0, 0] rfl))
  replace Z := Z.n4 L (a0 := Ju s a (V.add xs1 q1 root)) rfl
  refine ⟨[.int .u64 V.T.newH, .int .i64 0], ⟨rfl, rfl⟩, ?_⟩
  replace Z := (Z.sel 3 [0, 0] rfl)
  exact ⟨_, rfl, Z, hV2, ⟨xs1, q1, rfl, f2⟩, he0⟩
theorem VK : X2 [] := ⟨by simp, fun _ _ h => by cases h⟩
end Go.Proofs.YtlifpobidhfbfaaGreatDoor
namespace Go.Proofs.YtlifpobidhfbfaaGreatDoor
open Go Go.V Go.RowKit
structure Kept0 (V : VM) (xs2 : List VN) (ss : List Int) (k : Nat) (rs : List RN) : Prop where
 ok : KOk rK RN.n rs V.q2
 mem : ∀ r, r ∈ rs ↔ r ∈ V.rs ∧ (r.n ∈ ss.take k → ZX xs2 r.n = true)
theorem Kept0.zero {V : VM} {A : AM} {R : List Int} (h : VI V A R) (xs2 : List VN) (ss : List Int) : Kept0 V xs2 ss 0 V.rs := ⟨h.k, fun r => by simp⟩
theorem Kept0.skip {V : VM} {xs2 : List VN} {ss : List Int} {k : Nat} {rs : List RN} {n : Int} (h : Kept0 V xs2 ss k rs) (hn : ss[k]? = some n) (hp : ZX xs2 n = true) : Kept0 V xs2 ss (k + 1) rs := ⟨h.ok, fun r => by
 rw [h.mem r, List.take_add_one, hn]
 constructor
 ·rintro ⟨h1, h2⟩
  refine ⟨h1, fun h3 => ?_⟩
  rcases List.mem_append.1 h3 with h3 | h3
  ·exact h2 h3
  ·rw [show r.n = n by simpa using h3]; exact hp
 ·rintro ⟨h1, h2⟩; exact ⟨h1, fun h3 => h2 (List.mem_append_left _ h3)⟩⟩
theorem Kept0.at_ {V : VM} {xs2 : List VN} {ss : List Int} {k : Nat} {rs : List RN} {n : Int} (h : Kept0 V xs2 ss k rs) (hn : ss[k]? = some n) (hs : Asc ss) (hk : ∀ z, z ∈ ss ↔ ∃ r ∈ V.rs, r.n = z) : ∃ (j : Nat) (r : RN), rs[j]? = some r ∧ r.n = n := by
 obtain ⟨r, hr, hrn⟩ := (hk n).1 (List.mem_of_getElem? hn)
 have : r ∈ rs := (h.mem r).2 ⟨hr, fun h3 => by
  have := Zan hs hn r.n h3
  omega⟩
 obtain ⟨j, hj⟩ := List.mem_iff_getElem?.1 this
 exact ⟨j, r, hj, hrn⟩
structure Rls (V : VM) (h : Int) (V2 : VM) : Prop where
 eq : V2 = VM.mk (V.T.close h) V2.xs V.q V.last V2.rs V.q2 V.cap
 rel : RelQ V.xs (V.T.val h) V2.xs
 sub : ∀ r, r ∈ V2.rs ↔ r ∈ V.rs ∧ ZX V2.xs r.n = true
theorem VI.rel {V : VM} {A A2 : AM} {R : List Int} {h : Int} {xs2 : List VN} {rs : List RN} {ss : List Int} (hV : VI V A R) (hn : V.T.s.opn h = true) (hG : GI xs2 V.q V.cap V.last) (hR : RelQ V.xs (V.T.val h) xs2) (hK : Kept0 V xs2 ss ss.length rs) (hk : ∀ z, z ∈ ss ↔ ∃ r ∈ V.rs, r.n = z)
  (hA : ARf A2 (rs.map RN.root ++ R)) : VI (VM.mk (V.T.close h) xs2 V.q V.last rs V.q2 V.cap) A2 R ∧ Rls V h (VM.mk (V.T.close h) xs2 V.q V.last rs V.q2 V.cap) := by
 have hop := SM.opn_ok hn
 have hlv0 := (VM.open_val hV hn).1
 have hsub : ∀ r, r ∈ rs ↔ r ∈ V.rs ∧ ZX xs2 r.n = true := fun r => by
  rw [hK.mem r, List.take_of_length_le (Nat.le_refl _)]
  constructor
  ·rintro ⟨h1, h2⟩; exact ⟨h1, h2 ((hk r.n).2 ⟨r, h1, rfl⟩)⟩
  ·rintro ⟨h1, h2⟩; exact ⟨h1, fun _ => h2⟩
 have hcl : ∀ i : Int, 0 ≤ i → (V.T.close h).s.ok i = if i = h % 4294967296 then false else V.T.s.ok i := fun i hi => SM.release_ok' hV.t.s (by omega) hop.1 hi
 have hlive : ∀ z, Zi xs2 z = true ↔ Zi V.xs z = true ∧ z ≠ V.T.val h := fun z => by
  constructor
  ·exact fun hz => RelQ.live hV.g.ok hR hz
  ·rintro ⟨h1, h2⟩
   rcases hR with ⟨_, xs1, N, e1, e2, e3⟩ | ⟨h3, _⟩
   ·have q1 : Zi xs1 z = true := by
     rw [Z1, e1]; unfold dead; rw [if_neg h2, ← Z1]; exact h1
    rw [Z1, e3]; unfold keep; rw [if_pos ((e2 z).2 (.inl q1))]
    rw [Z1] at q1
    cases hv : vw xs1 z with
    | none => rw [hv] at q1; cases q1
    | some p => rw [hv] at q1; simpa using q1
   ·rw [hlv0] at h3; cases h3
 have hpre : ∀ z, ZX xs2 z = true → ZX V.xs z = true := fun z hz => by
  rcases hR with ⟨_, xs1, N, e1, e2, e3⟩ | ⟨_, h4⟩
  ·rw [YG, e3] at hz
   unfold keep at hz
   split at hz
   ·rw [YG]
    rw [← X7 (vw V.xs) (V.T.val h) z, ← e1]
    simpa using hz
   ·cases hz
  ·rw [h4] at hz; exact hz
 refine ⟨⟨hV.t.close hn, hG, hK.ok, fun z => ?_, fun i hi ho => ?_, fun i j hi hj ho ho2 e => ?_, fun z hz => ?_, hA, ?_⟩, ⟨rfl, hR, hsub⟩⟩
 ·constructor
  ·rintro ⟨r, hr, e⟩; rw [← e]; exact ((hsub r).1 hr).2
  ·intro hz
   obtain ⟨r, hr, e⟩ := (hV.pre z).2 (hpre z hz)
   exact ⟨r, (hsub r).2 ⟨hr, by rw [e]; exact hz⟩, e⟩
 ·rw [show (VM.mk (V.T.close h) xs2 V.q V.last rs V.q2 V.cap).T.s.ok i = _ from hcl i hi] at ho
  split at ho
  ·cases ho
  ·rename_i hne
   refine (hlive _).2 ⟨hV.lv i hi ho, fun e => hne ?_⟩
   exact hV.inj i (h % 4294967296) hi (by omega) ho hop.1 e
 ·rw [show (VM.mk (V.T.close h) xs2 V.q V.last rs V.q2 V.cap).T.s.ok i = _ from hcl i hi] at ho
  rw [show (VM.mk (V.T.close h) xs2 V.q V.last rs V.q2 V.cap).T.s.ok j = _ from hcl j hj] at ho2
  split at ho
  ·cases ho
  ·split at ho2
   ·cases ho2
   ·exact hV.inj i j hi hj ho ho2 e
 ·obtain ⟨h1, h2⟩ := (hlive z).1 hz
  obtain ⟨i, i0, i1, i2⟩ := hV.all z h1
  refine ⟨i, i0, ?_, i2⟩
  rw [show (VM.mk (V.T.close h) xs2 V.q V.last rs V.q2 V.cap).T.s.ok i = _ from hcl i i0, if_neg (fun e => h2 ?_)]
  ·exact i1
  ·rw [← i2, e]; rfl
 ·rw [← hV.cp]
  show (((V.T.s.used.set _ _).length : Nat) : Int) - 1 = (V.T.s.used.length : Int) - 1
  rw [List.length_set]
end Go.Proofs.YtlifpobidhfbfaaGreatDoor
namespace Go.Proofs.YtlifpobidhfbfaaGreatDoor
open Go Go.V Go.RowKit
theorem Com.get {V V2 : VM} {root : Int} {ps : List Int} (h : Com V root ps V2) : V2.T = V.T.open (V.last + 1) ∧ V2.last = V.last + 1 ∧ V2.cap = V.cap ∧ AddP V.xs V.cap V.last ps V2.xs (V.last + 1) ∧ V2.xs.length = V.xs.length + 1 ∨ (∃ x ∈ V.xs, V.last < x.n) := by
 obtain ⟨⟨xs2, q, rfl, hA⟩, h0⟩ := h
 by_cases hx : ∃ x ∈ V.xs, V.last < x.n
 ·exact .inr hx
 ·left
  have hle : ∀ x ∈ V.xs, x.n ≤ V.last := fun x hm => Classical.byContradiction fun h => hx ⟨x, hm, by omega⟩
  exact ⟨rfl, rfl, rfl, hA, ((AddP.facts hle hA).resolve_left fun e => e.1 h0).2.2.2.2.2⟩
structure Add1 (V : VM) (ps : List Int) (V2 : VM) : Prop where
 T : V2.T = V.T.open (V.last + 1)
 la : V2.last = V.last + 1
 cap : V2.cap = V.cap
 xs : AddP V.xs V.cap V.last ps V2.xs (V.last + 1)
 len : V2.xs.length = V.xs.length + 1
 opn : V2.T.s.opn V.T.newH = true
 val : V2.T.val V.T.newH = V.last + 1
 rng : 0 ≤ V.T.newH ∧ V.T.newH ≤ 18446744073709551615
 free : V2.T.s.free = V.T.s.free - 1
 old : ∀ x, V.T.s.opn x = true → V2.T.s.opn x = true ∧ V2.T.val x = V.T.val x
theorem Cx {n : Nat} : (VM.new n).room = n := by
 unfold VM.room
 show min ((n : Int) - 0) ((n : Int) - ((SM.new n).cap - (SM.new n).free)) = n
 rw [SM.new_free]
 have : (SM.new n).cap = n := by unfold SM.cap SM.new; simp
 rw [this]; omega
variable {g w : World} {L : List HP}
theorem Vv (s a : Nat) (V : VM) (Z : St g (Ju s a V :: L) w) :
  Sp Tryz.prog 143 [.pointer (some ⟨s, 0, none⟩)] w (fun v w' => v = .pointer (some ⟨a, 0, none⟩) ∧ St g (Ju s a V :: L) w') := by
 refine Sp.enter Tryz.func143 rfl (by kernel_rfl) (by kernel_rfl) ?_
 refine Ze7 <| WC.region ?_
 obtain ⟨⟨vt, vp, vm, vr⟩, Z⟩ := St.exOpen (f := Jn s a V) Z
 replace Z : St g (Zd s #[.pointer (some ⟨a, 0, none⟩), .pointer (some ⟨vt, 0, none⟩), .pointer (some ⟨vp, 0, none⟩), .map (some vr), .int .i64 V.cap] 129 :: Qe vt V.T :: Zd vp #[.int .i64 V.cap, .int .i64 V.last, .map (some vm)] 224 :: ZN vm (.map (mE (List.map vK V.xs)) V.q) :: ZP vF V.xs :: ZN vr (.map (mE (List.map rK V.rs)) V.q2) :: L) w := Z
 refine Ze6 1 rfl <| Ze8 <| Ze7 <| WC.region <| Zfd 5 [.pointer (some ⟨a, 0, none⟩)] rfl (by exact Z.ld 0 rfl rfl) ?_
 refine Ze8 <| Zfa ?_
 replace Z := St.exClose (f := Jn s a V) (L := L) ⟨vt, vp, vm, vr⟩ (Z)
 replace Z : St g (Ju s a V :: L) w := Z
 refine ⟨[.pointer (some ⟨a, 0, none⟩)], rfl, ?_⟩
 exact ⟨rfl, Z⟩
end Go.Proofs.YtlifpobidhfbfaaGreatDoor
namespace Go.V
open Go Go.RowKit Go.Maps
structure StoA where
 nm : Nat
 c : Nat
 x : Nat
 m : Nat
def Qk (p s a : Nat) (V : VM) (y : StoA) : List HP := [Zd p #[.pointer (some ⟨s, 0, none⟩), .pointer (some ⟨y.nm, 0, none⟩), .pointer (some ⟨y.c, 0, none⟩), .pointer (some ⟨y.x, 0, none⟩), .map (some y.m)] 101, Ju s a V, ZN y.m (.map (mE []) 0)]
def U0 (p s a : Nat) (V : VM) : HP := ExB (Qk p s a V)
end Go.V
namespace Go.Proofs.YtlifpobidhfbfaaGreatDoor
open Go Go.V Go.RowKit Go.Maps
variable {g w : World} {L : List HP}
theorem Zbh (Z : St g (L) w) :
  Sp Tryz.prog 46 [] w (fun v w' => ∃ (t : Nat), v = .pointer (some ⟨t, 0, none⟩) ∧ St g (L) w') := by
 refine Sp.enter Tryz.func46 rfl (by kernel_rfl) (by kernel_rfl) ?_
 refine Ze7 <| WC.region <| Ze6 1 rfl <| Ze8 <| Ze7 <| WC.region <| Zgn rfl rfl Z (fun b1 w Z => ?_)
 refine Zf7 rfl rfl (cs := [.map (some b1)]) Zed rfl rfl <| Zf0 rfl rfl #[.map (some b1)] Z rfl rfl (fun b2 w Z => ?_)
 refine Ze6 1 rfl <| Ze8 <| Zfa ?_
 refine ⟨[.pointer (some ⟨b2, 0, none⟩)], rfl, ?_⟩
 replace Z := (Z.sel 2 [] rfl)
 exact ⟨_, rfl, Z⟩
def UJ (sl cv cc cx : Int) : Prop := (1 ≤ sl ∧ sl ≤ 65536) ∧ (1 ≤ cv ∧ cv ≤ 4096) ∧ (1 ≤ cc ∧ cc ≤ 4096) ∧ (1 ≤ cx ∧ cx ≤ 4096)
instance (sl cv cc cx : Int) : Decidable (UJ sl cv cc cx) := by unfold UJ; infer_instance
theorem D3 (sl cv cc cx : Int) (hc : UJ sl cv cc cx) (Z : St g (L) w) :
  Sp Tryz.prog 24 [.agg #[.int .i64 sl, .int .i64 cv, .int .i64 cc, .int .i64 cx]] w (fun v w' => ∃ (p s a : Nat), v = .tuple #[.pointer (some ⟨p, 0, none⟩), .int .i64 0] ∧ St g (U0 p s a (VM.new cv.toNat) :: XT a (AM.new sl.toNat) :: L) w') := by
 refine Sp.enter Tryz.func24 rfl (by kernel_rfl) (by kernel_rfl) ?_
 refine Ze7 <| WC.region <| Zf0 rfl rfl #[.int .i64 sl, .int .i64 cv, .int .i64 cc, .int .i64 cx] Z rfl rfl (fun b1 w Z => ?_)
 refine Ze6 2 rfl <| Ze8 <| Ze7 <| WC.region ?_
 obtain ⟨h1, h2, h3, h4⟩ := hc
 refine Zfd 4 [.int .i64 sl, .int .i64 cv] rfl (by exact ⟨Z.ld 0 rfl rfl, Z.ld 0 rfl rfl⟩) ?_
 refine Zfb rfl rfl (D9 sl cv h2 h1 Z) rfl ?_
 clear Z; rintro _ w ⟨s1, a1, rfl, Z⟩
 replace Z := Z.n3 L rfl
 refine Ze6 5 rfl <| Ze8 <| Ze7 <| Ze7 <| WC.region <| Ze6 2 rfl <| Ze8 <| Zfl rfl (decide_eq_false ((by decide))) ?_
 refine Zfc <| Ze7 <| WC.region <| Zfd 2 [.int .i64 cc] rfl (by exact Z.ld 2 rfl rfl) ?_
 refine Zfb rfl rfl (Jb cc h3 Z) rfl ?_
 clear Z; rintro _ w ⟨t1, rfl, Z⟩
 replace Z := Z.n4 L rfl
 refine Ze6 5 rfl <| Ze8 ?_
 as_aux_lemma =>
 refine Ze7 <| Ze7 <| WC.region <| Ze6 2 rfl <| Ze8 <| Zfl rfl (decide_eq_false ((by decide))) ?_
 refine Zfc <| Ze7 <| WC.region <| Zfd 2 [.int .i64 cx] rfl (by exact Z.ld 3 rfl rfl) ?_
 refine Zfb rfl rfl (Jb cx h4 Z) rfl ?_
 clear Z; rintro _ w ⟨t2, rfl, Z⟩
 replace Z := Z.n5 L rfl
 refine Ze6 5 rfl <| Ze8 <| Ze7 <| Ze7 <| WC.region <| Ze6 2 rfl <| Ze8 <| Zfl rfl (decide_eq_false ((by decide))) ?_
 refine Zfc <| Ze7 <| WC.region <| Ze6 1 rfl <| Zfb rfl rfl (Zbh Z) rfl ?_
 clear Z; rintro _ w ⟨t3, rfl, Z⟩
 replace Z := Z.n5 L rfl
 refine Ze6 2 rfl <| Zgn rfl rfl Z (fun b2 w Z => ?_)
 refine Zf7 rfl rfl (cs := [.pointer (some ⟨s1, 0, none⟩), .pointer (some ⟨t3, 0, none⟩), .pointer (some ⟨t1, 0, none⟩), .pointer (some ⟨t2, 0, none⟩), .map (some b2)]) Zdm rfl rfl <| Zf0 rfl rfl #[.pointer (some ⟨s1, 0, none⟩), .pointer (some ⟨t3, 0, none⟩), .pointer (some ⟨t1, 0, none⟩), .pointer (some ⟨t2, 0, none⟩), .map (some b2)] Z rfl rfl (fun b3 w Z => ?_)
 refine Ze6 2 rfl <| Ze8 ?_
 as_aux_lemma =>
 refine Zfa ?_
 replace Z := St.exClose (f := Qk b3 s1 a1 (VM.new cv.toNat)) (L := Qe t2 (TM.new cx.toNat) :: Qe t1 (TM.new cc.toNat) :: XT a1 (AM.new sl.toNat) :: Zd b1 #[.int .i64 sl, .int .i64 cv, .int .i64 cc, .int .i64 cx] 47 :: L) ⟨t3, t1, t2, b2⟩ ((Z.sel 5 [0, 3, 0, 0, 0] rfl))
 replace Z := Z.n5 L (a0 := U0 b3 s1 a1 (VM.new cv.toNat)) rfl
 refine ⟨[.pointer (some ⟨b3, 0, none⟩), .int .i64 0], ⟨rfl, rfl⟩, ?_⟩
 replace Z := (Z.sel 5 [0, 2] rfl)
 exact ⟨_, _, _, rfl, Z⟩
theorem CM (p s a : Nat) (V : VM) (Z : St g (U0 p s a V :: L) w) :
  Sp Tryz.prog 83 [.pointer (some ⟨p, 0, none⟩)] w (fun v w' => v = .pointer (some ⟨a, 0, none⟩) ∧ St g (U0 p s a V :: L) w') := by
 refine Sp.enter Tryz.func83 rfl (by kernel_rfl) (by kernel_rfl) ?_
 refine Ze7 <| WC.region ?_
 obtain ⟨⟨nm, c, x, m⟩, Z⟩ := St.exOpen (f := Qk p s a V) Z
 replace Z : St g (Zd p #[.pointer (some ⟨s, 0, none⟩), .pointer (some ⟨nm, 0, none⟩), .pointer (some ⟨c, 0, none⟩), .pointer (some ⟨x, 0, none⟩), .map (some m)] 101 :: Ju s a V :: ZN m (.map (mE []) 0) :: L) w := Z
 refine Ze6 1 rfl <| Ze8 <| Ze7 <| WC.region <| Zfd 4 [.pointer (some ⟨s, 0, none⟩)] rfl (by exact Z.ld 0 rfl rfl) ?_
 refine Zfb rfl rfl (Vv _ _ _ (Z.sel 2 [1, 0] rfl)) rfl ?_
 clear Z; rintro _ w ⟨rfl, Z⟩
 replace Z := Z.n3 L rfl
 refine Ze6 1 rfl <| Ze8 <| Zfa ?_
 replace Z := St.exClose (f := Qk p s a V) (L := L) ⟨nm, c, x, m⟩ ((Z.sel 2 [1, 0] rfl))
 replace Z : St g (U0 p s a V :: L) w := Z
 refine ⟨[.pointer (some ⟨a, 0, none⟩)], rfl, ?_⟩
 exact ⟨rfl, Z⟩
end Go.Proofs.YtlifpobidhfbfaaGreatDoor
namespace Go.V
open Go
def Zu (u : Nat) : List Int := if u < 128 then [(u : Int)] else ((u : Int) % 128 + 128) :: Zu (u / 128)
termination_by u
decreasing_by omega
theorem Yb {u : Nat} (h : u < 128) : Zu u = [(u : Int)] := by rw [Zu, if_pos h]
theorem Yc {u : Nat} (h : ¬ u < 128) : Zu u = ((u : Int) % 128 + 128) :: Zu (u / 128) := by rw [Zu, if_neg h]
theorem Yi (k : Nat) : ∀ u : Nat, u < 128 ^ k → 0 < k → (Zu u).length ≤ k := by
 induction k with
 | zero => intro u _ h; omega
 | succ k ih =>
  intro u hu _
  by_cases h : u < 128
  ·rw [Yb h]; simp
  ·rw [Yc h]
   have h2 : u / 128 < 128 ^ k := by rw [Nat.pow_succ] at hu; omega
   have h3 : 0 < k := by
    rcases Nat.eq_zero_or_pos k with rfl | h'
    ·simp at h2; omega
    ·exact h'
   have := ih (u / 128) h2 h3
   simp only [List.length_cons]; omega
theorem QH (u : Nat) : B8 (Zu u) := by
 induction u using Nat.strongRecOn with
 | _ u ih =>
  intro x hx
  by_cases h : u < 128
  ·rw [Yb h] at hx; simp at hx; omega
  ·rw [Yc h] at hx
   rcases List.mem_cons.1 hx with rfl | hx
   ·omega
   ·exact ih _ (by omega) x hx
def YI : Nat → Int → List Int → Int × Nat × Int
 | _, _, [] => (0, 0, 12)
 | i, u, c :: r => if (i = 9 ∧ 1 < c) ∨ (0 < i ∧ c = 0) then (0, 0, 13) else if c < 128 then (u + c * 128 ^ i, i + 1, 0) else YI (i + 1) (u + (c - 128) * 128 ^ i) r
def uv (l : List Int) : Int × Nat × Int := YI 0 0 l
theorem C4 (i : Nat) (u : Int) : YI i u [] = (0, 0, 12) := rfl
theorem X5 {i : Nat} {u c : Int} {r : List Int} (h : (i = 9 ∧ 1 < c) ∨ (0 < i ∧ c = 0)) : YI i u (c :: r) = (0, 0, 13) := by rw [YI, if_pos h]
theorem YZ {i : Nat} {u c : Int} {r : List Int} (h : ¬ ((i = 9 ∧ 1 < c) ∨ (0 < i ∧ c = 0))) (hc : c < 128) : YI i u (c :: r) = (u + c * 128 ^ i, i + 1, 0) := by rw [YI, if_neg h, if_pos hc]
theorem Xx {i : Nat} {u c : Int} {r : List Int} (h : ¬ ((i = 9 ∧ 1 < c) ∨ (0 < i ∧ c = 0))) (hc : ¬ c < 128) : YI i u (c :: r) = YI (i + 1) (u + (c - 128) * 128 ^ i) r := by rw [YI, if_neg h, if_neg hc]
theorem Zcu (i : Nat) : (128 : Int) ^ (i + 1) = 128 * 128 ^ i := by rw [Int.pow_succ, Int.mul_comm]
def UvB (i : Nat) (u : Int) : Prop := i ≤ 9 ∧ 0 ≤ u ∧ u < 128 ^ i
theorem UvB.start : UvB 0 0 := ⟨by omega, by omega, by simp⟩
theorem UvB.next {i : Nat} {u c : Int} (h : UvB i u) (hb : ¬ ((i = 9 ∧ 1 < c) ∨ (0 < i ∧ c = 0))) (hc : ¬ c < 128) (h8 : c ≤ 255) : UvB (i + 1) (u + (c - 128) * 128 ^ i) := by
 obtain ⟨h1, h2, h3⟩ := h
 have hp : (0 : Int) < 128 ^ i := Int.pow_pos (by decide)
 have h9 : i ≠ 9 := fun e => hb (.inl ⟨e, by omega⟩)
 refine ⟨by omega, ?_, ?_⟩
 ·have := Int.mul_nonneg (show 0 ≤ c - 128 by omega) (Int.le_of_lt hp); omega
 ·rw [Zcu]
  have := Int.mul_le_mul_of_nonneg_right (show c - 128 ≤ 127 by omega) (Int.le_of_lt hp)
  omega
theorem Vm : (128 : Int) ^ 9 = 9223372036854775808 := by decide
theorem Zax {i : Nat} (h : i ≤ 8) : (128 : Int) ^ i * 128 ≤ 9223372036854775808 := by
 have : i = 0 ∨ i = 1 ∨ i = 2 ∨ i = 3 ∨ i = 4 ∨ i = 5 ∨ i = 6 ∨ i = 7 ∨ i = 8 := by omega
 rcases this with rfl | rfl | rfl | rfl | rfl | rfl | rfl | rfl | rfl <;> decide
theorem UvB.fits {i : Nat} {u c : Int} (h : UvB i u) (hb : ¬ ((i = 9 ∧ 1 < c) ∨ (0 < i ∧ c = 0))) (h0 : 0 ≤ c) (h8 : c ≤ 255) : 0 ≤ c % 128 * 128 ^ i ∧ u + c % 128 * 128 ^ i < 2 ^ 64 := by
 obtain ⟨h1, h2, h3⟩ := h
 have hp : (0 : Int) < 128 ^ i := Int.pow_pos (by decide)
 have hm : 0 ≤ c % 128 := by omega
 refine ⟨Int.mul_nonneg hm (Int.le_of_lt hp), ?_⟩
 by_cases h9 : i = 9
 ·subst h9
  have hc : c ≤ 1 := by
   by_cases h : 1 < c
   ·exact absurd (.inl ⟨rfl, h⟩) hb
   ·omega
  rw [Vm] at *
  have : c % 128 = c := by omega
  rw [this]
  have h5 : c = 0 ∨ c = 1 := by omega
  rcases h5 with rfl | rfl <;> omega
 ·have h4 := Zax (show i ≤ 8 by omega)
  have h5 := Int.mul_le_mul_of_nonneg_right (show c % 128 ≤ 127 by omega) (Int.le_of_lt hp)
  omega
theorem Zdt {i : Nat} (h : i ≤ 9) : p2 .u64 (7 * i) = 128 ^ i := by
 have : i = 0 ∨ i = 1 ∨ i = 2 ∨ i = 3 ∨ i = 4 ∨ i = 5 ∨ i = 6 ∨ i = 7 ∨ i = 8 ∨ i = 9 := by omega
 rcases this with rfl | rfl | rfl | rfl | rfl | rfl | rfl | rfl | rfl | rfl <;> decide
theorem Ze3 (i : Nat) : (128 : Int) ^ i = 2 ^ (7 * i) := by
 rw [Int.pow_mul]; rfl
theorem Zat {i : Nat} {u c : Int} (h : UvB i u) (hb : ¬ ((i = 9 ∧ 1 < c) ∨ (0 < i ∧ c = 0))) (h0 : 0 ≤ c) (h8 : c ≤ 255) : JB .or .u64 u (IntKind.u64.wrap (c % 128 * p2 .u64 (7 * i))) = u + c % 128 * 128 ^ i := by
 obtain ⟨f1, f2⟩ := h.fits hb h0 h8
 obtain ⟨h1, h2, h3⟩ := h
 rw [Zdt h1, Ye (by omega)]
 rw [Ze3] at h3 f2 ⊢
 exact Ui h2 h3 (by omega) f2
theorem J9 : ∀ (l : List Int) (i : Nat) (u : Int), (YI i u l).2.2 = 0 → i < (YI i u l).2.1 ∧ (YI i u l).2.1 ≤ i + l.length
 | [], i, u, h => by simp [YI] at h
 | c :: r, i, u, h => by
  by_cases hb : (i = 9 ∧ 1 < c) ∨ (0 < i ∧ c = 0)
  ·rw [X5 hb] at h; simp at h
  ·by_cases hc : c < 128
   ·rw [YZ hb hc]; simp
   ·rw [Xx hb hc] at h ⊢
    have := J9 r _ _ h
    simp only [List.length_cons]; omega
theorem H4 : ∀ (l : List Int) (i : Nat) (u : Int), B8 l → UvB i u → 0 ≤ (YI i u l).1 ∧ (YI i u l).1 ≤ 18446744073709551615
 | [], i, u, _, _ => by simp [YI]
 | c :: r, i, u, hl, hu => by
  have hc8 := hl c (by simp)
  by_cases hb : (i = 9 ∧ 1 < c) ∨ (0 < i ∧ c = 0)
  ·rw [X5 hb]; simp
  ·by_cases hc : c < 128
   ·rw [YZ hb hc]
    have := hu.fits hb hc8.1 hc8.2
    rw [show c % 128 = c by omega] at this
    have := hu.2.1
    simp only; omega
   ·rw [Xx hb hc]; exact H4 r _ _ (fun x hx => hl x (by simp [hx])) (hu.next hb hc hc8.2)
end Go.V
