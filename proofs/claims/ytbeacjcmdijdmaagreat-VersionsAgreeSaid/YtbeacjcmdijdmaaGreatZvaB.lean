/-
  What the proof of Jva stands on, part 2.
  Conditions: none.
-/
import Derived.Test.YtbeacjcmdijdmaaGreatZvaA
set_option maxRecDepth 8192
namespace Go.Proofs.YtbeacjcmdijdmaaGreat
open Go Go.V
def tab : Tab := { ints := [(2, .i64), (3, .i64), (5, .u8), (6, .u8), (12, .u64), (21, .i32), (23, .u64), (26, .i64), (64, .u32), (115, .u16), (299, .u64), (327, .i64), (356, .u64), (378, .u8), (379, .u8), (382, .i32), (383, .i32)], strs := [9, 10, 11], bools := [4], ptrs := [15, 16, 17, 25, 29, 31, 78, 134, 137, 158, 255, 303, 305, 360, 364, 367, 381], slices := [22, 32, 33, 38, 41, 45, 49, 56, 60, 73, 77, 79, 97, 98, 111, 159, 208, 282, 340], flds := [(7, [(0, 1, false), (1, 1, false), (2, 1, false), (3, 1, false)]), (8, [(0, 1, false), (1, 1, false), (2, 1, false), (3, 1, false)]), (13, [(0, 1, false), (1, 1, false)]), (14, [(0, 1, false), (1, 1, false)]), (18, [(0, 1, false)]), (19, [(0, 1, false)]), (34, [(0, 1, false), (1, 1, false), (2, 1, false), (3, 1, false), (4, 1, false)]), (35, [(0, 1, false), (1, 1, false), (2, 1, false), (3, 1, false), (4, 1, false)]), (36, [(0, 5, true), (5, 1, false)]), (37, [(0, 5, true), (5, 1, false)]), (39, [(0, 1, false), (1, 1, false), (2, 1, false)]), (40, [(0, 1, false), (1, 1, false), (2, 1, false)]), (42, [(0, 1, false), (1, 6, true), (7, 3, true), (10, 1, false)]), (43, [(0, 1, false), (1, 6, true), (7, 3, true), (10, 1, false)]), (46, [(0, 1, false), (1, 11, true), (12, 1, false)]), (47, [(0, 1, false), (1, 11, true), (12, 1, false)]), (50, [(0, 1, false), (1, 1, false), (2, 1, false), (3, 1, false), (4, 1, false)]), (51, [(0, 1, false), (1, 1, false), (2, 1, false), (3, 1, false), (4, 1, false)]), (61, [(0, 1, false), (1, 1, false)]), (62, [(0, 1, false), (1, 1, false)]), (80, [(0, 1, false), (1, 1, false), (2, 1, false)]), (81, [(0, 1, false), (1, 1, false), (2, 1, false)]), (82, [(0, 1, false), (1, 1, false)]), (83, [(0, 1, false), (1, 1, false)]), (88, [(0, 1, false), (1, 1, false), (2, 1, false), (3, 1, false)]), (89, [(0, 1, false), (1, 1, false), (2, 1, false), (3, 1, false)]), (99, [(0, 1, false), (1, 1, false), (2, 1, false), (3, 1, false)]), (100, [(0, 1, false), (1, 1, false), (2, 1, false), (3, 1, false)]), (105, [(0, 1, false), (1, 1, false)]), (106, [(0, 1, false), (1, 1, false)]), (109, [(0, 1, false), (1, 1, false), (2, 1, false), (3, 1, false)]), (110, [(0, 1, false), (1, 1, false), (2, 1, false), (3, 1, false)]), (120, [(0, 1, false), (1, 1, false)]), (121, [(0, 1, false), (1, 1, false)]), (141, [(0, 1, false), (1, 1, false)]), (142, [(0, 1, false), (1, 1, false)]), (143, [(0, 1, false), (1, 1, false), (2, 2, true), (4, 1, false)]), (144, [(0, 1, false), (1, 1, false), (2, 2, true), (4, 1, false)]), (160, [(0, 1, false), (1, 1, false), (2, 1, false), (3, 1, false)]), (161, [(0, 1, false), (1, 1, false), (2, 1, false), (3, 1, false)]), (171, [(0, 1, false), (1, 1, false), (2, 1, false), (3, 1, false), (4, 1, false), (5, 1, false), (6, 1, false), (7, 1, false)]), (172, [(0, 1, false), (1, 1, false), (2, 1, false), (3, 1, false), (4, 1, false), (5, 1, false), (6, 1, false), (7, 1, false)]), (173, [(0, 1, false), (1, 1, false), (2, 1, false), (3, 8, true)]), (174, [(0, 1, false), (1, 1, false), (2, 1, false), (3, 8, true)]), (187, [(0, 1, false), (1, 1, false), (2, 1, false), (3, 1, false), (4, 1, false)]), (188, [(0, 1, false), (1, 1, false), (2, 1, false), (3, 1, false), (4, 1, false)]), (216, [(0, 1, false), (1, 1, false)]), (217, [(0, 1, false), (1, 1, false)]), (218, [(0, 1, false), (1, 1, false), (2, 1, false)]), (219, [(0, 1, false), (1, 1, false), (2, 1, false)]), (227, [(0, 1, false), (1, 1, false)]), (228, [(0, 1, false), (1, 1, false)]), (230, [(0, 1, false), (1, 1, false), (2, 1, false)]), (231, [(0, 1, false), (1, 1, false), (2, 1, false)]), (242, [(0, 1, false), (1, 1, false), (2, 1, false), (3, 1, false)]), (243, [(0, 1, false), (1, 1, false), (2, 1, false), (3, 1, false)]), (246, [(0, 1, false), (1, 1, false)]), (247, [(0, 1, false), (1, 1, false)]), (256, [(0, 2, true), (2, 1, false), (3, 1, false), (4, 1, false)]), (257, [(0, 2, true), (2, 1, false), (3, 1, false), (4, 1, false)]), (306, [(0, 1, false), (1, 1, false), (2, 1, false)]), (307, [(0, 1, false), (1, 1, false), (2, 1, false)]), (311, [(0, 1, false), (1, 1, false), (2, 1, false), (3, 1, false), (4, 1, false), (5, 1, false), (6, 1, false)]), (312, [(0, 1, false), (1, 1, false), (2, 1, false), (3, 1, false), (4, 1, false), (5, 1, false), (6, 1, false)]), (321, [(0, 1, false), (1, 1, false), (2, 1, false), (3, 1, false)]), (322, [(0, 1, false), (1, 1, false), (2, 1, false), (3, 1, false)]), (341, [(0, 1, false)]), (342, [(0, 1, false)]), (344, [(0, 1, false), (1, 1, false), (2, 2, true), (4, 1, false)]), (345, [(0, 1, false), (1, 1, false), (2, 2, true), (4, 1, false)]), (373, [(0, 1, false), (1, 1, false), (2, 1, false), (3, 1, false)]), (374, [(0, 1, false), (1, 1, false), (2, 1, false), (3, 1, false)]), (384, [(0, 1, false), (1, 1, false), (2, 1, false), (3, 1, false), (4, 1, false), (5, 1, false), (6, 1, false), (7, 1, false), (8, 1, false), (9, 1, false), (10, 1, false)]), (385, [(0, 1, false), (1, 1, false), (2, 1, false), (3, 1, false), (4, 1, false), (5, 1, false), (6, 1, false), (7, 1, false), (8, 1, false), (9, 1, false), (10, 1, false)])], ones := [1, 2, 3, 4, 5, 6, 9, 10, 11, 12, 15, 16, 17, 20, 21, 22, 23, 24, 25, 26, 28, 29, 30, 31, 32, 33, 38, 41, 44, 45, 48, 49, 52, 53, 55, 56, 57, 58, 59, 60, 63, 64, 66, 68, 69, 70, 71, 72, 73, 74, 76, 77, 78, 79, 85, 87, 91, 93, 94, 95, 96, 97, 98, 101, 103, 104, 107, 108, 111, 112, 113, 114, 115, 116, 117, 119, 122, 123, 124, 125, 126, 127, 129, 130, 131, 133, 134, 136, 137, 139, 140, 145, 146, 147, 149, 150, 151, 152, 154, 156, 157, 158, 159, 162, 163, 164, 165, 166, 167, 168, 169, 170, 175, 176, 177, 178, 180, 182, 183, 185, 186, 189, 190, 191, 192, 193, 194, 195, 196, 197, 198, 199, 201, 203, 204, 206, 207, 208, 209, 210, 211, 212, 213, 214, 215, 220, 221, 222, 223, 224, 226, 229, 232, 233, 235, 237, 239, 241, 244, 245, 248, 249, 250, 251, 253, 254, 255, 258, 259, 260, 261, 262, 264, 265, 267, 268, 269, 270, 271, 272, 273, 274, 276, 277, 278, 279, 280, 281, 282, 283, 284, 285, 286, 287, 289, 291, 293, 294, 295, 296, 297, 298, 299, 300, 301, 303, 304, 305, 308, 309, 310, 313, 315, 316, 317, 318, 319, 320, 323, 325, 326, 327, 329, 330, 331, 333, 334, 335, 336, 337, 338, 339, 340, 343, 347, 348, 349, 350, 351, 352, 353, 354, 355, 356, 357, 358, 359, 360, 361, 362, 363, 364, 365, 366, 367, 369, 370, 371, 372, 378, 379, 380, 381, 382, 383] }
theorem tabok : tab.chk Tryz.prog = true := by kernel_rfl
instance : TabOk Tryz.prog tab := ⟨tabok⟩
theorem QU : ZV Tryz.prog 35 #[.int .i64 0, .slice none 0 0, .int .i64 0, .slice none 0 0, .slice none 0 0] := XC (v := .agg #[.int .i64 0, .slice none 0 0, .int .i64 0, .slice none 0 0, .slice none 0 0]) (by kernel_rfl) rfl
theorem JG : ZV Tryz.prog 37 #[.int .i64 0, .slice none 0 0, .int .i64 0, .slice none 0 0, .slice none 0 0, .slice none 0 0] := XC (v := .agg #[.int .i64 0, .slice none 0 0, .int .i64 0, .slice none 0 0, .slice none 0 0, .slice none 0 0]) (by kernel_rfl) rfl
theorem Zae : ZV Tryz.prog 40 #[.int .i64 0, .slice none 0 0, .slice none 0 0] := XC (v := .agg #[.int .i64 0, .slice none 0 0, .slice none 0 0]) (by kernel_rfl) rfl
theorem XE : ZV Tryz.prog 43 #[.int .i64 0, .int .i64 0, .slice none 0 0, .int .i64 0, .slice none 0 0, .slice none 0 0, .slice none 0 0, .int .i64 0, .slice none 0 0, .slice none 0 0, .slice none 0 0] := XC (v := .agg #[.int .i64 0, .int .i64 0, .slice none 0 0, .int .i64 0, .slice none 0 0, .slice none 0 0, .slice none 0 0, .int .i64 0, .slice none 0 0, .slice none 0 0, .slice none 0 0]) (by kernel_rfl) rfl
theorem zv_47 : ZV Tryz.prog 47 #[.pointer none, .int .i64 0, .int .i64 0, .slice none 0 0, .int .i64 0, .slice none 0 0, .slice none 0 0, .slice none 0 0, .int .i64 0, .slice none 0 0, .slice none 0 0, .slice none 0 0, .slice none 0 0] := XC (v := .agg #[.pointer none, .int .i64 0, .int .i64 0, .slice none 0 0, .int .i64 0, .slice none 0 0, .slice none 0 0, .slice none 0 0, .int .i64 0, .slice none 0 0, .slice none 0 0, .slice none 0 0, .slice none 0 0]) (by kernel_rfl) rfl
theorem Yk : ZV Tryz.prog 62 #[.slice none 0 0, .slice none 0 0] := XC (v := .agg #[.slice none 0 0, .slice none 0 0]) (by kernel_rfl) rfl
theorem YR : ZV Tryz.prog 121 #[.int .i64 0, .int .i64 0] := XC (v := .agg #[.int .i64 0, .int .i64 0]) (by kernel_rfl) rfl
theorem Zoy : ZV Tryz.prog 142 #[.pointer none, .map none] := XC (v := .agg #[.pointer none, .map none]) (by kernel_rfl) rfl
theorem Zpq : ZV Tryz.prog 144 #[.pointer none, .pointer none, .pointer none, .map none, .int .i64 0] := XC (v := .agg #[.pointer none, .pointer none, .pointer none, .map none, .int .i64 0]) (by kernel_rfl) rfl
theorem Zib : ZV Tryz.prog 161 #[.pointer none, .slice none 0 0, .slice none 0 0, .int .u64 0] := XC (v := .agg #[.pointer none, .slice none 0 0, .slice none 0 0, .int .u64 0]) (by kernel_rfl) rfl
theorem YS : ZV Tryz.prog 172 #[.int .i64 0, .int .i64 0, .int .u32 0, .int .u32 0, .int .i64 0, .int .i64 0, .int .i64 0, .int .i64 0] := XC (v := .agg #[.int .i64 0, .int .i64 0, .int .u32 0, .int .u32 0, .int .i64 0, .int .i64 0, .int .i64 0, .int .i64 0]) (by kernel_rfl) rfl
theorem Zka : ZV Tryz.prog 174 #[.bool false, .int .i64 0, .int .u32 0, .int .i64 0, .int .i64 0, .int .u32 0, .int .u32 0, .int .i64 0, .int .i64 0, .int .i64 0, .int .i64 0] := XC (v := .agg #[.bool false, .int .i64 0, .int .u32 0, .int .i64 0, .int .i64 0, .int .u32 0, .int .u32 0, .int .i64 0, .int .i64 0, .int .i64 0, .int .i64 0]) (by kernel_rfl) rfl
theorem Zp5 : ZV Tryz.prog 228 #[.pointer none, .slice none 0 0] := XC (v := .agg #[.pointer none, .slice none 0 0]) (by kernel_rfl) rfl
theorem Zpz : ZV Tryz.prog 231 #[.int .i64 0, .int .i64 0, .map none] := XC (v := .agg #[.int .i64 0, .int .i64 0, .map none]) (by kernel_rfl) rfl
theorem Zit : ZV Tryz.prog 243 #[.slice none 0 0, .slice none 0 0, .slice none 0 0, .int .u32 0] := XC (v := .agg #[.slice none 0 0, .slice none 0 0, .slice none 0 0, .int .u32 0]) (by kernel_rfl) rfl
theorem Qv : ZV Tryz.prog 247 #[.bool false, .slice none 0 0] := XC (v := .agg #[.bool false, .slice none 0 0]) (by kernel_rfl) rfl
theorem Zpg : ZV Tryz.prog 248 #[.map none] := XC (v := .map none) (by kernel_rfl) rfl
theorem Zlj : ZV Tryz.prog 257 #[.slice none 0 0, .slice none 0 0, .int .i64 0, .bool false, .int .i64 0] := XC (v := .agg #[.slice none 0 0, .slice none 0 0, .int .i64 0, .bool false, .int .i64 0]) (by kernel_rfl) rfl
theorem JX : ZV Tryz.prog 302 #[.int .u32 0, .int .u32 0] := XC (v := .agg #[.int .u32 0, .int .u32 0]) (by kernel_rfl) rfl
theorem Z0 : Xa Tryz.prog 35 5 := QF (by kernel_rfl) (by kernel_rfl) (by kernel_rfl)
theorem ZD : Xa Tryz.prog 37 6 := QF (by kernel_rfl) (by kernel_rfl) (by kernel_rfl)
theorem Z4 : Xa Tryz.prog 40 3 := QF (by kernel_rfl) (by kernel_rfl) (by kernel_rfl)
theorem Zy : Xa Tryz.prog 43 11 := QF (by kernel_rfl) (by kernel_rfl) (by kernel_rfl)
theorem Zgt : Xa Tryz.prog 51 5 := QF (by kernel_rfl) (by kernel_rfl) (by kernel_rfl)
theorem ZA : Xa Tryz.prog 62 2 := QF (by kernel_rfl) (by kernel_rfl) (by kernel_rfl)
theorem Zp : Xa Tryz.prog 121 2 := QF (by kernel_rfl) (by kernel_rfl) (by kernel_rfl)
theorem ZY : Xa Tryz.prog 172 8 := QF (by kernel_rfl) (by kernel_rfl) (by kernel_rfl)
theorem Jn : Xa Tryz.prog 174 11 := QF (by kernel_rfl) (by kernel_rfl) (by kernel_rfl)
theorem Zbv : Xa Tryz.prog 247 2 := QF (by kernel_rfl) (by kernel_rfl) (by kernel_rfl)
theorem QX : Xa Tryz.prog 302 2 := QF (by kernel_rfl) (by kernel_rfl) (by kernel_rfl)
theorem el_22 : Elem Tryz.prog 22 51 #[.int .i64 0, .int .u64 0, .int .u64 0, .slice none 0 0, .bool false] 5 56 := Q9 (v := .agg #[.int .i64 0, .int .u64 0, .int .u64 0, .slice none 0 0, .bool false]) Tryz.underlying22 (by kernel_rfl) rfl rfl (by decide) rfl
theorem el_32 : Elem Tryz.prog 32 64 #[.int .u32 0] 1 4 := Q9 (v := .int .u32 0) Tryz.underlying32 (by kernel_rfl) rfl rfl (by decide) rfl
theorem el_33 : Elem Tryz.prog 33 4 #[.bool false] 1 1 := Q9 (v := .bool false) Tryz.underlying33 (by kernel_rfl) rfl rfl (by decide) rfl
theorem el_38 : Elem Tryz.prog 38 56 #[.slice none 0 0] 1 24 := Q9 (v := .slice none 0 0) Tryz.underlying38 (by kernel_rfl) rfl rfl (by decide) rfl
theorem el_41 : Elem Tryz.prog 41 49 #[.slice none 0 0] 1 24 := Q9 (v := .slice none 0 0) Tryz.underlying41 (by kernel_rfl) rfl rfl (by decide) rfl
theorem el_45 : Elem Tryz.prog 45 23 #[.int .u64 0] 1 8 := Q9 (v := .int .u64 0) Tryz.underlying45 (by kernel_rfl) rfl rfl (by decide) rfl
theorem el_49 : Elem Tryz.prog 49 121 #[.int .i64 0, .int .i64 0] 2 16 := Q9 (v := .agg #[.int .i64 0, .int .i64 0]) Tryz.underlying49 (by kernel_rfl) rfl rfl (by decide) rfl
theorem el_56 : Elem Tryz.prog 56 3 #[.int .i64 0] 1 8 := Q9 (v := .int .i64 0) Tryz.underlying56 (by kernel_rfl) rfl rfl (by decide) rfl
theorem el_60 : Elem Tryz.prog 60 174 #[.bool false, .int .i64 0, .int .u32 0, .int .i64 0, .int .i64 0, .int .u32 0, .int .u32 0, .int .i64 0, .int .i64 0, .int .i64 0, .int .i64 0] 11 80 := Q9 (v := .agg #[.bool false, .int .i64 0, .int .u32 0, .int .i64 0, .int .i64 0, .int .u32 0, .int .u32 0, .int .i64 0, .int .i64 0, .int .i64 0, .int .i64 0]) Tryz.underlying60 (by kernel_rfl) rfl rfl (by decide) rfl
theorem el_159 : Elem Tryz.prog 159 172 #[.int .i64 0, .int .i64 0, .int .u32 0, .int .u32 0, .int .i64 0, .int .i64 0, .int .i64 0, .int .i64 0] 8 56 := Q9 (v := .agg #[.int .i64 0, .int .i64 0, .int .u32 0, .int .u32 0, .int .i64 0, .int .i64 0, .int .i64 0, .int .i64 0]) Tryz.underlying159 (by kernel_rfl) rfl rfl (by decide) rfl
theorem Zpe : EqT Tryz.prog 121 [.int .i64, .int .i64] := ⟨by kernel_rfl, by kernel_rfl, by kernel_rfl, by kernel_rfl⟩
theorem QM : MapT Tryz.prog 140 3 (.int .i64) 64 (.int .u32 0) := Zow (by kernel_rfl) (by kernel_rfl) (by kernel_rfl)
theorem Yo : MapT Tryz.prog 229 3 (.int .i64) 247 (.agg #[.bool false, .slice none 0 0]) := Zow (by kernel_rfl) (by kernel_rfl) (by kernel_rfl)
theorem Ze2 : MapT Tryz.prog 248 3 (.int .i64) 4 (.bool false) := Zow (by kernel_rfl) (by kernel_rfl) (by kernel_rfl)
theorem Zfr : ArrT Tryz.prog 302 2 64 := ⟨by kernel_rfl, by kernel_rfl⟩
end Go.Proofs.YtbeacjcmdijdmaaGreat
namespace Go.V
open Go Go.RowKit Go.Maps Go.Sort
section
variable {g w w' : World} {L : List HP} {e size n : Nat} {v : Value} {xs : List Value}
theorem St.of_row (ls : List (List Value)) (h : St g L w) (hb : Below w.heap.size w w') (hr : w'.ownsRow w.heap.size e size v n xs) (hls : ls.flatten = xs) (hn : ls.length = n) (hok : OkE size ls) :
  ∃ a c, v = .slice a ls.length c ∧ St g (Zf e size ls a c :: L) w' := by
 subst hn; subst hls
 have h0 : St g (pur True :: L) w := h.add fun _ _ => trivial
 obtain ⟨b1, b2, b3, b4, b5⟩ := hb
 obtain ⟨_, ⟨rfl, hn⟩ | ⟨q, cap, cur, rfl, hq, hcur, h1, h2, h3, h4⟩⟩ := hr
 ·have hz : ls = [] := List.length_eq_zero_iff.1 hn
  subst hz
  refine ⟨none, 0, rfl, h0.upd b1 b2 b3 b4 fun o1 r _ _ _ _ => ⟨fun _ => none, ⟨OkE.nil _, .inl ⟨rfl, rfl, rfl⟩⟩, fun _ _ h => (by cases h), fun k hk => absurd rfl hk, fun k hk _ => b5 k hk⟩⟩
 ·refine ⟨some ⟨q, 0, none⟩, cap, rfl, h0.upd b1 b2 b3 b4 fun o1 r _ _ _ _ => ⟨fun k => if k = q then some (.cells cur e (0, 0)) else none, ⟨hok, .inr ⟨q, cur, rfl, by simp, h1, h2, h3, h4⟩⟩, fun k x hx => ?_, fun k hk => ?_, fun k hk _ => b5 k hk⟩⟩
  ·simp only at hx
   split at hx
   ·rename_i hk; subst hk; simp only [Option.some.injEq] at hx; subst hx; exact hcur
   ·cases hx
  ·simp only [ne_eq, ite_eq_right_iff, reduceCtorEq, imp_false, Classical.not_not] at hk
   exact .inr (by omega)
theorem St.under (h : St g L w) (hb : Below w.heap.size w w') : St g L w' := by
 have h0 : St g (pur True :: L) w := h.add fun _ _ => trivial
 obtain ⟨b1, b2, b3, b4, b5⟩ := hb
 refine (h0.upd (B := pur True) b1 b2 b3 b4 fun o1 r _ _ _ _ => ⟨fun _ => none, trivial, fun _ _ h => (by cases h), fun k hk => absurd rfl hk, fun k hk _ => b5 k hk⟩).tail
end
section
variable {g w : World} {L : List HP} {e c : Nat} {ls : List Int} {b : Nat}
theorem X7 (l : List Int) : (Zb l).flatten = l.map (Value.int .i64) := by
 induction l with
 | nil => rfl
 | cons x l ih => simp only [Zb, List.map_cons, List.flatten_cons, List.singleton_append] at ih ⊢; rw [ih]
theorem St.holdsI (h : St g L w) (i : Nat) (hi : L[i]? = some (Zf e 1 (Zb ls) (some ⟨b, 0, none⟩) c)) : Holds (Value.int .i64) w b 0 ls.toArray ∧ b < w.heap.size ∧ ls.length ≤ c := by
 obtain ⟨o1, r, ⟨h1, h2⟩, ho, hr⟩ := h.get i hi
 rcases h2 with ⟨h3, _, _⟩ | ⟨b', cur, h3, q2, q3, q4, q5, q6⟩
 ·cases h3
 ·cases h3
  have hb := ho _ _ q2
  refine ⟨holds_of_blockI hb (by rw [Zh, Nat.mul_one, X7] at q6; exact q6), (Array.getElem?_eq_some_iff.1 hb).1, by simpa using q3⟩
theorem St.putI (h : St g (Zf e 1 (Zb ls) (some ⟨b, 0, none⟩) c :: L) w) (ts : List Int) (hl : ts.length = ls.length) (n : Nat) (os : Array Obj) :
  St g (Zf e 1 (Zb ts) (some ⟨b, 0, none⟩) c :: L) (grow (putRow (Value.int .i64) (Sort.ahead w n) b 0 ts.toArray) os) := by
 have hg := grownBy_sortedI (w := w) (g := b) (n := n) (os := os) ts.toArray
 refine h.upd hg.os hg.tape hg.output hg.size fun o1 r hA hw _ _ => ?_
 obtain ⟨h1, h2⟩ := hA
 rcases h2 with ⟨h3, _, _⟩ | ⟨b', cur, h3, q2, q3, q4, q5, q6⟩
 ·cases h3
 ·cases h3
  have hb := hw _ _ q2
  rw [Zh] at q3 q6
  refine ⟨fun k => if k = b then some (.cells (putCells (Value.int .i64) 0 ts.toArray cur) e (0, 0)) else none, ⟨Z9 _, .inr ⟨b, _, rfl, if_pos rfl, by rw [Zh, hl]; exact q3, q4, by simp [putCells, q5], ?_⟩⟩, fun k x hx => ?_, fun k hk => ?_, fun k hk hn => ?_⟩
  ·rw [Zh, Nat.mul_one, X7]
   exact take_putCellsI cur ts (by rw [hl, q5, Nat.mul_one]; exact q3)
  ·simp only at hx
   split at hx
   ·rename_i hk; subst hk; simp only [Option.some.injEq] at hx; subst hx; exact heap_sortedI _ hb
   ·cases hx
  ·simp only [ne_eq, ite_eq_right_iff, reduceCtorEq, imp_false, Classical.not_not] at hk
   subst hk; exact .inl (by rw [q2]; simp)
  ·refine hg.block k hk fun he => ?_
   simp only [Option.some.injEq] at he; subst he
   rw [q2] at hn; cases hn
theorem St.ownTake {a : Option Addr} {size : Nat} {ks : List (List Value)} (h : St g (Zf e size ks a c :: L) w) (k : Nat) : St g (Zf e size (ks.take k) a c :: L) w := by
 refine h.impl fun o r ⟨h1, h2⟩ => ⟨fun x hx => h1 x (List.mem_of_mem_take hx), ?_⟩
 rcases h2 with ⟨q1, q2, rfl⟩ | ⟨b, cur, q1, q2, q3, q4, q5, q6⟩
 ·exact .inl ⟨q1, q2, by simp⟩
 ·refine .inr ⟨b, cur, q1, q2, Nat.le_trans (by rw [List.length_take]; omega) q3, q4, q5, ?_⟩
  have h4 : ∀ x ∈ ks.take k, x.length = size := fun x hx => h1.len x (List.mem_of_mem_take hx)
  have h5 := ZR (ks.take k) size h4
  have h6 : (ks.take k).flatten = ks.flatten.take ((ks.take k).length * size) := by
   have h7 : ks.flatten = (ks.take k).flatten ++ (ks.drop k).flatten := by rw [← List.flatten_append, List.take_append_drop]
   rw [h7, List.take_left' h5]
  rw [h6, ← q6, List.take_take]
  congr 1
  have : (ks.take k).length ≤ ks.length := by rw [List.length_take]; omega
  exact (Nat.min_eq_left (Nat.mul_le_mul_right _ this)).symm
theorem St.addrI {a : Option Addr} (h : St g L w) (i : Nat) (hi : L[i]? = some (Zf e 1 (Zb ls) a c)) (hne : ls ≠ []) : ∃ b, a = some ⟨b, 0, none⟩ := by
 obtain ⟨o1, r, ⟨h1, h2⟩, ho, hr⟩ := h.get i hi
 rcases h2 with ⟨_, _, h3⟩ | ⟨b', cur, h3, _⟩
 ·simp [Zb] at h3; exact absurd h3 hne
 ·exact ⟨b', h3⟩
end
theorem Zcw (l : List Int) : (Go.Lib.compact l).length ≤ l.length := by
 unfold Go.Lib.compact Go.Lib.compactUpTo
 rw [List.length_map]
 exact Nat.le_trans (List.length_filter_le _ _) (by simp)
theorem QR {ys ss : List Int} (hp : ss.Perm ys) (hs : ss.Pairwise (· ≤ ·)) : ys.mergeSort (fun x y => decide (x ≤ y)) = ss := by
 have h1 := mergeSort_of_perm_i hp
 show ys.mergeSort leI = _
 rw [← h1]
 exact List.mergeSort_of_pairwise (le := leI) (hs.imp fun h => decide_eq_true h)
end Go.V
namespace Go.V
open Go Go.RowKit Go.Maps
structure VN where
 n : Int
 live : Bool
 ab : List Int
 a : Option Addr
 c : Nat
 born : Nat
def vV (x : VN) : Value := .agg #[.bool x.live, .slice x.a (Zb x.ab).length x.c]
def vK (x : VN) : Value × Value × Nat := (.int .i64 x.n, vV x, x.born)
def vF (x : VN) : List HP := [Sh 3 1 (Zb x.ab) x.a x.c]
theorem Zoi (x : VN) : ∀ A ∈ vF x, Sht A := fun A hA => by
 simp only [vF, List.mem_singleton] at hA; subst hA; exact Sht.sh
def VUq (xs : List VN) : Prop := xs.Pairwise fun x y => x.n ≠ y.n
theorem Zn8 (xs : List VN) : ∀ x ∈ xs.map vK, MapKept.IsKey (.int .i64) x.1 := fun x hx => by
 obtain ⟨y, _, rfl⟩ := List.mem_map.1 hx
 rfl
theorem Q8 {xs : List VN} {k : Nat} {x : VN} (hx : xs[k]? = some x) (hu : VUq xs) : Y9 (.int .i64) (.int .i64 x.n) (xs.map vK) = some (some (k, vV x)) := by
 refine Jh (d := .int .i64) (k := .int .i64 x.n) (b := x.born) rfl (Zn8 xs) (by rw [List.getElem?_map, hx]; rfl) fun j hj y hy => ?_
 rw [List.getElem?_map] at hy
 cases hz : xs[j]? with
 | none => rw [hz] at hy; cases hy
 | some u =>
  rw [hz] at hy
  simp only [Option.map_some, Option.some.injEq] at hy
  subst hy
  intro he
  have he2 : u.n = x.n := (Value.int.inj he).2
  have hl := (List.getElem?_eq_some_iff.1 hz).1
  have hl2 := (List.getElem?_eq_some_iff.1 hx).1
  refine List.pairwise_iff_getElem.1 hu j k hl hl2 hj ?_
  rw [(List.getElem?_eq_some_iff.1 hz).2, (List.getElem?_eq_some_iff.1 hx).2, he2]
theorem Zkt {xs : List VN} {n : Int} (h : ∀ x ∈ xs, x.n ≠ n) : Y9 (.int .i64) (.int .i64 n) (xs.map vK) = some none := by
 refine Jq (d := .int .i64) (k := .int .i64 n) rfl (Zn8 xs) fun x hx => ?_
 obtain ⟨y, hy, rfl⟩ := List.mem_map.1 hx
 intro he
 exact h y hy (Value.int.inj he).2
theorem Qf (xs : List VN) (n : Int) : (∃ (k : Nat) (x : VN), xs[k]? = some x ∧ x.n = n) ∨ ∀ x ∈ xs, x.n ≠ n := by
 by_cases h : ∃ x ∈ xs, x.n = n
 ·obtain ⟨x, hx, hn⟩ := h
  obtain ⟨k, hk⟩ := List.mem_iff_getElem?.1 hx
  exact .inl ⟨k, x, hk, hn⟩
 ·exact .inr fun x hx hn => h ⟨x, hx, hn⟩
theorem VUq.one {R : List VN} (h : VUq R) {i j : Nat} {x y : VN} (hi : R[i]? = some x) (hj : R[j]? = some y) (he : x.n = y.n) : i = j := by
 have h1 := (List.getElem?_eq_some_iff.1 hi).1
 have h2 := (List.getElem?_eq_some_iff.1 hj).1
 have e1 : R[i] = x := (List.getElem?_eq_some_iff.1 hi).2
 have e2 : R[j] = y := (List.getElem?_eq_some_iff.1 hj).2
 rcases Nat.lt_trichotomy i j with hl | hl | hl
 ·exact absurd (by rw [e1, e2]; exact he) (List.pairwise_iff_getElem.1 h i j h1 h2 hl)
 ·exact hl
 ·exact absurd (by rw [e1, e2]; exact he.symm) (List.pairwise_iff_getElem.1 h j i h2 h1 hl)
def ZS (xs : List VN) (n : Int) : Option VN := xs.find? fun x => decide (x.n = n)
def Zj (xs : List VN) (n : Int) : Bool := ((ZS xs n).map (·.live)).getD false
def ZF (xs : List VN) (n : Int) : Bool := (ZS xs n).isSome
def YQ (xs : List VN) (n : Int) : List Int := ((ZS xs n).map (·.ab)).getD []
theorem XN {xs : List VN} {k : Nat} {x : VN} (hx : xs[k]? = some x) (hu : VUq xs) : ZS xs x.n = some x := by
 cases hf : ZS xs x.n with
 | none =>
  have := List.find?_eq_none.1 hf x (List.mem_of_getElem? hx)
  exact absurd (decide_eq_true rfl) this
 | some y =>
  have hn : y.n = x.n := of_decide_eq_true (List.find?_some (p := fun q : VN => decide (q.n = x.n)) hf)
  obtain ⟨j, hj⟩ := List.mem_iff_getElem?.1 (List.mem_of_find?_eq_some hf)
  have := hu.one hj hx hn
  subst this
  rw [hj] at hx; exact hx
theorem Yh {xs : List VN} {n : Int} (h : ∀ x ∈ xs, x.n ≠ n) : ZS xs n = none := by
 refine List.find?_eq_none.2 fun x hx he => h x hx (of_decide_eq_true he)
theorem ZK {xs : List VN} {n : Int} {x : VN} (h : ZS xs n = some x) : x ∈ xs ∧ x.n = n := ⟨List.mem_of_find?_eq_some h, of_decide_eq_true (List.find?_some (p := fun q : VN => decide (q.n = n)) h)⟩
theorem Jj {xs : List VN} {n : Int} : ZS xs n = none ↔ ∀ x ∈ xs, x.n ≠ n := ⟨fun h x hx e => List.find?_eq_none.1 h x hx (decide_eq_true e), Yh⟩
theorem Zav {xs : List VN} {x : VN} (hx : x ∈ xs) (hu : VUq xs) : ZS xs x.n = some x := by
 obtain ⟨k, hk⟩ := List.mem_iff_getElem?.1 hx
 exact XN hk hu
theorem Qc {xs : List VN} {n : Int} {x : VN} (h : ZS xs n = some x) : Zj xs n = x.live ∧ ZF xs n = true ∧ YQ xs n = x.ab := by simp [Zj, ZF, YQ, h]
theorem XI {xs : List VN} {n : Int} (h : ZS xs n = none) : Zj xs n = false ∧ ZF xs n = false ∧ YQ xs n = [] := by simp [Zj, ZF, YQ, h]
theorem Ya {xs : List VN} {n : Int} (h : Zj xs n = true) : ZF xs n = true := by
 unfold Zj at h; unfold ZF
 cases hf : ZS xs n with
 | none => rw [hf] at h; cases h
 | some x => rfl
theorem ZO {xs : List VN} {n : Int} : ZF xs n = true ↔ ∃ x ∈ xs, x.n = n := by
 unfold ZF
 cases hf : ZS xs n with
 | none => exact ⟨fun h => (by cases h), fun ⟨x, hx, hn⟩ => absurd hn (Jj.1 hf x hx)⟩
 | some x => exact ⟨fun _ => ⟨x, ZK hf⟩, fun _ => rfl⟩
def bK (x : Int × Nat) : Value × Value × Nat := (.int .i64 x.1, .bool true, x.2)
def BUq (xs : List (Int × Nat)) : Prop := xs.Pairwise fun x y => x.1 ≠ y.1
theorem Zog (xs : List (Int × Nat)) : ∀ x ∈ xs.map bK, MapKept.IsKey (.int .i64) x.1 := fun x hx => by
 obtain ⟨y, _, rfl⟩ := List.mem_map.1 hx
 rfl
theorem b_out {xs : List (Int × Nat)} {n : Int} (h : ∀ x ∈ xs, x.1 ≠ n) : Y9 (.int .i64) (.int .i64 n) (xs.map bK) = some none := by
 refine Jq (d := .int .i64) (k := .int .i64 n) rfl (Zog xs) fun x hx => ?_
 obtain ⟨y, hy, rfl⟩ := List.mem_map.1 hx
 intro he
 exact h y hy (Value.int.inj he).2
theorem b_in {xs : List (Int × Nat)} {k : Nat} {x : Int × Nat} (hx : xs[k]? = some x) (hu : BUq xs) : Y9 (.int .i64) (.int .i64 x.1) (xs.map bK) = some (some (k, .bool true)) := by
 refine Jh (d := .int .i64) (k := .int .i64 x.1) (b := x.2) rfl (Zog xs) (by rw [List.getElem?_map, hx]; rfl) fun j hj y hy => ?_
 rw [List.getElem?_map] at hy
 cases hz : xs[j]? with
 | none => rw [hz] at hy; cases hy
 | some u =>
  rw [hz] at hy
  simp only [Option.map_some, Option.some.injEq] at hy
  subst hy
  intro he
  have he2 : u.1 = x.1 := (Value.int.inj he).2
  have hl := (List.getElem?_eq_some_iff.1 hz).1
  have hl2 := (List.getElem?_eq_some_iff.1 hx).1
  refine List.pairwise_iff_getElem.1 hu j k hl hl2 hj ?_
  rw [(List.getElem?_eq_some_iff.1 hz).2, (List.getElem?_eq_some_iff.1 hx).2, he2]
theorem Znn (xs : List (Int × Nat)) (n : Int) : (∃ (k : Nat) (x : Int × Nat), xs[k]? = some x ∧ x.1 = n) ∨ ∀ x ∈ xs, x.1 ≠ n := by
 by_cases h : ∃ x ∈ xs, x.1 = n
 ·obtain ⟨x, hx, hn⟩ := h
  obtain ⟨k, hk⟩ := List.mem_iff_getElem?.1 hx
  exact .inl ⟨k, x, hk, hn⟩
 ·exact .inr fun x hx hn => h ⟨x, hx, hn⟩
structure VOk (xs : List VN) (q : Nat) : Prop where
 uniq : VUq xs
 born : ∀ x ∈ xs, x.born < q
 bnd : (xs.map (·.born)).Nodup
 rng : ∀ x ∈ xs, 1 ≤ x.n ∧ x.n ≤ 1000000000
 num : xs.length ≤ 4096
section
variable {P : Program} {k : TypeId}
def J9 (_ : Value) : Option (DataW Unit × List MemPlace) := some (.nil, [])
theorem Zkq (xs : List VN) (q : Nat) (h : VOk xs q) (hk : P.underlying k = some (.int .i64)) {w : World} {b : Nat} (hb : w.heap[b]? = some (.map (mE (xs.map vK)) q)) :
  ∃ D : DataW Unit, w.ownsMap P k J9 b 4096 D ∧ Maps.size D = xs.length ∧ (intKeys D).Perm (xs.map (·.n)) := by
 have hrd : ∀ x : VN, x ∈ xs → Go.WideElems.rd P k J9 ⟨.int .i64 x.n, vV x, x.born⟩ = some (.int .i64 x.n, .nil) := fun x hx => by
  have h1 := h.rng x hx
  have h2 : (Lit.int .i64 x.n).wf = true := by
   have e1 : IntKind.i64.min = -9223372036854775808 := by decide
   have e2 : IntKind.i64.max = 9223372036854775807 := by decide
   simp only [Lit.wf, e1, e2, Bool.and_eq_true, decide_eq_true_eq]
   omega
  have h3 : keyOf P k (.int .i64 x.n) = some (.int .i64 x.n) := by simp [keyOf, hk, mapKey, h2]
  simp [Go.WideElems.rd, h3, J9]
 have hF : Go.WideElems.Fit P k J9 (mE (xs.map vK)) q := by
  refine ⟨by rw [XT, List.length_map]; exact Nat.le_trans h.num (by decide), ⟨?_, ?_, ?_⟩, ?_⟩
  ·intro x hx
   simp only [ZJ, List.map_map, List.mem_map] at hx
   obtain ⟨y, hy, rfl⟩ := hx
   exact h.born y hy
  ·rw [ZJ, List.map_map, List.map_map]
   exact h.bnd
  ·rw [ZJ, List.map_map, List.map_map]
   refine List.pairwise_map.2 (h.uniq.imp fun {a b} hne he => hne ?_)
   exact (Value.int.inj he).2
  ·intro x hx
   simp only [ZJ, List.map_map, List.mem_map] at hx
   obtain ⟨y, hy, rfl⟩ := hx
   exact ⟨_, hrd y hy⟩
 refine ⟨_, ⟨_, _, hb, hF, by rw [XT, List.length_map]; exact h.num, rfl⟩, ?_, ?_⟩
 ·rw [Maps.size_eq, (WideShapes.sorted_perm _).length_eq]; simp
 ·refine ((WideShapes.sorted_perm _).map _).trans ?_
  rw [ZJ, List.map_map, List.map_map, List.map_map]
  refine List.Perm.of_eq (List.map_congr_left fun x hx => ?_)
  simp only [Function.comp_def, vK, Go.WideElems.rg, hrd x hx, Option.getD_some, intOf]
end
end Go.V
namespace Go.V
open Go Go.RowKit
def Asc (l : List Int) : Prop := l.Pairwise fun a b => a < b
def gcm (l m : List Int) : Int := ((l.filter fun z => decide (z ∈ m)).getLast?).getD 0
theorem Asc.nodup {l : List Int} (h : Asc l) : l.Nodup := h.imp fun h => by omega
theorem Asc.last {l : List Int} (h : Asc l) {u : Int} (hu : u ∈ l) (hm : ∀ z ∈ l, z ≤ u) : l.getLast? = some u := by
 induction l with
 | nil => cases hu
 | cons x t ih =>
  have hp := List.pairwise_cons.1 h
  cases t with
  | nil => simp at hu; subst hu; rfl
  | cons y t =>
   rw [List.getLast?_cons_cons]
   refine ih hp.2 ?_ fun z hz => hm z (List.mem_cons_of_mem _ hz)
   rcases List.mem_cons.1 hu with rfl | hu
   ·have h1 := hp.1 y (List.mem_cons_self ..)
    have h2 := hm y (List.mem_cons_of_mem _ (List.mem_cons_self ..))
    omega
   ·exact hu
theorem Jg {l m : List Int} (h : Asc l) {u : Int} (h1 : u ∈ l) (h2 : u ∈ m) (hm : ∀ z ∈ l, z ∈ m → z ≤ u) : gcm l m = u := by
 unfold gcm
 have h3 : Asc (l.filter fun z => decide (z ∈ m)) := h.sublist List.filter_sublist
 rw [h3.last (List.mem_filter.2 ⟨h1, decide_eq_true h2⟩) fun z hz => hm z (List.mem_filter.1 hz).1 (of_decide_eq_true (List.mem_filter.1 hz).2)]
 rfl
theorem JO {l m : List Int} (h : ∀ z ∈ l, z ∉ m) : gcm l m = 0 := by
 unfold gcm
 rw [List.filter_eq_nil_iff.2 fun z hz hd => h z hz (of_decide_eq_true hd)]
 rfl
theorem Asc.max_ex {l : List Int} (h : Asc l) (hne : l ≠ []) : ∃ u ∈ l, ∀ z ∈ l, z ≤ u := by
 refine ⟨l.getLast hne, List.getLast_mem hne, fun z hz => ?_⟩
 induction l with
 | nil => exact absurd rfl hne
 | cons x t ih =>
  have hp := List.pairwise_cons.1 h
  cases t with
  | nil => simp at hz; subst hz; exact Int.le_refl _
  | cons y t =>
   rw [List.getLast_cons (by simp)]
   rcases List.mem_cons.1 hz with rfl | hz
   ·have h1 := hp.1 _ (List.getLast_mem (l := y :: t) (by simp)); omega
   ·exact ih hp.2 (by simp) hz
theorem X9 {l m : List Int} (h : Asc l) : (gcm l m = 0 ∧ ∀ z ∈ l, z ∉ m) ∨ (gcm l m ∈ l ∧ gcm l m ∈ m ∧ ∀ z ∈ l, z ∈ m → z ≤ gcm l m) := by
 by_cases hne : (l.filter fun z => decide (z ∈ m)) = []
 ·have h1 : ∀ z ∈ l, z ∉ m := fun z hz hzm => List.filter_eq_nil_iff.1 hne z hz (decide_eq_true hzm)
  exact .inl ⟨JO h1, h1⟩
 ·obtain ⟨u, hu, hm⟩ := (show Asc _ from h.sublist List.filter_sublist).max_ex hne
  have h1 := (List.mem_filter.1 hu).1
  have h2 : u ∈ m := of_decide_eq_true (List.mem_filter.1 hu).2
  have h3 : ∀ z ∈ l, z ∈ m → z ≤ u := fun z hz hzm => hm z (List.mem_filter.2 ⟨hz, decide_eq_true hzm⟩)
  rw [Jg h h1 h2 h3]
  exact .inr ⟨h1, h2, h3⟩
theorem Zjs {l m : List Int} (hl : Asc l) (hm : Asc m) : gcm l m = gcm m l := by
 rcases X9 (l := l) (m := m) hl with ⟨h1, h2⟩ | ⟨h1, h2, h3⟩
 ·rw [h1, JO fun z hz hzl => h2 z hzl hz]
 ·exact (Jg hm h2 h1 fun z hz hzl => h3 z hzl hz).symm
theorem Zcc {l : List Int} (h : Asc l) {k : Nat} {u : Int} (hu : l[k]? = some u) {z : Int} (hz : z ∈ l.take (k + 1)) : z ≤ u := by
 rw [List.take_add_one, hu] at hz
 rcases List.mem_append.1 hz with hz | hz
 ·obtain ⟨i, hi⟩ := List.mem_iff_getElem?.1 hz
  rw [List.getElem?_take] at hi
  split at hi
  ·rename_i hlt
   have h1 := (List.getElem?_eq_some_iff.1 hi).1
   have h2 := (List.getElem?_eq_some_iff.1 hu).1
   have h3 := List.pairwise_iff_getElem.1 h i k h1 h2 hlt
   rw [(List.getElem?_eq_some_iff.1 hi).2, (List.getElem?_eq_some_iff.1 hu).2] at h3
   omega
  ·cases hi
 ·simp at hz; omega
theorem QJ {l : List Int} {k : Nat} {u z : Int} (hu : l[k]? = some u) (hz : z ∈ l.take (k + 1)) (hne : z ≠ u) : z ∈ l.take k := by
 rw [List.take_add_one, hu] at hz
 rcases List.mem_append.1 hz with hz | hz
 ·exact hz
 ·simp at hz; exact absurd hz hne
def ZL (xs : List VN) (x y : Int) : Int := if Zj xs x = true ∧ Zj xs y = true then gcm (YQ xs x) (YQ xs y) else 0
structure GOk (xs : List VN) (q : Nat) : Prop extends VOk xs q where
 asc : ∀ x ∈ xs, Asc x.ab
 self : ∀ x ∈ xs, x.n ∈ x.ab
 le : ∀ x ∈ xs, ∀ z ∈ x.ab, z ≤ x.n
 pre : ∀ x ∈ xs, ∀ z ∈ x.ab, ZF xs z = true
 tr : ∀ x ∈ xs, ∀ z ∈ x.ab, ∀ u ∈ YQ xs z, u ∈ x.ab
theorem Zdi : ∀ {l m : List Int}, l.Nodup → (∀ z ∈ l, z ∈ m) → l.length ≤ m.length
 | [], _, _, _ => Nat.zero_le _
 | x :: t, m, h, hs => by
  have hp := List.nodup_cons.1 h
  have h1 := List.perm_cons_erase (hs x (List.mem_cons_self ..))
  have h2 : t.length ≤ (m.erase x).length := Zdi hp.2 fun z hz => by
   have h3 := h1.mem_iff.1 (hs z (List.mem_cons_of_mem _ hz))
   rcases List.mem_cons.1 h3 with rfl | h3
   ·exact absurd hz hp.1
   ·exact h3
  have h4 := h1.length_eq
  simp only [List.length_cons] at h4 ⊢
  omega
theorem GOk.len {xs : List VN} {q : Nat} (h : GOk xs q) {x : VN} (hx : x ∈ xs) : x.ab.length ≤ xs.length := by
 have h1 : x.ab.length ≤ (xs.map VN.n).length := by
  refine Zdi (h.asc x hx).nodup fun z hz => ?_
  obtain ⟨y, hy, hn⟩ := ZO.1 (h.pre x hx z hz)
  exact List.mem_map.2 ⟨y, hy, hn⟩
 simpa using h1
theorem GOk.lenA {xs : List VN} {q : Nat} (h : GOk xs q) (n : Int) : (YQ xs n).length ≤ 4096 := by
 cases hf : ZS xs n with
 | none => rw [(XI hf).2.2]; exact Nat.zero_le _
 | some x => rw [(Qc hf).2.2]; exact Nat.le_trans (h.len (ZK hf).1) h.num
theorem GOk.ascA {xs : List VN} {q : Nat} (h : GOk xs q) (n : Int) : Asc (YQ xs n) := by
 cases hf : ZS xs n with
 | none => rw [(XI hf).2.2]; exact List.Pairwise.nil
 | some x => rw [(Qc hf).2.2]; exact h.asc x (ZK hf).1
theorem GOk.nil : GOk [] 0 := ⟨⟨List.Pairwise.nil, fun _ h => (by cases h), List.nodup_nil, fun _ h => (by cases h), by simp⟩, fun _ h => (by cases h), fun _ h => (by cases h), fun _ h => (by cases h), fun _ h => (by cases h), fun _ h => (by cases h)⟩
end Go.V
namespace Go.V
open Go Go.RowKit
def XG (l : List Int) : List Int := l.mergeSort fun x y => decide (x ≤ y)
theorem YH (l : List Int) : (XG l).Perm l := List.mergeSort_perm _ _
theorem Qh (l : List Int) : (XG l).Pairwise (· ≤ ·) := by
 have h := List.pairwise_mergeSort (le := fun x y : Int => decide (x ≤ y)) (fun a b c h1 h2 => by
  simp only [decide_eq_true_eq] at h1 h2 ⊢; omega) (fun a b => by
  simp only [Bool.or_eq_true, decide_eq_true_eq]; omega) l
 exact h.imp fun h => of_decide_eq_true h
theorem Q0 {d : Array Int} (hs : d.toList.Pairwise (· ≤ ·)) : ∀ m, m ≤ d.size → Asc (Go.Lib.compactUpTo d m) ∧ (∀ z, z ∈ Go.Lib.compactUpTo d m ↔ ∃ j, j < m ∧ d[j]! = z)
 | 0, _ => ⟨List.Pairwise.nil, fun z => ⟨fun h => by simp [Go.Lib.compactUpTo] at h, fun ⟨j, hj, _⟩ => by omega⟩⟩
 | m + 1, hm => by
  obtain ⟨h1, h2⟩ := Q0 hs m (by omega)
  rw [Go.Lib.compactUpTo_succ]
  have hle : ∀ i j, i < j → j < d.size → d[i]! ≤ d[j]! := fun i j hij hj => by
   have := List.pairwise_iff_getElem.1 hs i j (by simpa using (by omega : i < d.size)) (by simpa using hj) hij
   rw [getElem!_pos d i (by omega), getElem!_pos d j hj]
   simpa using this
  by_cases hk : Go.Lib.keeps d m = true
  ·rw [if_pos hk]
   refine ⟨List.pairwise_append.2 ⟨h1, List.pairwise_singleton _ _, fun a ha b hb => ?_⟩, fun z => ?_⟩
   ·simp only [List.mem_singleton] at hb; subst hb
    obtain ⟨j, hj, rfl⟩ := (h2 a).1 ha
    have hm0 : m ≠ 0 := by omega
    have hne : d[m]! ≠ d[m - 1]! := by
     have := of_decide_eq_true hk
     exact this.resolve_left hm0
    have e1 := hle (m - 1) m (by omega) (by omega)
    have e2 : d[j]! ≤ d[m - 1]! := by
     by_cases hj2 : j = m - 1
     ·rw [hj2]; exact Int.le_refl _
     ·exact hle j (m - 1) (by omega) (by omega)
    omega
   ·rw [List.mem_append, List.mem_singleton, h2]
    constructor
    ·rintro (⟨j, hj, he⟩ | rfl)
     ·exact ⟨j, by omega, he⟩
     ·exact ⟨m, by omega, rfl⟩
    ·rintro ⟨j, hj, he⟩
     by_cases hjm : j = m
     ·subst hjm; exact .inr he.symm
     ·exact .inl ⟨j, by omega, he⟩
  ·rw [if_neg hk, List.append_nil]
   refine ⟨h1, fun z => ?_⟩
   rw [h2]
   constructor
   ·rintro ⟨j, hj, he⟩; exact ⟨j, by omega, he⟩
   ·rintro ⟨j, hj, he⟩
    by_cases hjm : j = m
    ·subst hjm
     have hk2 : ¬ (j = 0 ∨ d[j]! ≠ d[j - 1]!) := fun h => hk (decide_eq_true h)
     have hj0 : j ≠ 0 := fun h => hk2 (.inl h)
     have hj1 : d[j]! = d[j - 1]! := Classical.not_not.1 fun h => hk2 (.inr h)
     exact ⟨j - 1, by omega, by rw [← hj1]; exact he⟩
    ·exact ⟨j, by omega, he⟩
theorem Zjk {l : List Int} (hs : l.Pairwise (· ≤ ·)) : Asc (Go.Lib.compact l) := (Q0 (d := l.toArray) (by simpa using hs) l.length (by simp)).1
theorem Zjg {l : List Int} (hs : l.Pairwise (· ≤ ·)) (z : Int) : z ∈ Go.Lib.compact l ↔ z ∈ l := by
 rw [show (z ∈ Go.Lib.compact l) = (z ∈ Go.Lib.compactUpTo l.toArray l.length) from rfl, (Q0 (d := l.toArray) (by simpa using hs) l.length (by simp)).2 z, List.mem_iff_getElem]
 constructor
 ·rintro ⟨j, hj, he⟩
  exact ⟨j, hj, by rw [← he, getElem!_pos l.toArray j (by simpa using hj)]; simp⟩
 ·rintro ⟨j, hj, he⟩
  exact ⟨j, hj, by rw [getElem!_pos l.toArray j (by simpa using hj)]; simpa using he⟩
def Zqc (l : List Int) : List Int := Go.Lib.compact (XG l)
theorem Zk9 (l : List Int) : Asc (Zqc l) := Zjk (Qh l)
theorem Zir (l : List Int) (z : Int) : z ∈ Zqc l ↔ z ∈ l := by
 unfold Zqc
 rw [Zjg (Qh l), (YH l).mem_iff]
theorem St.shsSub {α : Type} {f : α → List HP} {zs zs' : List α} {g w : World} {L : List HP} (h : St g (Zn f zs :: L) w) (hs : ∀ z ∈ zs', z ∈ zs) : St g (Zn f zs' :: L) w := h.impl fun _ _ hh z hz => hh z (hs z hz)
theorem Zd5 {α : Type} {xs : List α} {v z : α} (h : z ∈ xs ++ [v]) : z ∈ v :: xs := by
 rcases List.mem_append.1 h with h | h
 ·exact List.mem_cons_of_mem _ h
 ·rw [List.mem_singleton.1 h]; exact List.mem_cons_self ..
def Y_ (xs : List VN) (n : Int) (ps : List Int) : List Int := [n] ++ ps.flatMap (YQ xs)
theorem Zex {xs : List VN} {n p : Int} {ps : List Int} {k : Nat} (h : ps[k]? = some p) : Y_ xs n (ps.take k) ++ YQ xs p = Y_ xs n (ps.take (k + 1)) := by
 unfold Y_
 rw [List.take_add_one, h, List.flatMap_append, List.append_assoc]
 simp
theorem Zcg {xs : List VN} {n : Int} (h : Zj xs n = true) : ∃ (k : Nat) (x : VN), xs[k]? = some x ∧ x.n = n ∧ x.live = true ∧ YQ xs n = x.ab := by
 cases hf : ZS xs n with
 | none => rw [(XI hf).1] at h; cases h
 | some x =>
  obtain ⟨h1, h2⟩ := ZK hf
  obtain ⟨k, hk⟩ := List.mem_iff_getElem?.1 h1
  obtain ⟨h3, _, h4⟩ := Qc hf
  exact ⟨k, x, hk, h2, h3 ▸ h, h4⟩
theorem Zas {xs : List VN} {v : VN} (hn : ∀ x ∈ xs, x.n ≠ v.n) (n : Int) : ZS (xs ++ [v]) n = if n = v.n then some v else ZS xs n := by
 unfold ZS
 rw [List.find?_append]
 by_cases h : n = v.n
 ·subst h
  rw [if_pos rfl, show xs.find? (fun x => decide (x.n = v.n)) = none from Yh hn]
  simp
 ·rw [if_neg h]
  cases hf : xs.find? (fun x => decide (x.n = n)) with
  | some x => rfl
  | none =>
   simp only [Option.none_or, List.find?_cons, List.find?_nil]
   rw [decide_eq_false (fun e => h e.symm)]
theorem GOk.add {xs : List VN} {q : Nat} (h : GOk xs q) {v : VN} {ps : List Int} (hn : ∀ x ∈ xs, x.n < v.n) (hr : 1 ≤ v.n ∧ v.n ≤ 1000000000) (hb : v.born = q) (hl : xs.length < 4096)
  (ha : Asc v.ab) (hm : ∀ z, z ∈ v.ab ↔ z ∈ Y_ xs v.n ps) : GOk (xs ++ [v]) (q + 1) := by
 have hne : ∀ x ∈ xs, x.n ≠ v.n := fun x hx e => by have := hn x hx; omega
 have hf := Zas hne
 have hold : ∀ z ∈ ps.flatMap (YQ xs), ∃ x ∈ xs, z ∈ x.ab := fun z hz => by
  obtain ⟨p, _, hz⟩ := List.mem_flatMap.1 hz
  cases hp : ZS xs p with
  | none => rw [(XI hp).2.2] at hz; cases hz
  | some x => rw [(Qc hp).2.2] at hz; exact ⟨x, (ZK hp).1, hz⟩
 have hm2 : ∀ z, z ∈ v.ab ↔ z = v.n ∨ z ∈ ps.flatMap (YQ xs) := fun z => by rw [hm]; simp [Y_]
 have hpre : ∀ z, ZF xs z = true → ZF (xs ++ [v]) z = true := fun z hz => by
  obtain ⟨x, hx, e⟩ := ZO.1 hz
  exact ZO.2 ⟨x, List.mem_append_left _ hx, e⟩
 have hlt : ∀ z, ZF xs z = true → z < v.n := fun z hz => by
  obtain ⟨x, hx, e⟩ := ZO.1 hz
  have := hn x hx; omega
 have hab : ∀ z, z ≠ v.n → YQ (xs ++ [v]) z = YQ xs z := fun z hz => by unfold YQ; rw [hf, if_neg hz]
 refine ⟨⟨?_, fun x hx => ?_, ?_, fun x hx => ?_, by simp; omega⟩, fun x hx => ?_, fun x hx => ?_, fun x hx z hz => ?_, fun x hx z hz => ?_, fun x hx z hz u hu => ?_⟩
 ·refine List.pairwise_append.2 ⟨h.uniq, List.pairwise_singleton _ _, fun a hax b hbx => ?_⟩
  simp only [List.mem_singleton] at hbx; subst hbx; exact hne a hax
 ·rcases List.mem_append.1 hx with hx | hx
  ·have := h.born x hx; omega
  ·simp only [List.mem_singleton] at hx; subst hx; omega
 ·rw [List.map_append, List.nodup_append]
  refine ⟨h.bnd, by simp, fun a ha b hb2 => ?_⟩
  obtain ⟨x, hx, rfl⟩ := List.mem_map.1 ha
  simp only [List.map_cons, List.map_nil, List.mem_singleton] at hb2
  have := h.born x hx; omega
 ·rcases List.mem_append.1 hx with hx | hx
  ·exact h.rng x hx
  ·simp only [List.mem_singleton] at hx; subst hx; exact hr
 ·rcases List.mem_append.1 hx with hx | hx
  ·exact h.asc x hx
  ·simp only [List.mem_singleton] at hx; subst hx; exact ha
 ·rcases List.mem_append.1 hx with hx | hx
  ·exact h.self x hx
  ·simp only [List.mem_singleton] at hx; subst hx; exact (hm2 _).2 (.inl rfl)
 ·rcases List.mem_append.1 hx with hx | hx
  ·exact h.le x hx z hz
  ·simp only [List.mem_singleton] at hx; subst hx
   rcases (hm2 z).1 hz with rfl | hz
   ·exact Int.le_refl _
   ·obtain ⟨y, hy, hzy⟩ := hold z hz
    have := h.le y hy z hzy
    have := hn y hy
    omega
 ·rcases List.mem_append.1 hx with hx | hx
  ·exact hpre z (h.pre x hx z hz)
  ·simp only [List.mem_singleton] at hx; subst hx
   rcases (hm2 z).1 hz with rfl | hz
   ·exact ZO.2 ⟨x, List.mem_append_right _ (List.mem_singleton.2 rfl), rfl⟩
   ·obtain ⟨y, hy, hzy⟩ := hold z hz
    exact hpre z (h.pre y hy z hzy)
 ·rcases List.mem_append.1 hx with hx | hx
  ·have h1 := hlt z (h.pre x hx z hz)
   rw [hab z (by omega)] at hu
   exact h.tr x hx z hz u hu
  ·simp only [List.mem_singleton] at hx; subst hx
   rcases (hm2 z).1 hz with rfl | hz
   ·unfold YQ at hu; rw [hf, if_pos rfl] at hu; exact hu
   ·obtain ⟨p, hp, hzp⟩ := List.mem_flatMap.1 hz
    cases hfp : ZS xs p with
    | none => rw [(XI hfp).2.2] at hzp; cases hzp
    | some y =>
     rw [(Qc hfp).2.2] at hzp
     have hy := (ZK hfp).1
     have h1 := hlt z (h.pre y hy z hzp)
     rw [hab z (by omega)] at hu
     refine (hm2 u).2 (.inr (List.mem_flatMap.2 ⟨p, hp, ?_⟩))
     rw [(Qc hfp).2.2]
     exact h.tr y hy z hzp u hu
end Go.V
namespace Go.V
open Go Go.RowKit
def YP (ns : List (Int × Nat)) (k : Int) : Bool := ns.any fun x => decide (x.1 = k)
theorem Qi {ns : List (Int × Nat)} {k : Int} : YP ns k = true ↔ ∃ x ∈ ns, x.1 = k := by
 unfold YP
 rw [List.any_eq_true]
 exact ⟨fun ⟨x, hx, h⟩ => ⟨x, hx, of_decide_eq_true h⟩, fun ⟨x, hx, h⟩ => ⟨x, hx, decide_eq_true h⟩⟩
theorem Zin {ns : List (Int × Nat)} (hu : BUq ns) (k : Int) : (∃ j : Nat, YP ns k = true ∧ (∃ b, ns[j]? = some (k, b)) ∧ Y9 (.int .i64) (.int .i64 k) (ns.map bK) = some (some (j, .bool true))) ∨ (YP ns k = false ∧ (∀ x ∈ ns, x.1 ≠ k) ∧ Y9 (.int .i64) (.int .i64 k) (ns.map bK) = some none) := by
 rcases Znn ns k with ⟨j, x, hx, rfl⟩ | hn
 ·exact .inl ⟨j, Qi.2 ⟨x, List.mem_of_getElem? hx, rfl⟩, ⟨x.2, hx⟩, b_in hx hu⟩
 ·refine .inr ⟨?_, hn, b_out hn⟩
  cases h : YP ns k with
  | false => rfl
  | true => obtain ⟨x, hx, he⟩ := Qi.1 h; exact absurd he (hn x hx)
section
variable {P : Program} {T : Tab} [hT : TabOk P T] {n : Nat} {os l : List Oper} {K : Kt} {F : Fm} {w g : World} {L : List HP} {t kt et : TypeId} {b c : Nat}
theorem WL.lkB {o : Oper} {x y : Operand} {k : Int} {ns : List (Int × Nat)} (hg : o.guard = none) (ho : o.op = .lookup t x y false) (hM : MapT P t kt (.int .i64) et (.bool false)) (i : Nat) (Z : St g L w) (hi : L[i]? = some (Zx b (.map (mE (ns.map bK)) c))) (hx : ev F x = .map (some b)) (hy : ev F y = .int .i64 k) (hu : BUq ns)
  (hk : WL P n os l K (ZQ F o.dst (.bool (YP ns k))) w) : WL P n os (o :: l) K F w := by
 rcases Zin hu k with ⟨j, h1, _, h3⟩ | ⟨h1, _, h3⟩
 ·exact WL.lk hg ho hM i Z hi hx hy rfl h3 (v := .bool (YP ns k)) (by rw [h1]; rfl) hk
 ·exact WL.lk hg ho hM i Z hi hx hy rfl h3 (v := .bool (YP ns k)) (by rw [h1]; rfl) hk
theorem WL.muB {o : Oper} {x y qq : Operand} {k : Int} {ns : List (Int × Nat)} (hg : o.guard = none) (hd : o.dst = none) (ho : o.op = .mapUpdate t x y qq) (hM : MapT P t kt (.int .i64) et (.bool false)) (i : Nat) (Z : St g L w) (hi : L[i]? = some (Zx b (.map (mE (ns.map bK)) c))) (hx : ev F x = .map (some b)) (hy : ev F y = .int .i64 k) (hq : ev F qq = .bool true) (hu : BUq ns)
  (hk : ∀ ns' q' w', BUq ns' → (∀ z, YP ns' z = true ↔ z = k ∨ YP ns z = true) → St g (L.set i (Zx b (.map (mE (List.map bK ns')) q'))) w' → WL P n os l K F w') : WL P n os (o :: l) K F w := by
 rcases Zin hu k with ⟨j, h1, ⟨bn, h2⟩, h3⟩ | ⟨h1, h2, h3⟩
 ·have hj : (ns.map bK)[j]? = some (.int .i64 k, .bool true, bn) := by rw [List.getElem?_map, h2]; rfl
  refine WL.muE hg hd ho hM i Z hi hx hy hq rfl h3 hj fun w' hS' => ?_
  have he : (ns.map bK).set j (.int .i64 k, .bool true, bn) = ns.map bK := by
   have hl := (List.getElem?_eq_some_iff.1 hj).1
   have e := (List.getElem?_eq_some_iff.1 hj).2
   rw [← e]; exact List.set_getElem_self _
  rw [he] at hS'
  exact hk ns c w' hu (fun z => ⟨.inr, fun h => h.elim (fun e => by rw [e]; exact h1) id⟩) hS'
 ·refine WL.muN hg hd ho hM i Z hi hx hy hq rfl h3 fun w' hS' => ?_
  have he : ns.map bK ++ [(.int .i64 k, .bool true, c)] = (ns ++ [(k, c)]).map bK := by simp [bK]
  rw [he] at hS'
  refine hk (ns ++ [(k, c)]) (c + 1) w' (List.pairwise_append.2 ⟨hu, List.pairwise_singleton _ _, fun a ha b hb => by simp only [List.mem_singleton] at hb; subst hb; exact h2 a ha⟩) (fun z => ?_) hS'
  rw [Qi, Qi]
  constructor
  ·rintro ⟨x, hx, he⟩
   rcases List.mem_append.1 hx with hx | hx
   ·exact .inr ⟨x, hx, he⟩
   ·simp only [List.mem_singleton] at hx; subst hx; exact .inl he.symm
  ·rintro (rfl | ⟨x, hx, he⟩)
   ·exact ⟨(z, c), by simp, rfl⟩
   ·exact ⟨x, List.mem_append_left _ hx, he⟩
end
def vw (xs : List VN) (z : Int) : Option (Bool × List Int) := (ZS xs z).map fun x => (x.live, x.ab)
theorem ZH (xs : List VN) (z : Int) : Zj xs z = ((vw xs z).map (·.1)).getD false := by
 unfold Zj vw; cases ZS xs z <;> rfl
theorem ZX (xs : List VN) (z : Int) : ZF xs z = (vw xs z).isSome := by
 unfold ZF vw; cases ZS xs z <;> rfl
theorem YF (xs : List VN) (z : Int) : YQ xs z = ((vw xs z).map (·.2)).getD [] := by
 unfold YQ vw; cases ZS xs z <;> rfl
theorem J4 {xs : List VN} {j : Nat} {u : VN} (hu : VUq xs) (hj : xs[j]? = some u) (x : VN) : x ∈ xs.eraseIdx j ↔ x ∈ xs ∧ x.n ≠ u.n := by
 induction xs generalizing j with
 | nil => simp at hj
 | cons y t ih =>
  have hp := List.pairwise_cons.1 hu
  cases j with
  | zero =>
   simp at hj; subst hj
   simp only [List.eraseIdx_cons_zero, List.mem_cons]
   constructor
   ·exact fun h => ⟨.inr h, fun e => hp.1 x h e.symm⟩
   ·rintro ⟨rfl | h, h2⟩
    ·exact absurd rfl h2
    ·exact h
  | succ j =>
   simp at hj
   have h1 := hp.1 u (List.mem_of_getElem? hj)
   simp only [List.eraseIdx_cons_succ, List.mem_cons, ih hp.2 hj]
   constructor
   ·rintro (rfl | ⟨h, h2⟩)
    ·exact ⟨.inl rfl, h1⟩
    ·exact ⟨.inr h, h2⟩
   ·rintro ⟨rfl | h, h2⟩
    ·exact .inl rfl
    ·exact .inr ⟨h, h2⟩
theorem VUq.find {xs : List VN} (hu : VUq xs) {z : Int} {x : VN} : ZS xs z = some x ↔ x ∈ xs ∧ x.n = z := ⟨ZK, fun ⟨h, e⟩ => by subst e; exact Zav h hu⟩
theorem Zj3 {xs : List VN} {j : Nat} {u : VN} (hu : VUq xs) (hj : xs[j]? = some u) (z : Int) : vw (xs.eraseIdx j) z = if z = u.n then none else vw xs z := by
 have hu2 : VUq (xs.eraseIdx j) := hu.sublist (List.eraseIdx_sublist xs j)
 unfold vw
 by_cases hz : z = u.n
 ·rw [if_pos hz]
  rw [Yh (fun x hx e => ((J4 hu hj x).1 hx).2 (by rw [e, hz]))]; rfl
 ·rw [if_neg hz]
  congr 1
  cases hf : ZS xs z with
  | none => exact Yh fun x hx e => Jj.1 hf x ((J4 hu hj x).1 hx).1 e
  | some x =>
   obtain ⟨h1, h2⟩ := ZK hf
   exact hu2.find.2 ⟨(J4 hu hj x).2 ⟨h1, fun e => hz (h2.symm.trans e)⟩, h2⟩
theorem VUq.set {xs : List VN} {j : Nat} {u u' : VN} (hu : VUq xs) (hj : xs[j]? = some u) (hn : u'.n = u.n) : VUq (xs.set j u') := by
 unfold VUq at hu ⊢
 rw [← List.pairwise_map (f := VN.n) (R := fun a b => a ≠ b)] at hu ⊢
 have hl := (List.getElem?_eq_some_iff.1 hj).1
 have he := (List.getElem?_eq_some_iff.1 hj).2
 have : (xs.set j u').map VN.n = xs.map VN.n := by
  rw [List.map_set, hn]
  have h5 : (xs.map VN.n)[j]'(by simpa using hl) = u.n := by simp [he]
  rw [← h5]; exact List.set_getElem_self _
 rw [this]; exact hu
theorem JC {xs : List VN} {j : Nat} {u u' : VN} (hu : VUq xs) (hj : xs[j]? = some u) (x : VN) : x ∈ xs.set j u' ↔ x = u' ∨ (x ∈ xs ∧ x.n ≠ u.n) := by
 induction xs generalizing j with
 | nil => simp at hj
 | cons y t ih =>
  have hp := List.pairwise_cons.1 hu
  cases j with
  | zero =>
   simp at hj; subst hj
   simp only [List.set_cons_zero, List.mem_cons]
   constructor
   ·rintro (h | h)
    ·exact .inl h
    ·exact .inr ⟨.inr h, fun e => hp.1 x h e.symm⟩
   ·rintro (h | ⟨rfl | h, h2⟩)
    ·exact .inl h
    ·exact absurd rfl h2
    ·exact .inr h
  | succ j =>
   simp at hj
   have h1 := hp.1 u (List.mem_of_getElem? hj)
   simp only [List.set_cons_succ, List.mem_cons, ih hp.2 hj]
   constructor
   ·rintro (rfl | h | ⟨h, h2⟩)
    ·exact .inr ⟨.inl rfl, h1⟩
    ·exact .inl h
    ·exact .inr ⟨.inr h, h2⟩
   ·rintro (h | ⟨rfl | h, h2⟩)
    ·exact .inr (.inl h)
    ·exact .inl rfl
    ·exact .inr (.inr ⟨h, h2⟩)
theorem Zik {xs : List VN} {j : Nat} {u u' : VN} (hu : VUq xs) (hj : xs[j]? = some u) (hn : u'.n = u.n) (z : Int) : vw (xs.set j u') z = if z = u.n then some (u'.live, u'.ab) else vw xs z := by
 have hu2 := hu.set hj hn
 unfold vw
 by_cases hz : z = u.n
 ·rw [if_pos hz, hu2.find.2 ⟨(JC hu hj u').2 (.inl rfl), hn.trans hz.symm⟩]; rfl
 ·rw [if_neg hz]
  congr 1
  cases hf : ZS xs z with
  | none =>
   refine Yh fun x hx e => ?_
   rcases (JC hu hj x).1 hx with rfl | ⟨h, _⟩
   ·exact hz (e.symm.trans hn)
   ·exact Jj.1 hf x h e
  | some x =>
   obtain ⟨h1, h2⟩ := ZK hf
   exact hu2.find.2 ⟨(JC hu hj x).2 (.inr ⟨h1, fun e => hz (h2.symm.trans e)⟩), h2⟩
theorem VOk.rem {xs : List VN} {q : Nat} (h : VOk xs q) (j : Nat) : VOk (xs.eraseIdx j) q := by
 have hs := List.eraseIdx_sublist xs j
 exact ⟨h.uniq.sublist hs, fun x hx => h.born x (hs.subset hx), h.bnd.sublist (hs.map _), fun x hx => h.rng x (hs.subset hx), Nat.le_trans hs.length_le h.num⟩
theorem VOk.set {xs : List VN} {q j : Nat} {u u' : VN} (h : VOk xs q) (hj : xs[j]? = some u) (hn : u'.n = u.n) (hb : u'.born = u.born) : VOk (xs.set j u') q := by
 have hm := List.mem_of_getElem? hj
 have hl := (List.getElem?_eq_some_iff.1 hj).1
 have he := (List.getElem?_eq_some_iff.1 hj).2
 have hmem : ∀ x ∈ xs.set j u', x = u' ∨ x ∈ xs := fun x hx => (List.mem_or_eq_of_mem_set hx).symm
 refine ⟨h.uniq.set hj hn, fun x hx => ?_, ?_, fun x hx => ?_, by rw [List.length_set]; exact h.num⟩
 ·rcases hmem x hx with rfl | hx
  ·rw [hb]; exact h.born u hm
  ·exact h.born x hx
 ·have : (xs.set j u').map VN.born = xs.map VN.born := by
   rw [List.map_set, hb]
   have h5 : (xs.map VN.born)[j]'(by simpa using hl) = u.born := by simp [he]
   rw [← h5]; exact List.set_getElem_self _
  rw [this]; exact h.bnd
 ·rcases hmem x hx with rfl | hx
  ·rw [hn]; exact h.rng u hm
  ·exact h.rng x hx
end Go.V
namespace Go.V
open Go Go.RowKit
def Zai (xs : List VN) (z : Int) : Prop := Zj xs z = true ∨ (0 < z ∧ ∃ x y, Zj xs x = true ∧ Zj xs y = true ∧ x < y ∧ ZL xs x y = z)
theorem Zl7 {f : Int → Bool} {ss : List Int} {k : Nat} {n : Int} (h : ss[k]? = some n) (hf : f n = false) : (ss.take (k + 1)).filter f = (ss.take k).filter f := by
 rw [List.take_add_one, h, List.filter_append]; simp [hf]
theorem Zn0 {f : Int → Bool} {ss : List Int} {k : Nat} {n : Int} (h : ss[k]? = some n) (hf : f n = true) : (ss.take (k + 1)).filter f = (ss.take k).filter f ++ [n] := by
 rw [List.take_add_one, h, List.filter_append]; simp [hf]
theorem Zhg {xs : List VN} {ns ns2 : List (Int × Nat)} {lv : List Int} {n : Int} (h1 : ∀ z, YP ns z = true ↔ z ∈ lv ∨ (0 < z ∧ ∃ x ∈ lv, ∃ y ∈ lv, x < y ∧ ZL xs x y = z)) (h2 : ∀ z, YP ns2 z = true ↔ z = n ∨ YP ns z = true ∨ (0 < z ∧ ∃ x ∈ lv, ZL xs x n = z)) (hlt : ∀ x ∈ lv, x < n) :
  ∀ z, YP ns2 z = true ↔ z ∈ lv ++ [n] ∨ (0 < z ∧ ∃ x ∈ lv ++ [n], ∃ y ∈ lv ++ [n], x < y ∧ ZL xs x y = z) := fun z => by
 rw [h2, h1]
 constructor
 ·rintro (rfl | (h | ⟨h, x, hx, y, hy, hxy, he⟩) | ⟨h, x, hx, he⟩)
  ·exact .inl (by simp)
  ·exact .inl (List.mem_append_left _ h)
  ·exact .inr ⟨h, x, List.mem_append_left _ hx, y, List.mem_append_left _ hy, hxy, he⟩
  ·exact .inr ⟨h, x, List.mem_append_left _ hx, n, by simp, hlt x hx, he⟩
 ·rintro (h | ⟨h, x, hx, y, hy, hxy, he⟩)
  ·rcases List.mem_append.1 h with h | h
   ·exact .inr (.inl (.inl h))
   ·exact .inl (List.mem_singleton.1 h)
  ·rcases List.mem_append.1 hx with hx | hx
   ·rcases List.mem_append.1 hy with hy | hy
    ·exact .inr (.inl (.inr ⟨h, x, hx, y, hy, hxy, he⟩))
    ·rw [List.mem_singleton.1 hy] at he; exact .inr (.inr ⟨h, x, hx, he⟩)
   ·rw [List.mem_singleton.1 hx] at hxy
    rcases List.mem_append.1 hy with hy | hy
    ·have := hlt y hy; omega
    ·rw [List.mem_singleton.1 hy] at hxy; omega
theorem Znf {xs : List VN} {a b ns : List (Int × Nat)} {lv : List Int} {n x : Int} {k : Nat} (h : ∀ z, YP a z = true ↔ z = n ∨ YP ns z = true ∨ (0 < z ∧ ∃ x ∈ lv.take k, ZL xs x n = z)) (hx : lv[k]? = some x) (hp : 0 < ZL xs x n) (h2 : ∀ z, YP b z = true ↔ z = ZL xs x n ∨ YP a z = true) :
  ∀ z, YP b z = true ↔ z = n ∨ YP ns z = true ∨ (0 < z ∧ ∃ x ∈ lv.take (k + 1), ZL xs x n = z) := fun z => by
 rw [h2, h, List.take_add_one, hx]
 constructor
 ·rintro (rfl | h | h | ⟨h, y, hy, he⟩)
  ·exact .inr (.inr ⟨hp, x, by simp, rfl⟩)
  ·exact .inl h
  ·exact .inr (.inl h)
  ·exact .inr (.inr ⟨h, y, List.mem_append_left _ hy, he⟩)
 ·rintro (h | h | ⟨h, y, hy, he⟩)
  ·exact .inr (.inl h)
  ·exact .inr (.inr (.inl h))
  ·rcases List.mem_append.1 hy with hy | hy
   ·exact .inr (.inr (.inr ⟨h, y, hy, he⟩))
   ·simp at hy; subst hy; exact .inl he.symm
theorem Zku {xs : List VN} {a ns : List (Int × Nat)} {lv : List Int} {n x : Int} {k : Nat} (h : ∀ z, YP a z = true ↔ z = n ∨ YP ns z = true ∨ (0 < z ∧ ∃ x ∈ lv.take k, ZL xs x n = z)) (hx : lv[k]? = some x) (hp : ¬ 0 < ZL xs x n) :
  ∀ z, YP a z = true ↔ z = n ∨ YP ns z = true ∨ (0 < z ∧ ∃ x ∈ lv.take (k + 1), ZL xs x n = z) := fun z => by
 rw [h, List.take_add_one, hx]
 constructor
 ·rintro (h | h | ⟨h, y, hy, he⟩)
  ·exact .inl h
  ·exact .inr (.inl h)
  ·exact .inr (.inr ⟨h, y, List.mem_append_left _ hy, he⟩)
 ·rintro (h | h | ⟨h, y, hy, he⟩)
  ·exact .inl h
  ·exact .inr (.inl h)
  ·rcases List.mem_append.1 hy with hy | hy
   ·exact .inr (.inr ⟨h, y, hy, he⟩)
   ·simp at hy; subst hy; omega
structure Keys (xs : List VN) (ss : List Int) : Prop where
 perm : ss.Perm (xs.map VN.n)
 asc : Asc ss
theorem Keys.le {xs : List VN} {ss : List Int} (h : Keys xs ss) : ss.Pairwise (· ≤ ·) := h.asc.imp fun h => by omega
theorem Keys.mem {xs : List VN} {ss : List Int} (h : Keys xs ss) (z : Int) : z ∈ ss ↔ ZF xs z = true := by
 rw [h.perm.mem_iff, ZO, List.mem_map]
theorem JF {xs : List VN} (hu : VUq xs) : ∃ ss, Keys xs ss := by
 refine ⟨XG (xs.map VN.n), YH _, ?_⟩
 have h1 : (XG (xs.map VN.n)).Nodup := (YH _).nodup_iff.2 (List.pairwise_map.2 hu)
 exact (List.pairwise_and_iff.2 ⟨Qh (xs.map VN.n), h1⟩).imp fun ⟨h, k⟩ => by omega
theorem Za5 {ss : List Int} (h : Asc ss) {k : Nat} {n : Int} (hn : ss[k]? = some n) : ∀ x ∈ ss.take k, x < n := fun x hx => by
 obtain ⟨i, hi⟩ := List.mem_iff_getElem?.1 hx
 rw [List.getElem?_take] at hi
 split at hi
 ·rename_i hlt
  have h1 := (List.getElem?_eq_some_iff.1 hi).1
  have h2 := (List.getElem?_eq_some_iff.1 hn).1
  have h3 := List.pairwise_iff_getElem.1 h i k h1 h2 hlt
  rw [(List.getElem?_eq_some_iff.1 hi).2, (List.getElem?_eq_some_iff.1 hn).2] at h3
  exact h3
 ·cases hi
theorem Zid {xs : List VN} {ss : List Int} {ns : List (Int × Nat)} (hK : Keys xs ss) (h : ∀ z, YP ns z = true ↔ z ∈ ss.filter (Zj xs) ∨ (0 < z ∧ ∃ x ∈ ss.filter (Zj xs), ∃ y ∈ ss.filter (Zj xs), x < y ∧ ZL xs x y = z)) : ∀ z, YP ns z = true ↔ Zai xs z := fun z => by
 have hm : ∀ z, z ∈ ss.filter (Zj xs) ↔ Zj xs z = true := fun z => by
  rw [List.mem_filter]
  exact ⟨fun h => h.2, fun h => ⟨(hK.mem z).2 (Ya h), h⟩⟩
 rw [h, hm]
 constructor
 ·rintro (h | ⟨h, x, hx, y, hy, hxy, he⟩)
  ·exact .inl h
  ·exact .inr ⟨h, x, y, (hm x).1 hx, (hm y).1 hy, hxy, he⟩
 ·rintro (h | ⟨h, x, y, hx, hy, hxy, he⟩)
  ·exact .inl h
  ·exact .inr ⟨h, x, (hm x).2 hx, y, (hm y).2 hy, hxy, he⟩
end Go.V
namespace Go.V
open Go Go.RowKit
structure GF (f : Int → Option (Bool × List Int)) : Prop where
 asc : ∀ z l a, f z = some (l, a) → Asc a
 self : ∀ z l a, f z = some (l, a) → z ∈ a
 le : ∀ z l a, f z = some (l, a) → ∀ u ∈ a, u ≤ z
 pre : ∀ z l a, f z = some (l, a) → ∀ u ∈ a, (f u).isSome = true
 tr : ∀ z l a, f z = some (l, a) → ∀ u ∈ a, ∀ l' a', f u = some (l', a') → ∀ t ∈ a', t ∈ a
theorem Zbi {xs : List VN} {z : Int} {l : Bool} {a : List Int} (h : vw xs z = some (l, a)) : ∃ x, ZS xs z = some x ∧ x.live = l ∧ x.ab = a := by
 unfold vw at h
 cases hf : ZS xs z with
 | none => rw [hf] at h; cases h
 | some x => rw [hf] at h; simp at h; exact ⟨x, rfl, h.1, h.2⟩
theorem Xt {xs : List VN} (hu : VUq xs) {x : VN} (hx : x ∈ xs) : vw xs x.n = some (x.live, x.ab) := by unfold vw; rw [Zav hx hu]; rfl
theorem GOk.gf {xs : List VN} {q : Nat} (h : GOk xs q) : GF (vw xs) := by
 refine ⟨fun z l a hz => ?_, fun z l a hz => ?_, fun z l a hz => ?_, fun z l a hz u hu => ?_, fun z l a hz u hu l' a' hu' t ht => ?_⟩
 all_goals obtain ⟨x, hx, rfl, rfl⟩ := Zbi hz
 all_goals obtain ⟨h1, h2⟩ := ZK hx
 ·exact h.asc x h1
 ·subst h2; exact h.self x h1
 ·subst h2; exact h.le x h1
 ·rw [← ZX]; exact h.pre x h1 u hu
 ·refine h.tr x h1 u hu t ?_
  rw [YF, hu']; exact ht
theorem GF.gok {xs : List VN} {q : Nat} (h : GF (vw xs)) (hv : VOk xs q) : GOk xs q := by
 refine ⟨hv, fun x hx => ?_, fun x hx => ?_, fun x hx => ?_, fun x hx z hz => ?_, fun x hx z hz u hu => ?_⟩
 ·exact h.asc _ _ _ (Xt hv.uniq hx)
 ·exact h.self _ _ _ (Xt hv.uniq hx)
 ·exact h.le _ _ _ (Xt hv.uniq hx)
 ·rw [ZX]; exact h.pre _ _ _ (Xt hv.uniq hx) z hz
 ·rw [YF] at hu
  cases hf : vw xs z with
  | none => rw [hf] at hu; cases hu
  | some p => rw [hf] at hu; exact h.tr _ _ _ (Xt hv.uniq hx) z hz p.1 p.2 hf u hu
def keep (N : Int → Bool) (f : Int → Option (Bool × List Int)) (z : Int) : Option (Bool × List Int) := if N z = true then (f z).map fun p => (p.1, p.2.filter N) else none
theorem JP {N : Int → Bool} {f : Int → Option (Bool × List Int)} {z : Int} {l : Bool} {a : List Int} (h : keep N f z = some (l, a)) : N z = true ∧ ∃ a0, f z = some (l, a0) ∧ a = a0.filter N := by
 unfold keep at h
 split at h
 ·rename_i hN
  cases hf : f z with
  | none => rw [hf] at h; cases h
  | some p => rw [hf] at h; simp at h; exact ⟨hN, p.2, by rw [← h.1], h.2.symm⟩
 ·cases h
theorem GF.keep {f : Int → Option (Bool × List Int)} (h : GF f) (N : Int → Bool) : GF (keep N f) := by
 refine ⟨fun z l a hz => ?_, fun z l a hz => ?_, fun z l a hz => ?_, fun z l a hz u hu => ?_, fun z l a hz u hu l' a' hu' t ht => ?_⟩
 all_goals obtain ⟨hN, a0, h0, rfl⟩ := JP hz
 ·exact (h.asc z l a0 h0).sublist List.filter_sublist
 ·exact List.mem_filter.2 ⟨h.self z l a0 h0, hN⟩
 ·exact fun u hu => h.le z l a0 h0 u (List.mem_filter.1 hu).1
 ·obtain ⟨h1, h2⟩ := List.mem_filter.1 hu
  have h3 := h.pre z l a0 h0 u h1
  unfold Go.V.keep
  rw [if_pos h2]
  cases hf : f u with
  | none => rw [hf] at h3; cases h3
  | some p => rfl
 ·obtain ⟨_, a1, h1, rfl⟩ := JP hu'
  obtain ⟨h2, h3⟩ := List.mem_filter.1 ht
  exact List.mem_filter.2 ⟨h.tr z l a0 h0 u (List.mem_filter.1 hu).1 l' a1 h1 t h2, h3⟩
def dead (f : Int → Option (Bool × List Int)) (n : Int) (z : Int) : Option (Bool × List Int) := if z = n then (f z).map fun p => (false, p.2) else f z
theorem JS {f : Int → Option (Bool × List Int)} {n z : Int} {l : Bool} {a : List Int} (h : dead f n z = some (l, a)) : ∃ l0, f z = some (l0, a) := by
 unfold dead at h
 split at h
 ·cases hf : f z with
  | none => rw [hf] at h; cases h
  | some p => rw [hf] at h; simp at h; exact ⟨p.1, by rw [← h.2]⟩
 ·exact ⟨l, h⟩
theorem Xm (f : Int → Option (Bool × List Int)) (n z : Int) : (dead f n z).isSome = (f z).isSome := by
 unfold dead; split
 ·cases f z <;> rfl
 ·rfl
theorem GF.dead {f : Int → Option (Bool × List Int)} (h : GF f) (n : Int) : GF (dead f n) := by
 refine ⟨fun z l a hz => ?_, fun z l a hz => ?_, fun z l a hz => ?_, fun z l a hz u hu => ?_, fun z l a hz u hu l' a' hu' t ht => ?_⟩
 all_goals obtain ⟨l0, h0⟩ := JS hz
 ·exact h.asc z l0 a h0
 ·exact h.self z l0 a h0
 ·exact h.le z l0 a h0
 ·rw [Xm]; exact h.pre z l0 a h0 u hu
 ·obtain ⟨l1, h1⟩ := JS hu'
  exact h.tr z l0 a h0 u hu l1 a' h1 t ht
def RelP (xs : List VN) (n : Int) (xs2 : List VN) : Prop := ∃ (xs1 : List VN) (N : Int → Bool), (∀ z, vw xs1 z = dead (vw xs) n z) ∧ (∀ z, N z = true ↔ Zai xs1 z) ∧ ∀ z, vw xs2 z = keep N (vw xs1) z
theorem Zi3 {xs : List VN} {k : Nat} {x : VN} (hu : VUq xs) (hx : xs[k]? = some x) : ∀ z, vw (xs.set k (VN.mk x.n false x.ab x.a x.c x.born)) z = dead (vw xs) x.n z := fun z => by
 rw [Zik (u' := VN.mk x.n false x.ab x.a x.c x.born) hu hx rfl]
 unfold dead
 split
 ·rename_i he; subst he; rw [Xt hu (List.mem_of_getElem? hx)]; rfl
 ·rfl
def JT (N : Int → Bool) (f : Int → Option (Bool × List Int)) (D : List Int) (z : Int) : Option (Bool × List Int) := if z ∈ D then keep N f z else f z
theorem Zlh {N : Int → Bool} {f : Int → Option (Bool × List Int)} {ss : List Int} {k : Nat} {n : Int} {cur : List VN} {j : Nat} {u : VN} (hu : VUq cur) (hj : cur[j]? = some u) (hn : u.n = n) (hk : ss[k]? = some n) (h : ∀ z, vw cur z = JT N f (ss.take k) z) (hN : N n = false) :
  ∀ z, vw (cur.eraseIdx j) z = JT N f (ss.take (k + 1)) z := fun z => by
 subst hn
 rw [Zj3 hu hj, h]
 unfold JT
 rw [List.take_add_one, hk]
 by_cases hz : z = u.n
 ·subst hz
  rw [if_pos rfl, if_pos (by simp)]
  unfold keep
  rw [if_neg (by rw [hN]; decide)]
 ·rw [if_neg hz]
  have : (z ∈ ss.take k ++ (some u.n).toList) ↔ z ∈ ss.take k := by simp [hz]
  by_cases hm : z ∈ ss.take k
  ·rw [if_pos hm, if_pos (this.2 hm)]
  ·rw [if_neg hm, if_neg (fun h => hm (this.1 h))]
theorem Zja {N : Int → Bool} {f : Int → Option (Bool × List Int)} {ss : List Int} {k : Nat} {n : Int} {cur : List VN} {j : Nat} {u u' : VN} (hu : VUq cur) (hj : cur[j]? = some u) (hn : u.n = n) (hk : ss[k]? = some n) (h : ∀ z, vw cur z = JT N f (ss.take k) z) (hN : N n = true) (hnk : n ∉ ss.take k) (hu1 : u'.n = u.n) (hu2 : u'.live = u.live) (hu3 : u'.ab = u.ab.filter N) :
  ∀ z, vw (cur.set j u') z = JT N f (ss.take (k + 1)) z := fun z => by
 subst hn
 have h0 := h u.n
 rw [Xt hu (List.mem_of_getElem? hj)] at h0
 unfold JT at h0
 rw [if_neg hnk] at h0
 rw [Zik hu hj hu1, h]
 unfold JT
 rw [List.take_add_one, hk]
 by_cases hz : z = u.n
 ·subst hz
  rw [if_pos rfl, if_pos (by simp)]
  unfold keep
  rw [if_pos hN, ← h0, hu2, hu3]; rfl
 ·rw [if_neg hz]
  have : (z ∈ ss.take k ++ (some u.n).toList) ↔ z ∈ ss.take k := by simp [hz]
  by_cases hm : z ∈ ss.take k
  ·rw [if_pos hm, if_pos (this.2 hm)]
  ·rw [if_neg hm, if_neg (fun h => hm (this.1 h))]
theorem Zjw {N : Int → Bool} {xs1 : List VN} {ss : List Int} (hK : Keys xs1 ss) (z : Int) : JT N (vw xs1) ss z = keep N (vw xs1) z := by
 unfold JT
 by_cases hm : z ∈ ss
 ·rw [if_pos hm]
 ·rw [if_neg hm]
  have h1 : vw xs1 z = none := by
   cases hv : vw xs1 z with
   | none => rfl
   | some p => exact absurd ((hK.mem z).2 (by rw [ZX, hv]; rfl)) hm
  unfold keep
  rw [h1]; split <;> rfl
theorem Zmn {N : Int → Bool} {xs1 cur : List VN} {ss : List Int} (hK : Keys xs1 ss) {k : Nat} {n : Int} (hn : ss[k]? = some n) (h : ∀ z, vw cur z = JT N (vw xs1) (ss.take k) z) : n ∉ ss.take k ∧ ∃ (j : Nat) (u : VN), cur[j]? = some u ∧ u.n = n ∧ vw xs1 n = some (u.live, u.ab) := by
 have h1 : n ∉ ss.take k := fun hm => by have := Za5 hK.asc hn n hm; omega
 refine ⟨h1, ?_⟩
 have h2 := h n
 unfold JT at h2
 rw [if_neg h1] at h2
 have h3 : (vw xs1 n).isSome = true := by rw [← ZX]; exact (hK.mem n).1 (List.mem_of_getElem? hn)
 rw [← h2] at h3
 cases hv : vw cur n with
 | none => rw [hv] at h3; cases h3
 | some p =>
  obtain ⟨x, hx, e1, e2⟩ := Zbi (l := p.1) (a := p.2) hv
  obtain ⟨hm, hxn⟩ := ZK hx
  obtain ⟨j, hj⟩ := List.mem_iff_getElem?.1 hm
  exact ⟨j, x, hj, hxn, by rw [← h2, hv, e1, e2]⟩
theorem St.shsMap {α : Type} {f : α → List HP} {zs zs' : List α} {g w : World} {L : List HP} (h : St g (Zn f zs :: L) w) (hs : ∀ z ∈ zs', ∃ y ∈ zs, f z = f y) : St g (Zn f zs' :: L) w := h.impl fun _ _ hh z hz => by
 obtain ⟨y, hy, e⟩ := hs z hz
 rw [e]; exact hh y hy
end Go.V
namespace Go.V
open Go Go.RowKit
def ZT (ps : List Int) : Prop := ps.length ≤ 2 ∧ ∀ x y, ps = [x, y] → x ≠ y
instance (ps : List Int) : Decidable (ZT ps) := match ps with
 | [] => isTrue ⟨by simp, fun _ _ h => by cases h⟩
 | [_] => isTrue ⟨by simp, fun _ _ h => by cases h⟩
 | [x, y] => if h : x = y then isFalse (fun k => k.2 x y rfl h) else isTrue ⟨by simp, fun _ _ e => by cases e; exact h⟩
 | _ :: _ :: _ :: _ => isFalse (fun k => by have := k.1; simp at this)
theorem YV {ps : List Int} (h : ZT ps) {x y : Int} (h0 : ps[0]? = some x) (h1 : ps[1]? = some y) : x ≠ y := by
 have hl := h.1
 match ps, hl, h0, h1 with
 | [], _, h0, _ => cases h0
 | [_], _, _, h1 => cases h1
 | [u, v], _, h0, h1 => simp at h0 h1; subst h0; subst h1; exact h.2 _ _ rfl
theorem Zgw {ps : List Int} (h : ¬ ZT ps) : 2 < ps.length ∨ ∃ x, ps = [x, x] := by
 match ps, h with
 | [], h => exact absurd ⟨by simp, fun _ _ h => by cases h⟩ h
 | [_], h => exact absurd ⟨by simp, fun _ _ h => by cases h⟩ h
 | [x, y], h =>
  by_cases he : x = y
  ·subst he; exact .inr ⟨x, rfl⟩
  ·exact absurd ⟨by simp, fun _ _ e => by cases e; exact he⟩ h
 | _ :: _ :: _ :: _, _ => exact .inl (by simp)
structure GI (xs : List VN) (q : Nat) (cap last : Int) : Prop where
 ok : GOk xs q
 le : ∀ x ∈ xs, x.n ≤ last
 la : 0 ≤ last
 cp : 1 ≤ cap ∧ cap ≤ 4096
def YG (xs : List VN) (cap : Int) (ps : List Int) : Int :=
 if ¬ ZT ps then 1 else if ¬ (∀ z ∈ ps, Zj xs z = true) then 4 else if cap ≤ xs.length then 2 else 0
def Zel (xs : List VN) (cap last : Int) (ps : List Int) : Int := if YG xs cap ps = 0 then last + 1 else 0
def AddP (xs : List VN) (cap last : Int) (ps : List Int) (xs2 : List VN) (last2 : Int) : Prop :=
 (YG xs cap ps ≠ 0 ∧ xs2 = xs ∧ last2 = last) ∨ (YG xs cap ps = 0 ∧ last2 = last + 1 ∧ ∃ vn : VN, xs2 = xs ++ [vn] ∧ vn.n = last + 1 ∧ vn.live = true ∧ Asc vn.ab ∧ ∀ z, z ∈ vn.ab ↔ z ∈ Y_ xs (last + 1) ps)
def Zhm (xs : List VN) (n : Int) : Int := if Zj xs n = true then 0 else 4
def RelQ (xs : List VN) (n : Int) (xs2 : List VN) : Prop := (Zj xs n = true ∧ RelP xs n xs2) ∨ (Zj xs n = false ∧ xs2 = xs)
theorem QB {xs : List VN} : ∀ {ps : List Int}, ¬ (∀ z ∈ ps, Zj xs z = true) → ∃ (i : Nat) (b : Int), ps[i]? = some b ∧ Zj xs b = false ∧ ∀ j, j < i → ∀ y, ps[j]? = some y → Zj xs y = true
 | [], h => absurd (fun _ hz => by cases hz) h
 | p :: ps, h => by
  cases hp : Zj xs p with
  | false => exact ⟨0, p, rfl, hp, fun j hj => by omega⟩
  | true =>
   obtain ⟨i, b, hi, hb, hlt⟩ := QB (ps := ps) fun h2 => h fun z hz => by
    rcases List.mem_cons.1 hz with rfl | hz
    ·exact hp
    ·exact h2 z hz
   refine ⟨i + 1, b, by simpa using hi, hb, fun j hj y hy => ?_⟩
   cases j with
   | zero => simp at hy; subst hy; exact hp
   | succ j => exact hlt j (by omega) y (by simpa using hy)
theorem JI {xs : List VN} {cap : Int} {ps : List Int} (h1 : ZT ps) (h2 : ∀ z ∈ ps, Zj xs z = true) (h3 : ¬ cap ≤ xs.length) : YG xs cap ps = 0 := by
 unfold YG
 rw [if_neg (fun h => h h1), if_neg (fun h => h h2), if_neg h3]
theorem Zk6 {xs : List VN} {ss : List Int} (h : ss.Perm (xs.map VN.n)) : ss.length = xs.length := by simpa using h.length_eq
theorem Zct {xs : List VN} {cap : Int} {ps : List Int} (h : YG xs cap ps = 0) : ZT ps ∧ (∀ z ∈ ps, Zj xs z = true) ∧ (xs.length : Int) < cap := by
 unfold YG at h
 split at h
 ·omega
 ·rename_i h1
  split at h
  ·omega
  ·rename_i h2
   split at h
   ·omega
   ·rename_i h3
    exact ⟨Classical.not_not.1 h1, Classical.not_not.1 h2, by omega⟩
theorem Zo6 {xs : List VN} {v : VN} (hn : ∀ x ∈ xs, x.n ≠ v.n) (z : Int) : vw (xs ++ [v]) z = if z = v.n then some (v.live, v.ab) else vw xs z := by
 unfold vw
 rw [Zas hn]
 split <;> rfl
theorem RelP.le {xs xs2 : List VN} {n last : Int} (hu : VUq xs2) (h : RelP xs n xs2) (hl : ∀ x ∈ xs, x.n ≤ last) : ∀ x ∈ xs2, x.n ≤ last := fun x hx => by
 obtain ⟨xs1, N, h1, _, h3⟩ := h
 have h4 := Xt hu hx
 rw [h3] at h4
 obtain ⟨_, a0, h5, _⟩ := JP h4
 rw [h1] at h5
 obtain ⟨l0, h6⟩ := JS h5
 obtain ⟨y, hy, _, _⟩ := Zbi h6
 obtain ⟨h7, h8⟩ := ZK hy
 rw [← h8]; exact hl y h7
theorem XV {l m : List Int} (hl : Asc l) (hm : Asc m) (h : ∀ z, z ∈ l ↔ z ∈ m) : l = m :=
 List.Perm.eq_of_pairwise (le := fun a b : Int => a ≤ b) (fun a b _ _ h1 h2 => by omega) (hl.imp fun h => by omega) (hm.imp fun h => by omega) ((List.perm_ext_iff_of_nodup hl.nodup hm.nodup).2 h)
theorem AddP.vw {xs xs2 : List VN} {cap last last2 : Int} {ps : List Int} (h : AddP xs cap last ps xs2 last2) (hl : ∀ x ∈ xs, x.n ≤ last) (h0 : YG xs cap ps = 0) : last2 = last + 1 ∧ xs2.length = xs.length + 1 ∧ ∃ ab, Asc ab ∧ (∀ z, z ∈ ab ↔ z ∈ Y_ xs (last + 1) ps) ∧ ∀ z, Go.V.vw xs2 z = if z = last + 1 then some (true, ab) else Go.V.vw xs z := by
 rcases h with ⟨h, _⟩ | ⟨_, h2, v, rfl, h4, h5, h6, h7⟩
 ·exact absurd h0 h
 ·refine ⟨h2, by simp, v.ab, h6, h7, fun z => ?_⟩
  rw [Zo6 (fun x hx e => by have := hl x hx; omega), h4, h5]
theorem AddP.bnd {xs xs2 : List VN} {cap last last2 : Int} {ps : List Int} (h : AddP xs cap last ps xs2 last2) : last ≤ last2 ∧ last2 ≤ last + 1 := by
 rcases h with ⟨_, _, h⟩ | ⟨_, h, _⟩ <;> omega
end Go.V
namespace Go.V
open Go Go.RowKit
def KO (xs : List VN) : Prop := ∀ z, ZF xs z = true → Zai xs z
theorem KO.nil : KO [] := fun z h => by cases h
theorem Yc {xs : List VN} {x y : Int} (hx : Zj xs x = true) (hy : Zj xs y = true) : ZL xs x y = gcm (YQ xs x) (YQ xs y) := by rw [ZL, if_pos ⟨hx, hy⟩]
theorem KO.add {xs xs2 : List VN} {cap last last2 : Int} {ps : List Int} (h : KO xs) (hl : ∀ x ∈ xs, x.n ≤ last) (ha : AddP xs cap last ps xs2 last2) : KO xs2 := by
 by_cases h0 : YG xs cap ps = 0
 ·obtain ⟨_, _, ab, _, _, hv⟩ := ha.vw hl h0
  have hlt : ∀ z, ZF xs z = true → z ≤ last := fun z hz => by
   obtain ⟨x, hx, e⟩ := ZO.1 hz
   rw [← e]; exact hl x hx
  have hlv : ∀ z, z ≠ last + 1 → Zj xs2 z = Zj xs z ∧ YQ xs2 z = YQ xs z := fun z hz => by rw [ZH, ZH, YF, YF, hv, if_neg hz]; exact ⟨rfl, rfl⟩
  intro z hz
  by_cases hn : z = last + 1
  ·subst hn; exact .inl (by rw [ZH, hv, if_pos rfl]; rfl)
  ·have hz1 : ZF xs z = true := by rw [ZX, hv, if_neg hn, ← ZX] at hz; exact hz
   rcases h z hz1 with h1 | ⟨h1, x, y, hx, hy, hxy, he⟩
   ·exact .inl (by rw [(hlv z hn).1]; exact h1)
   ·have nx : x ≠ last + 1 := by have := hlt x (Ya hx); omega
    have ny : y ≠ last + 1 := by have := hlt y (Ya hy); omega
    have lx : Zj xs2 x = true := by rw [(hlv x nx).1]; exact hx
    have ly : Zj xs2 y = true := by rw [(hlv y ny).1]; exact hy
    refine .inr ⟨h1, x, y, lx, ly, hxy, ?_⟩
    rw [Yc lx ly, (hlv x nx).2, (hlv y ny).2, ← Yc hx hy]; exact he
 ·rcases ha with ⟨_, rfl, _⟩ | ⟨h2, _⟩
  ·exact h
  ·exact absurd h2 h0
theorem Zaj {xs1 xs2 : List VN} {N : Int → Bool} (hG : GF (vw xs1)) (hpos : ∀ z, (vw xs1 z).isSome = true → 1 ≤ z) (hN : ∀ z, N z = true ↔ Zai xs1 z) (hv : ∀ z, vw xs2 z = keep N (vw xs1) z) :
  (∀ z, Zj xs2 z = Zj xs1 z) ∧ (∀ z, N z = true → YQ xs2 z = (YQ xs1 z).filter N) ∧ ∀ x y, x < y → Zj xs1 x = true → Zj xs1 y = true → ZL xs2 x y = ZL xs1 x y := by
 have hlv : ∀ z, Zj xs2 z = Zj xs1 z := fun z => by
  cases hN1 : N z with
  | true => rw [ZH, ZH, hv, keep, if_pos hN1]; cases vw xs1 z <;> rfl
  | false =>
   have h1 : Zj xs1 z = false := by
    cases hl : Zj xs1 z with
    | false => rfl
    | true => rw [(hN z).2 (.inl hl)] at hN1; cases hN1
   rw [h1, ZH, hv, keep, if_neg (by rw [hN1]; decide)]; rfl
 have hab : ∀ z, N z = true → YQ xs2 z = (YQ xs1 z).filter N := fun z h => by
  rw [YF, YF, hv, keep, if_pos h]
  cases vw xs1 z <;> rfl
 refine ⟨hlv, hab, fun x y hxy hx hy => ?_⟩
 have nx := (hN x).2 (.inl hx)
 have ny := (hN y).2 (.inl hy)
 have ax : Asc (YQ xs1 x) := by
  rw [YF]
  cases hf : vw xs1 x with
  | none => exact List.Pairwise.nil
  | some p => exact hG.asc x p.1 p.2 hf
 rw [Yc (by rw [hlv]; exact hx) (by rw [hlv]; exact hy), Yc hx hy, hab x nx, hab y ny]
 rcases X9 (l := YQ xs1 x) (m := YQ xs1 y) ax with ⟨h1, h2⟩ | ⟨h1, h2, h3⟩
 ·rw [h1]
  exact JO fun z hz hz2 => h2 z (List.mem_filter.1 hz).1 (List.mem_filter.1 hz2).1
 ·have hp : 0 < gcm (YQ xs1 x) (YQ xs1 y) ∨ ¬ 0 < gcm (YQ xs1 x) (YQ xs1 y) := by omega
  have hNb : N (gcm (YQ xs1 x) (YQ xs1 y)) = true ∨ gcm (YQ xs1 x) (YQ xs1 y) ≤ 0 := by
   rcases hp with hp | hp
   ·exact .inl ((hN _).2 (.inr ⟨hp, x, y, hx, hy, hxy, by rw [Yc hx hy]⟩))
   ·exact .inr (by omega)
  rcases hNb with hNb | hNb
  ·exact Jg (ax.sublist List.filter_sublist) (List.mem_filter.2 ⟨h1, hNb⟩) (List.mem_filter.2 ⟨h2, hNb⟩) fun z hz hz2 => h3 z (List.mem_filter.1 hz).1 (List.mem_filter.1 hz2).1
  ·exfalso
   generalize gcm (YQ xs1 x) (YQ xs1 y) = b at *
   rw [YF] at h1
   cases hf : vw xs1 x with
   | none => rw [hf] at h1; cases h1
   | some p =>
    rw [hf] at h1
    have h5 := hpos _ (hG.pre x p.1 p.2 hf _ h1)
    omega
theorem GOk.pos {xs : List VN} {q : Nat} (h : GOk xs q) (z : Int) (hz : (vw xs z).isSome = true) : 1 ≤ z := by
 rw [← ZX] at hz
 obtain ⟨x, hx, e⟩ := ZO.1 hz
 rw [← e]; exact (h.rng x hx).1
theorem RelP.facts {xs xs2 : List VN} {q : Nat} {n : Int} (hG : GOk xs q) (h : RelP xs n xs2) : (∀ z, Zj xs2 z = (Zj xs z && decide (z ≠ n))) ∧ (∀ z, ZF xs2 z = true → ZF xs z = true) ∧ KO xs2 := by
 obtain ⟨xs1, N, h1, h2, h3⟩ := h
 have hG1 : GF (vw xs1) := by rw [show vw xs1 = dead (vw xs) n from funext h1]; exact hG.gf.dead n
 have hpos : ∀ z, (vw xs1 z).isSome = true → 1 ≤ z := fun z hz => by rw [h1, Xm] at hz; exact hG.pos z hz
 obtain ⟨k1, k2, k3⟩ := Zaj hG1 hpos h2 h3
 have hlive : ∀ z, Zj xs1 z = (Zj xs z && decide (z ≠ n)) := fun z => by
  rw [ZH, ZH, h1, dead]
  by_cases hz : z = n
  ·rw [if_pos hz, decide_eq_false (fun h => h hz), Bool.and_false]
   cases vw xs z <;> rfl
  ·rw [if_neg hz, decide_eq_true hz, Bool.and_true]
 refine ⟨fun z => by rw [k1, hlive], fun z hz => ?_, fun z hz => ?_⟩
 ·rw [ZX, h3] at hz
  rw [ZX]
  unfold keep at hz
  split at hz
  ·cases hf : vw xs1 z with
   | none => rw [hf] at hz; cases hz
   | some p =>
    rw [← Xm (vw xs) n, ← h1, hf]; rfl
  ·cases hz
 ·rw [ZX, h3] at hz
  unfold keep at hz
  split at hz
  ·rename_i hN
   rcases (h2 z).1 hN with h | ⟨h, x, y, hx, hy, hxy, he⟩
   ·exact .inl (by rw [k1]; exact h)
   ·exact .inr ⟨h, x, y, by rw [k1]; exact hx, by rw [k1]; exact hy, hxy, by rw [k3 x y hxy hx hy]; exact he⟩
  ·cases hz
theorem KO.rel {xs xs2 : List VN} {q : Nat} {n : Int} (h : KO xs) (hG : GOk xs q) (hR : RelQ xs n xs2) : KO xs2 := by
 rcases hR with ⟨_, hR⟩ | ⟨_, rfl⟩
 ·exact (hR.facts hG).2.2
 ·exact h
theorem AddP.facts {xs xs2 : List VN} {cap last last2 : Int} {ps : List Int} (hl : ∀ x ∈ xs, x.n ≤ last) (ha : AddP xs cap last ps xs2 last2) : (YG xs cap ps ≠ 0 ∧ xs2 = xs ∧ last2 = last) ∨ (YG xs cap ps = 0 ∧ last2 = last + 1 ∧ ZF xs (last + 1) = false ∧ (∀ z, Zj xs2 z = (Zj xs z || decide (z = last + 1))) ∧ (∀ z, ZF xs2 z = (ZF xs z || decide (z = last + 1))) ∧ xs2.length = xs.length + 1) := by
 by_cases h0 : YG xs cap ps = 0
 ·obtain ⟨h1, h2, ab, _, _, hv⟩ := ha.vw hl h0
  have hn : ZF xs (last + 1) = false := by
   cases hp : ZF xs (last + 1) with
   | false => rfl
   | true =>
    obtain ⟨x, hx, e⟩ := ZO.1 hp
    have := hl x hx; omega
  refine .inr ⟨h0, h1, hn, fun z => ?_, fun z => ?_, h2⟩
  ·rw [ZH, ZH, hv]
   by_cases hz : z = last + 1
   ·rw [if_pos hz, decide_eq_true hz, Bool.or_true]; rfl
   ·rw [if_neg hz, decide_eq_false hz, Bool.or_false]
  ·rw [ZX, ZX, hv]
   by_cases hz : z = last + 1
   ·rw [if_pos hz, decide_eq_true hz, Bool.or_true]; rfl
   ·rw [if_neg hz, decide_eq_false hz, Bool.or_false]
 ·rcases ha with h | ⟨h2, _⟩
  ·exact .inl h
  ·exact absurd h2 h0
theorem RelQ.live {xs xs2 : List VN} {q : Nat} {n : Int} (hG : GOk xs q) (h : RelQ xs n xs2) {z : Int} (hz : Zj xs2 z = true) : Zj xs z = true ∧ z ≠ n := by
 rcases h with ⟨_, h⟩ | ⟨h, rfl⟩
 ·rw [(h.facts hG).1 z] at hz
  simp only [Bool.and_eq_true, decide_eq_true_eq] at hz
  exact hz
 ·exact ⟨hz, fun e => by rw [e, h] at hz; cases hz⟩
theorem RelQ.same {xs xs2 : List VN} {n : Int} (h : RelQ xs n xs2) (hl : Zj xs n = false) : xs2 = xs := by
 rcases h with ⟨h, _⟩ | ⟨_, h⟩
 ·rw [hl] at h; cases h
 ·exact h
theorem Zk3 {xs : List VN} {n : Int} (h : Zhm xs n = 0) : Zj xs n = true := by
 unfold Zhm at h
 split at h
 ·assumption
 ·omega
def Gon (xs : List VN) (la : Int) (gn : List Int) : Prop := ∀ v ∈ gn, Zj xs v = false ∧ v ≤ la
theorem Gon.rel {xs xs2 : List VN} {q : Nat} {n la : Int} {gn : List Int} (h : Gon xs la gn) (hG : GOk xs q) (hR : RelQ xs n xs2) : Gon xs2 la gn := fun v hv => by
 refine ⟨?_, (h v hv).2⟩
 cases hl : Zj xs2 v with
 | false => rfl
 | true => have := (hR.live hG hl).1; rw [(h v hv).1] at this; cases this
theorem Gon.snoc {xs xs2 : List VN} {q : Nat} {n cap la : Int} {gn : List Int} (h : Gon xs la gn) (hI : GI xs q cap la) (hR : RelQ xs n xs2) (h0 : Zhm xs n = 0) : Gon xs2 la (gn ++ [n]) := fun v hv => by
 rcases List.mem_append.1 hv with hv | hv
 ·exact h.rel hI.ok hR v hv
 ·rw [List.mem_singleton.1 hv]
  refine ⟨?_, ?_⟩
  ·cases hl : Zj xs2 n with
   | false => rfl
   | true => exact absurd rfl (hR.live hI.ok hl).2
  ·obtain ⟨x, hx, e⟩ := ZO.1 (Ya (Zk3 h0))
   rw [← e]; exact hI.le x hx
theorem Gon.add {xs xs2 : List VN} {q : Nat} {cap la la2 : Int} {ps gn : List Int} (h : Gon xs la gn) (hI : GI xs q cap la) (hA : AddP xs cap la ps xs2 la2) : Gon xs2 la2 gn := by
 rcases hA.facts hI.le with ⟨_, rfl, rfl⟩ | ⟨_, rfl, _, h4, _⟩
 ·exact h
 ·intro v hv
  obtain ⟨h5, h6⟩ := h v hv
  refine ⟨?_, by omega⟩
  rw [h4, h5, decide_eq_false (by omega)]; rfl
structure Cg where
 rel : Bool
 ver : Int
 ps : List Int
 a : Option Addr
 c : Nat
def cgC (z : Cg) : List Value := [.bool z.rel, .int .i64 z.ver, .slice z.a (Zb z.ps).length z.c]
def enG (l : List Cg) : List (List Value) := l.map cgC
@[simp] theorem enG_len (l : List Cg) : (enG l).length = l.length := by simp [enG]
abbrev Ir (n : Int) : Prop := -9223372036854775808 ≤ n ∧ n ≤ 9223372036854775807
structure CgOk (z : Cg) : Prop where
 ver : Ir z.ver
 ps : ∀ x ∈ z.ps, Ir x
end Go.V
namespace Go.V
open Go Go.RowKit
theorem Zma {xs : List VN} {q : Nat} (hG : GOk xs q) (n : Int) : ∀ z ∈ YQ xs n, 1 ≤ z ∧ ZF xs z = true := fun z hz => by
 cases hf : ZS xs n with
 | none => rw [(XI hf).2.2] at hz; cases hz
 | some x =>
  rw [(Qc hf).2.2] at hz
  have h1 := hG.pre x (ZK hf).1 z hz
  obtain ⟨y, hy, e⟩ := ZO.1 h1
  exact ⟨by rw [← e]; exact (hG.rng y hy).1, h1⟩
theorem Zaw {xs : List VN} {q : Nat} (hG : GOk xs q) {n : Int} (hl : Zj xs n = true) : ZL xs n n = n := by
 rw [Yc hl hl]
 obtain ⟨k, x, hx, hn, _, ha⟩ := Zcg hl
 have hm := List.mem_of_getElem? hx
 rw [ha]
 subst hn
 exact Jg (hG.asc x hm) (hG.self x hm) (hG.self x hm) fun z hz _ => hG.le x hm z hz
theorem Zg4 {xs : List VN} {q : Nat} (hG : GOk xs q) (x y : Int) : ZL xs y x = ZL xs x y := by
 unfold ZL
 by_cases h : Zj xs x = true ∧ Zj xs y = true
 ·rw [if_pos h, if_pos ⟨h.2, h.1⟩]; exact Zjs (hG.ascA y) (hG.ascA x)
 ·rw [if_neg h, if_neg (fun k => h ⟨k.2, k.1⟩)]
theorem Zdu {xs : List VN} {q : Nat} (hG : GOk xs q) {x y : Int} (h : ZL xs x y ≠ 0) : ZF xs (ZL xs x y) = true := by
 unfold ZL at h ⊢
 split at h
 ·rename_i hl
  rw [if_pos hl]
  rcases X9 (l := YQ xs x) (m := YQ xs y) (hG.ascA x) with ⟨h2, _⟩ | ⟨h2, _, _⟩
  ·exact absurd h2 h
  ·exact (Zma hG x _ h2).2
 ·exact absurd rfl h
end Go.V
namespace Go.V
open Go Go.RowKit Go.Maps Go.Sort
structure KOk {α : Type} (f : α → Value × Value × Nat) (n : α → Int) (xs : List α) (q : Nat) : Prop where
 key : ∀ x ∈ xs, (f x).1 = .int .i64 (n x)
 uniq : xs.Pairwise fun x y => n x ≠ n y
 born : ∀ x ∈ xs, (f x).2.2 < q
 bnd : (xs.map fun x => (f x).2.2).Nodup
 rng : ∀ x ∈ xs, -9223372036854775808 ≤ n x ∧ n x ≤ 9223372036854775807
 num : xs.length ≤ 4096
section
variable {P : Program} {k : TypeId} {α : Type} {f : α → Value × Value × Nat} {n : α → Int}
theorem Zna (xs : List α) (q : Nat) (h : KOk f n xs q) (hk : P.underlying k = some (.int .i64)) {w : World} {b : Nat} (hb : w.heap[b]? = some (.map (mE (xs.map f)) q)) :
  ∃ D : DataW Unit, w.ownsMap P k J9 b 4096 D ∧ Maps.size D = xs.length ∧ (intKeys D).Perm (xs.map n) := by
 have hrd : ∀ x : α, x ∈ xs → Go.WideElems.rd P k J9 ⟨(f x).1, (f x).2.1, (f x).2.2⟩ = some (.int .i64 (n x), .nil) := fun x hx => by
  have h1 := h.rng x hx
  have h2 : (Lit.int .i64 (n x)).wf = true := by
   have e1 : IntKind.i64.min = -9223372036854775808 := by decide
   have e2 : IntKind.i64.max = 9223372036854775807 := by decide
   simp only [Lit.wf, e1, e2, Bool.and_eq_true, decide_eq_true_eq]
   omega
  have h3 : keyOf P k (.int .i64 (n x)) = some (.int .i64 (n x)) := by simp [keyOf, hk, mapKey, h2]
  simp [Go.WideElems.rd, h.key x hx, h3, J9]
 have hF : Go.WideElems.Fit P k J9 (mE (xs.map f)) q := by
  refine ⟨by rw [XT, List.length_map]; exact Nat.le_trans h.num (by decide), ⟨?_, ?_, ?_⟩, ?_⟩
  ·intro x hx
   simp only [ZJ, List.map_map, List.mem_map] at hx
   obtain ⟨y, hy, rfl⟩ := hx
   exact h.born y hy
  ·rw [ZJ, List.map_map, List.map_map]
   exact h.bnd
  ·rw [ZJ, List.map_map, List.map_map]
   refine List.pairwise_map.2 (List.Pairwise.imp_of_mem (R := fun x y => n x ≠ n y) (fun {a b} ha hb' hne he => hne ?_) h.uniq)
   simp only [Function.comp_def, h.key a ha, h.key b hb'] at he
   exact (Value.int.inj he).2
  ·intro x hx
   simp only [ZJ, List.map_map, List.mem_map] at hx
   obtain ⟨y, hy, rfl⟩ := hx
   exact ⟨_, hrd y hy⟩
 refine ⟨_, ⟨_, _, hb, hF, by rw [XT, List.length_map]; exact h.num, rfl⟩, ?_, ?_⟩
 ·rw [Maps.size_eq, (WideShapes.sorted_perm _).length_eq]; simp
 ·refine ((WideShapes.sorted_perm _).map _).trans ?_
  rw [ZJ, List.map_map, List.map_map, List.map_map]
  refine List.Perm.of_eq (List.map_congr_left fun x hx => ?_)
  simp only [Function.comp_def, Go.WideElems.rg, hrd x hx, Option.getD_some, intOf]
theorem Zkp {xs : List α} (h : ∀ x ∈ xs, (f x).1 = .int .i64 (n x)) : ∀ x ∈ xs.map f, MapKept.IsKey (.int .i64) x.1 := fun x hx => by
 obtain ⟨y, hy, rfl⟩ := List.mem_map.1 hx
 rw [h y hy]; rfl
theorem Zgl {xs : List α} (h1 : ∀ x ∈ xs, (f x).1 = .int .i64 (n x)) (hu : xs.Pairwise fun x y => n x ≠ n y) {k : Nat} {x : α} (hx : xs[k]? = some x) : Y9 (.int .i64) (.int .i64 (n x)) (xs.map f) = some (some (k, (f x).2.1)) := by
 refine Jh (d := .int .i64) (k := .int .i64 (n x)) (b := (f x).2.2) rfl (Zkp h1) (by rw [List.getElem?_map, hx]; show some (f x) = _; rw [← h1 x (List.mem_of_getElem? hx)]) fun j hj y hy => ?_
 rw [List.getElem?_map] at hy
 cases hz : xs[j]? with
 | none => rw [hz] at hy; cases hy
 | some u =>
  rw [hz] at hy
  simp only [Option.map_some, Option.some.injEq] at hy
  subst hy
  intro he
  rw [h1 u (List.mem_of_getElem? hz)] at he
  have he2 : n u = n x := (Value.int.inj he).2
  have hl := (List.getElem?_eq_some_iff.1 hz).1
  have hl2 := (List.getElem?_eq_some_iff.1 hx).1
  refine List.pairwise_iff_getElem.1 hu j k hl hl2 hj ?_
  rw [(List.getElem?_eq_some_iff.1 hz).2, (List.getElem?_eq_some_iff.1 hx).2, he2]
theorem Zqb {xs : List α} (h1 : ∀ x ∈ xs, (f x).1 = .int .i64 (n x)) {m : Int} (h : ∀ x ∈ xs, n x ≠ m) : Y9 (.int .i64) (.int .i64 m) (xs.map f) = some none := by
 refine Jq (d := .int .i64) (k := .int .i64 m) rfl (Zkp h1) fun x hx => ?_
 obtain ⟨y, hy, rfl⟩ := List.mem_map.1 hx
 rw [h1 y hy]
 intro he
 exact h y hy (Value.int.inj he).2
theorem KOk.nil : KOk f n [] 0 := ⟨fun _ h => (by cases h), List.Pairwise.nil, fun _ h => (by cases h), List.nodup_nil, fun _ h => (by cases h), by simp⟩
theorem KOk.snoc {xs : List α} {q : Nat} (h : KOk f n xs q) {x : α} (hk : (f x).1 = .int .i64 (n x)) (hn : ∀ y ∈ xs, n y ≠ n x) (hb : (f x).2.2 = q) (hr : -9223372036854775808 ≤ n x ∧ n x ≤ 9223372036854775807) (hl : xs.length < 4096) : KOk f n (xs ++ [x]) (q + 1) := by
 refine ⟨fun y hy => ?_, ?_, fun y hy => ?_, ?_, fun y hy => ?_, by simp; omega⟩
 ·rcases List.mem_append.1 hy with hy | hy
  ·exact h.key y hy
  ·rw [List.mem_singleton.1 hy]; exact hk
 ·refine List.pairwise_append.2 ⟨h.uniq, List.pairwise_singleton _ _, fun a ha b hb' => ?_⟩
  rw [List.mem_singleton.1 hb']; exact hn a ha
 ·rcases List.mem_append.1 hy with hy | hy
  ·exact Nat.lt_succ_of_lt (h.born y hy)
  ·rw [List.mem_singleton.1 hy, hb]; exact Nat.lt_succ_self _
 ·rw [List.map_append]
  refine List.nodup_append.2 ⟨h.bnd, List.pairwise_singleton _ _, fun a ha b hb' e => ?_⟩
  rw [List.map_singleton, List.mem_singleton] at hb'
  obtain ⟨y, hy, rfl⟩ := List.mem_map.1 ha
  have := h.born y hy
  rw [e, hb', hb] at this; omega
 ·rcases List.mem_append.1 hy with hy | hy
  ·exact h.rng y hy
  ·rw [List.mem_singleton.1 hy]; exact hr
theorem KOk.erase {xs : List α} {q : Nat} (h : KOk f n xs q) (j : Nat) : KOk f n (xs.eraseIdx j) q := by
 have hs := List.eraseIdx_sublist xs j
 exact ⟨fun y hy => h.key y (hs.subset hy), h.uniq.sublist hs, fun y hy => h.born y (hs.subset hy), h.bnd.sublist (hs.map _), fun y hy => h.rng y (hs.subset hy), Nat.le_trans hs.length_le h.num⟩
theorem Q1 {xs : List α} {q : Nat} (h : KOk f n xs q) : ∃ ss : List Int, ss.Perm (xs.map n) ∧ (ss.Pairwise fun a b => a < b) ∧ ∀ z, z ∈ ss ↔ ∃ r ∈ xs, n r = z := by
 have hp : ((xs.map n).mergeSort fun x y => decide (x ≤ y)).Perm (xs.map n) := List.mergeSort_perm _ _
 have hs : ((xs.map n).mergeSort fun x y => decide (x ≤ y)).Pairwise (fun a b => decide (a ≤ b) = true) := List.pairwise_mergeSort (fun a b c h1 h2 => by simp at *; omega) (fun a b => by simp; omega) _
 have hd : (xs.map n).Nodup := List.pairwise_map.2 h.uniq
 refine ⟨_, hp, ?_, fun z => by rw [hp.mem_iff, List.mem_map]⟩
 have h1 := (hp.nodup_iff).2 hd
 refine List.Pairwise.imp (fun {a b} h => ?_) (List.Pairwise.and hs h1)
 have h2 := of_decide_eq_true h.1
 have h3 := h.2
 omega
theorem Jm {xs : List α} (hu : xs.Pairwise fun x y => n x ≠ n y) {j : Nat} {u : α} (hj : xs[j]? = some u) (x : α) : x ∈ xs.eraseIdx j ↔ x ∈ xs ∧ n x ≠ n u := by
 induction xs generalizing j with
 | nil => simp at hj
 | cons y ys ih =>
  obtain ⟨h1, h2⟩ := List.pairwise_cons.1 hu
  cases j with
  | zero =>
   simp only [List.getElem?_cons_zero, Option.some.injEq] at hj
   subst hj
   rw [List.eraseIdx_cons_zero, List.mem_cons]
   constructor
   ·intro hx; exact ⟨.inr hx, fun e => h1 x hx e.symm⟩
   ·rintro ⟨rfl | hx, hn⟩
    ·exact absurd rfl hn
    ·exact hx
  | succ j =>
   rw [List.getElem?_cons_succ] at hj
   rw [List.eraseIdx_cons_succ, List.mem_cons, List.mem_cons, ih h2 hj]
   constructor
   ·rintro (rfl | ⟨hx, hn⟩)
    ·exact ⟨.inl rfl, h1 u (List.mem_of_getElem? hj)⟩
    ·exact ⟨.inr hx, hn⟩
   ·rintro ⟨rfl | hx, hn⟩
    ·exact .inl rfl
    ·exact .inr ⟨hx, hn⟩
end
end Go.V
namespace Go.Proofs
open Go.Shelf
def Tryz.keysA_ren : Go.Shelf.Ren := ⟨fun | 7 => 194 | 10 => 221 | n => n, fun | 23 => 229 | 26 => 3 | 3 => 247 | 28 => 166 | 0 => 0 | 27 => 165 | 33 => 163 | 4 => 4 | n => n, fun | n => n⟩
theorem Tryz.keysA : Go.Proofs.SlLaysZI.n7 Tryz.prog Tryz.keysA_ren := {
 mixed := by kernel_rfl
 f7 := ⟨Tryz.f194.name, by decide, Tryz.func194.trans (congrArg some (by kernel_rfl))⟩
 f10 := ⟨Tryz.f221.name, by decide, Tryz.func221.trans (congrArg some (by kernel_rfl))⟩
 t0 := Tryz.underlying0
 a0 := Tryz.isAgg0
 z0 := Tryz.sizeOf0
 v0 := Tryz.zeroValue0
 t4 := Tryz.underlying4
 a4 := Tryz.isAgg4
 z4 := Tryz.sizeOf4
 v4 := Tryz.zeroValue4
 t23 := Tryz.underlying229
 a23 := Tryz.isAgg229
 z23 := Tryz.sizeOf229
 v23 := Tryz.zeroValue229
 t26 := Tryz.underlying3
 a26 := Tryz.isAgg3
 z26 := Tryz.sizeOf3
 v26 := Tryz.zeroValue3
 t27 := Tryz.underlying165
 a27 := Tryz.isAgg165
 z27 := Tryz.sizeOf165
 v27 := Tryz.zeroValue165
 t28 := Tryz.underlying166
 a28 := Tryz.isAgg166
 z28 := Tryz.sizeOf166
 v28 := Tryz.zeroValue166
 t33 := Tryz.underlying163
 a33 := Tryz.isAgg163
 z33 := Tryz.sizeOf163
 v33 := Tryz.zeroValue163 }
def Tryz.keysB_ren : Go.Shelf.Ren := ⟨fun | 7 => 78 | 10 => 147 | n => n, fun | 23 => 140 | 26 => 3 | 3 => 64 | 28 => 166 | 0 => 0 | 27 => 165 | 33 => 163 | 4 => 4 | n => n, fun | n => n⟩
theorem Tryz.keysB : Go.Proofs.SlLaysZI.n7 Tryz.prog Tryz.keysB_ren := {
 mixed := by kernel_rfl
 f7 := ⟨Tryz.f78.name, by decide, Tryz.func78.trans (congrArg some (by kernel_rfl))⟩
 f10 := ⟨Tryz.f147.name, by decide, Tryz.func147.trans (congrArg some (by kernel_rfl))⟩
 t0 := Tryz.underlying0
 a0 := Tryz.isAgg0
 z0 := Tryz.sizeOf0
 v0 := Tryz.zeroValue0
 t4 := Tryz.underlying4
 a4 := Tryz.isAgg4
 z4 := Tryz.sizeOf4
 v4 := Tryz.zeroValue4
 t23 := Tryz.underlying140
 a23 := Tryz.isAgg140
 z23 := Tryz.sizeOf140
 v23 := Tryz.zeroValue140
 t26 := Tryz.underlying3
 a26 := Tryz.isAgg3
 z26 := Tryz.sizeOf3
 v26 := Tryz.zeroValue3
 t27 := Tryz.underlying165
 a27 := Tryz.isAgg165
 z27 := Tryz.sizeOf165
 v27 := Tryz.zeroValue165
 t28 := Tryz.underlying166
 a28 := Tryz.isAgg166
 z28 := Tryz.sizeOf166
 v28 := Tryz.zeroValue166
 t33 := Tryz.underlying163
 a33 := Tryz.isAgg163
 z33 := Tryz.sizeOf163
 v33 := Tryz.zeroValue163 }
def Tryz.sortedA_ren : Go.Shelf.Ren := ⟨fun | 6 => 77 | 8 => 145 | 9 => 146 | 11 => 196 | 13 => 198 | 12 => 197 | 23 => 231 | 24 => 232 | 14 => 222 | 15 => 223 | 16 => 224 | 17 => 225 | 18 => 226 | 19 => 227 | 20 => 228 | 21 => 229 | 22 => 230 | 25 => 257 | 26 => 258 | 27 => 259 | 28 => 260 | 29 => 261 | 30 => 262 | 31 => 270 | n => n, fun | 26 => 3 | 28 => 166 | 24 => 56 | 0 => 0 | 3 => 3 | 37 => 299 | 48 => 64 | 50 => 23 | 4 => 4 | 40 => 328 | 39 => 327 | 45 => 332 | 5 => 5 | 9 => 9 | 51 => 356 | 55 => 360 | 57 => 367 | 58 => 368 | 33 => 163 | n => n, fun | n => n⟩
theorem Tryz.sortedA : Go.Proofs.SlLaysZI.n6 Tryz.prog Tryz.sortedA_ren := {
 mixed := by kernel_rfl
 f6 := ⟨Tryz.f77.name, by decide, Tryz.func77.trans (congrArg some (by kernel_rfl))⟩
 f8 := ⟨Tryz.f145.name, by decide, Tryz.func145.trans (congrArg some (by kernel_rfl))⟩
 f11 := ⟨Tryz.f196.name, by decide, Tryz.func196.trans (congrArg some (by kernel_rfl))⟩
 t0 := Tryz.underlying0
 a0 := Tryz.isAgg0
 z0 := Tryz.sizeOf0
 v0 := Tryz.zeroValue0
 t24 := Tryz.underlying56
 a24 := Tryz.isAgg56
 z24 := Tryz.sizeOf56
 v24 := Tryz.zeroValue56
 t26 := Tryz.underlying3
 a26 := Tryz.isAgg3
 z26 := Tryz.sizeOf3
 v26 := Tryz.zeroValue3
 t28 := Tryz.underlying166
 a28 := Tryz.isAgg166
 z28 := Tryz.sizeOf166
 v28 := Tryz.zeroValue166
 i26 := by kernel_rfl }
def Tryz.sortA_ren : Go.Shelf.Ren := ⟨fun | 5 => 146 | 8 => 198 | 7 => 197 | 19 => 231 | 20 => 232 | 10 => 222 | 11 => 223 | 12 => 224 | 13 => 225 | 14 => 226 | 15 => 227 | 16 => 228 | 17 => 229 | 18 => 230 | 30 => 257 | 31 => 258 | 32 => 259 | 33 => 260 | 34 => 261 | 35 => 262 | 40 => 270 | n => n, fun | 23 => 56 | 25 => 3 | 3 => 3 | 32 => 299 | 22 => 56 | 0 => 0 | 44 => 64 | 46 => 23 | 4 => 4 | 36 => 328 | 35 => 327 | 41 => 332 | 5 => 5 | 9 => 9 | 53 => 356 | 57 => 360 | 63 => 367 | 64 => 368 | n => n, fun | n => n⟩
theorem Tryz.sortA : Go.Proofs.SlLaysM.n5 Tryz.prog Tryz.sortA_ren := {
 mixed := by kernel_rfl
 f5 := ⟨Tryz.f146.name, by decide, Tryz.func146.trans (congrArg some (by kernel_rfl))⟩
 f7 := ⟨Tryz.f197.name, by decide, Tryz.func197.trans (congrArg some (by kernel_rfl))⟩
 f8 := Tryz.func198.trans (congrArg some (by kernel_rfl))
 f10 := ⟨Tryz.f222.name, by decide, Tryz.func222.trans (congrArg some (by kernel_rfl))⟩
 f11 := ⟨Tryz.f223.name, by decide, Tryz.func223.trans (congrArg some (by kernel_rfl))⟩
 f12 := ⟨Tryz.f224.name, by decide, Tryz.func224.trans (congrArg some (by kernel_rfl))⟩
 f13 := ⟨Tryz.f225.name, by decide, Tryz.func225.trans (congrArg some (by kernel_rfl))⟩
 f14 := ⟨Tryz.f226.name, by decide, Tryz.func226.trans (congrArg some (by kernel_rfl))⟩
 f15 := ⟨Tryz.f227.name, by decide, Tryz.func227.trans (congrArg some (by kernel_rfl))⟩
 f16 := ⟨Tryz.f228.name, by decide, Tryz.func228.trans (congrArg some (by kernel_rfl))⟩
 f17 := ⟨Tryz.f229.name, by decide, Tryz.func229.trans (congrArg some (by kernel_rfl))⟩
 f18 := ⟨Tryz.f230.name, by decide, Tryz.func230.trans (congrArg some (by kernel_rfl))⟩
 f19 := Tryz.func231.trans (congrArg some (by kernel_rfl))
 f20 := Tryz.func232.trans (congrArg some (by kernel_rfl))
 f30 := ⟨Tryz.f257.name, by decide, Tryz.func257.trans (congrArg some (by kernel_rfl))⟩
 f31 := Tryz.func258.trans (congrArg some (by kernel_rfl))
 f32 := Tryz.func259.trans (congrArg some (by kernel_rfl))
 f33 := ⟨Tryz.f260.name, by decide, Tryz.func260.trans (congrArg some (by kernel_rfl))⟩
 f34 := ⟨Tryz.f261.name, by decide, Tryz.func261.trans (congrArg some (by kernel_rfl))⟩
 f35 := ⟨Tryz.f262.name, by decide, Tryz.func262.trans (congrArg some (by kernel_rfl))⟩
 f40 := ⟨Tryz.f270.name, by decide, Tryz.func270.trans (congrArg some (by kernel_rfl))⟩
 t0 := Tryz.underlying0
 a0 := Tryz.isAgg0
 z0 := Tryz.sizeOf0
 v0 := Tryz.zeroValue0
 t3 := Tryz.underlying3
 a3 := Tryz.isAgg3
 z3 := Tryz.sizeOf3
 v3 := Tryz.zeroValue3
 t4 := Tryz.underlying4
 a4 := Tryz.isAgg4
 z4 := Tryz.sizeOf4
 v4 := Tryz.zeroValue4
 t5 := Tryz.underlying5
 a5 := Tryz.isAgg5
 z5 := Tryz.sizeOf5
 v5 := Tryz.zeroValue5
 t9 := Tryz.underlying9
 a9 := Tryz.isAgg9
 z9 := Tryz.sizeOf9
 v9 := Tryz.zeroValue9
 t22 := Tryz.underlying56
 a22 := Tryz.isAgg56
 z22 := Tryz.sizeOf56
 v22 := Tryz.zeroValue56
 t23 := Tryz.underlying56
 a23 := Tryz.isAgg56
 z23 := Tryz.sizeOf56
 v23 := Tryz.zeroValue56
 t25 := Tryz.underlying3
 a25 := Tryz.isAgg3
 z25 := Tryz.sizeOf3
 v25 := Tryz.zeroValue3
 t32 := Tryz.underlying299
 a32 := Tryz.isAgg299
 z32 := Tryz.sizeOf299
 v32 := Tryz.zeroValue299
 t35 := Tryz.underlying327
 a35 := Tryz.isAgg327
 z35 := Tryz.sizeOf327
 v35 := Tryz.zeroValue327
 t36 := Tryz.underlying328
 a36 := Tryz.isAgg328
 z36 := Tryz.sizeOf328
 v36 := Tryz.zeroValue328
 t41 := Tryz.underlying332
 a41 := Tryz.isAgg332
 z41 := Tryz.sizeOf332
 v41 := Tryz.zeroValue332
 t44 := Tryz.underlying64
 a44 := Tryz.isAgg64
 z44 := Tryz.sizeOf64
 v44 := Tryz.zeroValue64
 t46 := Tryz.underlying23
 a46 := Tryz.isAgg23
 z46 := Tryz.sizeOf23
 v46 := Tryz.zeroValue23
 t53 := Tryz.underlying356
 a53 := Tryz.isAgg356
 z53 := Tryz.sizeOf356
 v53 := Tryz.zeroValue356
 t57 := Tryz.underlying360
 a57 := Tryz.isAgg360
 z57 := Tryz.sizeOf360
 v57 := Tryz.zeroValue360
 t63 := Tryz.underlying367
 a63 := Tryz.isAgg367
 z63 := Tryz.sizeOf367
 v63 := Tryz.zeroValue367
 t64 := Tryz.underlying368
 a64 := Tryz.isAgg368
 z64 := Tryz.sizeOf368
 v64 := Tryz.zeroValue368 }
def Tryz.compactA_ren : Go.Shelf.Ren := ⟨fun | 43 => 219 | n => n, fun | 22 => 56 | 23 => 3 | 3 => 3 | 4 => 4 | 0 => 0 | n => n, fun | n => n⟩
theorem Tryz.compactA : Go.Proofs.SlLaysN.n43 Tryz.prog Tryz.compactA_ren := {
 mixed := by kernel_rfl
 f43 := ⟨Tryz.f219.name, by decide, Tryz.func219.trans (congrArg some (by kernel_rfl))⟩
 t0 := Tryz.underlying0
 a0 := Tryz.isAgg0
 z0 := Tryz.sizeOf0
 v0 := Tryz.zeroValue0
 t3 := Tryz.underlying3
 a3 := Tryz.isAgg3
 z3 := Tryz.sizeOf3
 v3 := Tryz.zeroValue3
 t4 := Tryz.underlying4
 a4 := Tryz.isAgg4
 z4 := Tryz.sizeOf4
 v4 := Tryz.zeroValue4
 t22 := Tryz.underlying56
 a22 := Tryz.isAgg56
 z22 := Tryz.sizeOf56
 v22 := Tryz.zeroValue56
 t23 := Tryz.underlying3
 a23 := Tryz.isAgg3
 z23 := Tryz.sizeOf3
 v23 := Tryz.zeroValue3
 i23 := by kernel_rfl }
def Tryz.delA_ren : Go.Shelf.Ren := ⟨fun | 10 => 143 | 6 => 195 | n => n, fun | 22 => 56 | 23 => 3 | 25 => 163 | 3 => 3 | 4 => 4 | 0 => 0 | n => n, fun | n => n⟩
theorem Tryz.delA : Go.Proofs.SlLaysH.n10 Tryz.prog Tryz.delA_ren := {
 mixed := by kernel_rfl
 f6 := ⟨Tryz.f195.name, by decide, Tryz.func195.trans (congrArg some (by kernel_rfl))⟩
 f10 := ⟨Tryz.f143.name, by decide, Tryz.func143.trans (congrArg some (by kernel_rfl))⟩
 t0 := Tryz.underlying0
 a0 := Tryz.isAgg0
 z0 := Tryz.sizeOf0
 v0 := Tryz.zeroValue0
 t3 := Tryz.underlying3
 a3 := Tryz.isAgg3
 z3 := Tryz.sizeOf3
 v3 := Tryz.zeroValue3
 t4 := Tryz.underlying4
 a4 := Tryz.isAgg4
 z4 := Tryz.sizeOf4
 v4 := Tryz.zeroValue4
 t22 := Tryz.underlying56
 a22 := Tryz.isAgg56
 z22 := Tryz.sizeOf56
 v22 := Tryz.zeroValue56
 a23 := Tryz.isAgg3
 z23 := Tryz.sizeOf3
 t25 := Tryz.underlying163
 a25 := Tryz.isAgg163
 z25 := Tryz.sizeOf163
 v25 := Tryz.zeroValue163 }
end Go.Proofs
namespace Go.Proofs
open Go.RowKit Go.Maps Go.Sort Go.Shelf
theorem Tryz.sortsA (m : Nat) : AnyZI.SortsIn Tryz.prog Tryz.sortedA_ren Fence.wide m :=
 ⟨fun Zx off cap ss W hH hblk hsz => callsIn_wide.2 (AnyM.slices_Sort_int Tryz.sortA Zx off cap ss W hH hblk hsz),
 fun p cap W => callsIn_wide.2 (AnyM.slices_Sort_int_none Tryz.sortA p cap W)⟩
end Go.Proofs
namespace Go.Proofs.YtbeacjcmdijdmaaGreat
open Go Go.V Go.RowKit Go.Maps Go.Sort Go.Shelf
theorem Qk {g w : World} {L : List HP} (p m : Nat) (cap last : Int) (xs : List VN) (q : Nat) (k : Nat) (x : VN) (hx : xs[k]? = some x) (hu : VUq xs) (Z : St g (Ze p #[.int .i64 cap, .int .i64 last, .map (some m)] 231 :: Zx m (.map (mE (List.map vK xs)) q) :: Zn vF xs :: L) w) :
  Sp Tryz.prog 139 [.pointer (some ⟨p, 0, none⟩), .int .i64 x.n] w (fun v w' => v = .bool x.live ∧ St g (Ze p #[.int .i64 cap, .int .i64 last, .map (some m)] 231 :: Zx m (.map (mE (List.map vK xs)) q) :: Zn vF xs :: L) w') := by
 refine Sp.enter Tryz.func139 rfl (by kernel_rfl) (by kernel_rfl) ?_
 refine WC.seq <| WC.region <| WL.r 1 rfl <| WL.nil <| WC.seq <| WC.region <| WL.run 5 [.map (some m)] rfl (by exact Z.ld 0 rfl rfl) ?_
 refine WL.lk rfl rfl Yo 1 Z rfl rfl rfl (by first | trivial | rfl) (r := some (k, .agg #[.bool x.live, .slice x.a (Zb x.ab).length x.c])) (Q8 hx hu) rfl ?_
 refine WL.r 2 rfl <| WL.nil <| WC.ret ?_
 refine ⟨[.bool x.live], rfl, ?_⟩
 exact ⟨rfl, Z⟩
theorem Zjl {g w : World} {L : List HP} (p m : Nat) (cap last : Int) (xs : List VN) (q : Nat) (n : Int) (hn : ∀ x ∈ xs, x.n ≠ n) (Z : St g (Ze p #[.int .i64 cap, .int .i64 last, .map (some m)] 231 :: Zx m (.map (mE (List.map vK xs)) q) :: Zn vF xs :: L) w) :
  Sp Tryz.prog 139 [.pointer (some ⟨p, 0, none⟩), .int .i64 n] w (fun v w' => v = .bool false ∧ St g (Ze p #[.int .i64 cap, .int .i64 last, .map (some m)] 231 :: Zx m (.map (mE (List.map vK xs)) q) :: Zn vF xs :: L) w') := by
 refine Sp.enter Tryz.func139 rfl (by kernel_rfl) (by kernel_rfl) ?_
 refine WC.seq <| WC.region <| WL.r 1 rfl <| WL.nil <| WC.seq <| WC.region <| WL.run 5 [.map (some m)] rfl (by exact Z.ld 0 rfl rfl) ?_
 refine WL.lk rfl rfl Yo 1 Z rfl rfl rfl (by first | trivial | rfl) (r := none) (Zkt hn) rfl ?_
 refine WL.r 2 rfl <| WL.nil <| WC.ret ?_
 refine ⟨[.bool false], rfl, ?_⟩
 exact ⟨rfl, Z⟩
theorem Ys {g w : World} {L : List HP} (p m : Nat) (cap last : Int) (xs : List VN) (q : Nat) (n : Int) (hu : VUq xs) (Z : St g (Ze p #[.int .i64 cap, .int .i64 last, .map (some m)] 231 :: Zx m (.map (mE (List.map vK xs)) q) :: Zn vF xs :: L) w) :
  Sp Tryz.prog 139 [.pointer (some ⟨p, 0, none⟩), .int .i64 n] w (fun v w' => v = .bool (Zj xs n) ∧ St g (Ze p #[.int .i64 cap, .int .i64 last, .map (some m)] 231 :: Zx m (.map (mE (List.map vK xs)) q) :: Zn vF xs :: L) w') := by
 rcases Qf xs n with ⟨k, x, hx, rfl⟩ | hn
 ·rw [(Qc (XN hx hu)).1]; exact Qk p m cap last xs q k x hx hu Z
 ·rw [(XI (Yh hn)).1]; exact Zjl p m cap last xs q n hn Z
theorem Zps {g w : World} {L : List HP} (p m : Nat) (cap last : Int) (xs : List VN) (q : Nat) (k : Nat) (x : VN) (hx : xs[k]? = some x) (hu : VUq xs) (Z : St g (Ze p #[.int .i64 cap, .int .i64 last, .map (some m)] 231 :: Zx m (.map (mE (List.map vK xs)) q) :: Zn vF xs :: L) w) :
  Sp Tryz.prog 76 [.pointer (some ⟨p, 0, none⟩), .int .i64 x.n] w (fun v w' => v = .bool true ∧ St g (Ze p #[.int .i64 cap, .int .i64 last, .map (some m)] 231 :: Zx m (.map (mE (List.map vK xs)) q) :: Zn vF xs :: L) w') := by
 refine Sp.enter Tryz.func76 rfl (by kernel_rfl) (by kernel_rfl) ?_
 refine WC.seq <| WC.region <| WL.r 1 rfl <| WL.nil <| WC.seq <| WC.region <| WL.run 5 [.map (some m)] rfl (by exact Z.ld 0 rfl rfl) ?_
 refine WL.lk rfl rfl Yo 1 Z rfl rfl rfl (by first | trivial | rfl) (r := some (k, .agg #[.bool x.live, .slice x.a (Zb x.ab).length x.c])) (Q8 hx hu) rfl ?_
 refine WL.r 3 rfl <| WL.new rfl rfl Qv Z (fun b1 w Z => ?_)
 refine WL.stF rfl rfl rfl 0 Z rfl rfl rfl rfl rfl Zbv (fun w Z => ?_)
 replace Z := Z.n4 L (a0 := Ze b1 #[.bool x.live, .slice x.a (Zb x.ab).length x.c] 247) rfl
 refine WL.r 1 rfl <| WL.nil <| WC.seq <| WC.region <| WL.r 2 rfl <| WL.nil <| WC.ret ?_
 refine ⟨[.bool true], rfl, ?_⟩
 replace Z := (Z.sel 1 [] rfl)
 exact ⟨rfl, Z⟩
theorem Zm3 {g w : World} {L : List HP} (p m : Nat) (cap last : Int) (xs : List VN) (q : Nat) (n : Int) (hn : ∀ x ∈ xs, x.n ≠ n) (Z : St g (Ze p #[.int .i64 cap, .int .i64 last, .map (some m)] 231 :: Zx m (.map (mE (List.map vK xs)) q) :: Zn vF xs :: L) w) :
  Sp Tryz.prog 76 [.pointer (some ⟨p, 0, none⟩), .int .i64 n] w (fun v w' => v = .bool false ∧ St g (Ze p #[.int .i64 cap, .int .i64 last, .map (some m)] 231 :: Zx m (.map (mE (List.map vK xs)) q) :: Zn vF xs :: L) w') := by
 refine Sp.enter Tryz.func76 rfl (by kernel_rfl) (by kernel_rfl) ?_
 refine WC.seq <| WC.region <| WL.r 1 rfl <| WL.nil <| WC.seq <| WC.region <| WL.run 5 [.map (some m)] rfl (by exact Z.ld 0 rfl rfl) ?_
 refine WL.lk rfl rfl Yo 1 Z rfl rfl rfl (by first | trivial | rfl) (r := none) (Zkt hn) rfl ?_
 refine WL.r 3 rfl <| WL.new rfl rfl Qv Z (fun b1 w Z => ?_)
 refine WL.stF rfl rfl rfl 0 Z rfl rfl rfl rfl rfl Zbv (fun w Z => ?_)
 replace Z := Z.n4 L (a0 := Ze b1 #[.bool false, .slice none 0 0] 247) rfl
 refine WL.r 1 rfl <| WL.nil <| WC.seq <| WC.region <| WL.r 2 rfl <| WL.nil <| WC.ret ?_
 refine ⟨[.bool false], rfl, ?_⟩
 replace Z := (Z.sel 1 [] rfl)
 exact ⟨rfl, Z⟩
theorem Zif {g w : World} {L : List HP} (p m : Nat) (cap last : Int) (xs : List VN) (q : Nat) (n : Int) (hu : VUq xs) (Z : St g (Ze p #[.int .i64 cap, .int .i64 last, .map (some m)] 231 :: Zx m (.map (mE (List.map vK xs)) q) :: Zn vF xs :: L) w) :
  Sp Tryz.prog 76 [.pointer (some ⟨p, 0, none⟩), .int .i64 n] w (fun v w' => v = .bool (ZF xs n) ∧ St g (Ze p #[.int .i64 cap, .int .i64 last, .map (some m)] 231 :: Zx m (.map (mE (List.map vK xs)) q) :: Zn vF xs :: L) w') := by
 rcases Qf xs n with ⟨k, x, hx, rfl⟩ | hn
 ·rw [(Qc (XN hx hu)).2.1]; exact Zps p m cap last xs q k x hx hu Z
 ·rw [(XI (Yh hn)).2.1]; exact Zm3 p m cap last xs q n hn Z
theorem Ziz {g w : World} {L : List HP} (ls : List Int) (a : Option Addr) (c : Nat) (hl : ls.length ≤ 1000000) (Z : St g (Sh 3 1 (Zb ls) a c :: L) w) :
  Sp Tryz.prog 144 [.slice a (Zb ls).length c] w (fun v w' => ∃ (a2 : Option Addr) (c2 : Nat), v = .slice a2 (Zb ls).length c2 ∧ St g (Zf 3 1 (Zb ls) a2 c2 :: Sh 3 1 (Zb ls) a c :: L) w') := by
 refine Sp.enter Tryz.func144 rfl (by kernel_rfl) (by kernel_rfl) ?_
 have _ := hl
 refine WC.seq <| WC.region <| WL.r 1 rfl <| WL.nil <| WC.seq <| WC.seq <| WC.region <| WL.r 1 rfl <| WL.eqN rfl rfl el_56 rfl rfl <| WL.nil <| WC.if_ rfl (fun cd1 => ?_) (fun cd1 => ?_)
 ·refine WC.seq <| WC.region <| WL.r 1 rfl <| WL.nil <| WC.ret ?_
  refine ⟨[.slice none 0 0], rfl, ?_⟩
  replace Z := Z.nil_ 3 1
  cases a with
  | some _ => cases cd1
  | none =>
   have h0 : ls = [] := by simpa [Zb] using Z.nilLS 1 rfl
   subst h0; exact ⟨_, _, rfl, Z⟩
 ·refine WC.skip <| WC.seq <| WC.region <| WL.lit rfl rfl ([]) el_56 Z (by exact trivial) (by simp [OkE, Value.oneCell']) rfl (Nat.le_of_ble_eq_true rfl) (fun b1 w Z => ?_)
  refine WL.r 1 rfl <| WL.app rfl rfl 0 (Zb ls) el_56 Z rfl (Z.srcS 1 rfl) (List.nil_append _) (Rm.of (by first | omega | (simp <;> omega)) (by decide)) rfl rfl (fun a1 c1 w Z => ?_)
  replace Z := Z.n2 L (a0 := Zf 3 1 (Zb ls) a1 c1) rfl
  refine WL.r 1 rfl <| WL.nil <| WC.ret ?_
  refine ⟨[.slice a1 (Zb ls).length c1], rfl, ?_⟩
  exact ⟨_, _, rfl, Z⟩
theorem Zhc {g w : World} {L : List HP} (m : Nat) (Z : St g (L) w) :
  Sp Tryz.prog 194 [.map (some m)] w (fun v w' => ∃ (c : Nat), v = .func (.func 221) #[] #[.pointer (some ⟨c, 0, none⟩)] ∧ St g (Ze c #[.map (some m)] 229 :: L) w') := by
 have h := callsIn_wide.1 (AnyZI.keys_in Tryz.keysA Fence.wide 5 trivial rfl (some m) w)
 refine ⟨⟨_, _, Tryz.func194, by kernel_rfl, rfl⟩, h.mono fun e w' ⟨he, hw⟩ => ⟨_, he, ?_⟩⟩
 subst hw
 exact ⟨_, rfl, Z.new _⟩
theorem Zdo {g w : World} {L : List HP} (m c q : Nat) (xs : List VN) (ss : List Int) (ht : VOk xs q) (hp : ss.Perm (xs.map VN.n)) (hs : ss.Pairwise (· ≤ ·)) (Z : St g (Ze c #[.map (some m)] 229 :: Zx m (.map (mE (List.map vK xs)) q) :: L) w) :
  Sp Tryz.prog 77 [.func (.func 221) #[] #[.pointer (some ⟨c, 0, none⟩)]] w (fun v w' => ∃ (a2 : Option Addr) (c2 : Nat), v = .slice a2 (Zb ss).length c2 ∧ St g (Zf 3 1 (Zb ss) a2 c2 :: Ze c #[.map (some m)] 229 :: Zx m (.map (mE (List.map vK xs)) q) :: L) w') := by
 have hc : w.cell? ⟨c, 0, none⟩ = some (.map (some m)) := Z.ld 0 rfl rfl
 have hcl : c < w.heap.size := by
  have h1 := Z.heap 0 rfl
  exact (Array.getElem?_eq_some_iff.1 h1).1
 have hm := Z.heap 1 rfl
 obtain ⟨D, hD, hsz, hk⟩ := Zkq (P := Tryz.prog) (k := 3) xs q ht Tryz.underlying3 hm
 have hseq := AnyZI.keys_gives (ρ := Tryz.keysA_ren) { Tryz.keysA with } Fence.wide 2 trivial rfl (by omega) c m 4096 D w hcl hc hD
 have h := callsIn_wide.1 (AnyZI.sorted_in Tryz.sortedA Fence.wide 5 trivial trivial trivial trivial rfl (by omega) (Tryz.sortsA _) (enters_of Tryz.func146 (by kernel_rfl) rfl) 221 #[.pointer (some ⟨c, 0, none⟩)] trivial (enters_of Tryz.func221 (by kernel_rfl) rfl) _ _ (by rw [hsz]; exact Nat.le_trans ht.num (by decide)) (by rw [hsz]; have := ht.num; omega) w hseq)
 refine ⟨⟨_, _, Tryz.func77, by kernel_rfl, rfl⟩, h.mono fun e w' ⟨v, ys, he, hys, hrow, _, hb⟩ => ⟨v, he, ?_⟩⟩
 have hpp : ss.Perm ys := hp.trans (hys.trans hk).symm
 obtain ⟨a, c2, rfl, hS2⟩ := St.of_row (Zb ss) Z hb hrow (by rw [QR hpp hs, X7]) (by simpa using hpp.length_eq) (Z9 ss)
 exact ⟨a, c2, rfl, hS2⟩
theorem JU {g w : World} {L : List HP} (p m : Nat) (cap last : Int) (xs : List VN) (q : Nat) (ss : List Int) (ht : VOk xs q) (hp : ss.Perm (xs.map VN.n)) (hs : ss.Pairwise (· ≤ ·)) (Z : St g (Ze p #[.int .i64 cap, .int .i64 last, .map (some m)] 231 :: Zx m (.map (mE (List.map vK xs)) q) :: Zn vF xs :: L) w) :
  Sp Tryz.prog 142 [.pointer (some ⟨p, 0, none⟩)] w (fun v w' => ∃ (a2 : Option Addr) (c2 : Nat), v = .slice a2 (Zb ss).length c2 ∧ St g (Zf 3 1 (Zb ss) a2 c2 :: Ze p #[.int .i64 cap, .int .i64 last, .map (some m)] 231 :: Zx m (.map (mE (List.map vK xs)) q) :: Zn vF xs :: L) w') := by
 refine Sp.enter Tryz.func142 rfl (by kernel_rfl) (by kernel_rfl) ?_
 refine WC.seq <| WC.region <| WL.r 1 rfl <| WL.nil <| WC.seq <| WC.region <| WL.run 4 [.map (some m)] rfl (by exact Z.ld 0 rfl rfl) ?_
 refine WL.call rfl rfl (Zhc (m := m)  (Z := Z)) rfl ?_
 clear Z; rintro _ w ⟨c1, rfl, Z⟩
 replace Z := Z.n4 L (a0 := Ze c1 #[.map (some m)] 229) rfl
 refine WL.call rfl rfl (Zdo (q := q) (xs := xs) (ss := ss) (ht := ht) (hp := hp) (hs := hs) (Z := (Z.sel 3 [0, 1, 0] rfl))) rfl ?_
 clear Z; rintro _ w ⟨a1, c2, rfl, Z⟩
 replace Z := Z.n5 L (a0 := Zf 3 1 (Zb ss) a1 c2) rfl
 refine WL.r 1 rfl <| WL.nil <| WC.ret ?_
 refine ⟨[.slice a1 (Zb ss).length c2], rfl, ?_⟩
 replace Z := (Z.sel 4 [0, 2, 1] rfl)
 exact ⟨_, _, rfl, Z⟩
theorem Zg1 {g w : World} {L : List HP} (ls ss : List Int) (a : Option Addr) (c : Nat) (hne : ls ≠ []) (hl : ls.length ≤ 1000000) (hp : ss.Perm ls) (hs : ss.Pairwise (· ≤ ·)) (Z : St g (Zf 3 1 (Zb ls) a c :: L) w) :
  Sp Tryz.prog 146 [.slice a (Zb ls).length c] w (fun v w' => v = .tuple #[] ∧ St g (Zf 3 1 (Zb ss) a c :: L) w') := by
 obtain ⟨b, rfl⟩ := Z.addrI 0 rfl hne
 obtain ⟨hH, hb, hcap⟩ := Z.holdsI 0 rfl
 have h := AnyM.slices_Sort_int Tryz.sortA b 0 c ls w hH hb (by omega)
 rw [← Zh ls] at h
 refine ⟨⟨_, _, Tryz.func146, by kernel_rfl, rfl⟩, h.mono fun e w' ⟨he, n, os, hw⟩ => ⟨_, he, rfl, ?_⟩⟩
 subst hw
 rw [QR hp hs]
 exact Z.putI ss hp.length_eq n os
theorem Zcm {g w : World} {L : List HP} (ls : List Int) (a : Option Addr) (c : Nat) (hne : ls ≠ []) (hl : ls.length ≤ 1000000) (Z : St g (Zf 3 1 (Zb ls) a c :: L) w) :
  Sp Tryz.prog 219 [.slice a (Zb ls).length c] w (fun v w' => v = .slice a (Zb (Lib.compact ls)).length c ∧ St g (Zf 3 1 (Zb (Lib.compact ls)) a c :: L) w') := by
 obtain ⟨b, rfl⟩ := Z.addrI 0 rfl hne
 obtain ⟨hH, hb, hcap⟩ := Z.holdsI 0 rfl
 have h := AnyG.slices_Compact_int Tryz.compactA b 0 c ls w hH (by omega) hcap
 rw [← Zh ls] at h
 refine ⟨⟨_, _, Tryz.func219, by kernel_rfl, rfl⟩, h.mono fun e w' ⟨he, n, hw⟩ => ⟨_, he, by rw [Zh], ?_⟩⟩
 subst hw
 have hcl := Zcw ls
 have h2 := Z.putI (Lib.compact ls ++ List.replicate (ls.length - (Lib.compact ls).length) 0) (by simp; omega) n #[]
 rw [Zh]
 have h3 := h2.ownTake (Lib.compact ls).length
 rw [Zab, List.take_left] at h3
 simpa using h3
end Go.Proofs.YtbeacjcmdijdmaaGreat
namespace Go.Proofs.YtbeacjcmdijdmaaGreat
open Go Go.V
set_option maxHeartbeats 1000000 in
theorem Zmw {g w : World} {L : List HP} (p m : Nat) (cap last : Int) (xs : List VN) (q : Nat) (k1 k2 : Nat) (x y : VN) (hx : xs[k1]? = some x) (hy : xs[k2]? = some y) (hu : VUq xs) (hlx : x.live = true) (hly : y.live = true) (hax : Asc x.ab) (hay : Asc y.ab) (hbx : x.ab.length ≤ 1000000) (hby : y.ab.length ≤ 1000000) (Z : St g (Ze p #[.int .i64 cap, .int .i64 last, .map (some m)] 231 :: Zx m (.map (mE (List.map vK xs)) q) :: Zn vF xs :: L) w) :
  Sp Tryz.prog 83 [.pointer (some ⟨p, 0, none⟩), .int .i64 x.n, .int .i64 y.n] w (fun v w' => v = .int .i64 (gcm x.ab y.ab) ∧ St g (Ze p #[.int .i64 cap, .int .i64 last, .map (some m)] 231 :: Zx m (.map (mE (List.map vK xs)) q) :: Zn vF xs :: L) w') := by
 refine Sp.enter Tryz.func83 rfl (by kernel_rfl) (by kernel_rfl) ?_
 have _ := hby
 have _ := hbx
 refine WC.seq <| WC.region <| WL.r 1 rfl <| WL.nil <| WC.seq <| WC.seq <| WC.region <| WL.r 2 rfl <| WL.call rfl rfl (Qk (cap := cap) (last := last) (q := q) (k := k1) (x := x) (hx := hx) (hu := hu) (Z := Z)) rfl ?_
 clear Z; rintro _ w ⟨rfl, Z⟩
 replace Z := Z.n3 L rfl
 refine WL.r 1 rfl <| WL.r 1 rfl <| WL.reb 15 (.bool false) (congrArg Value.bool (Bool.eq_false_iff.2 ((by rw [hlx]; decide)))) ?_
 refine WL.ung rfl rfl rfl <| WL.r 1 rfl <| WL.ung rfl rfl rfl <| WL.r 1 rfl <| WL.ung rfl rfl rfl <| WL.call rfl rfl (Qk (cap := cap) (last := last) (q := q) (k := k2) (x := y) (hx := hy) (hu := hu) (Z := Z)) rfl ?_
 clear Z; rintro _ w ⟨rfl, Z⟩
 replace Z := Z.n3 L rfl
 refine WL.ung rfl rfl rfl <| WL.r 1 rfl <| WL.r 1 rfl <| WL.nil ?_
 as_aux_lemma =>
 refine WC.ifF rfl (by rw [hly]; rfl) ?_
 refine WC.skip <| WC.seq <| WC.plan [([0, 4, 7, 11, 1, 8, 2, 9, 3, 10, 5, 12, 6, 13, 14, 15], none)] (by kernel_rfl) (by kernel_rfl) ?_
 replace Z : St g (Sh 3 1 (Zb x.ab) x.a x.c :: Ze p #[.int .i64 cap, .int .i64 last, .map (some m)] 231 :: Zx m (.map (mE (List.map vK xs)) q) :: Zn vF xs :: L) w := Z.shsGet 2 rfl (List.mem_of_getElem? hx)
 replace Z : St g (Sh 3 1 (Zb y.ab) y.a y.c :: Sh 3 1 (Zb x.ab) x.a x.c :: Ze p #[.int .i64 cap, .int .i64 last, .map (some m)] 231 :: Zx m (.map (mE (List.map vK xs)) q) :: Zn vF xs :: L) w := Z.shsGet 3 rfl (List.mem_of_getElem? hy)
 refine WQ.run 10 [.map (some m), .map (some m)] rfl (by exact ⟨Z.ld 2 rfl rfl, Z.ld 2 rfl rfl⟩) ?_
 refine WQ.lk rfl rfl Yo 3 Z rfl rfl rfl (by first | trivial | rfl) (r := some (k1, .agg #[.bool x.live, .slice x.a (Zb x.ab).length x.c])) (Q8 hx hu) rfl ?_
 refine WQ.lk rfl rfl Yo 3 Z rfl rfl rfl (by first | trivial | rfl) (r := some (k2, .agg #[.bool y.live, .slice y.a (Zb y.ab).length y.c])) (Q8 hy hu) rfl ?_
 refine WQ.r 4 rfl <| WQ.nil ?_
 intro m1
 replace Z := Z.drewN m1; generalize hwm1 : World.drewN _ _ = w at *; clear hwm1
 refine WC.seq <| WC.seq <| WC.region ?_
 have h1l := Zh x.ab; have h2l := Zh y.ab
 refine WL.r 3 rfl <| WL.nw 37 rfl (Zr (by omega)) ?_
 refine WL.r 3 rfl <| WL.nw 40 rfl (Zr (by omega)) ?_
 refine WL.r 2 rfl <| WL.nil <| WC.block <| WC.loop [7, 8, 9, 10] (fun kM vs w => ∃ (ni nj : Nat), vs = [.slice x.a (Zb x.ab).length x.c, .slice y.a (Zb y.ab).length y.c, .int .i64 ((ni : Int) - 1), .int .i64 ((nj : Int) - 1)] ∧ St g (Sh 3 1 (Zb y.ab) y.a y.c :: Sh 3 1 (Zb x.ab) x.a x.c :: Ze p #[.int .i64 cap, .int .i64 last, .map (some m)] 231 :: Zx m (.map (mE (List.map vK xs)) q) :: Zn vF xs :: L) w ∧ (ni ≤ x.ab.length) ∧ (nj ≤ y.ab.length) ∧ (∀ z ∈ x.ab, z ∈ y.ab → z ∈ List.take ni x.ab ∧ z ∈ List.take nj y.ab) ∧ (ni + nj) = kM) ((Zb x.ab).length + (Zb y.ab).length) ⟨(Zb x.ab).length, (Zb y.ab).length, rfl, Z, (Nat.le_of_eq h1l), (Nat.le_of_eq h2l), (fun z h1 h2 => ⟨by rw [h1l, List.take_length]; exact h1, by rw [h2l, List.take_length]; exact h2⟩), rfl⟩ ?_
 clear Z; rintro _ _ w j ⟨ni, nj, rfl, Z, hi, hj, hc, rfl⟩
 refine WC.seq <| WC.seq <| WC.region ?_
 have h1l := Zh x.ab; have h2l := Zh y.ab
 refine WL.r 2 rfl <| WL.rG 4 rfl (fun j => ?_)
 refine WL.prop 46 rfl (Qd (dd _) (dd _)) <| WL.nil ?_
 as_aux_lemma =>
 refine WC.ifP rfl (fun cd1 => ?_) (fun cd1 => ?_)
 ·refine WC.skip <| WC.block <| WC.block <| WC.seq <| WC.plan [([0, 1, 4, 5, 2, 6, 3, 7, 8, 9], none)] (by kernel_rfl) (by kernel_rfl) ?_
  obtain ⟨u, hu1⟩ : ∃ u, x.ab[ni - 1]? = some u := ⟨_, List.getElem?_eq_getElem (by omega)⟩; obtain ⟨v, hv1⟩ : ∃ v, y.ab[nj - 1]? = some v := ⟨_, List.getElem?_eq_getElem (by omega)⟩
  have ei : ni - 1 + 1 = ni := by omega
  have ej : nj - 1 + 1 = nj := by omega
  refine WQ.r 4 rfl <| WQ.ix rfl rfl (i := (ni : Int) - 1) (ni - 1) el_56 rfl rfl (by omega) (by omega) (Z.rdS 1 rfl (Zd hu1)).1 ?_
  refine WQ.ix rfl rfl (i := (nj : Int) - 1) (nj - 1) el_56 rfl rfl (by omega) (by omega) (Z.rdS 0 rfl (Zd hv1)).1 ?_
  refine WQ.run 4 [.int .i64 u, .int .i64 v] rfl (by exact ⟨(Z.rdS 1 rfl (Zd hu1)).2 0 _ rfl, (Z.rdS 0 rfl (Zd hv1)).2 0 _ rfl⟩) ?_
  refine WQ.nil ?_
  intro m2
  replace Z := Z.drewN m2; generalize hwm2 : World.drewN _ _ = w at *; clear hwm2
  refine WC.ifP rfl (fun cd2 => ?_) (fun cd2 => ?_)
  ·refine WC.seq <| WC.region <| WL.r 2 rfl <| WL.ix rfl rfl (i := (ni : Int) - 1) (ni - 1) el_56 rfl rfl (by omega) (by omega) (Z.rdS 1 rfl (Zd hu1)).1 ?_
   refine WL.run 2 [.int .i64 u] rfl (by exact (Z.rdS 1 rfl (Zd hu1)).2 0 _ rfl) ?_
   refine WL.nil <| WC.ret ?_
   refine ⟨[.int .i64 u], rfl, ?_⟩
   replace Z := (Z.sel 2 [] rfl)
   exact ⟨congrArg (Value.int .i64) (Jg hax (List.mem_of_getElem? hu1) (by rw [cd2]; exact List.mem_of_getElem? hv1) (fun z h1 h2 => Zcc hax hu1 (by rw [ei]; exact (hc z h1 h2).1))).symm, Z⟩
  ·refine WC.seq <| WC.plan [([0, 1, 4, 5, 2, 6, 3, 7, 8, 9], none)] (by kernel_rfl) (by kernel_rfl) ?_
   refine WQ.r 4 rfl <| WQ.ix rfl rfl (i := (ni : Int) - 1) (ni - 1) el_56 rfl rfl (by omega) (by omega) (Z.rdS 1 rfl (Zd hu1)).1 ?_
   refine WQ.ix rfl rfl (i := (nj : Int) - 1) (nj - 1) el_56 rfl rfl (by omega) (by omega) (Z.rdS 0 rfl (Zd hv1)).1 ?_
   refine WQ.run 4 [.int .i64 u, .int .i64 v] rfl (by exact ⟨(Z.rdS 1 rfl (Zd hu1)).2 0 _ rfl, (Z.rdS 0 rfl (Zd hv1)).2 0 _ rfl⟩) ?_
   refine WQ.nil ?_
   intro m3
   replace Z := Z.drewN m3; generalize hwm3 : World.drewN _ _ = w at *; clear hwm3
   as_aux_lemma =>
   refine WC.ifP rfl (fun cd3 => ?_) (fun cd3 => ?_)
   ·refine WC.region <| WL.r 2 rfl <| WL.reb 74 (.int .i64 (((ni - 1 : Nat) : Int) - 1)) (congrArg (Value.int .i64) (by rw [Zr (by omega)]; omega)) ?_
    refine WL.r 1 rfl <| WL.nil ?_
    exact ⟨_, by omega, ni - 1, nj, rfl, Z, (by omega), (by omega), (fun z h1 h2 => ⟨QJ hu1 (by rw [ei]; exact (hc z h1 h2).1) (fun e => by have := Zcc hay hv1 (by rw [ej]; exact (hc z h1 h2).2); omega), (hc z h1 h2).2⟩), rfl⟩
   ·refine WC.region <| WL.r 2 rfl <| WL.reb 48 (.int .i64 (((nj - 1 : Nat) : Int) - 1)) (congrArg (Value.int .i64) (by rw [Zr (by omega)]; omega)) ?_
    refine WL.r 1 rfl <| WL.nil ?_
    exact ⟨_, by omega, ni, nj - 1, rfl, Z, (by omega), (by omega), (fun z h1 h2 => ⟨(hc z h1 h2).1, QJ hv1 (by rw [ej]; exact (hc z h1 h2).2) (fun e => by have := Zcc hax hu1 (by rw [ei]; exact (hc z h1 h2).1); omega)⟩), rfl⟩
 ·refine WC.exit <| WC.seq <| WC.region <| WL.r 1 rfl <| WL.nil <| WC.ret ?_
  refine ⟨[.int .i64 0], rfl, ?_⟩
  replace Z := (Z.sel 2 [] rfl)
  exact ⟨congrArg (Value.int .i64) (JO (fun z h1 h2 => by
  have h3 := hc z h1 h2
  rcases Nat.eq_zero_or_pos ni with h4 | h4
  ·rw [h4, List.take_zero] at h3; cases h3.1
  ·rcases Nat.eq_zero_or_pos nj with h5 | h5
   ·rw [h5, List.take_zero] at h3; cases h3.2
   ·omega)).symm, Z⟩
theorem Zlk {g w : World} {L : List HP} (p m : Nat) (cap last : Int) (xs : List VN) (q : Nat) (n1 n2 : Int) (hu : VUq xs) (hl : Zj xs n1 = false) (Z : St g (Ze p #[.int .i64 cap, .int .i64 last, .map (some m)] 231 :: Zx m (.map (mE (List.map vK xs)) q) :: Zn vF xs :: L) w) :
  Sp Tryz.prog 83 [.pointer (some ⟨p, 0, none⟩), .int .i64 n1, .int .i64 n2] w (fun v w' => v = .int .i64 0 ∧ St g (Ze p #[.int .i64 cap, .int .i64 last, .map (some m)] 231 :: Zx m (.map (mE (List.map vK xs)) q) :: Zn vF xs :: L) w') := by
 refine Sp.enter Tryz.func83 rfl (by kernel_rfl) (by kernel_rfl) ?_
 have _ := hu
 refine WC.seq <| WC.region <| WL.r 1 rfl <| WL.nil <| WC.seq <| WC.seq <| WC.region <| WL.r 2 rfl <| WL.call rfl rfl (Ys (cap := cap) (last := last) (q := q) (n := n1) (hu := (by first | assumption | exact (GI.ok (by assumption)).uniq)) (Z := Z)) rfl ?_
 clear Z; rintro _ w ⟨rfl, Z⟩
 replace Z := Z.n3 L rfl
 refine WL.r 1 rfl <| WL.r 1 rfl <| WL.reb 15 (.bool true) (congrArg Value.bool ((by rw [hl]; rfl))) ?_
 refine WL.skp rfl rfl rfl rfl <| WL.skp rfl rfl rfl rfl <| WL.skp rfl rfl rfl rfl <| WL.skp rfl rfl rfl rfl <| WL.r 1 rfl <| WL.nil <| WC.ifT rfl rfl <| WC.seq <| WC.region <| WL.r 1 rfl <| WL.nil ?_
 as_aux_lemma =>
 refine WC.ret ?_
 refine ⟨[.int .i64 0], rfl, ?_⟩
 exact ⟨rfl, Z⟩
theorem Zip {g w : World} {L : List HP} (p m : Nat) (cap last : Int) (xs : List VN) (q : Nat) (n1 n2 : Int) (hu : VUq xs) (hl1 : Zj xs n1 = true) (hl : Zj xs n2 = false) (Z : St g (Ze p #[.int .i64 cap, .int .i64 last, .map (some m)] 231 :: Zx m (.map (mE (List.map vK xs)) q) :: Zn vF xs :: L) w) :
  Sp Tryz.prog 83 [.pointer (some ⟨p, 0, none⟩), .int .i64 n1, .int .i64 n2] w (fun v w' => v = .int .i64 0 ∧ St g (Ze p #[.int .i64 cap, .int .i64 last, .map (some m)] 231 :: Zx m (.map (mE (List.map vK xs)) q) :: Zn vF xs :: L) w') := by
 refine Sp.enter Tryz.func83 rfl (by kernel_rfl) (by kernel_rfl) ?_
 have _ := hu
 refine WC.seq <| WC.region <| WL.r 1 rfl <| WL.nil <| WC.seq <| WC.seq <| WC.region <| WL.r 2 rfl <| WL.call rfl rfl (Ys (cap := cap) (last := last) (q := q) (n := n1) (hu := (by first | assumption | exact (GI.ok (by assumption)).uniq)) (Z := Z)) rfl ?_
 clear Z; rintro _ w ⟨rfl, Z⟩
 replace Z := Z.n3 L rfl
 refine WL.r 1 rfl <| WL.r 1 rfl <| WL.reb 15 (.bool false) (congrArg Value.bool (Bool.eq_false_iff.2 ((by rw [hl1]; decide)))) ?_
 refine WL.ung rfl rfl rfl <| WL.r 1 rfl <| WL.ung rfl rfl rfl <| WL.r 1 rfl <| WL.ung rfl rfl rfl <| WL.call rfl rfl (Ys (cap := cap) (last := last) (q := q) (n := n2) (hu := (by first | assumption | exact (GI.ok (by assumption)).uniq)) (Z := Z)) rfl ?_
 clear Z; rintro _ w ⟨rfl, Z⟩
 replace Z := Z.n3 L rfl
 refine WL.ung rfl rfl rfl <| WL.r 1 rfl <| WL.r 1 rfl <| WL.nil ?_
 as_aux_lemma =>
 refine WC.ifT rfl (by rw [hl]; rfl) ?_
 refine WC.seq <| WC.region <| WL.r 1 rfl <| WL.nil <| WC.ret ?_
 refine ⟨[.int .i64 0], rfl, ?_⟩
 exact ⟨rfl, Z⟩
theorem Zgz {g w : World} {L : List HP} (p m : Nat) (cap last : Int) (xs : List VN) (q : Nat) (n1 n2 : Int) (hG : GOk xs q) (Z : St g (Ze p #[.int .i64 cap, .int .i64 last, .map (some m)] 231 :: Zx m (.map (mE (List.map vK xs)) q) :: Zn vF xs :: L) w) :
  Sp Tryz.prog 83 [.pointer (some ⟨p, 0, none⟩), .int .i64 n1, .int .i64 n2] w (fun v w' => v = .int .i64 (ZL xs n1 n2) ∧ St g (Ze p #[.int .i64 cap, .int .i64 last, .map (some m)] 231 :: Zx m (.map (mE (List.map vK xs)) q) :: Zn vF xs :: L) w') := by
 cases h1 : Zj xs n1 with
 | false =>
  rw [ZL, if_neg (fun h => by rw [h1] at h; cases h.1)]
  exact Zlk p m cap last xs q n1 n2 hG.uniq h1 Z
 | true =>
  cases h2 : Zj xs n2 with
  | false =>
   rw [ZL, if_neg (fun h => by rw [h2] at h; cases h.2)]
   exact Zip p m cap last xs q n1 n2 hG.uniq h1 h2 Z
  | true =>
   rw [ZL, if_pos ⟨h1, h2⟩]
   rcases Qf xs n1 with ⟨k1, x, hx, rfl⟩ | hn
   ·rcases Qf xs n2 with ⟨k2, y, hy, rfl⟩ | hn
    ·obtain ⟨a1, _, a3⟩ := Qc (XN hx hG.uniq)
     obtain ⟨b1, _, b3⟩ := Qc (XN hy hG.uniq)
     rw [a3, b3]
     have l1 := hG.len (List.mem_of_getElem? hx)
     have l2 := hG.len (List.mem_of_getElem? hy)
     have l3 := hG.num
     exact Zmw p m cap last xs q k1 k2 x y hx hy hG.uniq (a1 ▸ h1) (b1 ▸ h2) (hG.asc x (List.mem_of_getElem? hx)) (hG.asc y (List.mem_of_getElem? hy)) (by omega) (by omega) Z
    ·rw [(XI (Yh hn)).1] at h2; cases h2
   ·rw [(XI (Yh hn)).1] at h1; cases h1
end Go.Proofs.YtbeacjcmdijdmaaGreat
namespace Go.Proofs.YtbeacjcmdijdmaaGreat
open Go Go.V
theorem new_ok {g w : World} {L : List HP} (cap : Int) (hc : 1 ≤ cap ∧ cap ≤ 4096) (Z : St g (L) w) :
  Sp Tryz.prog 59 [.int .i64 cap] w (fun v w' => ∃ (p m : Nat), v = .tuple #[.pointer (some ⟨p, 0, none⟩), .int .i64 0] ∧ St g (Ze p #[.int .i64 cap, .int .i64 0, .map (some m)] 231 :: Zx m (.map (mE (List.map vK [])) 0) :: Zn vF [] :: L) w') := by
 refine Sp.enter Tryz.func59 rfl (by kernel_rfl) (by kernel_rfl) ?_
 have _ := hc
 refine WC.seq <| WC.region <| WL.r 2 rfl <| WL.nil <| WC.seq <| WC.seq <| WC.region <| WL.r 2 rfl <| WL.rG 4 rfl (fun j => ?_)
 refine WL.prop 9 rfl (bor (dd _) (dd _)) <| WL.nil <| WC.ifF rfl (decide_eq_false ((by omega))) ?_
 refine WC.skip <| WC.seq <| WC.region <| WL.r 1 rfl <| WL.mkM rfl rfl Z (fun b1 w Z => ?_)
 refine WL.build rfl rfl (cs := [.int .i64 cap, .int .i64 0, .map (some b1)]) Zpz rfl rfl <| WL.box rfl rfl #[.int .i64 cap, .int .i64 0, .map (some b1)] Z rfl rfl (fun b2 w Z => ?_)
 refine WL.r 2 rfl <| WL.nil <| WC.ret ?_
 replace Z := (Z.shsNil vF).sel 3 [1, 1, 0] rfl
 replace Z : St g (Ze b2 #[.int .i64 cap, .int .i64 0, .map (some b1)] 231 :: Zx b1 (.map (mE (List.map vK [])) 0) :: Zn vF [] :: L) w := Z
 refine ⟨[.pointer (some ⟨b2, 0, none⟩), .int .i64 0], ⟨rfl, rfl⟩, ?_⟩
 exact ⟨_, _, rfl, Z⟩
theorem Zih {g w : World} {L : List HP} (p m : Nat) (cap last : Int) (xs : List VN) (q : Nat) (ps : List Int) (a : Option Addr) (c : Nat) (hl : 2 < ps.length) (Z : St g (Sh 3 1 (Zb ps) a c :: Ze p #[.int .i64 cap, .int .i64 last, .map (some m)] 231 :: Zx m (.map (mE (List.map vK xs)) q) :: Zn vF xs :: L) w) :
  Sp Tryz.prog 186 [.pointer (some ⟨p, 0, none⟩), .slice a (Zb ps).length c] w (fun v w' => v = .tuple #[.int .i64 0, .int .i64 1] ∧ St g (Sh 3 1 (Zb ps) a c :: Ze p #[.int .i64 cap, .int .i64 last, .map (some m)] 231 :: Zx m (.map (mE (List.map vK xs)) q) :: Zn vF xs :: L) w') := by
 refine Sp.enter Tryz.func186 rfl (by kernel_rfl) (by kernel_rfl) ?_
 have _ := hl
 refine WC.seq <| WC.region <| WL.r 2 rfl <| WL.nil <| WC.seq <| WC.seq <| WC.plan [([0, 1, 2, 3, 4, 5, 6, 7, 8, 11, 9, 12, 10, 13, 14, 15, 16], none)] (by kernel_rfl) (by kernel_rfl) ?_
 have hpl := Zh ps
 refine WQ.r 4 rfl <| WQ.reb 14 (.bool true) (congrArg Value.bool (decide_eq_true ((by omega)))) ?_
 refine WQ.skp rfl rfl rfl rfl <| WQ.skp rfl rfl rfl rfl <| WQ.skp rfl rfl rfl rfl <| WQ.skp rfl rfl rfl rfl <| WQ.skU rfl rfl rfl <| WQ.skU rfl rfl rfl <| WQ.skU rfl rfl rfl <| WQ.skU rfl rfl rfl <| WQ.skU rfl rfl rfl <| WQ.skU rfl rfl rfl <| WQ.skU rfl rfl rfl <| WQ.skp rfl rfl rfl rfl ?_
 refine WQ.r 1 rfl <| WQ.nil ?_
 intro m1
 replace Z := Z.drewN m1; generalize hwm1 : World.drewN _ _ = w at *; clear hwm1
 as_aux_lemma =>
 refine WC.ifT rfl rfl <| WC.seq <| WC.region <| WL.r 2 rfl <| WL.nil <| WC.ret ?_
 refine ⟨[.int .i64 0, .int .i64 1], ⟨rfl, rfl⟩, ?_⟩
 exact ⟨rfl, Z⟩
theorem Zji {g w : World} {L : List HP} (p m : Nat) (cap last : Int) (xs : List VN) (q : Nat) (x : Int) (a : Option Addr) (c : Nat) (Z : St g (Sh 3 1 (Zb [x, x]) a c :: Ze p #[.int .i64 cap, .int .i64 last, .map (some m)] 231 :: Zx m (.map (mE (List.map vK xs)) q) :: Zn vF xs :: L) w) :
  Sp Tryz.prog 186 [.pointer (some ⟨p, 0, none⟩), .slice a (Zb [x, x]).length c] w (fun v w' => v = .tuple #[.int .i64 0, .int .i64 1] ∧ St g (Sh 3 1 (Zb [x, x]) a c :: Ze p #[.int .i64 cap, .int .i64 last, .map (some m)] 231 :: Zx m (.map (mE (List.map vK xs)) q) :: Zn vF xs :: L) w') := by
 refine Sp.enter Tryz.func186 rfl (by kernel_rfl) (by kernel_rfl) ?_
 refine WC.seq <| WC.region <| WL.r 2 rfl <| WL.nil <| WC.seq <| WC.seq <| WC.plan [([0, 1, 2, 3, 4, 5, 6, 7, 8, 11, 9, 12, 10, 13, 14, 15, 16], none)] (by kernel_rfl) (by kernel_rfl) ?_
 have hpl : (Zb [x, x]).length = 2 := rfl
 refine WQ.r 4 rfl <| WQ.reb 14 (.bool false) (congrArg Value.bool (decide_eq_false ((by omega)))) ?_
 refine WQ.ung rfl rfl rfl <| WQ.r 1 rfl <| WQ.ung rfl rfl rfl <| WQ.r 1 rfl <| WQ.ung rfl rfl rfl <| WQ.r 1 rfl <| WQ.ung rfl rfl rfl <| WQ.r 1 rfl <| WQ.reb 18 (.bool true) (congrArg Value.bool (decide_eq_true ((by omega)))) ?_
 refine WQ.ung rfl rfl rfl <| WQ.r 1 rfl <| WQ.ung rfl rfl rfl <| WQ.r 1 rfl <| WQ.ung rfl rfl rfl <| WQ.ix rfl rfl (i := 0) (0) el_56 rfl rfl (by omega) (by omega) (Z.rdS 0 rfl (Zd (k := 0) (x := x) rfl)).1 ?_
 refine WQ.ung rfl rfl rfl <| WQ.ix rfl rfl (i := 1) (1) el_56 rfl rfl (by omega) (by omega) (Z.rdS 0 rfl (Zd (k := 1) (x := x) rfl)).1 ?_
 refine WQ.ung rfl rfl rfl <| WQ.run 1 [.int .i64 x] rfl (by exact (Z.rdS 0 rfl (Zd (k := 0) (x := x) rfl)).2 0 _ rfl) ?_
 refine WQ.ung rfl rfl rfl <| WQ.run 1 [.int .i64 x] rfl (by exact (Z.rdS 0 rfl (Zd (k := 1) (x := x) rfl)).2 0 _ rfl) ?_
 refine WQ.ung rfl rfl rfl <| WQ.r 1 rfl <| WQ.ung rfl rfl rfl <| WQ.r 2 rfl <| WQ.nil ?_
 intro m1
 replace Z := Z.drewN m1; generalize hwm1 : World.drewN _ _ = w at *; clear hwm1
 as_aux_lemma =>
 refine WC.ifT rfl (decide_eq_true (rfl)) <| WC.seq <| WC.region <| WL.r 2 rfl <| WL.nil <| WC.ret ?_
 refine ⟨[.int .i64 0, .int .i64 1], ⟨rfl, rfl⟩, ?_⟩
 exact ⟨rfl, Z⟩
theorem Zph {g w : World} {L : List HP} (p m : Nat) (cap last : Int) (xs : List VN) (q : Nat) (ps : List Int) (a : Option Addr) (c : Nat) (i : Nat) (b : Int) (hu : VUq xs) (hps : ZT ps) (hi : ps[i]? = some b) (hb : Zj xs b = false) (hlt : ∀ j, j < i → ∀ y, ps[j]? = some y → Zj xs y = true) (Z : St g (Sh 3 1 (Zb ps) a c :: Ze p #[.int .i64 cap, .int .i64 last, .map (some m)] 231 :: Zx m (.map (mE (List.map vK xs)) q) :: Zn vF xs :: L) w) :
  Sp Tryz.prog 186 [.pointer (some ⟨p, 0, none⟩), .slice a (Zb ps).length c] w (fun v w' => v = .tuple #[.int .i64 0, .int .i64 4] ∧ St g (Sh 3 1 (Zb ps) a c :: Ze p #[.int .i64 cap, .int .i64 last, .map (some m)] 231 :: Zx m (.map (mE (List.map vK xs)) q) :: Zn vF xs :: L) w') := by
 refine Sp.enter Tryz.func186 rfl (by kernel_rfl) (by kernel_rfl) ?_
 have _ := hlt
 have _ := hu
 refine WC.seq <| WC.region ?_
 have hpl := Zh ps
 have hp2 := hps.1
 refine WL.r 2 rfl <| WL.nil <| WC.seq <| WC.seq <| WC.cut [0, 1, 4, 5, 27] (fun vs w => ∃ (t27 : Bool), vs = [.pointer (some ⟨p, 0, none⟩), .slice a (Zb ps).length c, .int .i64 0, .int .i64 0, .bool t27] ∧ St g (Sh 3 1 (Zb ps) a c :: Ze p #[.int .i64 cap, .int .i64 last, .map (some m)] 231 :: Zx m (.map (mE (List.map vK xs)) q) :: Zn vF xs :: L) w ∧ (t27 = false)) ?_ ?_
 ·refine WC.plan [([0, 1, 2, 3, 4, 5, 6, 7, 8, 11, 9, 12, 10, 13, 14, 15, 16], none)] (by kernel_rfl) (by kernel_rfl) ?_
  refine WQ.r 4 rfl <| WQ.reb 14 (.bool false) (congrArg Value.bool (decide_eq_false ((by omega)))) ?_
  refine WQ.ung rfl rfl rfl <| WQ.r 1 rfl <| WQ.ung rfl rfl rfl <| WQ.r 1 rfl <| WQ.ung rfl rfl rfl <| WQ.r 1 rfl <| WQ.ung rfl rfl rfl <| WQ.r 1 rfl ?_
  by_cases cg1 : (List.length (Zb ps) : Int) = 2
  ·refine WQ.reb 18 (.bool true) (congrArg Value.bool (decide_eq_true cg1)) <| WQ.ung rfl rfl rfl <| WQ.r 1 rfl <| WQ.ung rfl rfl rfl <| WQ.r 1 rfl <| WQ.ung rfl rfl rfl ?_
   obtain ⟨p0, h0⟩ : ∃ u, ps[0]? = some u := ⟨_, List.getElem?_eq_getElem (by omega)⟩; obtain ⟨p1, h1⟩ : ∃ u, ps[1]? = some u := ⟨_, List.getElem?_eq_getElem (by omega)⟩
   refine WQ.ix rfl rfl (i := 0) (0) el_56 rfl rfl (by omega) (by omega) (Z.rdS 0 rfl (Zd h0)).1 ?_
   refine WQ.ung rfl rfl rfl <| WQ.ix rfl rfl (i := 1) (1) el_56 rfl rfl (by omega) (by omega) (Z.rdS 0 rfl (Zd h1)).1 ?_
   refine WQ.ung rfl rfl rfl <| WQ.run 1 [.int .i64 p0] rfl (by exact (Z.rdS 0 rfl (Zd h0)).2 0 _ rfl) ?_
   refine WQ.ung rfl rfl rfl <| WQ.run 1 [.int .i64 p1] rfl (by exact (Z.rdS 0 rfl (Zd h1)).2 0 _ rfl) ?_
   refine WQ.ung rfl rfl rfl <| WQ.r 1 rfl <| WQ.ung rfl rfl rfl <| WQ.r 2 rfl <| WQ.nil ?_
   intro m1
   replace Z := Z.drewN m1; generalize hwm1 : World.drewN _ _ = w at *; clear hwm1
   exact ⟨decide (p0 = p1), rfl, Z, (decide_eq_false (YV hps h0 h1))⟩
  ·refine WQ.reb 18 (.bool false) (congrArg Value.bool (decide_eq_false cg1)) <| WQ.skp rfl rfl rfl rfl <| WQ.skp rfl rfl rfl rfl <| WQ.skp rfl rfl rfl rfl <| WQ.skp rfl rfl rfl rfl <| WQ.skp rfl rfl rfl rfl <| WQ.skp rfl rfl rfl rfl <| WQ.skp rfl rfl rfl rfl <| WQ.ung rfl rfl rfl <| WQ.r 2 rfl <| WQ.nil ?_
   intro m1
   replace Z := Z.drewN m1; generalize hwm1 : World.drewN _ _ = w at *; clear hwm1
   exact ⟨false, rfl, Z, (rfl)⟩
 clear Z; rintro _ w j ⟨t27, rfl, Z, h27⟩
 refine WC.ifF rfl h27 <| WC.skip <| WC.seq <| WC.seq <| WC.region ?_
 have hpl := Zh ps; have hil := (List.getElem?_eq_some_iff.1 hi).1
 refine WL.r 3 rfl <| WL.nil <| WC.block <| WC.loop [0, 1, 28, 29, 30] (fun kM vs w => ∃ (k : Nat), vs = [.pointer (some ⟨p, 0, none⟩), .slice a (Zb ps).length c, .slice a (Zb ps).length c, .int .i64 (List.length (Zb ps) : Int), .int .i64 (k : Int)] ∧ St g (Sh 3 1 (Zb ps) a c :: Ze p #[.int .i64 cap, .int .i64 last, .map (some m)] 231 :: Zx m (.map (mE (List.map vK xs)) q) :: Zn vF xs :: L) w ∧ (k ≤ i) ∧ (ps.length - k) = kM) ((List.length ps) - 0) ⟨0, rfl, Z, (Nat.zero_le _), rfl⟩ ?_
 clear Z; rintro _ _ w j ⟨k, rfl, Z, hk, rfl⟩
 refine WC.seq <| WC.region ?_
 have hpl := Zh ps; have hil := (List.getElem?_eq_some_iff.1 hi).1
 refine WL.r 1 rfl <| WL.nil ?_
 as_aux_lemma =>
 refine WC.seq <| WC.ifT rfl (decide_eq_true ((by omega))) ?_
 refine WC.skip <| WC.seq <| WC.block <| WC.seq <| WC.region ?_
 obtain ⟨z, hz⟩ : ∃ u, ps[k]? = some u := ⟨_, List.getElem?_eq_getElem (by omega)⟩
 refine WL.ix rfl rfl (i := (k : Int)) (k) el_56 rfl rfl (by omega) (by omega) (Z.rdS 0 rfl (Zd hz)).1 ?_
 refine WL.run 2 [.int .i64 z] rfl (by exact (Z.rdS 0 rfl (Zd hz)).2 0 _ rfl) ?_
 refine WL.nil <| WC.seq <| WC.region <| WL.r 2 rfl <| WL.call rfl rfl (Ys (cap := cap) (last := last) (q := q) (n := z) (hu := (by first | assumption | exact (GI.ok (by assumption)).uniq)) (Z := (Z.sel 4 [1, 1, 1, 0] rfl))) rfl ?_
 clear Z; rintro _ w ⟨rfl, Z⟩
 replace Z := Z.n4 L rfl
 refine WL.r 1 rfl <| WL.nil <| WC.if_ rfl (fun cd1 => ?_) (fun cd1 => ?_)
 ·refine WC.seq <| WC.region <| WL.r 2 rfl <| WL.nil <| WC.ret ?_
  refine ⟨[.int .i64 0, .int .i64 4], ⟨rfl, rfl⟩, ?_⟩
  replace Z := (Z.sel 4 [3, 0, 0, 0] rfl)
  exact ⟨rfl, Z⟩
 ·refine WC.skip <| WC.region <| WL.r 1 rfl <| WL.nw 38 rfl (Zr (by omega)) ?_
  refine WL.r 1 rfl <| WL.nil ?_
  exact ⟨_, by omega, k + 1, rfl, (Z.sel 4 [3, 0, 0, 0] rfl), (Nat.lt_of_le_of_ne hk (fun e => by subst e; rw [hi] at hz; cases hz; rw [hb] at cd1; cases cd1)), rfl⟩
theorem Ziq {g w : World} {L : List HP} (p m : Nat) (cap last : Int) (xs : List VN) (q : Nat) (ps : List Int) (a : Option Addr) (c : Nat) (hu : VUq xs) (hps : ZT ps) (hlv : ∀ z ∈ ps, Zj xs z = true) (hc : cap ≤ xs.length) (Z : St g (Sh 3 1 (Zb ps) a c :: Ze p #[.int .i64 cap, .int .i64 last, .map (some m)] 231 :: Zx m (.map (mE (List.map vK xs)) q) :: Zn vF xs :: L) w) :
  Sp Tryz.prog 186 [.pointer (some ⟨p, 0, none⟩), .slice a (Zb ps).length c] w (fun v w' => v = .tuple #[.int .i64 0, .int .i64 2] ∧ St g (Sh 3 1 (Zb ps) a c :: Ze p #[.int .i64 cap, .int .i64 last, .map (some m)] 231 :: Zx m (.map (mE (List.map vK xs)) q) :: Zn vF xs :: L) w') := by
 refine Sp.enter Tryz.func186 rfl (by kernel_rfl) (by kernel_rfl) ?_
 have _ := hc
 have _ := hu
 refine WC.seq <| WC.region ?_
 have hpl := Zh ps
 have hp2 := hps.1
 refine WL.r 2 rfl <| WL.nil <| WC.seq <| WC.seq <| WC.cut [0, 1, 4, 5, 27] (fun vs w => ∃ (t27 : Bool), vs = [.pointer (some ⟨p, 0, none⟩), .slice a (Zb ps).length c, .int .i64 0, .int .i64 0, .bool t27] ∧ St g (Sh 3 1 (Zb ps) a c :: Ze p #[.int .i64 cap, .int .i64 last, .map (some m)] 231 :: Zx m (.map (mE (List.map vK xs)) q) :: Zn vF xs :: L) w ∧ (t27 = false)) ?_ ?_
 ·refine WC.plan [([0, 1, 2, 3, 4, 5, 6, 7, 8, 11, 9, 12, 10, 13, 14, 15, 16], none)] (by kernel_rfl) (by kernel_rfl) ?_
  refine WQ.r 4 rfl <| WQ.reb 14 (.bool false) (congrArg Value.bool (decide_eq_false ((by omega)))) ?_
  refine WQ.ung rfl rfl rfl <| WQ.r 1 rfl <| WQ.ung rfl rfl rfl <| WQ.r 1 rfl <| WQ.ung rfl rfl rfl <| WQ.r 1 rfl <| WQ.ung rfl rfl rfl <| WQ.r 1 rfl ?_
  by_cases cg1 : (List.length (Zb ps) : Int) = 2
  ·refine WQ.reb 18 (.bool true) (congrArg Value.bool (decide_eq_true cg1)) <| WQ.ung rfl rfl rfl <| WQ.r 1 rfl <| WQ.ung rfl rfl rfl <| WQ.r 1 rfl <| WQ.ung rfl rfl rfl ?_
   obtain ⟨p0, h0⟩ : ∃ u, ps[0]? = some u := ⟨_, List.getElem?_eq_getElem (by omega)⟩; obtain ⟨p1, h1⟩ : ∃ u, ps[1]? = some u := ⟨_, List.getElem?_eq_getElem (by omega)⟩
   refine WQ.ix rfl rfl (i := 0) (0) el_56 rfl rfl (by omega) (by omega) (Z.rdS 0 rfl (Zd h0)).1 ?_
   refine WQ.ung rfl rfl rfl <| WQ.ix rfl rfl (i := 1) (1) el_56 rfl rfl (by omega) (by omega) (Z.rdS 0 rfl (Zd h1)).1 ?_
   refine WQ.ung rfl rfl rfl <| WQ.run 1 [.int .i64 p0] rfl (by exact (Z.rdS 0 rfl (Zd h0)).2 0 _ rfl) ?_
   refine WQ.ung rfl rfl rfl <| WQ.run 1 [.int .i64 p1] rfl (by exact (Z.rdS 0 rfl (Zd h1)).2 0 _ rfl) ?_
   refine WQ.ung rfl rfl rfl <| WQ.r 1 rfl <| WQ.ung rfl rfl rfl <| WQ.r 2 rfl <| WQ.nil ?_
   intro m1
   replace Z := Z.drewN m1; generalize hwm1 : World.drewN _ _ = w at *; clear hwm1
   exact ⟨decide (p0 = p1), rfl, Z, (decide_eq_false (YV hps h0 h1))⟩
  ·refine WQ.reb 18 (.bool false) (congrArg Value.bool (decide_eq_false cg1)) <| WQ.skp rfl rfl rfl rfl <| WQ.skp rfl rfl rfl rfl <| WQ.skp rfl rfl rfl rfl <| WQ.skp rfl rfl rfl rfl <| WQ.skp rfl rfl rfl rfl <| WQ.skp rfl rfl rfl rfl <| WQ.skp rfl rfl rfl rfl <| WQ.ung rfl rfl rfl <| WQ.r 2 rfl <| WQ.nil ?_
   intro m1
   replace Z := Z.drewN m1; generalize hwm1 : World.drewN _ _ = w at *; clear hwm1
   exact ⟨false, rfl, Z, (rfl)⟩
 clear Z; rintro _ w j ⟨t27, rfl, Z, h27⟩
 refine WC.ifF rfl h27 <| WC.skip <| WC.seq <| WC.seq <| WC.region ?_
 have hpl := Zh ps
 refine WL.r 3 rfl <| WL.nil <| WC.block <| WC.loop [0, 1, 28, 29, 30] (fun kM vs w => ∃ (k : Nat), vs = [.pointer (some ⟨p, 0, none⟩), .slice a (Zb ps).length c, .slice a (Zb ps).length c, .int .i64 (List.length (Zb ps) : Int), .int .i64 (k : Int)] ∧ St g (Sh 3 1 (Zb ps) a c :: Ze p #[.int .i64 cap, .int .i64 last, .map (some m)] 231 :: Zx m (.map (mE (List.map vK xs)) q) :: Zn vF xs :: L) w ∧ (k ≤ ps.length) ∧ (ps.length - k) = kM) ((List.length ps) - 0) ⟨0, rfl, Z, (Nat.zero_le _), rfl⟩ ?_
 clear Z; rintro _ _ w j ⟨k, rfl, Z, hk, rfl⟩
 refine WC.seq <| WC.region ?_
 have hpl := Zh ps
 refine WL.r 1 rfl <| WL.nil ?_
 as_aux_lemma =>
 refine WC.seq <| WC.ifP rfl (fun cd1 => ?_) (fun cd1 => ?_)
 ·refine WC.skip <| WC.seq <| WC.block <| WC.seq <| WC.region ?_
  obtain ⟨z, hz⟩ : ∃ u, ps[k]? = some u := ⟨_, List.getElem?_eq_getElem (by omega)⟩
  refine WL.ix rfl rfl (i := (k : Int)) (k) el_56 rfl rfl (by omega) (by omega) (Z.rdS 0 rfl (Zd hz)).1 ?_
  refine WL.run 2 [.int .i64 z] rfl (by exact (Z.rdS 0 rfl (Zd hz)).2 0 _ rfl) ?_
  refine WL.nil <| WC.seq <| WC.region <| WL.r 2 rfl <| WL.call rfl rfl (Ys (cap := cap) (last := last) (q := q) (n := z) (hu := (by first | assumption | exact (GI.ok (by assumption)).uniq)) (Z := (Z.sel 4 [1, 1, 1, 0] rfl))) rfl ?_
  clear Z; rintro _ w ⟨rfl, Z⟩
  replace Z := Z.n4 L rfl
  refine WL.r 1 rfl <| WL.nil <| WC.ifF rfl (by rw [hlv z (List.mem_of_getElem? hz)]; rfl) ?_
  refine WC.skip <| WC.region <| WL.r 1 rfl <| WL.nw 38 rfl (Zr (by omega)) ?_
  refine WL.r 1 rfl <| WL.nil ?_
  exact ⟨_, by omega, k + 1, rfl, (Z.sel 4 [3, 0, 0, 0] rfl), (by omega), rfl⟩
 ·refine WC.exit <| WC.seq <| WC.seq <| WC.plan [([0, 5, 1, 6, 2, 7, 3, 8, 4, 9], none)] (by kernel_rfl) (by kernel_rfl) ?_
  have hms := XT (List.map vK xs); have hms2 : (List.map vK xs).length = xs.length := List.length_map _
  refine WQ.run 8 [.map (some m), .int .i64 cap] rfl (by exact ⟨Z.ld 1 rfl rfl, Z.ld 1 rfl rfl⟩) ?_
  refine WQ.lenM rfl rfl Yo 2 Z rfl rfl <| WQ.r 1 rfl <| WQ.nil ?_
  intro m1
  replace Z := Z.drewN m1; generalize hwm1 : World.drewN _ _ = w at *; clear hwm1
  refine WC.ifT rfl (decide_eq_true ((by omega))) ?_
  refine WC.seq <| WC.region <| WL.r 2 rfl <| WL.nil <| WC.ret ?_
  refine ⟨[.int .i64 0, .int .i64 2], ⟨rfl, rfl⟩, ?_⟩
  exact ⟨rfl, Z⟩
set_option maxHeartbeats 1000000 in
theorem Zpt {g w : World} {L : List HP} (p m : Nat) (cap last : Int) (xs : List VN) (q : Nat) (ps : List Int) (a : Option Addr) (c : Nat) (hG : GOk xs q) (hps : ZT ps) (hlv : ∀ z ∈ ps, Zj xs z = true) (hc : (xs.length : Int) < cap) (hc2 : cap ≤ 4096) (hla : 0 ≤ last ∧ last < 1000000000) (hlt : ∀ x ∈ xs, x.n ≤ last) (Z : St g (Sh 3 1 (Zb ps) a c :: Ze p #[.int .i64 cap, .int .i64 last, .map (some m)] 231 :: Zx m (.map (mE (List.map vK xs)) q) :: Zn vF xs :: L) w) :
  Sp Tryz.prog 186 [.pointer (some ⟨p, 0, none⟩), .slice a (Zb ps).length c] w (fun v w' => ∃ (vn : VN), v = .tuple #[.int .i64 (last + 1), .int .i64 0] ∧ St g (Sh 3 1 (Zb ps) a c :: Ze p #[.int .i64 cap, .int .i64 (last + 1), .map (some m)] 231 :: Zx m (.map (mE (List.map vK (xs ++ [vn]))) (q + 1)) :: Zn vF (xs ++ [vn]) :: L) w' ∧ (vn.n = last + 1 ∧ vn.live = true ∧ vn.born = q) ∧ (Asc vn.ab ∧ ∀ z, z ∈ vn.ab ↔ z ∈ Y_ xs (last + 1) ps)) := by
 refine Sp.enter Tryz.func186 rfl (by kernel_rfl) (by kernel_rfl) ?_
 have _ := hla
 have _ := hc2
 have _ := hc
 refine WC.seq <| WC.region ?_
 have hpl := Zh ps
 have hp2 := hps.1
 refine WL.r 2 rfl <| WL.nil <| WC.seq <| WC.seq <| WC.cut [0, 1, 4, 5, 27] (fun vs w => ∃ (t27 : Bool), vs = [.pointer (some ⟨p, 0, none⟩), .slice a (Zb ps).length c, .int .i64 0, .int .i64 0, .bool t27] ∧ St g (Sh 3 1 (Zb ps) a c :: Ze p #[.int .i64 cap, .int .i64 last, .map (some m)] 231 :: Zx m (.map (mE (List.map vK xs)) q) :: Zn vF xs :: L) w ∧ (t27 = false)) ?_ ?_
 ·refine WC.plan [([0, 1, 2, 3, 4, 5, 6, 7, 8, 11, 9, 12, 10, 13, 14, 15, 16], none)] (by kernel_rfl) (by kernel_rfl) ?_
  refine WQ.r 4 rfl <| WQ.reb 14 (.bool false) (congrArg Value.bool (decide_eq_false ((by omega)))) ?_
  refine WQ.ung rfl rfl rfl <| WQ.r 1 rfl <| WQ.ung rfl rfl rfl <| WQ.r 1 rfl <| WQ.ung rfl rfl rfl <| WQ.r 1 rfl <| WQ.ung rfl rfl rfl <| WQ.r 1 rfl ?_
  by_cases cg1 : (List.length (Zb ps) : Int) = 2
  ·refine WQ.reb 18 (.bool true) (congrArg Value.bool (decide_eq_true cg1)) <| WQ.ung rfl rfl rfl <| WQ.r 1 rfl <| WQ.ung rfl rfl rfl <| WQ.r 1 rfl <| WQ.ung rfl rfl rfl ?_
   obtain ⟨p0, h0⟩ : ∃ u, ps[0]? = some u := ⟨_, List.getElem?_eq_getElem (by omega)⟩; obtain ⟨p1, h1⟩ : ∃ u, ps[1]? = some u := ⟨_, List.getElem?_eq_getElem (by omega)⟩
   refine WQ.ix rfl rfl (i := 0) (0) el_56 rfl rfl (by omega) (by omega) (Z.rdS 0 rfl (Zd h0)).1 ?_
   refine WQ.ung rfl rfl rfl <| WQ.ix rfl rfl (i := 1) (1) el_56 rfl rfl (by omega) (by omega) (Z.rdS 0 rfl (Zd h1)).1 ?_
   refine WQ.ung rfl rfl rfl <| WQ.run 1 [.int .i64 p0] rfl (by exact (Z.rdS 0 rfl (Zd h0)).2 0 _ rfl) ?_
   refine WQ.ung rfl rfl rfl <| WQ.run 1 [.int .i64 p1] rfl (by exact (Z.rdS 0 rfl (Zd h1)).2 0 _ rfl) ?_
   refine WQ.ung rfl rfl rfl <| WQ.r 1 rfl <| WQ.ung rfl rfl rfl <| WQ.r 2 rfl <| WQ.nil ?_
   intro m1
   replace Z := Z.drewN m1; generalize hwm1 : World.drewN _ _ = w at *; clear hwm1
   exact ⟨decide (p0 = p1), rfl, Z, (decide_eq_false (YV hps h0 h1))⟩
  ·refine WQ.reb 18 (.bool false) (congrArg Value.bool (decide_eq_false cg1)) <| WQ.skp rfl rfl rfl rfl <| WQ.skp rfl rfl rfl rfl <| WQ.skp rfl rfl rfl rfl <| WQ.skp rfl rfl rfl rfl <| WQ.skp rfl rfl rfl rfl <| WQ.skp rfl rfl rfl rfl <| WQ.skp rfl rfl rfl rfl <| WQ.ung rfl rfl rfl <| WQ.r 2 rfl <| WQ.nil ?_
   intro m1
   replace Z := Z.drewN m1; generalize hwm1 : World.drewN _ _ = w at *; clear hwm1
   exact ⟨false, rfl, Z, (rfl)⟩
 clear Z; rintro _ w j ⟨t27, rfl, Z, h27⟩
 refine WC.ifF rfl h27 <| WC.skip <| WC.seq <| WC.seq <| WC.region ?_
 have hu := hG.uniq
 have hpl := Zh ps
 refine WL.r 3 rfl <| WL.nil <| WC.block <| WC.loop [0, 1, 28, 29, 30] (fun kM vs w => ∃ (k : Nat), vs = [.pointer (some ⟨p, 0, none⟩), .slice a (Zb ps).length c, .slice a (Zb ps).length c, .int .i64 (List.length (Zb ps) : Int), .int .i64 (k : Int)] ∧ St g (Sh 3 1 (Zb ps) a c :: Ze p #[.int .i64 cap, .int .i64 last, .map (some m)] 231 :: Zx m (.map (mE (List.map vK xs)) q) :: Zn vF xs :: L) w ∧ (k ≤ ps.length) ∧ (ps.length - k) = kM) ((List.length ps) - 0) ⟨0, rfl, Z, (Nat.zero_le _), rfl⟩ ?_
 clear Z; rintro _ _ w j ⟨k, rfl, Z, hk, rfl⟩
 refine WC.seq <| WC.region ?_
 have hu := hG.uniq
 have hpl := Zh ps
 refine WL.r 1 rfl <| WL.nil ?_
 as_aux_lemma =>
 refine WC.seq <| WC.ifP rfl (fun cd1 => ?_) (fun cd1 => ?_)
 ·refine WC.skip <| WC.seq <| WC.block <| WC.seq <| WC.region ?_
  obtain ⟨z, hz⟩ : ∃ u, ps[k]? = some u := ⟨_, List.getElem?_eq_getElem (by omega)⟩
  refine WL.ix rfl rfl (i := (k : Int)) (k) el_56 rfl rfl (by omega) (by omega) (Z.rdS 0 rfl (Zd hz)).1 ?_
  refine WL.run 2 [.int .i64 z] rfl (by exact (Z.rdS 0 rfl (Zd hz)).2 0 _ rfl) ?_
  refine WL.nil <| WC.seq <| WC.region <| WL.r 2 rfl <| WL.call rfl rfl (Ys (cap := cap) (last := last) (q := q) (n := z) (hu := (by first | assumption | exact (GI.ok (by assumption)).uniq)) (Z := (Z.sel 4 [1, 1, 1, 0] rfl))) rfl ?_
  clear Z; rintro _ w ⟨rfl, Z⟩
  replace Z := Z.n4 L rfl
  refine WL.r 1 rfl <| WL.nil <| WC.ifF rfl (by rw [hlv z (List.mem_of_getElem? hz)]; rfl) ?_
  refine WC.skip <| WC.region <| WL.r 1 rfl <| WL.nw 38 rfl (Zr (by omega)) ?_
  refine WL.r 1 rfl <| WL.nil ?_
  exact ⟨_, by omega, k + 1, rfl, (Z.sel 4 [3, 0, 0, 0] rfl), (by omega), rfl⟩
 ·refine WC.exit <| WC.seq <| WC.seq <| WC.plan [([0, 5, 1, 6, 2, 7, 3, 8, 4, 9], none)] (by kernel_rfl) (by kernel_rfl) ?_
  have hms := XT (List.map vK xs); have hms2 : (List.map vK xs).length = xs.length := List.length_map _
  refine WQ.run 8 [.map (some m), .int .i64 cap] rfl (by exact ⟨Z.ld 1 rfl rfl, Z.ld 1 rfl rfl⟩) ?_
  refine WQ.lenM rfl rfl Yo 2 Z rfl rfl <| WQ.r 1 rfl <| WQ.nil ?_
  intro m1
  replace Z := Z.drewN m1; generalize hwm1 : World.drewN _ _ = w at *; clear hwm1
  refine WC.ifF rfl (decide_eq_false ((by omega))) ?_
  refine WC.skip <| WC.seq <| WC.region <| WL.run 5 [.int .i64 last] rfl (by exact Z.ld 1 rfl rfl) ?_
  refine WL.nw 53 rfl (Zr (by omega)) ?_
  refine WL.r 2 rfl <| WL.st rfl rfl rfl 1 Z rfl rfl rfl rfl rfl rfl (fun w Z => ?_)
  replace Z := Z.n4 L (a1 := Ze p #[.int .i64 cap, .int .i64 (last + 1), .map (some m)] 231) rfl
  refine WL.nil <| WC.seq <| WC.region <| WL.run 4 [.int .i64 (last + 1)] rfl (by exact Z.ld 1 rfl rfl) ?_
  refine WL.lit rfl rfl (Zb [last + 1]) el_56 Z (by exact ⟨rfl, rfl⟩) (Z9 _) rfl (Nat.le_of_ble_eq_true rfl) (fun b1 w Z => ?_)
  refine WL.r 1 rfl <| WL.nil ?_
  as_aux_lemma =>
  refine WC.seq <| WC.seq <| WC.region <| WL.r 3 rfl <| WL.nil <| WC.block <| WC.loop [0, 8, 61, 62, 63] (fun kM vs w => ∃ (k : Nat) (acc : List Int) (u : Option Addr) (d : Nat), vs = [.pointer (some ⟨p, 0, none⟩), .slice u (Zb acc).length d, .slice a (Zb ps).length c, .int .i64 (List.length (Zb ps) : Int), .int .i64 (k : Int)] ∧ St g (Zf 3 1 (Zb acc) u d :: Sh 3 1 (Zb ps) a c :: Ze p #[.int .i64 cap, .int .i64 (last + 1), .map (some m)] 231 :: Zx m (.map (mE (List.map vK xs)) q) :: Zn vF xs :: L) w ∧ (k ≤ ps.length) ∧ (acc = Y_ xs (last + 1) (List.take k ps)) ∧ (acc.length ≤ 1 + 4096 * k) ∧ (ps.length - k) = kM) ((List.length ps) - 0) ⟨0, [last + 1], some ⟨b1, 0, none⟩, 1, rfl, Z, (Nat.zero_le _), (rfl), (Nat.le_refl _), rfl⟩ ?_
  clear Z; rintro _ _ w j ⟨k, acc, u, d, rfl, Z, hk, ha, hal, rfl⟩
  refine WC.seq <| WC.region <| WL.r 1 rfl <| WL.nil <| WC.seq <| WC.ifP rfl (fun cd2 => ?_) (fun cd2 => ?_)
  ·refine WC.skip <| WC.seq <| WC.block <| WC.seq <| WC.region ?_
   obtain ⟨z, hz⟩ : ∃ u, ps[k]? = some u := ⟨_, List.getElem?_eq_getElem (by omega)⟩; obtain ⟨j, x, hx, hn, _, habx⟩ := Zcg (hlv z (List.mem_of_getElem? hz)); have hxl := hG.len (List.mem_of_getElem? hx); have hnum := hG.num; have hacl := Zh acc; have hxal := Zh x.ab
   refine WL.ix rfl rfl (i := (k : Int)) (k) el_56 rfl rfl (by omega) (by omega) (Z.rdS 1 rfl (Zd hz)).1 ?_
   refine WL.run 2 [.int .i64 z] rfl (by exact (Z.rdS 1 rfl (Zd hz)).2 0 _ rfl) ?_
   refine WL.nil <| WC.region ?_
   replace Z : St g (Sh 3 1 (Zb x.ab) x.a x.c :: Zf 3 1 (Zb acc) u d :: Sh 3 1 (Zb ps) a c :: Ze p #[.int .i64 cap, .int .i64 (last + 1), .map (some m)] 231 :: Zx m (.map (mE (List.map vK xs)) q) :: Zn vF xs :: L) w := Z.shsGet 4 rfl (List.mem_of_getElem? hx)
   refine WL.run 6 [.map (some m)] rfl (by exact Z.ld 3 rfl rfl) ?_
   refine WL.lk rfl rfl Yo 4 Z rfl rfl rfl (by first | trivial | rfl) (r := some (j, .agg #[.bool x.live, .slice x.a (Zb x.ab).length x.c])) (hn ▸ Q8 hx hG.uniq) rfl ?_
   refine WL.r 1 rfl <| WL.app rfl rfl 1 (Zb (acc ++ x.ab)) el_56 Z rfl (Z.srcS 0 rfl) (Yx _ _).symm (Rm.of (by first | omega | (simp <;> omega)) (by decide)) rfl rfl (fun a1 c1 w Z => ?_)
   replace Z := Z.n6 L (a0 := Sh 3 1 (Zb x.ab) x.a x.c) (a1 := Zf 3 1 (Zb (acc ++ x.ab)) a1 c1) rfl
   refine WL.r 1 rfl <| WL.nil ?_
   as_aux_lemma =>
   refine WC.region <| WL.r 1 rfl <| WL.nw 76 rfl (Zr (by omega)) ?_
   refine WL.r 1 rfl <| WL.nil ?_
   exact ⟨_, by omega, k + 1, acc ++ x.ab, a1, c1, rfl, (Z.sel 1 [] rfl), (by omega), (by rw [ha, ← habx]; exact Zex hz), (by rw [List.length_append]; omega), rfl⟩
  ·refine WC.exit <| WC.seq <| WC.region <| WL.r 1 rfl <| WL.call rfl rfl (Zg1 (ss := XG acc) (hne := (by rw [ha]; simp [Y_])) (hl := (by omega)) (hp := (YH acc)) (hs := (Qh acc)) (Z := Z)) rfl ?_
   clear Z; rintro _ w ⟨rfl, Z⟩
   replace Z := Z.n5 L (a0 := Zf 3 1 (Zb (XG acc)) u d) rfl
   refine WL.nil <| WC.seq <| WC.plan [([0, 4, 8, 1, 5, 2, 6, 3, 7], some (9, [0, 1, 2, 3, 4, 5, 6, 7])), ([], some (10, [0, 1, 2, 3, 4, 5, 6, 7])), ([], some (11, []))] (by kernel_rfl) (by kernel_rfl) ?_
   refine WQ.reb 8 (.slice u (Zb (XG acc)).length d) (congrArg (fun m => Value.slice u m d) (by rw [Zh, Zh]; exact (YH acc).length_eq.symm)) ?_
   refine WQ.run 9 [.map (some m), .int .i64 (last + 1)] rfl (by exact ⟨Z.ld 2 rfl rfl, Z.ld 2 rfl rfl⟩) ?_
   refine WQ.nil ?_
   intro m2
   replace Z := Z.drewN m2; generalize hwm2 : World.drewN _ _ = w at *; clear hwm2
   refine WL.call rfl rfl (Zcm (ls := XG acc) (hne := (fun e => by have h9 := (YH acc).length_eq; rw [e, ha] at h9; simp [Y_] at h9)) (hl := (by rw [(YH acc).length_eq]; omega)) (Z := Z)) rfl ?_
   clear Z; rintro _ w ⟨rfl, Z⟩
   replace Z := Z.n5 L (a0 := Zf 3 1 (Zb (Lib.compact (XG acc))) u d) rfl
   refine WL.nil ?_
   refine ⟨by exact ⟨RQ.pure rfl rfl rfl rfl, RQ.pure rfl rfl rfl rfl, RQ.pure rfl rfl rfl rfl, RQ.load rfl rfl rfl rfl (Z.ld 2 rfl rfl), RQ.pure rfl rfl rfl rfl, RQ.pure rfl rfl rfl rfl, RQ.pure rfl rfl rfl rfl, RQ.load rfl rfl rfl rfl (Z.ld 2 rfl rfl)⟩, ?_⟩
   refine WQ.nil ?_
   intro m3
   replace Z := Z.drewN m3; generalize hwm3 : World.drewN _ _ = w at *; clear hwm3
   refine WL.build rfl rfl (cs := [.bool true, .slice u (List.length (Zb (Lib.compact (XG acc)))) d]) Qv rfl rfl <| WL.nil ?_
   refine ⟨by exact ⟨RQ.pure rfl rfl rfl rfl, RQ.pure rfl rfl rfl rfl, RQ.pure rfl rfl rfl rfl, RQ.load rfl rfl rfl rfl (Z.ld 2 rfl rfl), RQ.pure rfl rfl rfl rfl, RQ.pure rfl rfl rfl rfl, RQ.pure rfl rfl rfl rfl, RQ.load rfl rfl rfl rfl (Z.ld 2 rfl rfl)⟩, ?_⟩
   refine WQ.nil ?_
   intro m4
   replace Z := Z.drewN m4; generalize hwm4 : World.drewN _ _ = w at *; clear hwm4
   refine WL.muN rfl rfl rfl Yo 3 Z rfl rfl rfl rfl (by first | trivial | rfl) (Zkt (fun x hx e => by have h9 := hlt x hx; omega)) (fun w Z => ?_)
   replace Z := Z.n5 L (a3 := Zx m (.map (mE ((List.map vK xs) ++ [⟨.int .i64 (last + 1), .agg #[.bool true, .slice u (List.length (Zb (Lib.compact (XG acc)))) d], q⟩])) (q + 1))) rfl
   refine WL.nil ?_
   refine ⟨by exact trivial, ?_⟩
   intro m5
   replace Z := Z.drewN m5; generalize hwm5 : World.drewN _ _ = w at *; clear hwm5
   as_aux_lemma =>
   refine WC.seq <| WC.region <| WL.run 6 [.int .i64 (last + 1)] rfl (by exact Z.ld 2 rfl rfl) ?_
   refine WL.nil <| WC.ret ?_
   have hm : List.map vK xs ++ [(.int .i64 (last + 1), .agg #[.bool true, .slice u (Zb (Lib.compact (XG acc))).length d], q)] = List.map vK (xs ++ [(VN.mk (last + 1) true (Lib.compact (XG acc)) u d q)]) := by simp [vK, vV]
   rw [hm] at Z
   replace Z := (St.shsSub (zs' := xs ++ [(VN.mk (last + 1) true (Lib.compact (XG acc)) u d q)]) (St.shsCons (Z.share.sel 5 [4, 0, 0, 0, 0] rfl) (z := (VN.mk (last + 1) true (Lib.compact (XG acc)) u d q)) (Zoi _) [0] rfl) (fun z hz => Zd5 hz)).sel 5 [2, 2, 2, 0] rfl
   replace Z := Z.n4 L (a2 := Zx m (.map (mE (List.map vK (xs ++ [VN.mk (last + 1) true (Lib.compact (XG acc)) u d q]))) (q + 1))) (a3 := Zn vF (xs ++ [VN.mk (last + 1) true (Lib.compact (XG acc)) u d q])) rfl
   refine ⟨[.int .i64 (last + 1), .int .i64 0], ⟨rfl, rfl⟩, ?_⟩
   exact ⟨_, rfl, Z, ⟨rfl, rfl, rfl⟩, Zk9 acc, fun z => by
   have h9 := Zir acc z
   rw [ha, List.take_of_length_le (by omega)] at h9
   rw [ha, List.take_of_length_le (by omega)]; exact h9⟩
end Go.Proofs.YtbeacjcmdijdmaaGreat
namespace Go.Proofs.YtbeacjcmdijdmaaGreat
open Go Go.V Go.RowKit Go.Sort Go.Shelf
theorem Qb {g w : World} {L : List HP} (k : Int) (b m2 q2 : Nat) (ns : List (Int × Nat)) (hu : BUq ns) (Z : St g (Ze b #[.map (some m2)] 248 :: Zx m2 (.map (mE (List.map bK ns)) q2) :: L) w) :
  Sp Tryz.prog 141 [.int .i64 k, .pointer (some ⟨b, 0, none⟩)] w (fun v w' => v = .bool (! (YP ns k)) ∧ St g (Ze b #[.map (some m2)] 248 :: Zx m2 (.map (mE (List.map bK ns)) q2) :: L) w' ∧ (w' = w)) := by
 refine Sp.enter Tryz.func141 rfl (by kernel_rfl) (by kernel_rfl) ?_
 refine WC.seq <| WC.region <| WL.r 1 rfl <| WL.nil <| WC.seq <| WC.region <| WL.run 2 [.map (some m2)] rfl (by exact Z.ld 0 rfl rfl) ?_
 refine WL.lkB rfl rfl Ze2 1 Z rfl rfl rfl hu <| WL.r 1 rfl <| WL.r 1 rfl <| WL.nil <| WC.ret ?_
 refine ⟨[.bool (! (YP ns k))], rfl, ?_⟩
 exact ⟨rfl, Z, rfl⟩
theorem Zh2 {g w : World} {L : List HP} (ls : List Int) (a : Option Addr) (c b m2 q2 : Nat) (ns : List (Int × Nat)) (hu : BUq ns) (hne : ls ≠ []) (hl : ls.length ≤ 1000000) (Z : St g (Zf 3 1 (Zb ls) a c :: Ze b #[.map (some m2)] 248 :: Zx m2 (.map (mE (List.map bK ns)) q2) :: L) w) :
  Sp Tryz.prog 143 [.slice a (Zb ls).length c, .func (.func 141) #[] #[.pointer (some ⟨b, 0, none⟩)]] w (fun v w' => v = .slice a (List.length (Zb (List.filter (YP ns) ls))) c ∧ St g (Zf 3 1 (Zb (List.filter (YP ns) ls)) a c :: Ze b #[.map (some m2)] 248 :: Zx m2 (.map (mE (List.map bK ns)) q2) :: L) w') := by
 obtain ⟨b0, rfl⟩ := Z.addrI 0 rfl hne
 obtain ⟨hH, hb, hcap⟩ := Z.holdsI 0 rfl
 have gv : ∀ (W : World) (x : Int), St g (Ze b #[.map (some m2)] 248 :: Zx m2 (.map (mE (List.map bK ns)) q2) :: L) W → Go.Proofs.FnGives Tryz.prog 141 #[.pointer (some ⟨b, 0, none⟩)] #[.int .i64 x] (.bool (!YP ns x)) W := fun W x hW => by
  have h := (Qb x b m2 q2 ns hu hW).go
  exact h.mono fun e w' ⟨v, he, hv, _, hw⟩ => ⟨by rw [he, hv], 0, by rw [hw]; rfl⟩
 have hp : Go.Proofs.PredAt Tryz.prog 141 #[.pointer (some ⟨b, 0, none⟩)] (Value.int .i64) (fun x => !YP ns x) w := fun W x hB => gv W x (Z.under hB).tail
 have hpo : Go.Proofs.PredOver Tryz.prog 141 #[.pointer (some ⟨b, 0, none⟩)] (Value.int .i64) (fun x => !YP ns x) b0 0 ls.toArray.size w := fun n os dk x hd => gv _ x (by
  have h1 := (Z.putI dk.toList (by simpa using hd) n os).tail
  simpa [sortWorld] using h1)
 have h := Go.Proofs.AnyE.slices_DeleteFunc Tryz.delA (Value.int .i64) (fun _ => rfl) (fun x => !YP ns x) 141 #[.pointer (some ⟨b, 0, none⟩)] (Go.Proofs.enters_of Tryz.func141 (by kernel_rfl) rfl) 0 Tryz.zeroValue3 b0 0 c ls.toArray w hp hpo hH (by simp; omega) (by simpa using hcap)
 have hf : (ls.toArray.toList.filter fun x => !(fun x => !YP ns x) x) = ls.filter (YP ns) := by simp
 have hsz : ls.toArray.size = (Zb ls).length := by simp
 rw [hf, hsz] at h
 refine ⟨⟨_, _, Tryz.func143, by kernel_rfl, rfl⟩, h.mono fun e w' ⟨he, n, hw⟩ => ⟨_, he, by rw [Zh], ?_⟩⟩
 subst hw
 have hfl : (ls.filter (YP ns)).length ≤ ls.length := List.length_filter_le _ _
 have h2 := Z.putI (ls.filter (YP ns) ++ List.replicate (ls.length - (ls.filter (YP ns)).length) 0) (by simp; omega) n #[]
 rw [Zh]
 have h3 := h2.ownTake (ls.filter (YP ns)).length
 rw [Zab, List.take_left] at h3
 simpa using h3
set_option maxHeartbeats 2000000 in
theorem Zc9 {g w : World} {L : List HP} (p m : Nat) (cap last : Int) (xs : List VN) (q : Nat) (ss : List Int) (hG : GOk xs q) (hK : Keys xs ss) (Z : St g (Ze p #[.int .i64 cap, .int .i64 last, .map (some m)] 231 :: Zx m (.map (mE (List.map vK xs)) q) :: Zn vF xs :: L) w) :
  Sp Tryz.prog 140 [.pointer (some ⟨p, 0, none⟩)] w (fun v w' => ∃ (m2 q2 : Nat) (ns : List (Int × Nat)), v = .map (some m2) ∧ St g (Zx m2 (.map (mE (List.map bK ns)) q2) :: Ze p #[.int .i64 cap, .int .i64 last, .map (some m)] 231 :: Zx m (.map (mE (List.map vK xs)) q) :: Zn vF xs :: L) w' ∧ (BUq ns) ∧ (∀ z, YP ns z = true ↔ Zai xs z)) := by
 refine Sp.enter Tryz.func140 rfl (by kernel_rfl) (by kernel_rfl) ?_
 refine WC.seq <| WC.region ?_
 have hu := hG.uniq; have ht := hG.toVOk; have hsl := Zh ss; have hssl : ss.length ≤ 4096 := by rw [hK.perm.length_eq, List.length_map]; exact hG.num
 refine WL.r 1 rfl <| WL.nil <| WC.seq <| WC.region <| WL.mkM rfl rfl Z (fun b1 w Z => ?_)
 refine WL.r 1 rfl <| WL.nil <| WC.seq <| WC.region <| WL.r 1 rfl <| WL.nil <| WC.seq <| WC.seq <| WC.region <| WL.r 1 rfl <| WL.call rfl rfl (JU (cap := cap) (last := last) (q := q) (ss := ss) (ht := (by first | assumption | exact (GI.ok (by assumption)).toVOk)) (hp := hK.perm) (hs := hK.le) (Z := (Z.sel 4 [1, 1, 1, 0] rfl))) rfl ?_
 clear Z; rintro _ w ⟨a1, c1, rfl, Z⟩
 replace Z := Z.n5 L (a0 := Zf 3 1 (Zb ss) a1 c1) (a4 := Zx b1 (.map (mE []) 0)) rfl
 refine WL.r 2 rfl <| WL.nil <| WC.block ?_
 replace Z := Z.nil_ 3 1
 refine WC.loop [0, 2, 3, 4, 12, 13, 14] (fun kM vs w => ∃ (k : Nat) (ns : List (Int × Nat)) (q2 : Nat) (lv : List Int) (u : Option Addr) (d : Nat), vs = [.pointer (some ⟨p, 0, none⟩), .map none, .map (some b1), .slice u (Zb lv).length d, .slice a1 (Zb ss).length c1, .int .i64 (List.length (Zb ss) : Int), .int .i64 (k : Int)] ∧ St g (Zf 3 1 (Zb lv) u d :: Zf 3 1 (Zb ss) a1 c1 :: Ze p #[.int .i64 cap, .int .i64 last, .map (some m)] 231 :: Zx m (.map (mE (List.map vK xs)) q) :: Zn vF xs :: Zx b1 (.map (mE (List.map bK ns)) q2) :: L) w ∧ (k ≤ ss.length) ∧ (lv = (List.take k ss).filter (Zj xs)) ∧ (BUq ns) ∧ (∀ z, YP ns z = true ↔ z ∈ lv ∨ (0 < z ∧ ∃ x ∈ lv, ∃ y ∈ lv, x < y ∧ ZL xs x y = z)) ∧ (ss.length - k) = kM) ((List.length ss) - 0) ⟨0, [], 0, [], none, 0, rfl, Z, (Nat.zero_le _), (rfl), (List.Pairwise.nil), (fun z => by simp [YP]), rfl⟩ ?_
 clear Z; rintro _ _ w j ⟨k, ns, q2, lv, u, d, rfl, Z, hk, hlv, hns, hm, rfl⟩
 refine WC.seq <| WC.region <| WL.r 1 rfl <| WL.nil ?_
 as_aux_lemma =>
 refine WC.seq <| WC.ifP rfl (fun cd1 => ?_) (fun cd1 => ?_)
 ·refine WC.skip <| WC.seq <| WC.block <| WC.seq <| WC.region ?_
  obtain ⟨n, hn⟩ : ∃ u, ss[k]? = some u := ⟨_, List.getElem?_eq_getElem (by omega)⟩; have hlvl : lv.length ≤ k := by rw [hlv]; exact Nat.le_trans (List.length_filter_le _ _) (by rw [List.length_take]; omega)
  refine WL.ix rfl rfl (i := (k : Int)) (k) el_56 rfl rfl (by omega) (by omega) (Z.rdO 1 rfl (Zd hn)).1 ?_
  refine WL.run 2 [.int .i64 n] rfl (by exact (Z.rdO 1 rfl (Zd hn)).2 0 _ rfl) ?_
  refine WL.nil <| WC.seq <| WC.seq <| WC.region <| WL.r 2 rfl <| WL.call rfl rfl (Ys (cap := cap) (last := last) (q := q) (n := n) (hu := (by first | assumption | exact (GI.ok (by assumption)).uniq)) (Z := (Z.sel 5 [2, 2, 2, 0, 0] rfl))) rfl ?_
  clear Z; rintro _ w ⟨rfl, Z⟩
  replace Z := Z.n6 L rfl
  refine WL.r 1 rfl <| WL.nil <| WC.if_ rfl (fun cd2 => ?_) (fun cd2 => ?_)
  ·refine WC.exit <| WC.region <| WL.r 1 rfl <| WL.nw 43 rfl (Zr (by omega)) ?_
   refine WL.r 1 rfl <| WL.nil ?_
   exact ⟨_, by omega, k + 1, ns, q2, lv, u, d, rfl, (Z.sel 5 [3, 3, 0, 0, 0] rfl), (by omega), (by rw [hlv]; exact (Zl7 hn (by simpa using cd2)).symm), (hns), (hm), rfl⟩
  ·refine WC.skip <| WC.seq <| WC.region <| WL.r 2 rfl <| WL.muB rfl rfl rfl Ze2 5 Z rfl rfl rfl rfl hns (fun ns1 qs1 w hns1 hmem1 Z => ?_)
   replace Z := Z.n6 L (a5 := Zx b1 (.map (mE (List.map bK ns1)) qs1)) rfl
   refine WL.nil ?_
   as_aux_lemma =>
   refine WC.seq <| WC.seq <| WC.region ?_
   have hll := Zh lv
   refine WL.r 3 rfl <| WL.nil <| WC.block <| WC.loop [0, 2, 3, 4, 6, 12, 13, 14, 15, 16, 17, 18, 19, 20, 21, 22, 23, 24, 25, 26] (fun kM vs w => ∃ (k2 : Nat) (nsb : List (Int × Nat)) (qb : Nat), vs = [.pointer (some ⟨p, 0, none⟩), .map none, .map (some b1), .slice u (Zb lv).length d, .int .i64 n, .slice a1 (Zb ss).length c1, .int .i64 (List.length (Zb ss) : Int), .int .i64 (k : Int), .bool (decide ((k : Int) < (List.length (Zb ss) : Int))), .pointer (some ⟨bo a1, (oo a1) + (k * 1), none⟩), .int .i64 n, .pointer (some ⟨p, 0, none⟩), .int .i64 n, .bool (Zj xs n), .bool (! (Zj xs n)), .map (some b1), .int .i64 n, .slice u (Zb lv).length d, .int .i64 (List.length (Zb lv) : Int), .int .i64 (k2 : Int)] ∧ St g (Ze p #[.int .i64 cap, .int .i64 last, .map (some m)] 231 :: Zx m (.map (mE (List.map vK xs)) q) :: Zn vF xs :: Zf 3 1 (Zb lv) u d :: Zf 3 1 (Zb ss) a1 c1 :: Zx b1 (.map (mE (List.map bK nsb)) qb) :: L) w ∧ (k2 ≤ lv.length) ∧ (BUq nsb) ∧ (∀ z, YP nsb z = true ↔ z = n ∨ YP ns z = true ∨ (0 < z ∧ ∃ x ∈ List.take k2 lv, ZL xs x n = z)) ∧ (lv.length - k2) = kM) ((List.length lv) - 0) ⟨0, ns1, qs1, rfl, Z, (Nat.zero_le _), (hns1), (fun z => by rw [hmem1]; simp), rfl⟩ ?_
   clear Z; rintro _ _ w j ⟨k2, nsb, qb, rfl, Z, hk2, hnb, hmb, rfl⟩
   refine WC.seq <| WC.region ?_
   have hll := Zh lv
   refine WL.r 1 rfl <| WL.nil <| WC.seq <| WC.ifP rfl (fun cd3 => ?_) (fun cd3 => ?_)
   ·refine WC.skip <| WC.seq <| WC.block <| WC.seq <| WC.region ?_
    obtain ⟨x, hx⟩ : ∃ u, lv[k2]? = some u := ⟨_, List.getElem?_eq_getElem (by omega)⟩
    refine WL.ix rfl rfl (i := (k2 : Int)) (k2) el_56 rfl rfl (by omega) (by omega) (Z.rdO 3 rfl (Zd hx)).1 ?_
    refine WL.run 2 [.int .i64 x] rfl (by exact (Z.rdO 3 rfl (Zd hx)).2 0 _ rfl) ?_
    refine WL.nil ?_
    as_aux_lemma =>
    refine WC.seq <| WC.region <| WL.r 3 rfl <| WL.call rfl rfl (Zgz (cap := cap) (last := last) (q := q) (n1 := x) (n2 := n) (hG := (by first | assumption | exact GI.ok (by assumption))) (Z := Z)) rfl ?_
    clear Z; rintro _ w ⟨rfl, Z⟩
    replace Z := Z.n6 L rfl
    refine WL.r 1 rfl <| WL.nil <| WC.seq <| WC.region <| WL.r 2 rfl <| WL.nil <| WC.ifP rfl (fun cd4 => ?_) (fun cd4 => ?_)
    ·refine WC.region <| WL.r 2 rfl <| WL.muB rfl rfl rfl Ze2 5 Z rfl rfl rfl rfl hnb (fun ns2 qs2 w hns2 hmem2 Z => ?_)
     replace Z := Z.n6 L (a5 := Zx b1 (.map (mE (List.map bK ns2)) qs2)) rfl
     refine WL.nil <| WC.region <| WL.r 1 rfl <| WL.nw 38 rfl (Zr (by omega)) ?_
     refine WL.r 1 rfl <| WL.nil ?_
     exact ⟨_, by omega, k2 + 1, ns2, qs2, rfl, Z, (by omega), (hns2), (Znf hmb hx cd4 hmem2), rfl⟩
    ·refine WC.skip <| WC.region <| WL.r 1 rfl <| WL.nw 38 rfl (Zr (by omega)) ?_
     refine WL.r 1 rfl <| WL.nil ?_
     exact ⟨_, by omega, k2 + 1, nsb, qb, rfl, Z, (by omega), (hnb), (Zku hmb hx cd4), rfl⟩
   ·refine WC.exit <| WC.region ?_
    have hll2 := Zh lv
    refine WL.r 2 rfl <| WL.lit rfl rfl (Zb [n]) el_56 Z (by exact ⟨rfl, rfl⟩) (Z9 _) rfl (Nat.le_of_ble_eq_true rfl) (fun b2 w Z => ?_)
    refine WL.app rfl rfl 4 (Zb (lv ++ [n])) el_56 Z rfl (Z.srcO 0 rfl) (Yx _ _).symm (Rm.of (by first | omega | (simp <;> omega)) (by decide)) rfl rfl (fun a2 c2 w Z => ?_)
    replace Z := Z.n7 L (a0 := Zf 3 1 (Zb [n]) (some ⟨b2, 0, none⟩) (Zb [n]).length) (a4 := Zf 3 1 (Zb (lv ++ [n])) a2 c2) rfl
    refine WL.r 1 rfl <| WL.nil ?_
    as_aux_lemma =>
    refine WC.region <| WL.r 1 rfl <| WL.nw 43 rfl (Zr (by omega)) ?_
    refine WL.r 1 rfl <| WL.nil ?_
    exact ⟨_, by omega, k + 1, nsb, qb, lv ++ [n], a2, c2, rfl, (Z.sel 6 [4, 4, 1, 1, 1] rfl), (by omega), (by rw [hlv]; exact (Zn0 hn (by simpa using cd2)).symm), (hnb), (Zhg hm (fun z => by rw [hmb, List.take_of_length_le (by omega)]) (fun x hx => by rw [hlv] at hx; exact Za5 hK.asc hn x (List.mem_filter.1 hx).1)), rfl⟩
 ·refine WC.exit <| WC.seq <| WC.region <| WL.r 2 rfl <| WL.nil <| WC.ret ?_
  refine ⟨[.map (some b1)], rfl, ?_⟩
  replace Z := (Z.sel 6 [5, 2, 2, 2] rfl)
  exact ⟨_, _, _, rfl, Z, hns, Zid hK (by rw [hlv, List.take_of_length_le (by omega)] at hm; exact hm)⟩
end Go.Proofs.YtbeacjcmdijdmaaGreat
namespace Go.Proofs.YtbeacjcmdijdmaaGreat
open Go Go.V Go.RowKit
theorem Zqa {g w : World} {L : List HP} (p m : Nat) (cap last : Int) (xs : List VN) (q : Nat) (n : Int) (hu : VUq xs) (hl : Zj xs n = false) (Z : St g (Ze p #[.int .i64 cap, .int .i64 last, .map (some m)] 231 :: Zx m (.map (mE (List.map vK xs)) q) :: Zn vF xs :: L) w) :
  Sp Tryz.prog 75 [.pointer (some ⟨p, 0, none⟩), .int .i64 n] w (fun v w' => v = .int .i64 4 ∧ St g (Ze p #[.int .i64 cap, .int .i64 last, .map (some m)] 231 :: Zx m (.map (mE (List.map vK xs)) q) :: Zn vF xs :: L) w') := by
 refine Sp.enter Tryz.func75 rfl (by kernel_rfl) (by kernel_rfl) ?_
 have _ := hu
 refine WC.seq <| WC.region <| WL.r 1 rfl <| WL.nil <| WC.seq <| WC.seq <| WC.region <| WL.r 2 rfl <| WL.call rfl rfl (Ys (cap := cap) (last := last) (q := q) (n := n) (hu := (by first | assumption | exact (GI.ok (by assumption)).uniq)) (Z := Z)) rfl ?_
 clear Z; rintro _ w ⟨rfl, Z⟩
 replace Z := Z.n3 L rfl
 refine WL.r 1 rfl <| WL.nil <| WC.ifT rfl (by rw [hl]; rfl) ?_
 refine WC.seq <| WC.region <| WL.r 1 rfl <| WL.nil <| WC.ret ?_
 refine ⟨[.int .i64 4], rfl, ?_⟩
 exact ⟨rfl, Z⟩
set_option maxHeartbeats 2000000 in
theorem Zoz {g w : World} {L : List HP} (p m : Nat) (cap last : Int) (xs : List VN) (q : Nat) (k : Nat) (x : VN) (hG : GOk xs q) (hx : xs[k]? = some x) (hl : x.live = true) (Z : St g (Ze p #[.int .i64 cap, .int .i64 last, .map (some m)] 231 :: Zx m (.map (mE (List.map vK xs)) q) :: Zn vF xs :: L) w) :
  Sp Tryz.prog 75 [.pointer (some ⟨p, 0, none⟩), .int .i64 x.n] w (fun v w' => ∃ (xs2 : List VN), v = .int .i64 0 ∧ St g (Ze p #[.int .i64 cap, .int .i64 last, .map (some m)] 231 :: Zx m (.map (mE (List.map vK xs2)) q) :: Zn vF xs2 :: L) w' ∧ (GOk xs2 q) ∧ (RelP xs x.n xs2)) := by
 refine Sp.enter Tryz.func75 rfl (by kernel_rfl) (by kernel_rfl) ?_
 refine WC.seq <| WC.region <| WL.r 1 rfl <| WL.nil <| WC.seq <| WC.seq <| WC.region ?_
 have hu := hG.uniq
 refine WL.r 2 rfl <| WL.call rfl rfl (Qk (cap := cap) (last := last) (q := q) (k := k) (x := x) (hx := hx) (hu := hu) (Z := Z)) rfl ?_
 clear Z; rintro _ w ⟨rfl, Z⟩
 replace Z := Z.n3 L rfl
 refine WL.r 1 rfl <| WL.nil <| WC.ifF rfl (by rw [hl]; rfl) ?_
 refine WC.skip <| WC.seq <| WC.plan [([0, 4, 5, 9, 1, 6, 2, 7, 3, 8, 10, 11], some (12, [0, 1, 2, 3, 4])), ([], some (13, []))] (by kernel_rfl) (by kernel_rfl) ?_
 refine WQ.run 10 [.map (some m), .map (some m)] rfl (by exact ⟨Z.ld 0 rfl rfl, Z.ld 0 rfl rfl⟩) ?_
 refine WQ.lk rfl rfl Yo 1 Z rfl rfl rfl (by first | trivial | rfl) (r := some (k, .agg #[.bool x.live, .slice x.a (Zb x.ab).length x.c])) (Q8 hx hu) rfl ?_
 refine WQ.r 1 rfl <| WQ.nil ?_
 intro m1
 replace Z := Z.drewN m1; generalize hwm1 : World.drewN _ _ = w at *; clear hwm1
 refine WL.build rfl rfl (cs := [.bool false, .slice x.a (Zb x.ab).length x.c]) Qv rfl rfl <| WL.nil ?_
 refine ⟨by exact ⟨RQ.pure rfl rfl rfl rfl, RQ.pure rfl rfl rfl rfl, RQ.pure rfl rfl rfl rfl, RQ.load rfl rfl rfl rfl (Z.ld 0 rfl rfl), RQ.pure rfl rfl rfl rfl⟩, ?_⟩
 refine WQ.nil ?_
 intro m2
 replace Z := Z.drewN m2; generalize hwm2 : World.drewN _ _ = w at *; clear hwm2
 refine WL.muR (List.map vK (List.set xs k (VN.mk x.n false x.ab x.a x.c x.born))) rfl rfl rfl Yo 1 Z rfl (k := .int .i64 x.n) (v := .agg #[.bool false, .slice x.a (Zb x.ab).length x.c]) rfl rfl rfl (by first | trivial | rfl) (j := k) (u := (vV x)) (Q8 hx hu) (by rw [List.getElem?_map, hx]; rfl) (List.map_set (f := vK) (l := xs) (i := k) (a := (VN.mk x.n false x.ab x.a x.c x.born))).symm (fun w Z => ?_)
 replace Z := Z.n3 L (a1 := Zx m (.map (mE (List.map vK (List.set xs k (VN.mk x.n false x.ab x.a x.c x.born)))) q)) rfl
 refine WL.nil ?_
 refine ⟨by exact trivial, ?_⟩
 intro m3
 replace Z := Z.drewN m3; generalize hwm3 : World.drewN _ _ = w at *; clear hwm3
 as_aux_lemma =>
 refine WC.seq <| WC.region ?_
 replace Z := (St.shsMap (zs' := xs.set k (VN.mk x.n false x.ab x.a x.c x.born)) (Z.sel 3 [2, 0, 0] rfl) (fun z hz => by
  rcases (JC hu hx z).1 hz with rfl | h
  ·exact ⟨x, List.mem_of_getElem? hx, rfl⟩
  ·exact ⟨z, h.1, rfl⟩)).sel 3 [1, 1, 0] rfl
 obtain ⟨xs1, hxs1⟩ : ∃ xs1, xs1 = xs.set k (VN.mk x.n false x.ab x.a x.c x.born) := ⟨_, rfl⟩
 rw [← hxs1] at Z
 have hv1 : ∀ z, vw xs1 z = dead (vw xs) x.n z := by rw [hxs1]; exact Zi3 hu hx
 have hV1 : VOk xs1 q := by rw [hxs1]; exact hG.toVOk.set hx rfl rfl
 have hG1 : GOk xs1 q := GF.gok (by rw [funext hv1]; exact hG.gf.dead _) hV1
 obtain ⟨ss, hK⟩ := JF hV1.uniq
 replace Z := Z.n3 L (a1 := Zx m (.map (mE (List.map vK xs1)) q)) (a2 := Zn vF xs1) rfl
 refine WL.r 1 rfl <| WL.call rfl rfl (Zc9 (cap := cap) (last := last) (q := q) (ss := ss) (hG := (by first | assumption | exact GI.ok (by assumption))) (hK := hK) (Z := Z)) rfl ?_
 clear Z; rintro _ w ⟨m4, q1, ns1, rfl, Z, f1, f2⟩
 replace Z := Z.n4 L (a0 := Zx m4 (.map (mE (List.map bK ns1)) q1)) rfl
 refine WL.new rfl rfl Zpg Z (fun b1 w Z => ?_)
 refine WL.st rfl rfl rfl 0 Z rfl rfl rfl rfl rfl rfl (fun w Z => ?_)
 replace Z := Z.n5 L (a0 := Ze b1 #[.map (some m4)] 248) rfl
 refine WL.nil <| WC.seq <| WC.region <| WL.mkF rfl rfl (vs := [.pointer (some ⟨b1, 0, none⟩)]) rfl <| WL.r 1 rfl <| WL.nil <| WC.seq <| WC.seq <| WC.region ?_
 have hsl := Zh ss; have hssl : ss.length ≤ 4096 := by rw [hK.perm.length_eq, List.length_map]; exact hV1.num
 refine WL.r 1 rfl <| WL.call rfl rfl (JU (cap := cap) (last := last) (q := q) (ss := ss) (ht := (by first | assumption | exact (GI.ok (by assumption)).toVOk)) (hp := hK.perm) (hs := hK.le) (Z := (Z.sel 5 [2, 2, 2, 0, 0] rfl))) rfl ?_
 clear Z; rintro _ w ⟨a1, c1, rfl, Z⟩
 replace Z := Z.n6 L (a0 := Zf 3 1 (Zb ss) a1 c1) rfl
 refine WL.r 2 rfl <| WL.nil ?_
 as_aux_lemma =>
 refine WC.block <| WC.loop [0, 4, 6, 31, 32, 33] (fun kM vs w => ∃ (k2 : Nat) (cur : List VN), vs = [.pointer (some ⟨p, 0, none⟩), .int .i64 0, .func (.func 141) #[] #[.pointer (some ⟨b1, 0, none⟩)], .slice a1 (Zb ss).length c1, .int .i64 (List.length (Zb ss) : Int), .int .i64 (k2 : Int)] ∧ St g (Zf 3 1 (Zb ss) a1 c1 :: Ze p #[.int .i64 cap, .int .i64 last, .map (some m)] 231 :: Zx m (.map (mE (List.map vK cur)) q) :: Zn vF cur :: Ze b1 #[.map (some m4)] 248 :: Zx m4 (.map (mE (List.map bK ns1)) q1) :: L) w ∧ (k2 ≤ ss.length) ∧ (VOk cur q) ∧ (∀ z, vw cur z = JT (YP ns1) (vw xs1) (List.take k2 ss) z) ∧ (ss.length - k2) = kM) ((List.length ss) - 0) ⟨0, xs1, rfl, Z, (Nat.zero_le _), (hV1), (fun z => by simp [JT]), rfl⟩ ?_
 clear Z; rintro _ _ w j ⟨k2, cur, rfl, Z, hk2, hV, hD, rfl⟩
 refine WC.seq <| WC.region ?_
 have hsl := Zh ss; have hssl : ss.length ≤ 4096 := by rw [hK.perm.length_eq, List.length_map]; exact hV1.num
 refine WL.r 1 rfl <| WL.nil <| WC.seq <| WC.ifP rfl (fun cd1 => ?_) (fun cd1 => ?_)
 ·refine WC.skip <| WC.seq <| WC.block <| WC.seq <| WC.region ?_
  obtain ⟨n, hn⟩ : ∃ u, ss[k2]? = some u := ⟨_, List.getElem?_eq_getElem (by omega)⟩; obtain ⟨hnk, j, y, hj, hyn, hy1⟩ := Zmn hK hn hD; have huc := hV.uniq
  refine WL.ix rfl rfl (i := (k2 : Int)) (k2) el_56 rfl rfl (by omega) (by omega) (Z.rdO 0 rfl (Zd hn)).1 ?_
  refine WL.run 2 [.int .i64 n] rfl (by exact (Z.rdO 0 rfl (Zd hn)).2 0 _ rfl) ?_
  refine WL.nil <| WC.seq <| WC.region <| WL.run 5 [.map (some m)] rfl (by exact Z.ld 1 rfl rfl) ?_
  refine WL.lk rfl rfl Yo 2 Z rfl rfl rfl (by first | trivial | rfl) (r := some (j, .agg #[.bool y.live, .slice y.a (Zb y.ab).length y.c])) (hyn ▸ Q8 hj huc) rfl ?_
  refine WL.new rfl rfl Qv Z (fun b2 w Z => ?_)
  refine WL.stF rfl rfl rfl 0 Z rfl rfl rfl rfl rfl Zbv (fun w Z => ?_)
  replace Z := Z.n7 L (a0 := Ze b2 #[.bool y.live, .slice y.a (Zb y.ab).length y.c] 247) rfl
  refine WL.nil ?_
  as_aux_lemma =>
  refine WC.seq <| WC.seq <| WC.region <| WL.r 2 rfl <| WL.callV (bs := [.pointer (some ⟨b1, 0, none⟩)]) rfl rfl rfl (Qb (k := n) (q2 := q1) (ns := ns1) (hu := (by assumption)) (Z := (Z.sel 7 [5, 5, 0, 0, 0, 0, 0] rfl))) rfl ?_
  clear Z; rintro _ w ⟨rfl, Z, f3⟩
  replace Z := Z.n7 L rfl
  refine WL.nil <| WC.if_ rfl (fun cd2 => ?_) (fun cd2 => ?_)
  ·refine WC.seq <| WC.region <| WL.run 5 [.map (some m)] rfl (by exact Z.ld 4 rfl rfl) ?_
   refine WL.del rfl rfl Yo 5 Z rfl rfl rfl (by first | trivial | rfl) (j := j) (v := (vV y)) (hyn ▸ Q8 hj huc) (by rw [List.length_map]; exact (List.getElem?_eq_some_iff.1 hj).1) (fun w Z => ?_)
   replace Z := Z.n7 L (a5 := Zx m (.map (mE (List.eraseIdx (List.map vK cur) j)) q)) rfl
   refine WL.nil <| WC.exit <| WC.region <| WL.r 1 rfl <| WL.nw 63 rfl (Zr (by omega)) ?_
   refine WL.r 1 rfl <| WL.nil ?_
   rw [show (List.map vK cur).eraseIdx j = List.map vK (cur.eraseIdx j) by simp [List.eraseIdx_eq_take_drop_succ]] at Z
   replace Z := (St.shsSub (zs' := cur.eraseIdx j) (Z.at_ 6 rfl) (fun z hz => (List.eraseIdx_sublist cur j).subset hz)).sel 7 [4, 4, 4, 0, 0, 0] rfl
   replace Z := Z.n6 L (a2 := Zx m (.map (mE (List.map vK (List.eraseIdx cur j))) q)) (a3 := Zn vF (List.eraseIdx cur j)) rfl
   exact ⟨_, by omega, k2 + 1, List.eraseIdx cur j, rfl, Z, (by omega), (hV.rem j), (Zlh huc hj hyn hn hD (by simpa using cd2)), rfl⟩
  ·refine WC.skip <| WC.seq <| WC.region ?_
   have hyl : y.ab.length ≤ 4096 := by have h9 := hG1.lenA n; rw [YF, hy1] at h9; exact h9
   have hye : y.ab ≠ [] := fun e => by have h9 := hG1.gf.self n _ _ hy1; rw [e] at h9; cases h9
   replace Z : St g (Sh 3 1 (Zb y.ab) y.a y.c :: Ze b1 #[.map (some m4)] 248 :: Zx m4 (.map (mE (List.map bK ns1)) q1) :: Ze b2 #[.bool y.live, .slice y.a (Zb y.ab).length y.c] 247 :: Zf 3 1 (Zb ss) a1 c1 :: Ze p #[.int .i64 cap, .int .i64 last, .map (some m)] 231 :: Zx m (.map (mE (List.map vK cur)) q) :: Zn vF cur :: L) w := Z.shsGet 6 rfl (List.mem_of_getElem? hj)
   refine WL.run 2 [.slice y.a (Zb y.ab).length y.c] rfl (by exact Z.ld 3 rfl rfl) ?_
   refine WL.call rfl rfl (Ziz (ls := y.ab) (a := y.a) (c := y.c) (hl := (by omega)) (Z := Z)) rfl ?_
   clear Z; rintro _ w ⟨a2, c2, rfl, Z⟩
   replace Z := Z.n9 L (a0 := Zf 3 1 (Zb y.ab) a2 c2) (a1 := Sh 3 1 (Zb y.ab) y.a y.c) rfl
   refine WL.r 1 rfl <| WL.call rfl rfl (Zh2 (ls := y.ab) (q2 := q1) (ns := ns1) (hu := (by assumption)) (hne := hye) (hl := (by omega)) (Z := (Z.sel 4 [0, 1, 1, 0] rfl))) rfl ?_
   clear Z; rintro _ w ⟨rfl, Z⟩
   replace Z := Z.n9 L (a0 := Zf 3 1 (Zb (List.filter (YP ns1) y.ab)) a2 c2) rfl
   refine WL.r 1 rfl <| WL.st rfl rfl rfl 4 Z rfl rfl rfl rfl rfl rfl (fun w Z => ?_)
   replace Z := Z.n9 L (a4 := Ze b2 #[.bool y.live, .slice a2 (List.length (Zb (List.filter (YP ns1) y.ab))) c2] 247) rfl
   refine WL.nil ?_
   as_aux_lemma =>
   refine WC.plan [([0, 4, 1, 2, 3], some (5, [0, 1, 2, 3, 4])), ([], some (6, []))] (by kernel_rfl) (by kernel_rfl) ?_
   refine WQ.run 5 [.map (some m)] rfl (by exact Z.ld 6 rfl rfl) ?_
   refine WQ.nil ?_
   intro m5
   replace Z := Z.drewN m5; generalize hwm5 : World.drewN _ _ = w at *; clear hwm5
   refine WL.ldF rfl rfl 4 Z rfl rfl Zbv <| WL.nil ?_
   refine ⟨by exact ⟨RQ.pure rfl rfl rfl rfl, RQ.pure rfl rfl rfl rfl, RQ.pure rfl rfl rfl rfl, RQ.load rfl rfl rfl rfl (Z.ld 6 rfl rfl), RQ.pure rfl rfl rfl rfl⟩, ?_⟩
   refine WQ.nil ?_
   intro m6
   replace Z := Z.drewN m6; generalize hwm6 : World.drewN _ _ = w at *; clear hwm6
   refine WL.muR (List.map vK (List.set cur j (VN.mk n y.live (List.filter (YP ns1) y.ab) a2 c2 y.born))) rfl rfl rfl Yo 7 Z rfl (k := .int .i64 n) (v := .agg #[.bool y.live, .slice a2 (List.length (Zb (List.filter (YP ns1) y.ab))) c2]) rfl rfl rfl (by first | trivial | rfl) (j := j) (u := (vV y)) (hyn ▸ Q8 hj huc) (by rw [List.getElem?_map, hj, ← hyn]; rfl) (List.map_set (f := vK) (l := cur) (i := j) (a := VN.mk n y.live (List.filter (YP ns1) y.ab) a2 c2 y.born)).symm (fun w Z => ?_)
   replace Z := Z.n9 L (a7 := Zx m (.map (mE (List.map vK (List.set cur j (VN.mk n y.live (List.filter (YP ns1) y.ab) a2 c2 y.born)))) q)) rfl
   refine WL.nil ?_
   refine ⟨by exact trivial, ?_⟩
   intro m7
   replace Z := Z.drewN m7; generalize hwm7 : World.drewN _ _ = w at *; clear hwm7
   refine WC.region <| WL.r 1 rfl <| WL.nw 63 rfl (Zr (by omega)) ?_
   refine WL.r 1 rfl <| WL.nil ?_
   replace Z := (St.shsSub (zs' := cur.set j (VN.mk n y.live (List.filter (YP ns1) y.ab) a2 c2 y.born)) (St.shsCons (Z.share.sel 9 [8, 0, 0, 0, 2, 2, 2] rfl) (z := (VN.mk n y.live (List.filter (YP ns1) y.ab) a2 c2 y.born)) (Zoi _) [0] rfl) (fun z hz => by
    rcases (JC huc hj z).1 hz with rfl | h
    ·exact List.mem_cons_self ..
    ·exact List.mem_cons_of_mem _ h.1)).sel 7 [4, 4, 4, 0, 1, 1] rfl
   replace Z := Z.n6 L (a3 := Zn vF (List.set cur j (VN.mk n y.live (List.filter (YP ns1) y.ab) a2 c2 y.born))) rfl
   exact ⟨_, by omega, k2 + 1, List.set cur j (VN.mk n y.live (List.filter (YP ns1) y.ab) a2 c2 y.born), rfl, Z, (by omega), (hV.set hj hyn.symm rfl), (Zja huc hj hyn hn hD (by simpa using cd2) hnk hyn.symm rfl rfl), rfl⟩
 ·refine WC.exit <| WC.seq <| WC.region ?_
  have hD2 : ∀ z, vw cur z = keep (YP ns1) (vw xs1) z := fun z => by rw [hD, List.take_of_length_le (by omega), Zjw hK]
  refine WL.r 1 rfl <| WL.nil <| WC.ret ?_
  refine ⟨[.int .i64 0], rfl, ?_⟩
  replace Z := (Z.sel 6 [1, 1, 1] rfl)
  exact ⟨_, rfl, Z, GF.gok (by rw [funext hD2]; exact hG1.gf.keep _) hV, xs1, YP ns1, hv1, f2, hD2⟩
end Go.Proofs.YtbeacjcmdijdmaaGreat
namespace Go.Proofs.YtbeacjcmdijdmaaGreat
open Go Go.V Go.RowKit
theorem Zj0 {g w : World} {L : List HP} (p m : Nat) (cap last : Int) (xs : List VN) (q : Nat) (ps : List Int) (a : Option Addr) (c : Nat) (hI : GI xs q cap last) (hla : last < 1000000000) (Z : St g (Sh 3 1 (Zb ps) a c :: Ze p #[.int .i64 cap, .int .i64 last, .map (some m)] 231 :: Zx m (.map (mE (List.map vK xs)) q) :: Zn vF xs :: L) w) :
  Sp Tryz.prog 186 [.pointer (some ⟨p, 0, none⟩), .slice a (Zb ps).length c] w (fun v w' => ∃ (xs2 : List VN) (q2 : Nat) (last2 : Int), v = .tuple #[.int .i64 (Zel xs cap last ps), .int .i64 (YG xs cap ps)] ∧ St g (Sh 3 1 (Zb ps) a c :: Ze p #[.int .i64 cap, .int .i64 last2, .map (some m)] 231 :: Zx m (.map (mE (List.map vK xs2)) q2) :: Zn vF xs2 :: L) w' ∧ (GI xs2 q2 cap last2) ∧ (AddP xs cap last ps xs2 last2)) := by
 by_cases h1 : ZT ps
 ·by_cases h2 : ∀ z ∈ ps, Zj xs z = true
  ·by_cases h3 : cap ≤ xs.length
   ·have he : YG xs cap ps = 2 := by unfold YG; rw [if_neg (fun h => h h1), if_neg (fun h => h h2), if_pos h3]
    rw [Zel, he, if_neg (by decide)]
    exact (Ziq p m cap last xs q ps a c hI.ok.uniq h1 h2 h3 Z).mono fun v w' ⟨hv, hS'⟩ => ⟨xs, q, last, hv, hS', hI, .inl ⟨by rw [he]; decide, rfl, rfl⟩⟩
   ·have he : YG xs cap ps = 0 := JI h1 h2 h3
    rw [Zel, he, if_pos rfl]
    have hcp := hI.cp
    refine (Zpt p m cap last xs q ps a c hI.ok h1 h2 (by omega) (by omega) ⟨hI.la, hla⟩ hI.le Z).mono fun v w' ⟨vn, hv, hS', ⟨e1, e2, e3⟩, e4, e5⟩ => ⟨xs ++ [vn], q + 1, last + 1, hv, hS', ⟨?_, fun x hx => ?_, by have := hI.la; omega, hcp⟩, .inr ⟨he, rfl, vn, rfl, e1, e2, e4, e5⟩⟩
    ·have hla0 := hI.la
     exact hI.ok.add (ps := ps) (fun x hx => by have := hI.le x hx; omega) (by omega) e3 (by omega) e4 (by rw [e1]; exact e5)
    ·rcases List.mem_append.1 hx with hx | hx
     ·have := hI.le x hx; omega
     ·rw [List.mem_singleton.1 hx, e1]; exact Int.le_refl _
  ·have he : YG xs cap ps = 4 := by unfold YG; rw [if_neg (fun h => h h1), if_pos h2]
   rw [Zel, he, if_neg (by decide)]
   obtain ⟨i, b, hi, hb, hlt⟩ := QB h2
   exact (Zph p m cap last xs q ps a c i b hI.ok.uniq h1 hi hb hlt Z).mono fun v w' ⟨hv, hS'⟩ => ⟨xs, q, last, hv, hS', hI, .inl ⟨by rw [he]; decide, rfl, rfl⟩⟩
 ·have he : YG xs cap ps = 1 := by unfold YG; rw [if_pos h1]
  rw [Zel, he, if_neg (by decide)]
  rcases Zgw h1 with h2 | ⟨x, rfl⟩
  ·exact (Zih p m cap last xs q ps a c h2 Z).mono fun v w' ⟨hv, hS'⟩ => ⟨xs, q, last, hv, hS', hI, .inl ⟨by rw [he]; decide, rfl, rfl⟩⟩
  ·exact (Zji p m cap last xs q x a c Z).mono fun v w' ⟨hv, hS'⟩ => ⟨xs, q, last, hv, hS', hI, .inl ⟨by rw [he]; decide, rfl, rfl⟩⟩
theorem Zjh {g w : World} {L : List HP} (p m : Nat) (cap last : Int) (xs : List VN) (q : Nat) (n : Int) (hI : GI xs q cap last) (Z : St g (Ze p #[.int .i64 cap, .int .i64 last, .map (some m)] 231 :: Zx m (.map (mE (List.map vK xs)) q) :: Zn vF xs :: L) w) :
  Sp Tryz.prog 75 [.pointer (some ⟨p, 0, none⟩), .int .i64 n] w (fun v w' => ∃ (xs2 : List VN), v = .int .i64 (Zhm xs n) ∧ St g (Ze p #[.int .i64 cap, .int .i64 last, .map (some m)] 231 :: Zx m (.map (mE (List.map vK xs2)) q) :: Zn vF xs2 :: L) w' ∧ (GI xs2 q cap last) ∧ (RelQ xs n xs2)) := by
 cases hl : Zj xs n with
 | false =>
  rw [Zhm, if_neg (by rw [hl]; decide)]
  exact (Zqa p m cap last xs q n hI.ok.uniq hl Z).mono fun v w' ⟨hv, hS'⟩ => ⟨xs, hv, hS', hI, .inr ⟨hl, rfl⟩⟩
 | true =>
  rw [Zhm, if_pos hl]
  obtain ⟨k, x, hk, rfl, hx, _⟩ := Zcg hl
  refine (Zoz p m cap last xs q k x hI.ok hk hx Z).mono fun v w' ⟨xs2, hv, hS', hG2, hR⟩ => ⟨xs2, hv, hS', ⟨hG2, hR.le hG2.uniq hI.le, hI.la, hI.cp⟩, .inl ⟨hl, hR⟩⟩
theorem Zkj {g w : World} {L : List HP} (xs ys : List Int) (a b : Option Addr) (c d : Nat) (hl : xs.length ≤ 1000000000) (Z : St g (Sh 3 1 (Zb xs) a c :: Sh 3 1 (Zb ys) b d :: L) w) :
  Sp Tryz.prog 56 [.slice a (Zb xs).length c, .slice b (Zb ys).length d] w (fun v w' => ∃ (ok : Bool), v = .bool ok ∧ St g (Sh 3 1 (Zb xs) a c :: Sh 3 1 (Zb ys) b d :: L) w' ∧ (ok = true ↔ xs = ys)) := by
 refine Sp.enter Tryz.func56 rfl (by kernel_rfl) (by kernel_rfl) ?_
 have _ := hl
 refine WC.seq <| WC.region <| WL.r 1 rfl <| WL.nil <| WC.seq <| WC.seq <| WC.region ?_
 have h1 := Zh xs; have h2 := Zh ys
 refine WL.r 5 rfl <| WL.nil <| WC.ifP rfl (fun cd1 => ?_) (fun cd1 => ?_)
 ·refine WC.seq <| WC.region <| WL.r 1 rfl <| WL.nil <| WC.ret ?_
  refine ⟨[.bool false], rfl, ?_⟩
  exact ⟨_, rfl, Z, ⟨fun h => (by cases h), fun h => by rw [h1, h2, h] at cd1; exact absurd rfl cd1⟩⟩
 ·refine WC.skip <| WC.seq <| WC.seq <| WC.region <| WL.r 1 rfl <| WL.nil <| WC.block <| WC.loop [0, 1, 5] (fun kM vs w => ∃ (k : Nat), vs = [.slice a (Zb xs).length c, .slice b (Zb ys).length d, .int .i64 (k : Int)] ∧ St g (Sh 3 1 (Zb xs) a c :: Sh 3 1 (Zb ys) b d :: L) w ∧ (k ≤ xs.length) ∧ (xs.take k = ys.take k) ∧ (xs.length - k) = kM) ((List.length xs) - 0) ⟨0, rfl, Z, (Nat.zero_le _), (rfl), rfl⟩ ?_
  clear Z; rintro _ _ w j ⟨k, rfl, Z, hk, he, rfl⟩
  refine WC.seq <| WC.seq <| WC.region <| WL.r 4 rfl <| WL.nil ?_
  as_aux_lemma =>
  refine WC.ifP rfl (fun cd2 => ?_) (fun cd2 => ?_)
  ·refine WC.skip <| WC.seq <| WC.block <| WC.seq <| WC.plan [([0, 1, 4, 5, 2, 6, 3, 7, 8], none)] (by kernel_rfl) (by kernel_rfl) ?_
   refine WQ.r 4 rfl ?_
   obtain ⟨x, hx⟩ : ∃ x, xs[k]? = some x := ⟨_, List.getElem?_eq_getElem (by omega)⟩
   refine WQ.ix rfl rfl (i := (k : Int)) (k) el_56 rfl rfl (by omega) (Zbg (Zd hx)) (Z.rdS 0 rfl (Zd hx)).1 ?_
   obtain ⟨y, hy⟩ : ∃ y, ys[k]? = some y := ⟨_, List.getElem?_eq_getElem (by omega)⟩
   refine WQ.ix rfl rfl (i := (k : Int)) (k) el_56 rfl rfl (by omega) (Zbg (Zd hy)) (Z.rdS 1 rfl (Zd hy)).1 ?_
   refine WQ.run 3 [.int .i64 x, .int .i64 y] rfl (by exact ⟨(Z.rdS 0 rfl (Zd hx)).2 0 _ rfl, (Z.rdS 1 rfl (Zd hy)).2 0 _ rfl⟩) ?_
   refine WQ.nil ?_
   intro m1
   replace Z := Z.drewN m1; generalize hwm1 : World.drewN _ _ = w at *; clear hwm1
   refine WC.ifP rfl (fun cd3 => ?_) (fun cd3 => ?_)
   ·refine WC.seq <| WC.region <| WL.r 1 rfl <| WL.nil <| WC.ret ?_
    refine ⟨[.bool false], rfl, ?_⟩
    exact ⟨_, rfl, Z, ⟨fun h => (by cases h), fun h => by subst h; rw [hx] at hy; cases hy; exact absurd rfl cd3⟩⟩
   ·refine WC.skip <| WC.region <| WL.r 2 rfl <| WL.nw 16 rfl (Zr (by omega)) ?_
    refine WL.r 1 rfl <| WL.nil ?_
    exact ⟨_, by omega, k + 1, rfl, Z, (by omega), (by rw [List.take_add_one, List.take_add_one, he, hx, hy, Classical.not_not.1 cd3]), rfl⟩
  ·refine WC.exit <| WC.seq <| WC.region <| WL.r 1 rfl <| WL.nil <| WC.ret ?_
   refine ⟨[.bool true], rfl, ?_⟩
   exact ⟨_, rfl, Z, ⟨fun _ => by rw [← List.take_of_length_le (i := k) (l := xs) (by omega), he, List.take_of_length_le (by omega)], fun _ => rfl⟩⟩
end Go.Proofs.YtbeacjcmdijdmaaGreat
namespace Go.V
open Go Go.RowKit
def ExB {α : Type} (f : α → List HP) : HP := ⟨fun o r => ∃ x, All (f x) o r, fun _ _ _ _ ho hr ⟨x, h⟩ => ⟨x, All.mono (f x) ho hr h⟩⟩
section
variable {α : Type} {g w : World} {L : List HP}
theorem St.exOpen {f : α → List HP} (h : St g (ExB f :: L) w) : ∃ x, St g (f x ++ L) w := by
 obtain ⟨o, r, a, b, c, d, o1, o2, h1, h2, hd, ⟨x, hh⟩, hL⟩ := h.own
 exact ⟨x, h.os, h.tape, h.output, h.size, o, r, a, b, c, d, All.cat (f x) L h1 h2 hd hh hL⟩
theorem St.exClose {f : α → List HP} (x : α) (h : St g (f x ++ L) w) : St g (ExB f :: L) w := by
 obtain ⟨o, r, a, b, c, d, e⟩ := h.own
 obtain ⟨o1, o2, h1, h2, hd, hM, hL⟩ := All.app (f x) L e
 exact ⟨h.os, h.tape, h.output, h.size, o, r, a, b, c, d, o1, o2, h1, h2, hd, ⟨x, hM⟩, hL⟩
end
def Za (l : List Int) : List (List Value) := l.map fun x => [.int .u32 x]
@[simp] theorem Zk (l : List Int) : (Za l).length = l.length := by simp [Za]
theorem Zl {l : List Int} {k : Nat} {x : Int} (h : l[k]? = some x) : (Za l)[k]? = some [.int .u32 x] := by simp [Za, h]
theorem Yg (l m : List Int) : Za (l ++ m) = Za l ++ Za m := by simp [Za]
theorem XZ (l : List Int) (k : Nat) : (Za l).take k = Za (l.take k) := by simp [Za]
theorem Zg9 (l : List Int) (x : Int) : Za l ++ [[.int .u32 x]] = Za (l ++ [x]) := by simp [Za]
theorem XR (l : List Int) (k : Nat) (x : Int) : (Za l).set k [.int .u32 x] = Za (l.set k x) := by simp [Za, List.map_set]
theorem Xb (n : Nat) : List.replicate n [.int .u32 0] = Za (List.replicate n 0) := by simp [Za]
theorem Yn (l : List Int) : OkE 1 (Za l) := fun x hx => by
 obtain ⟨y, _, rfl⟩ := List.mem_map.1 hx
 exact ⟨rfl, fun u hu => by simp at hu; rcases hu with rfl <;> rfl⟩
def Zc (l : List Bool) : List (List Value) := l.map fun x => [.bool x]
@[simp] theorem Zv (l : List Bool) : (Zc l).length = l.length := by simp [Zc]
theorem Zu {l : List Bool} {k : Nat} {x : Bool} (h : l[k]? = some x) : (Zc l)[k]? = some [.bool x] := by simp [Zc, h]
theorem Zm9 (l m : List Bool) : Zc (l ++ m) = Zc l ++ Zc m := by simp [Zc]
theorem YL (l : List Bool) (k : Nat) (x : Bool) : (Zc l).set k [.bool x] = Zc (l.set k x) := by simp [Zc, List.map_set]
theorem Zp6 (l : List Bool) : OkE 1 (Zc l) := fun x hx => by
 obtain ⟨y, _, rfl⟩ := List.mem_map.1 hx
 exact ⟨rfl, fun u hu => by simp at hu; subst hu; rfl⟩
theorem X_ (n : Nat) : List.replicate n [.bool false] = Zc (List.replicate n false) := by simp [Zc]
theorem Zd8 (n : Nat) : List.replicate n [.int .i64 0] = Zb (List.replicate n 0) := by simp [Zb]
structure Nd where
 key : Int
 val : Int
 lf : Int
 rg : Int
 size : Int
 sum : Int
 mn : Int
 mx : Int
def Nd.zero : Nd := ⟨0, 0, 0, 0, 0, 0, 0, 0⟩
def ndC (n : Nd) : List Value := [.int .i64 n.key, .int .i64 n.val, .int .u32 n.lf, .int .u32 n.rg, .int .i64 n.size, .int .i64 n.sum, .int .i64 n.mn, .int .i64 n.mx]
def Yr (l : List Nd) : List (List Value) := l.map ndC
@[simp] theorem YM (l : List Nd) : (Yr l).length = l.length := by simp [Yr]
theorem ZW {l : List Nd} {k : Nat} {n : Nd} (h : l[k]? = some n) : (Yr l)[k]? = some [.int .i64 n.key, .int .i64 n.val, .int .u32 n.lf, .int .u32 n.rg, .int .i64 n.size, .int .i64 n.sum, .int .i64 n.mn, .int .i64 n.mx] := by simp [Yr, h, ndC]
theorem Zfy (l : List Nd) (k : Nat) (n : Nd) : (Yr l).set k [.int .i64 n.key, .int .i64 n.val, .int .u32 n.lf, .int .u32 n.rg, .int .i64 n.size, .int .i64 n.sum, .int .i64 n.mn, .int .i64 n.mx] = Yr (l.set k n) := by simp [Yr, ndC, List.map_set]
theorem Zgu (n : Nat) : List.replicate n [.int .i64 0, .int .i64 0, .int .u32 0, .int .u32 0, .int .i64 0, .int .i64 0, .int .i64 0, .int .i64 0] = Yr (List.replicate n Nd.zero) := by simp [Yr, ndC, Nd.zero]
end Go.V
namespace Go.V
open Go Go.RowKit
theorem QL : ∀ (ls : List (List Value)) (size : Nat), (∀ x ∈ ls, x.length = size) → ∀ (k : Nat) (vs : List Value), k < ls.length → vs.length = size → (ls.set k vs).flatten = ls.flatten.take (k * size) ++ vs ++ ls.flatten.drop (k * size + size)
 | [], _, _, k, _, h, _ => by simp at h
 | x :: r, size, hs, 0, vs, _, hv => by
  have hx := hs x (List.mem_cons_self ..)
  subst hx
  simp
 | x :: r, size, hs, k + 1, vs, h, hv => by
  have hx := hs x (List.mem_cons_self ..)
  have ih := QL r size (fun y hy => hs y (List.mem_cons_of_mem _ hy)) k vs (by simpa using h) hv
  rw [List.set_cons_succ, List.flatten_cons, ih, List.flatten_cons, Nat.succ_mul]
  rw [List.take_append, List.drop_append, hx]
  rw [show k * size + size - size = k * size by omega, show k * size + size + size - size = k * size + size by omega]
  rw [List.take_of_length_le (l := x) (by omega), List.drop_of_length_le (l := x) (by omega)]
  simp
theorem Zkz {cur vs : List Value} {off n : Nat} (h1 : off + vs.length ≤ n) (h2 : n ≤ cur.length) : (cur.take off ++ vs ++ cur.drop (off + vs.length)).take n = (cur.take n).take off ++ vs ++ (cur.take n).drop (off + vs.length) := by
 rw [List.take_append, List.take_append, List.length_append, List.length_take, List.take_take, List.take_take, List.drop_take]
 rw [show min off cur.length = off by omega, show min n off = off by omega, show min off n = off by omega]
 rw [List.take_of_length_le (l := vs) (by omega)]
section
variable {P : Program} {T : Tab} [hT : TabOk P T] {n : Nat} {os l : List Oper} {K : Kt} {F : Fm} {w g : World} {L : List HP} {e size c : Nat} {ls : List (List Value)} {a : Option Addr}
theorem St.setS {k b : Nat} {cs vs : List Value} {cur : Array Value} (h : St g (Zf e size ls (some ⟨b, 0, none⟩) c :: L) w) (hk : ls[k]? = some cs) (hh : w.heap[b]? = some (.cells cur e (0, 0))) (hl : vs.length = size) (hv : ∀ u ∈ vs, u.oneCell' = true) :
  k * size + size ≤ cur.size ∧ St g (Zf e size (ls.set k vs) (some ⟨b, 0, none⟩) c :: L) (w.setRow b (spl cur (k * size) vs)) := by
 have hkl : k < ls.length := (List.getElem?_eq_some_iff.1 hk).1
 have hsz : k * size + size ≤ cur.size := by
  obtain ⟨o1, r, hA, ho, hr⟩ := h.get 0 rfl
  obtain ⟨hok, hA⟩ := hA
  rcases hA with ⟨_, _, h3⟩ | ⟨b', cur', hb, h2, h3, h4, h5, h6⟩
  ·subst h3; simp at hkl
  ·cases hb
   have := ho _ _ h2
   rw [hh] at this; cases this
   rw [h5]
   calc k * size + size = (k + 1) * size := by rw [Nat.succ_mul]
    _ ≤ c * size := Nat.mul_le_mul_right _ (by omega)
 refine ⟨hsz, h.upd rfl rfl rfl (by simp [World.setRow]) fun o1 r hA hw _ _ => ?_⟩
 obtain ⟨hok, hA⟩ := hA
 rcases hA with ⟨_, _, h3⟩ | ⟨b', cur', hb, h2, h3, h4, h5, h6⟩
 ·subst h3; simp at hkl
 ·cases hb
  have := hw _ _ h2
  rw [hh] at this; cases this
  have hok' : OkE size (ls.set k vs) := fun x hx => by
   rcases List.mem_or_eq_of_mem_set hx with hx | rfl
   ·exact hok x hx
   ·exact ⟨hl, hv⟩
  have hlt : ls.length * size ≤ cur.size := by rw [h5]; exact Nat.mul_le_mul_right _ h3
  have hkn : k * size + size ≤ ls.length * size := by
   calc k * size + size = (k + 1) * size := by rw [Nat.succ_mul]
    _ ≤ ls.length * size := Nat.mul_le_mul_right _ (by omega)
  refine ⟨fun q => if q = b then some (.cells (spl cur (k * size) vs) e (0, 0)) else none, ⟨hok', .inr ⟨b, spl cur (k * size) vs, rfl, by simp, by simpa using h3, h4, ?_, ?_⟩⟩, fun q x hx => ?_, fun q hq => ?_, fun q hq hn => ?_⟩
  ·rw [← h5]; unfold spl; simp; omega
  ·rw [List.length_set]
   show (cur.toList.take (k * size) ++ vs ++ cur.toList.drop (k * size + vs.length)).take (ls.length * size) = _
   rw [Zkz (by omega) (by simpa using hlt), h6, QL ls size hok.len k vs hkl hl, hl]
  ·simp only at hx
   split at hx
   ·rename_i hq; subst hq; simp only [Option.some.injEq] at hx; subst hx
    exact setRow_heap w _ cur _ e _ (hw _ _ h2)
   ·cases hx
  ·simp only [ne_eq, ite_eq_right_iff, reduceCtorEq, imp_false, Classical.not_not] at hq
   subst hq
   exact .inl (by rw [h2]; simp)
  ·refine setRow_other w b q _ fun eq => ?_
   have : o1 q = some (.cells cur e (0, 0)) := by rw [eq]; exact h2
   rw [hn] at this; cases this
theorem WL.stS {o : Oper} {t : TypeId} {x y : Operand} {vs : Array Value} (hg : o.guard = none) (hd : o.dst = none) (ho : o.op = .store t x y) (i k : Nat) (cs : List Value) (ls' : List (List Value)) (Z : St g L w) (hi : L[i]? = some (Zf e size ls a c)) (hks : ls[k]? = some cs) (hx : ev F x = .pointer (some ⟨bo a, oo a + k * size, none⟩)) (hv : ev F y = .agg vs)
  (h1 : vs.toList.all (·.oneCell') = true) (hl : vs.size = size) (ht : Xa P t vs.size) (hls : ls.set k vs.toList = ls') (hk : ∀ w', St g (L.set i (Zf e size ls' a c)) w' → WL P n os l K F w') : WL P n os (o :: l) K F w := by
 subst hls
 obtain ⟨b, cur, rfl, hh, _⟩ := Z.ownRow i hi hks
 have hall : ∀ u ∈ vs.toList, u.oneCell' = true := fun u hu => List.all_eq_true.1 h1 u hu
 obtain ⟨hsz, hS1⟩ := (Z.at_ i hi).setS hks hh (by simpa using hl) hall
 have hS' := hS1.back i hi
 refine WL.unit hg hd (fun hok => ?_) (hk _ hS')
 have e1 := Zi (F := F) hok (x := x) (by simp [ho, Op.operands])
 have e2 := Zi (F := F) hok (x := y) (by simp [ho, Op.operands])
 simp only [bo, oo, Nat.zero_add] at hx
 have hst := XB (P := P) (t := t) (off := k * size) (v := .agg vs) ht.2.2 hh hall (by show k * size + vs.size ≤ _; omega)
 rw [show (Value.agg vs).cells.toList = vs.toList from rfl] at hst
 simp only [execOp, ho, e1, e2, hx, hv, Instr.storeAt, Instr.sureAddr, Sem.run_bind, Sem.run_pure, Result.andThen_ok, hst]
end
end Go.V
namespace Go.V
open Go Go.RowKit
structure SM where
 used : List Bool
 gen : List Int
 rel : List Int
 fresh : Int
def SM.cap (S : SM) : Int := (S.used.length : Int) - 1
def SM.free (S : SM) : Int := (S.rel.length : Int) + S.cap - S.fresh
def SM.next (S : SM) : Int := match S.rel.getLast? with
 | some i => i
 | none => S.fresh + 1
def SM.genOf (S : SM) (i : Int) : Int := (S.gen[i.toNat]?).getD 0
def SM.alloc (S : SM) : SM := ⟨S.used.set S.next.toNat true, S.gen.set S.next.toNat ((S.genOf S.next + 1) % 4294967296), S.rel.dropLast, if S.rel = [] then S.fresh + 1 else S.fresh⟩
def SM.ok (S : SM) (i : Int) : Bool := (S.used[i.toNat]?).getD false
def SM.release (S : SM) (i : Int) : SM := ⟨S.used.set i.toNat false, S.gen, S.rel ++ [i], S.fresh⟩
def SM.new (cap : Nat) : SM := ⟨List.replicate (cap + 1) false, List.replicate (cap + 1) 0, [], 0⟩
structure SOk (S : SM) : Prop where
 cap : 2 ≤ S.used.length ∧ S.used.length ≤ 65537
 gl : S.gen.length = S.used.length
 fr : 0 ≤ S.fresh ∧ S.fresh ≤ S.cap
 rm : ∀ i ∈ S.rel, 1 ≤ i ∧ i ≤ S.fresh ∧ S.ok i = false
 nd : S.rel.Nodup
 u0 : S.ok 0 = false
 hi : ∀ i : Int, S.fresh < i → S.ok i = false
 cov : ∀ i : Int, 1 ≤ i → i ≤ S.fresh → S.ok i = false → i ∈ S.rel
 gr : ∀ x ∈ S.gen, 0 ≤ x ∧ x < 4294967296
theorem SOk.le {S : SM} (h : SOk S) : S.used.length ≤ 65537 := h.cap.2
theorem SOk.gle {S : SM} (h : SOk S) : S.gen.length ≤ 65537 := by rw [h.gl]; exact h.cap.2
theorem X3 : ∀ (n : Nat) (l : List Int), l.Nodup → (∀ i ∈ l, 1 ≤ i ∧ i ≤ (n : Int)) → l.length ≤ n
 | 0, l, _, h => by
  cases l with
  | nil => exact Nat.le_refl _
  | cons x t => have := h x (List.mem_cons_self ..); omega
 | n + 1, l, hd, h => by
  have h1 : (l.erase ((n : Int) + 1)).length ≤ n := X3 n _ (hd.erase _) fun i hi => by
   have h2 := (hd.mem_erase_iff).1 hi
   have h3 := h i h2.2
   have h4 := h2.1
   omega
  have h2 := List.length_erase (a := (n : Int) + 1) (l := l)
  split at h2 <;> omega
theorem SOk.rle {S : SM} (h : SOk S) : S.rel.length ≤ 65536 := by
 have h1 : S.rel.length ≤ S.used.length - 1 := X3 _ _ h.nd fun i hi => by
  have h2 := h.rm i hi
  have h3 := h.fr
  have h4 : S.cap = (S.used.length : Int) - 1 := rfl
  have h5 := h.cap
  omega
 have h5 := h.cap
 omega
theorem SM.ok_rng {S : SM} (h : SOk S) {i : Int} (h0 : 0 ≤ i) (hi : S.ok i = true) : 1 ≤ i ∧ i ≤ S.fresh ∧ i ≤ S.cap ∧ i.toNat < S.used.length := by
 have h1 : i ≠ 0 := fun e => by subst e; rw [h.u0] at hi; cases hi
 have h2 : ¬ S.fresh < i := fun e => by rw [h.hi i e] at hi; cases hi
 have h3 := h.fr
 have h4 : S.cap = (S.used.length : Int) - 1 := rfl
 omega
theorem SM.ok_set {S : SM} {i j : Int} {b : Bool} (hi : 0 ≤ i) (hj : 0 ≤ j) (hl : i.toNat < S.used.length) : ((S.used.set i.toNat b)[j.toNat]?).getD false = if j = i then b else S.ok j := by
 rw [List.getElem?_set]
 by_cases h : j = i
 ·subst h; rw [if_pos rfl, if_pos hl, if_pos rfl]; rfl
 ·rw [if_neg (by omega), if_neg h]; rfl
theorem Zmb {l : List Bool} {i : Int} : (l[i.toNat]?).getD false = true → i.toNat < l.length := fun h => by
 rcases Nat.lt_or_ge i.toNat l.length with h1 | h1
 ·exact h1
 ·rw [List.getElem?_eq_none h1] at h; cases h
theorem SM.new_ok {cap : Nat} (h : 1 ≤ cap ∧ cap ≤ 65536) : SOk (SM.new cap) := by
 have hno : ∀ i : Int, (SM.new cap).ok i = false := fun i => by
  unfold SM.ok SM.new
  simp only
  cases hx : (List.replicate (cap + 1) false)[i.toNat]? with
  | none => rfl
  | some b => rw [List.eq_of_mem_replicate (List.mem_of_getElem? hx)]; rfl
 refine ⟨by simp [SM.new]; omega, by simp [SM.new], by simp [SM.new, SM.cap], fun i hi => (by cases hi), List.nodup_nil, hno 0, fun i _ => hno i, fun i h1 h2 => ?_, fun x hx => ?_⟩
 ·simp only [SM.new] at h2; omega
 ·rw [List.eq_of_mem_replicate hx]; omega
theorem SM.next_some {S : SM} {i : Int} (h : S.rel.getLast? = some i) : S.next = i := by unfold SM.next; rw [h]
theorem SM.next_nil {S : SM} (h : S.rel = []) : S.next = S.fresh + 1 := by unfold SM.next; rw [h]; rfl
theorem SM.next_rng {S : SM} (h : SOk S) (hf : 0 < S.free) : 1 ≤ S.next ∧ S.next ≤ S.cap ∧ S.next.toNat < S.used.length ∧ S.ok S.next = false := by
 have hc : S.cap = (S.used.length : Int) - 1 := rfl
 have hfr := h.fr
 cases hg : S.rel.getLast? with
 | some i =>
  have hm := h.rm i (List.mem_of_getLast? hg)
  rw [SM.next_some hg]
  exact ⟨hm.1, by omega, by omega, hm.2.2⟩
 | none =>
  have hr : S.rel = [] := List.getLast?_eq_none_iff.1 hg
  unfold SM.free at hf
  rw [hr] at hf
  simp only [List.length_nil] at hf
  rw [SM.next_nil hr]
  exact ⟨by omega, by omega, by omega, h.hi _ (by omega)⟩
theorem Xn {S : SM} (hne : S.rel ≠ []) : S.rel = S.rel.dropLast ++ [S.next] := by
 have h2 : S.next = S.rel.getLast hne := SM.next_some (List.getLast?_eq_some_getLast hne)
 rw [h2]; exact (List.dropLast_concat_getLast hne).symm
theorem SM.alloc_ok' {S : SM} (h : SOk S) (hf : 0 < S.free) {j : Int} (hj : 0 ≤ j) : S.alloc.ok j = if j = S.next then true else S.ok j := by
 have hn := S.next_rng h hf
 exact SM.ok_set (by omega) hj hn.2.2.1
theorem SM.alloc_free (S : SM) : S.alloc.free = S.free - 1 := by
 unfold SM.free SM.cap SM.alloc
 simp only [List.length_set, List.length_dropLast]
 by_cases hr : S.rel = []
 ·rw [if_pos hr, hr]; simp; omega
 ·rw [if_neg hr]
  have : 0 < S.rel.length := List.length_pos_iff.2 hr
  omega
theorem SM.alloc_sok {S : SM} (h : SOk S) (hf : 0 < S.free) : SOk S.alloc := by
 have hn := S.next_rng h hf
 have hc : S.cap = (S.used.length : Int) - 1 := rfl
 have hfr := h.fr
 have hcap : S.alloc.cap = S.cap := by unfold SM.cap SM.alloc; simp
 have hal := fun (j : Int) (hj : 0 ≤ j) => S.alloc_ok' h hf hj
 have hneg : ∀ j : Int, j < 0 → S.alloc.ok j = false := fun j hj => by
  have e : S.alloc.ok j = S.alloc.ok 0 := by unfold SM.ok; rw [show j.toNat = (0 : Int).toNat by omega]
  rw [e, hal 0 (Int.le_refl _), if_neg (by omega), h.u0]
 have hmem : ∀ i, i ∈ S.alloc.rel → i ∈ S.rel ∧ i ≠ S.next := fun i hi => by
  have hi2 : i ∈ S.rel.dropLast := hi
  have hne : S.rel ≠ [] := fun e => by rw [e] at hi2; cases hi2
  have hs := Xn hne
  refine ⟨by rw [hs]; exact List.mem_append_left _ hi2, fun e => ?_⟩
  have hnd := h.nd
  rw [hs] at hnd
  exact (List.nodup_append.1 hnd).2.2 i hi2 S.next (List.mem_singleton.2 rfl) e
 have hfresh : S.fresh ≤ S.alloc.fresh ∧ S.alloc.fresh ≤ S.cap := by
  unfold SM.alloc
  simp only
  by_cases hr : S.rel = []
  ·rw [if_pos hr]
   unfold SM.free at hf
   rw [hr] at hf; simp at hf; omega
  ·rw [if_neg hr]; omega
 refine ⟨?_, ?_, by rw [hcap]; omega, fun i hi => ?_, ?_, ?_, fun i hi => ?_, fun i h1 h2 h3 => ?_, fun x hx => ?_⟩
 ·unfold SM.alloc; simpa using h.cap
 ·unfold SM.alloc; simpa using h.gl
 ·obtain ⟨h1, h2⟩ := hmem i hi
  have h3 := h.rm i h1
  exact ⟨h3.1, by omega, by rw [hal i (by omega), if_neg h2]; exact h3.2.2⟩
 ·have h1 : S.alloc.rel = S.rel.dropLast := rfl
  rw [h1]; exact h.nd.sublist (List.dropLast_sublist _)
 ·rw [hal 0 (Int.le_refl _), if_neg (by omega)]; exact h.u0
 ·rcases Int.lt_or_le i 0 with h0 | h0
  ·exact hneg i h0
  ·rw [hal i h0]
   have hne : i ≠ S.next := fun e => by
    by_cases hr : S.rel = []
    ·have e2 : S.alloc.fresh = S.fresh + 1 := by unfold SM.alloc; simp only; rw [if_pos hr]
     have e3 := SM.next_nil hr
     omega
    ·have := h.rm S.next (by rw [Xn hr]; simp)
     omega
   rw [if_neg hne]
   exact h.hi i (by omega)
 ·rw [hal i (by omega)] at h3
  split at h3
  ·cases h3
  ·rename_i hne
   have h1r : S.alloc.rel = S.rel.dropLast := rfl
   rw [h1r]
   by_cases hr : S.rel = []
   ·have e2 : S.alloc.fresh = S.fresh + 1 := by unfold SM.alloc; simp only; rw [if_pos hr]
    have e3 := SM.next_nil hr
    have := h.cov i h1 (by omega) h3
    rw [hr] at this; cases this
   ·have e2 : S.alloc.fresh = S.fresh := by unfold SM.alloc; simp only; rw [if_neg hr]
    have := h.cov i h1 (by omega) h3
    rw [Xn hr] at this
    rcases List.mem_append.1 this with h4 | h4
    ·exact h4
    ·exact absurd (List.mem_singleton.1 h4) hne
 ·have hx2 : x ∈ S.gen.set S.next.toNat ((S.genOf S.next + 1) % 4294967296) := hx
  rcases List.mem_or_eq_of_mem_set hx2 with h1 | rfl
  ·exact h.gr x h1
  ·omega
theorem SM.release_ok' {S : SM} (h : SOk S) {i : Int} (h0 : 0 ≤ i) (hi : S.ok i = true) {j : Int} (hj : 0 ≤ j) : (S.release i).ok j = if j = i then false else S.ok j :=
 SM.ok_set h0 hj (SM.ok_rng h h0 hi).2.2.2
theorem SM.release_free {S : SM} (i : Int) : (S.release i).free = S.free + 1 := by
 unfold SM.free SM.cap SM.release
 simp only [List.length_set, List.length_append, List.length_singleton]
 omega
theorem SM.release_sok {S : SM} (h : SOk S) {i : Int} (h0 : 0 ≤ i) (hi : S.ok i = true) : SOk (S.release i) := by
 have hr := SM.ok_rng h h0 hi
 have hcap : (S.release i).cap = S.cap := by unfold SM.cap SM.release; simp
 have hal := fun (j : Int) (hj : 0 ≤ j) => SM.release_ok' h h0 hi hj
 have hneg : ∀ j : Int, j < 0 → (S.release i).ok j = false := fun j hj => by
  have e : (S.release i).ok j = (S.release i).ok 0 := by unfold SM.ok; rw [show j.toNat = (0 : Int).toNat by omega]
  rw [e, hal 0 (Int.le_refl _), if_neg (by omega), h.u0]
 have hfr := h.fr
 refine ⟨?_, ?_, by rw [hcap]; exact h.fr, fun j hj => ?_, ?_, ?_, fun j hj => ?_, fun j h1 h2 h3 => ?_, h.gr⟩
 ·unfold SM.release; simpa using h.cap
 ·unfold SM.release; simpa using h.gl
 ·have hj2 : j ∈ S.rel ++ [i] := hj
  rcases List.mem_append.1 hj2 with h1 | h1
  ·have h2 := h.rm j h1
   refine ⟨h2.1, h2.2.1, ?_⟩
   rw [hal j (by omega)]
   split
   ·rfl
   ·exact h2.2.2
  ·rw [List.mem_singleton.1 h1]
   exact ⟨hr.1, hr.2.1, by rw [hal i h0, if_pos rfl]⟩
 ·show (S.rel ++ [i]).Nodup
  refine List.nodup_append.2 ⟨h.nd, List.pairwise_singleton _ _, fun a ha b hb e => ?_⟩
  rw [List.mem_singleton.1 hb] at e
  have := (h.rm a ha).2.2
  rw [e, hi] at this; cases this
 ·rw [hal 0 (Int.le_refl _), if_neg (by omega)]; exact h.u0
 ·have hj2 : S.fresh < j := hj
  rcases Int.lt_or_le j 0 with h1 | h1
  ·exact hneg j h1
  ·rw [hal j h1]
   split
   ·rfl
   ·exact h.hi j hj2
 ·have h2' : j ≤ S.fresh := h2
  show j ∈ S.rel ++ [i]
  rw [hal j (by omega)] at h3
  split at h3
  ·rename_i e; subst e; simp
  ·exact List.mem_append_left _ (h.cov j h1 h2' h3)
end Go.V
namespace Go.V
open Go Go.RowKit
structure SlA where
 ua : Option Addr
 uc : Nat
 ga : Option Addr
 gc : Nat
 ra : Option Addr
 rc : Nat
def YT (s : Nat) (S : SM) (x : SlA) : List HP := [Ze s #[.slice x.ua (Zc S.used).length x.uc, .slice x.ga (Za S.gen).length x.gc, .slice x.ra (Za S.rel).length x.rc, .int .u32 S.fresh] 243, Zf 4 1 (Zc S.used) x.ua x.uc, Zf 64 1 (Za S.gen) x.ga x.gc, Zf 64 1 (Za S.rel) x.ra x.rc]
def Yp (s : Nat) (S : SM) : HP := ExB (YT s S)
structure AM where
 s : SM
 nodes : List Nd
 cnt : List Int
structure ArA where
 p : Nat
 na : Option Addr
 nc : Nat
 ca : Option Addr
 cc : Nat
 rd : Int
def Yz (a : Nat) (A : AM) (x : ArA) : List HP := [Ze a #[.pointer (some ⟨x.p, 0, none⟩), .slice x.na (Yr A.nodes).length x.nc, .slice x.ca (Zb A.cnt).length x.cc, .int .u64 x.rd] 161, Yp x.p A.s, Zf 172 8 (Yr A.nodes) x.na x.nc, Zf 3 1 (Zb A.cnt) x.ca x.cc]
def Zs (a : Nat) (A : AM) : HP := ExB (Yz a A)
structure TM where
 s : SM
 vals : List Int
structure TbA where
 p : Nat
 va : Option Addr
 vc : Nat
def XH (t : Nat) (T : TM) (x : TbA) : List HP := [Ze t #[.pointer (some ⟨x.p, 0, none⟩), .slice x.va (Za T.vals).length x.vc] 228, Yp x.p T.s, Zf 64 1 (Za T.vals) x.va x.vc]
def Xw (t : Nat) (T : TM) : HP := ExB (XH t T)
end Go.V
namespace Go.V
open Go Go.RowKit
def AM.new (cap : Nat) : AM := ⟨SM.new cap, List.replicate (cap + 1) Nd.zero, List.replicate (cap + 1) 0⟩
def AM.cntOf (A : AM) (i : Int) : Int := (A.cnt[i.toNat]?).getD 0
def AM.inc (A : AM) (i : Int) : AM := ⟨A.s, A.nodes, A.cnt.set i.toNat (IntKind.i64.wrap (A.cntOf i + 1))⟩
def AM.dec (A : AM) (i : Int) : AM := ⟨A.s, A.nodes, A.cnt.set i.toNat (IntKind.i64.wrap (A.cntOf i - 1))⟩
structure AWf (A : AM) : Prop where
 s : SOk A.s
 nl : A.nodes.length = A.s.used.length
 cl : A.cnt.length = A.s.used.length
theorem AM.new_wf {cap : Nat} (h : 1 ≤ cap ∧ cap ≤ 65536) : AWf (AM.new cap) := ⟨SM.new_ok h, by simp [AM.new, SM.new], by simp [AM.new, SM.new]⟩
theorem AWf.inc {A : AM} (h : AWf A) (i : Int) : AWf (A.inc i) := ⟨h.s, h.nl, by simpa [AM.inc] using h.cl⟩
def AM.retE (A : AM) (i : Int) : Int := if i = 0 ∨ A.s.ok i = true then 0 else 3
def AM.ret (A : AM) (i : Int) : AM := if i ≠ 0 ∧ A.s.ok i = true then A.inc i else A
theorem SM.new_free (cap : Nat) : (SM.new cap).free = cap := by
 simp [SM.free, SM.cap, SM.new]
end Go.V
namespace Go.V
open Go Go.RowKit
theorem Zht {u x : Int} {m : Nat} (hu0 : 0 ≤ u) (hu : u < 2 ^ m) (hx : 0 ≤ x) (hs : u + x * 2 ^ m < 2 ^ 64) : bts .or .u64 (x * 2 ^ m) u = x * 2 ^ m + u := by
 have h1 := Zle hu0 hu hx hs
 have hb : (IntKind.u64).bits = 64 := rfl
 have hp : (0 : Int) ≤ x * 2 ^ m := Int.mul_nonneg hx (Int.le_of_lt (Int.pow_pos (by decide)))
 rw [Zke hp (by rw [hb]; omega) hu0 (by rw [hb]; omega), Nat.or_comm, ← Zke hu0 (by rw [hb]; omega) hp (by rw [hb]; omega), h1]
 omega
theorem Zmj {i n : Int} (hi : 0 ≤ i ∧ i < 4294967296) (hn : 0 ≤ n ∧ n < 4294967296) : bts .or .u64 (IntKind.u64.wrap (n * p2 .u64 32)) i = n * 4294967296 + i := by
 have e : IntKind.u64.wrap (n * p2 .u64 32) = n * 2 ^ 32 := by
  have : p2 .u64 32 = 4294967296 := rfl
  rw [this, Xg (by omega)]; rfl
 rw [e, Zht hi.1 hi.2 hn.1 (by have : (2 : Int) ^ 64 = 18446744073709551616 := rfl; have : (2 : Int) ^ 32 = 4294967296 := rfl; omega)]
 have : (2 : Int) ^ 32 = 4294967296 := rfl
 omega
def SM.hd (S : SM) (i : Int) : Int := S.genOf i * 4294967296 + i
def SM.opn (S : SM) (h : Int) : Bool := S.ok (h % 4294967296) && decide (S.hd (h % 4294967296) = h)
structure TOk (T : TM) : Prop where
 s : SOk T.s
 vl : T.vals.length = T.s.used.length
 vr : ∀ x ∈ T.vals, 0 ≤ x ∧ x < 4294967296
def TM.val (T : TM) (h : Int) : Int := (T.vals[(h % 4294967296).toNat]?).getD 0
def TM.open (T : TM) (v : Int) : TM := ⟨T.s.alloc, T.vals.set T.s.next.toNat v⟩
def TM.newH (T : TM) : Int := T.s.alloc.hd T.s.next
def TM.close (T : TM) (h : Int) : TM := ⟨T.s.release (h % 4294967296), T.vals⟩
def TM.new (cap : Nat) : TM := ⟨SM.new cap, List.replicate (cap + 1) 0⟩
def TM.handles (T : TM) : List Int := ((List.range T.s.used.length).filter fun i : Nat => T.s.ok (i : Int)).map fun i : Nat => T.s.hd (i : Int)
theorem TM.new_ok {cap : Nat} (h : 1 ≤ cap ∧ cap ≤ 65536) : TOk (TM.new cap) := ⟨SM.new_ok h, by simp [TM.new, SM.new], fun x hx => by rw [List.eq_of_mem_replicate hx]; omega⟩
theorem SOk.gen_rng {S : SM} (h : SOk S) (i : Int) : 0 ≤ S.genOf i ∧ S.genOf i < 4294967296 := by
 unfold SM.genOf
 cases hx : S.gen[i.toNat]? with
 | none => simp
 | some x => exact h.gr x (List.mem_of_getElem? hx)
theorem TOk.val_rng {T : TM} (h : TOk T) (x : Int) : 0 ≤ T.val x ∧ T.val x < 4294967296 := by
 unfold TM.val
 cases hx : T.vals[(x % 4294967296).toNat]? with
 | none => simp
 | some y => exact h.vr y (List.mem_of_getElem? hx)
theorem TOk.open {T : TM} (h : TOk T) (hf : 0 < T.s.free) {v : Int} (hv : 0 ≤ v ∧ v < 4294967296) : TOk (T.open v) := by
 refine ⟨SM.alloc_sok h.s hf, ?_, fun x hx => ?_⟩
 ·show (T.vals.set _ _).length = (T.s.used.set _ _).length
  rw [List.length_set, List.length_set]; exact h.vl
 ·rcases List.mem_or_eq_of_mem_set (show x ∈ T.vals.set _ _ from hx) with h1 | rfl
  ·exact h.vr x h1
  ·exact hv
theorem SM.opn_ok {S : SM} {h : Int} (ho : S.opn h = true) : S.ok (h % 4294967296) = true ∧ S.hd (h % 4294967296) = h := by
 unfold SM.opn at ho
 simpa using ho
theorem TOk.close {T : TM} (h : TOk T) {x : Int} (ho : T.s.opn x = true) : TOk (T.close x) :=
 ⟨SM.release_sok h.s (by omega) (SM.opn_ok ho).1, by
  show T.vals.length = (T.s.used.set _ _).length
  rw [List.length_set]; exact h.vl, h.vr⟩
end Go.V
namespace Go.V
open Go
inductive Tr where
 | nil
 | node (l : Tr) (k v : Int) (r : Tr)
namespace Tr
def n : Tr → Nat
 | nil => 0
 | node l _ _ r => l.n + r.n + 1
def ls : Tr → List (Int × Int)
 | nil => []
 | node l k v r => l.ls ++ (k, v) :: r.ls
def ht : Tr → Nat
 | nil => 0
 | node l _ _ r => max l.ht r.ht + 1
end Tr
abbrev Xs (a b : Nat) : Prop := a + 1 ≤ 3 * (b + 1) ∧ b + 1 ≤ 3 * (a + 1)
namespace Tr
def ok : Tr → Prop
 | nil => True
 | node l _ _ r => Xs l.n r.n ∧ l.ok ∧ r.ok
theorem ls_len : ∀ t : Tr, t.ls.length = t.n
 | nil => rfl
 | node l _ _ r => by simp [ls, n, ls_len l, ls_len r]; omega
theorem n0 {t : Tr} (h : t.n = 0) : t = nil := by
 cases t with
 | nil => rfl
 | node => simp [n] at h
def dbL (l : Tr) (k v fk fv : Int) (s : Tr) : Tr → Tr
 | nil => nil
 | node x gk gv y => node (node l k v x) gk gv (node y fk fv s)
def litL (l : Tr) (k v : Int) : Tr → Tr
 | nil => node l k v nil
 | node m fk fv s => if m.n = 0 ∨ (Xs l.n m.n ∧ Xs (l.n + m.n + 1) s.n) then node (node l k v m) fk fv s else dbL l k v fk fv s m
def dbR (r : Tr) (k v fk fv : Int) (s : Tr) : Tr → Tr
 | nil => nil
 | node x gk gv y => node (node s fk fv x) gk gv (node y k v r)
def litR (r : Tr) (k v : Int) : Tr → Tr
 | nil => node nil k v r
 | node s fk fv m => if m.n = 0 ∨ (Xs m.n r.n ∧ Xs s.n (m.n + r.n + 1)) then node s fk fv (node m k v r) else dbR r k v fk fv s m
def bal (l : Tr) (k v : Int) (r : Tr) : Tr := if Xs l.n r.n then node l k v r else if l.n < r.n then litL l k v r else litR r k v l
def join : Tr → Int → Int → Tr → Tr
 | nil, k, v, nil => node nil k v nil
 | nil, k, v, node m fk fv s => if Xs 0 (m.n + s.n + 1) then node nil k v (node m fk fv s) else bal (join nil k v m) fk fv s
 | node s fk fv m, k, v, nil => if Xs (s.n + m.n + 1) 0 then node (node s fk fv m) k v nil else bal s fk fv (join m k v nil)
 | node s fk fv m, k, v, node m' fk' fv' s' => if Xs (s.n + m.n + 1) (m'.n + s'.n + 1) then node (node s fk fv m) k v (node m' fk' fv' s')
  else if m'.n + s'.n < s.n + m.n then bal s fk fv (join m k v (node m' fk' fv' s')) else bal (join (node s fk fv m) k v m') fk' fv' s'
termination_by l _ _ r => l.n + r.n
decreasing_by all_goals simp only [n]; omega
def jc : Tr → Tr → Nat
 | nil, nil => 1
 | nil, node m _ _ s => if Xs 0 (m.n + s.n + 1) then 1 else jc nil m + 3
 | node s _ _ m, nil => if Xs (s.n + m.n + 1) 0 then 1 else jc m nil + 3
 | node s fk fv m, node m' fk' fv' s' => if Xs (s.n + m.n + 1) (m'.n + s'.n + 1) then 1
  else if m'.n + s'.n < s.n + m.n then jc m (node m' fk' fv' s') + 3 else jc (node s fk fv m) m' + 3
termination_by l r => l.n + r.n
decreasing_by all_goals simp only [n]; omega
theorem Zpd {l r : Tr} {k v : Int} (hr : r ≠ nil) : (litL l k v r).n = l.n + r.n + 1 ∧ (litL l k v r).ls = l.ls ++ (k, v) :: r.ls := by
 cases r with
 | nil => exact absurd rfl hr
 | node m fk fv s =>
  rw [litL]
  split
  ·exact ⟨by simp only [n]; omega, by simp [ls]⟩
  ·cases m with
   | nil => simp [n] at *
   | node x gk gv y => exact ⟨by simp only [dbL, n]; omega, by simp [dbL, ls]⟩
theorem Zov {l r : Tr} {k v : Int} (hl : l ≠ nil) : (litR r k v l).n = l.n + r.n + 1 ∧ (litR r k v l).ls = l.ls ++ (k, v) :: r.ls := by
 cases l with
 | nil => exact absurd rfl hl
 | node s fk fv m =>
  rw [litR]
  split
  ·exact ⟨by simp only [n]; omega, by simp [ls]⟩
  ·cases m with
   | nil => simp [n] at *
   | node x gk gv y => exact ⟨by simp only [dbR, n]; omega, by simp [dbR, ls]⟩
theorem Qa (l : Tr) (k v : Int) (r : Tr) : (bal l k v r).n = l.n + r.n + 1 ∧ (bal l k v r).ls = l.ls ++ (k, v) :: r.ls := by
 unfold bal
 split
 ·exact ⟨rfl, rfl⟩
 ·rename_i h
  split
  ·refine Zpd fun e => ?_
   subst e; simp [n] at *
  ·refine Zov fun e => ?_
   subst e
   simp only [n] at *
   have : r.n = 0 := by omega
   omega
def Q6 (a b : Nat) : Prop := 3 * (b + 1) ≤ 13 * (a + 1)
theorem Zm7 {l r : Tr} {k v : Int} (hl : l.ok) (hr : r.ok) (h3 : 3 * (l.n + 1) < r.n + 1) (hN : Q6 l.n r.n) : (litL l k v r).ok := by
 cases r with
 | nil => simp [n] at h3
 | node m fk fv s =>
  obtain ⟨⟨b1, b2⟩, hm, hs⟩ := hr
  simp only [n] at h3
  unfold Q6 at hN; simp only [n] at hN
  rw [litL]
  split
  ·rename_i hc
   rcases hc with hc | hc
   ·have := n0 hc; subst this
    simp only [n] at *
    exact ⟨by simp only [n]; constructor <;> omega, ⟨by simp only [n]; constructor <;> omega, hl, hm⟩, hs⟩
   ·exact ⟨by simp only [n]; constructor <;> omega, ⟨hc.1, hl, hm⟩, hs⟩
  ·rename_i hc
   cases m with
   | nil => simp [n] at hc
   | node x gk gv y =>
    obtain ⟨⟨c1, c2⟩, hx, hy⟩ := hm
    simp only [n] at *
    refine ⟨?_, ⟨?_, hl, hx⟩, ⟨?_, hy, hs⟩⟩ <;> (try simp only [n]) <;> constructor <;> omega
theorem Zl3 {l r : Tr} {k v : Int} (hl : l.ok) (hr : r.ok) (h3 : 3 * (r.n + 1) < l.n + 1) (hN : Q6 r.n l.n) : (litR r k v l).ok := by
 cases l with
 | nil => simp [n] at h3
 | node s fk fv m =>
  obtain ⟨⟨b1, b2⟩, hs, hm⟩ := hl
  simp only [n] at h3
  unfold Q6 at hN; simp only [n] at hN
  rw [litR]
  split
  ·rename_i hc
   rcases hc with hc | hc
   ·have := n0 hc; subst this
    simp only [n] at *
    exact ⟨by simp only [n]; constructor <;> omega, hs, ⟨by simp only [n]; constructor <;> omega, hm, hr⟩⟩
   ·exact ⟨by simp only [n]; constructor <;> omega, hs, ⟨hc.1, hm, hr⟩⟩
  ·rename_i hc
   cases m with
   | nil => simp [n] at hc
   | node x gk gv y =>
    obtain ⟨⟨c1, c2⟩, hx, hy⟩ := hm
    simp only [n] at *
    refine ⟨?_, ⟨?_, hs, hx⟩, ⟨?_, hy, hr⟩⟩ <;> (try simp only [n]) <;> constructor <;> omega
theorem Zbs {l r : Tr} {k v : Int} (hl : l.ok) (hr : r.ok) (hN : Q6 l.n r.n) (hM : Q6 r.n l.n) : (bal l k v r).ok := by
 unfold bal
 split
 ·rename_i h; exact ⟨h, hl, hr⟩
 ·split
  ·exact Zm7 hl hr (by omega) hN
  ·exact Zl3 hl hr (by omega) hM
theorem join_n (l : Tr) (k v : Int) (r : Tr) : (join l k v r).n = l.n + r.n + 1 ∧ (join l k v r).ls = l.ls ++ (k, v) :: r.ls := by
 fun_induction join l k v r
 case case1 => exact ⟨rfl, rfl⟩
 case case2 => exact ⟨rfl, rfl⟩
 case case3 k v m fk fv s h ih =>
  refine ⟨?_, ?_⟩
  ·rw [(Qa _ _ _ _).1, ih.1]; simp only [n]; omega
  ·rw [(Qa _ _ _ _).2, ih.2]; simp [ls]
 case case4 => exact ⟨rfl, rfl⟩
 case case5 s fk fv m k v h ih =>
  refine ⟨?_, ?_⟩
  ·rw [(Qa _ _ _ _).1, ih.1]; simp only [n]; omega
  ·rw [(Qa _ _ _ _).2, ih.2]; simp [ls]
 case case6 => exact ⟨rfl, rfl⟩
 case case7 s fk fv m k v m' fk' fv' s' h1 h2 ih =>
  refine ⟨?_, ?_⟩
  ·rw [(Qa _ _ _ _).1, ih.1]; simp only [n]; omega
  ·rw [(Qa _ _ _ _).2, ih.2]; simp [ls]
 case case8 s fk fv m k v m' fk' fv' s' h1 h2 ih =>
  refine ⟨?_, ?_⟩
  ·rw [(Qa _ _ _ _).1, ih.1]; simp only [n]; omega
  ·rw [(Qa _ _ _ _).2, ih.2]; simp [ls]
theorem X8 {l r : Tr} {k v : Int} (hl : l.ok) (hr : r.ok) : (join l k v r).ok := by
 fun_induction join l k v r
 case case1 => exact ⟨by simp [n], trivial, trivial⟩
 case case2 h => exact ⟨h, hl, hr⟩
 case case3 k v m fk fv s h ih =>
  obtain ⟨⟨b1, b2⟩, hm, hs⟩ := hr
  have hn := (join_n nil k v m).1
  simp only [n] at hn
  refine Zbs (ih hl hm) hs ?_ ?_ <;> unfold Q6 <;> rw [hn] <;> omega
 case case4 h => exact ⟨h, hl, hr⟩
 case case5 s fk fv m k v h ih =>
  obtain ⟨⟨b1, b2⟩, hs, hm⟩ := hl
  have hn := (join_n m k v nil).1
  simp only [n] at hn
  refine Zbs hs (ih hm hr) ?_ ?_ <;> unfold Q6 <;> rw [hn] <;> omega
 case case6 h => exact ⟨h, hl, hr⟩
 case case7 s fk fv m k v m' fk' fv' s' h1 h2 ih =>
  obtain ⟨⟨b1, b2⟩, hs, hm⟩ := hl
  have hn := (join_n m k v (node m' fk' fv' s')).1
  simp only [n] at hn
  refine Zbs hs (ih hm hr) ?_ ?_ <;> unfold Q6 <;> rw [hn] <;> omega
 case case8 s fk fv m k v m' fk' fv' s' h1 h2 ih =>
  obtain ⟨⟨b1, b2⟩, hm, hs⟩ := hr
  have hn := (join_n (node s fk fv m) k v m').1
  simp only [n] at hn
  refine Zbs (ih hl hm) hs ?_ ?_ <;> unfold Q6 <;> rw [hn] <;> omega
theorem jc_bal {l r : Tr} (h : Xs l.n r.n) : jc l r = 1 := by
 cases l with
 | nil =>
  cases r with
  | nil => simp [jc]
  | node m a b s => rw [jc, if_pos (by simpa [n] using h)]
 | node s a b m =>
  cases r with
  | nil => rw [jc, if_pos (by simpa [n] using h)]
  | node m' a' b' s' => rw [jc, if_pos (by simpa [n] using h)]
theorem Zgr {l r : Tr} (hl : l.ok) (hr : r.ok) (h1 : l.n + 1 ≤ 3 * (r.n + 1) + 1 ∨ (l.n + 1 ≤ 3 * (r.n + 1) + 3 ∧ 1 ≤ r.n)) (h2 : r.n + 1 ≤ 3 * (l.n + 1) + 1 ∨ (r.n + 1 ≤ 3 * (l.n + 1) + 3 ∧ 1 ≤ l.n)) : jc l r ≤ 4 := by
 cases l with
 | nil =>
  cases r with
  | nil => simp [jc]
  | node m a b s =>
   rw [jc]
   obtain ⟨⟨b1, b2⟩, hm, hs⟩ := hr
   simp only [n] at h2
   split
   ·omega
   ·rw [jc_bal (by simp only [n]; constructor <;> omega)]; omega
 | node s a b m =>
  obtain ⟨⟨b1, b2⟩, hs, hm⟩ := hl
  cases r with
  | nil =>
   rw [jc]
   simp only [n] at h1
   split
   ·omega
   ·rw [jc_bal (by simp only [n]; constructor <;> omega)]; omega
  | node m' a' b' s' =>
   obtain ⟨⟨c1, c2⟩, hm', hs'⟩ := hr
   simp only [n] at h1 h2
   rw [jc]
   split
   ·omega
   ·split
    ·rw [jc_bal (by simp only [n]; constructor <;> omega)]; omega
    ·rw [jc_bal (by simp only [n]; constructor <;> omega)]; omega
def ins (k v : Int) : Tr → Tr
 | nil => node nil k v nil
 | node l x y r => if k < x then join (ins k v l) x y r else if x < k then join l x y (ins k v r) else node l k v r
def ic (k v : Int) : Tr → Nat
 | nil => 1
 | node l x _ r => if k < x then ic k v l + jc (ins k v l) r else if x < k then ic k v r + jc l (ins k v r) else 1
def has (k : Int) : Tr → Bool
 | nil => false
 | node l x _ r => if k < x then l.has k else if x < k then r.has k else true
theorem ins_n (k v : Int) : ∀ t : Tr, (ins k v t).n = t.n + (if t.has k then 0 else 1)
 | nil => by simp [ins, has, n]
 | node l x y r => by
  unfold ins has
  split
  ·rw [(join_n _ _ _ _).1, ins_n k v l]; simp only [n]; omega
  ·split
   ·rw [(join_n _ _ _ _).1, ins_n k v r]; simp only [n]; omega
   ·simp [n]
theorem ins_ok (k v : Int) : ∀ t : Tr, t.ok → (ins k v t).ok
 | nil, _ => ⟨by simp [n], trivial, trivial⟩
 | node l x y r, h => by
  unfold ins
  split
  ·exact X8 (ins_ok k v l h.2.1) h.2.2
  ·split
   ·exact X8 h.2.1 (ins_ok k v r h.2.2)
   ·exact h
theorem Zii (k v : Int) : ∀ t : Tr, t.ok → ic k v t ≤ 4 * t.ht + 1
 | nil, _ => by simp [ic, ht]
 | node l x y r, h => by
  obtain ⟨⟨b1, b2⟩, hl, hr⟩ := h
  unfold ic
  have el := ins_n k v l
  have er := ins_n k v r
  simp only [ht]
  split
  ·have h1 := Zii k v l hl
   have h2 := Zgr (ins_ok k v l hl) hr (by split at el <;> omega) (by split at el <;> omega)
   omega
  ·split
   ·have h1 := Zii k v r hr
    have h2 := Zgr hl (ins_ok k v r hr) (by split at er <;> omega) (by split at er <;> omega)
    omega
   ·omega
def pop : Tr → Tr × Int × Int
 | nil => (nil, 0, 0)
 | node l k v nil => (l, k, v)
 | node l k v (node a b c d) => (join l k v (pop (node a b c d)).1, (pop (node a b c d)).2)
def pc : Tr → Nat
 | nil => 0
 | node _ _ _ nil => 0
 | node l _ _ (node a b c d) => pc (node a b c d) + jc l (pop (node a b c d)).1
theorem Zn7 : ∀ t : Tr, t ≠ nil → (pop t).1.n + 1 = t.n ∧ (pop t).1.ls ++ [(pop t).2] = t.ls
 | nil, h => absurd rfl h
 | node l k v nil, _ => by simp [pop, n, ls]
 | node l k v (node a b c d), _ => by
  have ih := Zn7 (node a b c d) (by simp)
  unfold pop
  simp only
  refine ⟨?_, ?_⟩
  ·rw [(join_n _ _ _ _).1]; rw [n]; omega
  ·rw [(join_n _ _ _ _).2, ls.eq_2 l, ← ih.2]; simp
theorem Zkl : ∀ t : Tr, t.ok → (pop t).1.ok
 | nil, _ => trivial
 | node l k v nil, h => h.2.1
 | node l k v (node a b c d), h => by
  unfold pop
  exact X8 h.2.1 (Zkl _ h.2.2)
def cat (l r : Tr) : Tr := match l, r with
 | nil, r => r
 | l, nil => l
 | l, r => join (pop l).1 (pop l).2.1 (pop l).2.2 r
def cc (l r : Tr) : Nat := match l, r with
 | nil, _ => 0
 | _, nil => 0
 | l, r => pc l + jc (pop l).1 r
theorem cat_n (l r : Tr) : (cat l r).n = l.n + r.n ∧ (cat l r).ls = l.ls ++ r.ls := by
 cases l with
 | nil => simp [cat, n, ls]
 | node a b c d =>
  cases r with
  | nil => simp [cat, n, ls]
  | node a' b' c' d' =>
   have h := Zn7 (node a b c d) (by simp)
   unfold cat
   refine ⟨?_, ?_⟩
   ·rw [(join_n _ _ _ _).1]; omega
   ·rw [(join_n _ _ _ _).2, ← h.2]; simp
theorem Zpj {l r : Tr} (hl : l.ok) (hr : r.ok) : (cat l r).ok := by
 cases l with
 | nil => exact hr
 | node a b c d =>
  cases r with
  | nil => exact hl
  | node a' b' c' d' => exact X8 (Zkl _ hl) hr
def del (k : Int) : Tr → Tr
 | nil => nil
 | node l x y r => if k < x then join (del k l) x y r else if x < k then join l x y (del k r) else cat l r
def dc (k : Int) : Tr → Nat
 | nil => 0
 | node l x _ r => if k < x then dc k l + jc (del k l) r else if x < k then dc k r + jc l (del k r) else cc l r
theorem del_ok (k : Int) : ∀ t : Tr, t.ok → (del k t).ok
 | nil, _ => trivial
 | node l x y r, h => by
  unfold del
  split
  ·exact X8 (del_ok k l h.2.1) h.2.2
  ·split
   ·exact X8 h.2.1 (del_ok k r h.2.2)
   ·exact Zpj h.2.1 h.2.2
def wt : Nat → Nat
 | 0 => 1
 | h + 1 => wt h + (wt h + 2) / 3
theorem Zh7 : ∀ t : Tr, t.ok → wt t.ht ≤ t.n + 1
 | nil, _ => by simp [wt, ht, n]
 | node l k v r, h => by
  obtain ⟨⟨b1, b2⟩, hl, hr⟩ := h
  have h1 := Zh7 l hl
  have h2 := Zh7 r hr
  simp only [ht, n]
  rcases Nat.le_total l.ht r.ht with e | e
  ·rw [Nat.max_eq_right e, wt]; omega
  ·rw [Nat.max_eq_left e, wt]; omega
theorem Zf2 {a b : Nat} (h : a ≤ b) : wt a ≤ wt b := by
 induction h with
 | refl => exact Nat.le_refl _
 | step h ih => rw [wt]; omega
end Tr
end Go.V
namespace Go.V
open Go
abbrev Z2 := List (Int × Int)
def Srt (l : Z2) : Prop := l.Pairwise fun a b => a.1 < b.1
def YX (k v : Int) (l : Z2) : Z2 := l.filter (fun x => decide (x.1 < k)) ++ (k, v) :: l.filter (fun x => decide (k < x.1))
def Zic (k : Int) (l : Z2) : Z2 := l.filter fun x => decide (x.1 ≠ k)
def X' (k : Int) (l : Z2) : Option Int := (l.find? fun x => decide (x.1 = k)).map (·.2)
theorem Srt.app {a b : Z2} (h : Srt (a ++ b)) : Srt a ∧ Srt b ∧ ∀ x ∈ a, ∀ y ∈ b, x.1 < y.1 := by
 obtain ⟨h1, h2, h3⟩ := List.pairwise_append.1 h
 exact ⟨h1, h2, h3⟩
theorem Z3 {p : Int × Int → Bool} {l : Z2} (h : ∀ x ∈ l, p x = true) : l.filter p = l := List.filter_eq_self.2 h
theorem Yt {p : Int × Int → Bool} {l : Z2} (h : ∀ x ∈ l, p x = false) : l.filter p = [] := List.filter_eq_nil_iff.2 fun x hx => by rw [h x hx]; decide
theorem QS {k v : Int} {l : Z2} (h : Srt l) : Srt (YX k v l) := by
 unfold YX
 refine List.pairwise_append.2 ⟨h.sublist List.filter_sublist, List.pairwise_cons.2 ⟨fun y hy => ?_, h.sublist List.filter_sublist⟩, fun x hx y hy => ?_⟩
 ·exact of_decide_eq_true (List.mem_filter.1 hy).2
 ·have h1 := of_decide_eq_true (List.mem_filter.1 hx).2
  rcases List.mem_cons.1 hy with rfl | hy
  ·exact h1
  ·have h2 := of_decide_eq_true (List.mem_filter.1 hy).2
   omega
theorem Zhz {k : Int} {l : Z2} (h : Srt l) : Srt (Zic k l) := h.sublist List.filter_sublist
theorem Zhd {k : Int} {l : Z2} (h : ∀ x ∈ l, x.1 ≠ k) : X' k l = none := by
 unfold X'
 rw [List.find?_eq_none.2 fun x hx e => h x hx (of_decide_eq_true e)]; rfl
theorem Qy {k v : Int} {l : Z2} (h : Srt l) : (YX k v l).length = l.length + (if (X' k l).isSome then 0 else 1) := by
 unfold YX
 induction l with
 | nil => simp [X']
 | cons x t ih =>
  obtain ⟨h1, h2⟩ := List.pairwise_cons.1 h
  have ih := ih h2
  simp only [List.length_append, List.length_cons] at ih ⊢
  by_cases hlt : x.1 < k
  ·have e1 : X' k (x :: t) = X' k t := by unfold X'; rw [List.find?_cons, decide_eq_false (show ¬ x.1 = k by omega)]
   rw [List.filter_cons_of_pos (by simpa using hlt), List.filter_cons_of_neg (by simp; omega), e1]
   simp only [List.length_cons]
   omega
  ·have e2 : t.filter (fun x => decide (x.1 < k)) = [] := Yt fun y hy => decide_eq_false (by have := h1 y hy; omega)
   rw [List.filter_cons_of_neg (by simpa using hlt), e2]
   by_cases he : x.1 = k
   ·have e1 : X' k (x :: t) = some x.2 := by unfold X'; rw [List.find?_cons, decide_eq_true he]; rfl
    have e3 : t.filter (fun x => decide (k < x.1)) = t := Z3 fun y hy => decide_eq_true (by have := h1 y hy; omega)
    rw [List.filter_cons_of_neg (by simp; omega), e1, e3]; simp
   ·have e1 : X' k (x :: t) = none := Zhd fun y hy => by
     rcases List.mem_cons.1 hy with rfl | hy
     ·exact he
     ·have := h1 y hy; omega
    have e3 : t.filter (fun x => decide (k < x.1)) = t := Z3 fun y hy => decide_eq_true (by have := h1 y hy; omega)
    rw [List.filter_cons_of_pos (by simp; omega), e1, e3]; simp
namespace Tr
def get (k : Int) : Tr → Option Int
 | nil => none
 | node l x y r => if k < x then get k l else if x < k then get k r else some y
theorem Jw {l r : Tr} {k v : Int} (h : Srt (node l k v r).ls) : Srt l.ls ∧ Srt r.ls ∧ (∀ x ∈ l.ls, x.1 < k) ∧ ∀ x ∈ r.ls, k < x.1 := by
 obtain ⟨h1, h2, h3⟩ := Srt.app h
 obtain ⟨h4, h5⟩ := List.pairwise_cons.1 h2
 exact ⟨h1, h5, fun x hx => h3 x hx _ (List.mem_cons_self ..), h4⟩
theorem ins_ls (k v : Int) : ∀ t : Tr, Srt t.ls → (ins k v t).ls = YX k v t.ls
 | nil, _ => rfl
 | node l x y r, h => by
  obtain ⟨h1, h2, h3, h4⟩ := Jw h
  unfold ins YX
  rw [show (node l x y r).ls = l.ls ++ (x, y) :: r.ls from rfl, List.filter_append, List.filter_append]
  split
  ·rename_i hlt
   rw [(join_n _ _ _ _).2, ins_ls k v l h1, List.filter_cons_of_neg (by simp; omega), List.filter_cons_of_pos (by simp; omega)]
   rw [Yt (p := fun x => decide (x.1 < k)) (l := r.ls) fun z hz => decide_eq_false (by have := h4 z hz; omega), Z3 (p := fun x => decide (k < x.1)) (l := r.ls) fun z hz => decide_eq_true (by have := h4 z hz; omega)]
   unfold YX; simp
  ·split
   ·rename_i hgt
    rw [(join_n _ _ _ _).2, ins_ls k v r h2, List.filter_cons_of_pos (by simp; omega), List.filter_cons_of_neg (by simp; omega)]
    rw [Z3 (p := fun x => decide (x.1 < k)) (l := l.ls) fun z hz => decide_eq_true (by have := h3 z hz; omega), Yt (p := fun x => decide (k < x.1)) (l := l.ls) fun z hz => decide_eq_false (by have := h3 z hz; omega)]
    unfold YX; simp
   ·have e : x = k := by omega
    subst e
    rw [List.filter_cons_of_neg (by simp), List.filter_cons_of_neg (by simp)]
    rw [Z3 (p := fun z => decide (z.1 < x)) (l := l.ls) fun z hz => decide_eq_true (h3 z hz), Yt (p := fun z => decide (x < z.1)) (l := l.ls) fun z hz => decide_eq_false (by have := h3 z hz; omega)]
    rw [Yt (p := fun z => decide (z.1 < x)) (l := r.ls) fun z hz => decide_eq_false (by have := h4 z hz; omega), Z3 (p := fun z => decide (x < z.1)) (l := r.ls) fun z hz => decide_eq_true (h4 z hz)]
    simp [ls]
theorem del_ls (k : Int) : ∀ t : Tr, Srt t.ls → (del k t).ls = Zic k t.ls
 | nil, _ => rfl
 | node l x y r, h => by
  obtain ⟨h1, h2, h3, h4⟩ := Jw h
  unfold del
  rw [show (node l x y r).ls = l.ls ++ (x, y) :: r.ls from rfl]
  unfold Zic
  rw [List.filter_append]
  split
  ·rename_i hlt
   rw [(join_n _ _ _ _).2, del_ls k l h1, List.filter_cons_of_pos (by simp; omega), Z3 (l := r.ls) fun z hz => decide_eq_true (by have := h4 z hz; omega)]
   rfl
  ·split
   ·rename_i hgt
    rw [(join_n _ _ _ _).2, del_ls k r h2, List.filter_cons_of_pos (by simp; omega), Z3 (l := l.ls) fun z hz => decide_eq_true (by have := h3 z hz; omega)]
    rfl
   ·have e : x = k := by omega
    subst e
    rw [(cat_n _ _).2, List.filter_cons_of_neg (by simp), Z3 (l := l.ls) fun z hz => decide_eq_true (by have := h3 z hz; omega), Z3 (l := r.ls) fun z hz => decide_eq_true (by have := h4 z hz; omega)]
theorem Zaq {l r : Tr} {k v : Int} (h : Xs l.n r.n) : join l k v r = node l k v r := by
 cases l with
 | nil =>
  cases r with
  | nil => rw [join]
  | node m a b s => rw [join, if_pos (by simpa [n] using h)]
 | node s a b m =>
  cases r with
  | nil => rw [join, if_pos (by simpa [n] using h)]
  | node m' a' b' s' => rw [join, if_pos (by simpa [n] using h)]
theorem ins_same (k v : Int) : ∀ t : Tr, t.ok → get k t = some v → ins k v t = t
 | nil, _, h => by cases h
 | node l x y r, h, hg => by
  obtain ⟨hb, hl, hr⟩ := h
  unfold get at hg
  unfold ins
  split at hg
  ·rename_i hlt
   rw [if_pos hlt, ins_same k v l hl hg, Zaq hb]
  ·rename_i hlt
   split at hg
   ·rename_i hgt
    rw [if_neg hlt, if_pos hgt, ins_same k v r hr hg, Zaq hb]
   ·rename_i hgt
    rw [if_neg hlt, if_neg hgt]
    simp only [Option.some.injEq] at hg
    rw [hg, show x = k by omega]
def mxA (keys : Nat) : Nat → Nat → Nat
 | 0, h => h
 | f + 1, h => if keys + 1 < wt (h + 1) then h else mxA keys f (h + 1)
def mxH (keys : Nat) : Nat := mxA keys 80 0
theorem Zcn (keys : Nat) : ∀ f h, h ≤ mxA keys f h ∧ mxA keys f h ≤ h + f
 | 0, h => by simp [mxA]
 | f + 1, h => by
  unfold mxA
  split
  ·omega
  ·have := Zcn keys f (h + 1); omega
theorem Zhy (keys : Nat) : ∀ f h j, j ≤ h + f → wt j ≤ keys + 1 → h ≤ j → j ≤ mxA keys f h
 | 0, h, j, h1, _, _ => by unfold mxA; omega
 | f + 1, h, j, h1, h2, h3 => by
  unfold mxA
  split
  ·rename_i hlt
   rcases Nat.lt_or_ge h j with h4 | h4
   ·have := Zf2 (a := h + 1) (b := j) h4; omega
   ·omega
  ·rcases Nat.lt_or_ge h j with h4 | h4
   ·exact Zhy keys f (h + 1) j (by omega) h2 h4
   ·have := (Zcn keys f (h + 1)).1; omega
theorem Zh1 : ∀ h : Nat, 4 ^ h ≤ wt h * 3 ^ h
 | 0 => by simp [wt]
 | h + 1 => by
  have ih := Zh1 h
  have h1 : 4 * wt h ≤ 3 * wt (h + 1) := by rw [wt]; omega
  calc 4 ^ (h + 1) = 4 * 4 ^ h := by rw [Nat.pow_succ, Nat.mul_comm]
   _ ≤ 4 * (wt h * 3 ^ h) := Nat.mul_le_mul_left _ ih
   _ = (4 * wt h) * 3 ^ h := by rw [Nat.mul_assoc]
   _ ≤ (3 * wt (h + 1)) * 3 ^ h := Nat.mul_le_mul_right _ h1
   _ = wt (h + 1) * 3 ^ (h + 1) := by rw [Nat.pow_succ, Nat.mul_comm 3 (wt (h + 1)), Nat.mul_assoc, Nat.mul_comm 3]
theorem wt_81 : 2147483648 < wt 81 := by
 have h := Zh1 81
 rcases Nat.lt_or_ge 2147483648 (wt 81) with h1 | h1
 ·exact h1
 ·have h2 : wt 81 * 3 ^ 81 ≤ 2147483648 * 3 ^ 81 := Nat.mul_le_mul_right _ h1
  have h3 : 2147483648 * 3 ^ 81 < 4 ^ 81 := by decide
  omega
theorem ht_le (t : Tr) (h : t.ok) (hn : t.n ≤ 2147483647) : t.ht ≤ mxH t.n := by
 have h1 := Zh7 t h
 refine Zhy t.n 80 0 t.ht ?_ h1 (Nat.zero_le _)
 rcases Nat.lt_or_ge 80 t.ht with h2 | h2
 ·have := Zf2 (a := 81) (b := t.ht) h2
  have := wt_81
  omega
 ·omega
theorem Zd7 {a b : Nat} (hab : a ≤ b) : ∀ f h, mxA a f h ≤ mxA b f h
 | 0, h => by simp [mxA]
 | f + 1, h => by
  unfold mxA
  split
  ·split
   ·exact Nat.le_refl _
   ·have := (Zcn b f (h + 1)).1; omega
  ·rw [if_neg (by omega)]; exact Zd7 hab f (h + 1)
theorem Ziv {a b : Nat} (h : a ≤ b) : mxH a ≤ mxH b := Zd7 h 80 0
theorem mxH_le (a : Nat) : mxH a ≤ 80 := by have := (Zcn a 80 0).2; unfold mxH; omega
theorem ic_res (k v : Int) (t : Tr) (h : t.ok) (hn : t.n ≤ 2147483646) : ic k v t ≤ 4 * (mxH (t.n + 1) + 2) := by
 have h1 := Zii k v t h
 have h2 := ht_le t h (by omega)
 have h3 := Ziv (a := t.n) (b := t.n + 1) (by omega)
 omega
end Tr
end Go.V
namespace Go.V
open Go Go.RowKit
def AM.nd (A : AM) (i : Int) : Nd := (A.nodes[i.toNat]?).getD Nd.zero
def AM.live (A : AM) : List Int := ((List.range A.s.used.length).map fun i : Nat => (i : Int)).filter fun i => A.s.ok i
def AM.kids (A : AM) : List Int := A.live.flatMap fun i => [(A.nd i).lf, (A.nd i).rg]
def AM.sz (A : AM) (i : Int) : Int := if A.s.ok i = true then (A.nd i).size else 0
structure ARf (A : AM) (R : List Int) : Prop extends AWf A where
 kid : ∀ i, A.s.ok i = true → 0 ≤ i → ∀ c, c = (A.nd i).lf ∨ c = (A.nd i).rg → c = 0 ∨ (1 ≤ c ∧ A.s.ok c = true)
 sz : ∀ i, A.s.ok i = true → 0 ≤ i → (A.nd i).size = 1 + A.sz (A.nd i).lf + A.sz (A.nd i).rg ∧ (A.nd i).size ≤ 2147483647
 pos : ∀ i, A.s.ok i = true → 0 ≤ i → 1 ≤ (A.nd i).size
 ref : ∀ r ∈ R, r = 0 ∨ (1 ≤ r ∧ A.s.ok r = true)
 cnt : ∀ i, A.s.ok i = true → 0 ≤ i → A.cntOf i = ((R ++ A.kids).count i : Nat) ∧ 1 ≤ A.cntOf i
 zero : ∀ i, A.s.ok i = false → 1 ≤ i → A.nd i = Nd.zero
 len : R.length ≤ 1000000000
theorem AM.mem_live {A : AM} (i : Int) : i ∈ A.live ↔ 0 ≤ i ∧ A.s.ok i = true := by
 unfold AM.live
 rw [List.mem_filter, List.mem_map]
 constructor
 ·rintro ⟨⟨n, _, rfl⟩, h⟩; exact ⟨by omega, h⟩
 ·rintro ⟨h0, h⟩
  exact ⟨⟨i.toNat, List.mem_range.2 (Zmb h), by omega⟩, h⟩
theorem AM.live_nodup (A : AM) : A.live.Nodup := by
 unfold AM.live
 refine List.Pairwise.filter _ (List.pairwise_map.2 ?_)
 exact (List.nodup_range).imp fun h e => h (by omega)
theorem Zaa {A B : AM} {k : Int} (hk : A.s.ok k = true) (h0 : 0 ≤ k) (h : ∀ j, 0 ≤ j → B.s.ok j = if j = k then false else A.s.ok j) : A.live.Perm (k :: B.live) := by
 refine (List.perm_ext_iff_of_nodup A.live_nodup (List.nodup_cons.2 ⟨fun hm => ?_, B.live_nodup⟩)).2 fun j => ?_
 ·have := ((B.mem_live k).1 hm).2
  rw [h k h0, if_pos rfl] at this; cases this
 ·rw [A.mem_live, List.mem_cons, B.mem_live]
  constructor
  ·rintro ⟨j0, j1⟩
   by_cases e : j = k
   ·exact .inl e
   ·exact .inr ⟨j0, by rw [h j j0, if_neg e]; exact j1⟩
  ·rintro (rfl | ⟨j0, j1⟩)
   ·exact ⟨h0, hk⟩
   ·rw [h j j0] at j1
    split at j1
    ·cases j1
    ·exact ⟨j0, j1⟩
theorem Zea {α β : Type} {f g : α → List β} : ∀ {l : List α}, (∀ x ∈ l, f x = g x) → l.flatMap f = l.flatMap g
 | [], _ => rfl
 | x :: l, h => by rw [List.flatMap_cons, List.flatMap_cons, h x (List.mem_cons_self ..), Zea fun y hy => h y (List.mem_cons_of_mem _ hy)]
theorem Zao {A B : AM} {k : Int} (hk : A.s.ok k = true) (h0 : 0 ≤ k) (h : ∀ j, 0 ≤ j → B.s.ok j = if j = k then false else A.s.ok j) (hn : ∀ j, 0 ≤ j → j ≠ k → B.nd j = A.nd j) : A.kids.Perm ([(A.nd k).lf, (A.nd k).rg] ++ B.kids) := by
 have h1 := (Zaa hk h0 h).flatMap_right (fun i => [(A.nd i).lf, (A.nd i).rg])
 rw [List.flatMap_cons] at h1
 refine h1.trans (List.Perm.append_left _ (List.Perm.of_eq ?_))
 unfold AM.kids
 have hm : ∀ j ∈ B.live, [(A.nd j).lf, (A.nd j).rg] = [(B.nd j).lf, (B.nd j).rg] := fun j hj => by
  have hj2 := (B.mem_live j).1 hj
  have hne : j ≠ k := fun e => by subst e; have := hj2.2; rw [h j h0, if_pos rfl] at this; cases this
  rw [hn j hj2.1 hne]
 exact Zea hm
theorem AM.live_len (A : AM) : A.live.length ≤ A.s.used.length := by
 unfold AM.live
 exact Nat.le_trans (List.length_filter_le _ _) (by simp)
theorem AM.kids_len (A : AM) : A.kids.length = 2 * A.live.length := by
 unfold AM.kids
 induction A.live with
 | nil => rfl
 | cons x l ih => rw [List.flatMap_cons, List.length_append, ih]; simp; omega
theorem AM.mem_kids {A : AM} (c : Int) : c ∈ A.kids ↔ ∃ i, 0 ≤ i ∧ A.s.ok i = true ∧ (c = (A.nd i).lf ∨ c = (A.nd i).rg) := by
 unfold AM.kids
 rw [List.mem_flatMap]
 constructor
 ·rintro ⟨i, hi, hc⟩
  have := (A.mem_live i).1 hi
  exact ⟨i, this.1, this.2, by simpa using hc⟩
 ·rintro ⟨i, h0, h1, hc⟩
  exact ⟨i, (A.mem_live i).2 ⟨h0, h1⟩, by simpa using hc⟩
theorem ARf.perm {A : AM} {R R' : List Int} (h : ARf A R) (hp : R.Perm R') : ARf A R' :=
 ⟨h.toAWf, h.kid, h.sz, h.pos, fun r hr => h.ref r (hp.mem_iff.2 hr), fun i hi h0 => by
  rw [← (List.Perm.append_right A.kids hp).count_eq i]; exact h.cnt i hi h0, h.zero, by rw [← hp.length_eq]; exact h.len⟩
theorem ARf.cons0 {A : AM} {R : List Int} (h : ARf A R) (hl : R.length + 1 ≤ 1000000000) : ARf A (0 :: R) :=
 ⟨h.toAWf, h.kid, h.sz, h.pos, fun r hr => by
  rcases List.mem_cons.1 hr with rfl | hr
  ·exact .inl rfl
  ·exact h.ref r hr, fun i hi h0 => by
  have h1 := (SM.ok_rng h.s h0 hi).1
  rw [List.cons_append, List.count_cons_of_ne (by omega)]; exact h.cnt i hi h0, h.zero, by simpa using hl⟩
theorem ARf.tail0 {A : AM} {R : List Int} (h : ARf A (0 :: R)) : ARf A R :=
 ⟨h.toAWf, h.kid, h.sz, h.pos, fun r hr => h.ref r (List.mem_cons_of_mem _ hr), fun i hi h0 => by
  have h1 := (SM.ok_rng h.s h0 hi).1
  have h2 := h.cnt i hi h0
  rwa [List.cons_append, List.count_cons_of_ne (by omega)] at h2, h.zero, by have := h.len; simp at this; omega⟩
theorem ARf.cnt_le {A : AM} {R : List Int} (h : ARf A R) {i : Int} (hi : A.s.ok i = true) (h0 : 0 ≤ i) : 1 ≤ A.cntOf i ∧ A.cntOf i ≤ 2000000000 := by
 have h1 := h.cnt i hi h0
 have h2 := List.count_le_length (a := i) (l := R ++ A.kids)
 rw [List.length_append, A.kids_len] at h2
 have h3 := A.live_len
 have h4 := h.s.cap
 have h5 := h.len
 omega
theorem AM.cnt_set {A : AM} {s : SM} {n : List Nd} {k i x : Int} (hk : k.toNat < A.cnt.length) (h0 : 0 ≤ k) (hi : 0 ≤ i) : (AM.mk s n (A.cnt.set k.toNat x)).cntOf i = if i = k then x else A.cntOf i := by
 unfold AM.cntOf
 simp only
 rw [List.getElem?_set]
 by_cases h : i = k
 ·subst h; rw [if_pos rfl, if_pos hk, if_pos rfl]; rfl
 ·rw [if_neg (by omega), if_neg h]
theorem AM.nd_set {A : AM} {s : SM} {c : List Int} {k i : Int} {x : Nd} (hk : k.toNat < A.nodes.length) (h0 : 0 ≤ k) (hi : 0 ≤ i) : (AM.mk s (A.nodes.set k.toNat x) c).nd i = if i = k then x else A.nd i := by
 unfold AM.nd
 simp only
 rw [List.getElem?_set]
 by_cases h : i = k
 ·subst h; rw [if_pos rfl, if_pos hk, if_pos rfl]; rfl
 ·rw [if_neg (by omega), if_neg h]
theorem ARf.inc {A : AM} {R : List Int} {k : Int} (h : ARf A R) (hk : A.s.ok k = true) (h0 : 0 ≤ k) (hl : R.length + 1 ≤ 1000000000) : ARf (A.inc k) (k :: R) := by
 have hr := SM.ok_rng h.s h0 hk
 have hkl : k.toNat < A.cnt.length := by rw [h.cl]; exact hr.2.2.2
 have hb := h.cnt_le hk h0
 have hkids : (A.inc k).kids = A.kids := rfl
 refine ⟨h.toAWf.inc k, h.kid, h.sz, h.pos, fun r hr2 => ?_, fun i hi hi0 => ?_, h.zero, by simpa using hl⟩
 ·rcases List.mem_cons.1 hr2 with rfl | hr2
  ·exact .inr ⟨hr.1, hk⟩
  ·exact h.ref r hr2
 ·have hc := h.cnt i hi hi0
  rw [hkids, AM.inc, AM.cnt_set hkl h0 hi0]
  by_cases e : i = k
  ·subst e
   rw [if_pos rfl, List.cons_append, List.count_cons_self, Zr (by omega)]
   omega
  ·rw [if_neg e, List.cons_append, List.count_cons_of_ne (fun h => e h.symm)]; exact hc
theorem ARf.dec {A : AM} {R : List Int} {k : Int} (h : ARf A (k :: R)) (hk : A.s.ok k = true) (h0 : 0 ≤ k) (h1 : A.cntOf k ≠ 1) : ARf (A.dec k) R := by
 have hr := SM.ok_rng h.s h0 hk
 have hkl : k.toNat < A.cnt.length := by rw [h.cl]; exact hr.2.2.2
 have hb := h.cnt_le hk h0
 have hkids : (A.dec k).kids = A.kids := rfl
 refine ⟨⟨h.s, h.nl, by simpa [AM.dec] using h.cl⟩, h.kid, h.sz, h.pos, fun r hr2 => h.ref r (List.mem_cons_of_mem _ hr2), fun i hi hi0 => ?_, h.zero, by have := h.len; simp at this; omega⟩
 have hc := h.cnt i hi hi0
 rw [hkids, AM.dec, AM.cnt_set hkl h0 hi0]
 by_cases e : i = k
 ·subst e
  rw [List.cons_append, List.count_cons_self] at hc
  rw [if_pos rfl, Zr (by omega)]
  omega
 ·rw [List.cons_append, List.count_cons_of_ne (fun h => e h.symm)] at hc
  rw [if_neg e]; exact hc
def AM.freed (A : AM) (k : Int) : AM := ⟨A.s.release k, A.nodes.set k.toNat Nd.zero, A.cnt.set k.toNat (IntKind.i64.wrap (A.cntOf k - 1))⟩
theorem AM.freed_ok {A : AM} {k : Int} (h : SOk A.s) (hk : A.s.ok k = true) (h0 : 0 ≤ k) : ∀ j, 0 ≤ j → (A.freed k).s.ok j = if j = k then false else A.s.ok j := fun _ hj => SM.release_ok' h h0 hk hj
theorem ARf.free {A : AM} {R : List Int} {k : Int} (h : ARf A (k :: R)) (hk : A.s.ok k = true) (h0 : 0 ≤ k) (h1 : A.cntOf k = 1) (hl : R.length + 2 ≤ 1000000000) : ARf (A.freed k) ((A.nd k).lf :: (A.nd k).rg :: R) := by
 have hr := SM.ok_rng h.s h0 hk
 have hkl : k.toNat < A.cnt.length := by rw [h.cl]; exact hr.2.2.2
 have hkn : k.toNat < A.nodes.length := by rw [h.nl]; exact hr.2.2.2
 have hok := AM.freed_ok h.s hk h0
 have hnd : ∀ j, 0 ≤ j → j ≠ k → (A.freed k).nd j = A.nd j := fun j hj e => by
  unfold AM.freed; rw [AM.nd_set hkn h0 hj, if_neg e]
 have hkp := Zao hk h0 hok hnd
 have hck := (h.cnt k hk h0).1
 rw [h1, List.cons_append, List.count_cons_self] at hck
 have hc0 : (R ++ A.kids).count k = 0 := by omega
 rw [List.count_append] at hc0
 have hnR : k ∉ R := List.count_eq_zero.1 (by omega)
 have hnK : k ∉ A.kids := List.count_eq_zero.1 (by omega)
 have hkid : ∀ i, A.s.ok i = true → 0 ≤ i → ∀ c, c = (A.nd i).lf ∨ c = (A.nd i).rg → c = 0 ∨ (1 ≤ c ∧ (A.freed k).s.ok c = true) := fun i hi hi0 c hc => by
  rcases h.kid i hi hi0 c hc with e | ⟨c1, c2⟩
  ·exact .inl e
  ·refine .inr ⟨c1, ?_⟩
   have hne : c ≠ k := fun e => hnK ((A.mem_kids k).2 ⟨i, hi0, hi, by rw [← e]; exact hc⟩)
   rw [hok c (by omega), if_neg hne]; exact c2
 have hback : ∀ i, 0 ≤ i → (A.freed k).s.ok i = true → i ≠ k ∧ A.s.ok i = true := fun i hi0 hi => by
  rw [hok i hi0] at hi
  split at hi
  ·cases hi
  ·rename_i e; exact ⟨e, hi⟩
 have hsz : ∀ i, A.s.ok i = true → 0 ≤ i → ∀ c, c = (A.nd i).lf ∨ c = (A.nd i).rg → (A.freed k).sz c = A.sz c := fun i hi hi0 c hc => by
  rcases h.kid i hi hi0 c hc with e | ⟨c1, c2⟩
  ·subst e
   unfold AM.sz
   have hu0 : A.s.ok 0 = false := h.s.u0
   rw [hok 0 (Int.le_refl _), if_neg (show ¬ (0 : Int) = k by omega), hu0]; rfl
  ·have hne : c ≠ k := fun e => hnK ((A.mem_kids k).2 ⟨i, hi0, hi, by rw [← e]; exact hc⟩)
   unfold AM.sz
   rw [hok c (by omega), if_neg hne, hnd c (by omega) hne]
 refine ⟨⟨SM.release_sok h.s h0 hk, ?_, ?_⟩, fun i hi hi0 c hc => ?_, fun i hi hi0 => ?_, fun i hi hi0 => ?_, fun r hr2 => ?_, fun i hi hi0 => ?_, fun i hi hi1 => ?_, ?_⟩
 ·show (A.nodes.set _ _).length = (A.s.used.set _ _).length
  rw [List.length_set, List.length_set]; exact h.nl
 ·show (A.cnt.set _ _).length = (A.s.used.set _ _).length
  rw [List.length_set, List.length_set]; exact h.cl
 ·obtain ⟨e, hi2⟩ := hback i hi0 hi
  rw [hnd i hi0 e] at hc
  exact hkid i hi2 hi0 c hc
 ·obtain ⟨e, hi2⟩ := hback i hi0 hi
  rw [hnd i hi0 e, hsz i hi2 hi0 _ (.inl rfl), hsz i hi2 hi0 _ (.inr rfl)]
  exact h.sz i hi2 hi0
 ·obtain ⟨e, hi2⟩ := hback i hi0 hi
  rw [hnd i hi0 e]; exact h.pos i hi2 hi0
 ·simp only [List.mem_cons] at hr2
  rcases hr2 with e | e | hr2
  ·exact hkid k hk h0 r (.inl e)
  ·exact hkid k hk h0 r (.inr e)
  ·rcases h.ref r (List.mem_cons_of_mem _ hr2) with e | ⟨r1, r2⟩
   ·exact .inl e
   ·have hne : r ≠ k := fun e => hnR (e ▸ hr2)
    exact .inr ⟨r1, by rw [hok r (by omega), if_neg hne]; exact r2⟩
 ·obtain ⟨e, hi2⟩ := hback i hi0 hi
  have hc := h.cnt i hi2 hi0
  have he : (A.freed k).cntOf i = A.cntOf i := by unfold AM.freed; rw [AM.cnt_set hkl h0 hi0, if_neg e]
  rw [he]
  rw [List.cons_append, List.count_cons_of_ne (fun h => e h.symm)] at hc
  have hp : (R ++ A.kids).Perm ((A.nd k).lf :: (A.nd k).rg :: R ++ (A.freed k).kids) := by
   refine (List.Perm.append_left R hkp).trans ?_
   simp only [List.cons_append, List.nil_append]
   exact (List.perm_middle).trans ((List.Perm.cons _ List.perm_middle))
  rw [← hp.count_eq i]; exact hc
 ·by_cases e : i = k
  ·subst e
   unfold AM.freed
   rw [AM.nd_set hkn h0 h0, if_pos rfl]
  ·have hi2 : A.s.ok i = false := by rw [hok i (by omega), if_neg e] at hi; exact hi
   rw [hnd i (by omega) e]; exact h.zero i hi2 hi1
 ·simpa using hl
end Go.V
namespace Go.V
open Go Go.RowKit
def AM.put (A : AM) (n : Nd) : AM := ⟨A.s.alloc, A.nodes.set A.s.next.toNat n, A.cnt.set A.s.next.toNat 1⟩
def AM.make (A : AM) (n : Nd) : AM := ((A.put n).inc n.lf).inc n.rg
theorem AM.inc_cnt {A : AM} {k j : Int} (hk : k.toNat < A.cnt.length) (h0 : 0 ≤ k) (hj : 0 ≤ j) : (A.inc k).cntOf j = if j = k then IntKind.i64.wrap (A.cntOf k + 1) else A.cntOf j := AM.cnt_set hk h0 hj
theorem ARf.rng {A : AM} {R : List Int} (h : ARf A R) {r : Int} (hr : r ∈ R) : 0 ≤ r ∧ r < 4294967296 ∧ r ≤ 65536 := by
 rcases h.ref r hr with e | ⟨h1, h2⟩
 ·omega
 ·have h3 := SM.ok_rng h.s (by omega) h2
  have h4 := h.s.cap
  have h5 : A.s.cap = (A.s.used.length : Int) - 1 := rfl
  omega
theorem ARf.okrng {A : AM} {R : List Int} (h : ARf A R) {c : Int} (hc : c = 0 ∨ (1 ≤ c ∧ A.s.ok c = true)) : 0 ≤ c ∧ c ≤ 65536 ∧ c.toNat < A.s.used.length := by
 have h4 := h.s.cap
 have h5 : A.s.cap = (A.s.used.length : Int) - 1 := rfl
 rcases hc with e | ⟨h1, h2⟩
 ·subst e; exact ⟨by omega, by omega, by show 0 < _; omega⟩
 ·have h3 := SM.ok_rng h.s (by omega) h2
  omega
theorem ARf.make {A : AM} {R : List Int} {n : Nd} (h : ARf A R) (hf : 0 < A.s.free) (hl : n.lf = 0 ∨ (1 ≤ n.lf ∧ A.s.ok n.lf = true)) (hr : n.rg = 0 ∨ (1 ≤ n.rg ∧ A.s.ok n.rg = true))
  (hs : n.size = 1 + A.sz n.lf + A.sz n.rg ∧ n.size ≤ 2147483647) (hp : 1 ≤ n.size) (hlen : R.length + 1 ≤ 1000000000) : ARf (A.make n) (A.s.next :: R) := by
 have hn := SM.next_rng h.s hf
 have hno : A.s.ok A.s.next = false := hn.2.2.2
 have hok : ∀ j, 0 ≤ j → (A.make n).s.ok j = if j = A.s.next then true else A.s.ok j := fun j hj => SM.alloc_ok' h.s hf hj
 have hnl : A.s.next.toNat < A.nodes.length := by rw [h.nl]; exact hn.2.2.1
 have hcl : A.s.next.toNat < A.cnt.length := by rw [h.cl]; exact hn.2.2.1
 have hnd : ∀ j, 0 ≤ j → (A.make n).nd j = if j = A.s.next then n else A.nd j := fun j hj => AM.nd_set hnl (by omega) hj
 have hne : ∀ c, (c = 0 ∨ (1 ≤ c ∧ A.s.ok c = true)) → c ≠ A.s.next := fun c hc e => by
  rcases hc with e2 | ⟨_, h2⟩
  ·omega
  ·rw [e, hno] at h2; cases h2
 have hup : ∀ c, (c = 0 ∨ (1 ≤ c ∧ A.s.ok c = true)) → (c = 0 ∨ (1 ≤ c ∧ (A.make n).s.ok c = true)) := fun c hc => by
  have h1 := hne c hc
  rcases hc with e2 | ⟨h3, h2⟩
  ·exact .inl e2
  ·exact .inr ⟨h3, by rw [hok c (by omega), if_neg h1]; exact h2⟩
 have hsz : ∀ c, (c = 0 ∨ (1 ≤ c ∧ A.s.ok c = true)) → (A.make n).sz c = A.sz c := fun c hc => by
  have h1 := hne c hc
  have h0 : 0 ≤ c := by omega
  unfold AM.sz
  rw [hok c h0, if_neg h1, hnd c h0, if_neg h1]
 have hkp : (A.make n).kids.Perm ([n.lf, n.rg] ++ A.kids) := by
  have h1 := Zao (A := A.make n) (B := A) (k := A.s.next) (by rw [hok _ (by omega), if_pos rfl]) (by omega) (fun j hj => by
   rw [hok j hj]
   by_cases e : j = A.s.next
   ·subst e; rw [if_pos rfl]; exact hno
   ·rw [if_neg e, if_neg e]) (fun j hj e => by rw [hnd j hj, if_neg e])
  rw [hnd _ (by omega), if_pos rfl] at h1
  exact h1
 have hlr := h.okrng hl
 have hrr := h.okrng hr
 have hcnt : ∀ j, 1 ≤ j → (j = A.s.next ∨ A.s.ok j = true) → (A.make n).cntOf j = if j = A.s.next then 1 else A.cntOf j + (if j = n.lf then 1 else 0) + (if j = n.rg then 1 else 0) := fun j hj hjo => by
  have hpl : (A.put n).cnt.length = A.cnt.length := by simp [AM.put]
  have hpl2 : ((A.put n).inc n.lf).cnt.length = A.cnt.length := by simp [AM.inc, AM.put]
  have e1 : (A.make n).cntOf j = if j = n.rg then IntKind.i64.wrap (((A.put n).inc n.lf).cntOf n.rg + 1) else ((A.put n).inc n.lf).cntOf j := AM.inc_cnt (by rw [hpl2, h.cl]; exact hrr.2.2) hrr.1 (by omega)
  have e2 : ∀ x, 0 ≤ x → ((A.put n).inc n.lf).cntOf x = if x = n.lf then IntKind.i64.wrap ((A.put n).cntOf n.lf + 1) else (A.put n).cntOf x := fun x hx => AM.inc_cnt (by rw [hpl, h.cl]; exact hlr.2.2) hlr.1 hx
  have e3 : ∀ x, 0 ≤ x → (A.put n).cntOf x = if x = A.s.next then 1 else A.cntOf x := fun x hx => AM.cnt_set hcl (by omega) hx
  by_cases hj2 : j = A.s.next
  ·rw [if_pos hj2, e1, if_neg (fun e => hne _ hr (by rw [← e]; exact hj2)), e2 j (by omega), if_neg (fun e => hne _ hl (by rw [← e]; exact hj2)), e3 j (by omega), if_pos hj2]
  ·have hjo := hjo.resolve_left hj2
   have hb := h.cnt_le hjo (by omega)
   rw [if_neg hj2, e1]
   have e4 : ((A.put n).inc n.lf).cntOf j = A.cntOf j + (if j = n.lf then 1 else 0) := by
    rw [e2 j (by omega)]
    by_cases e : j = n.lf
    ·rw [if_pos e, if_pos e, ← e, e3 j (by omega), if_neg hj2, Zr (by omega)]
    ·rw [if_neg e, if_neg e, e3 j (by omega), if_neg hj2]; omega
   by_cases e : j = n.rg
   ·rw [if_pos e, if_pos e, ← e, e4, Zr (by split <;> omega)]
   ·rw [if_neg e, if_neg e, e4]; omega
 refine ⟨⟨SM.alloc_sok h.s hf, ?_, ?_⟩, fun i hi hi0 c hc => ?_, fun i hi hi0 => ?_, fun i hi hi0 => ?_, fun r hr2 => ?_, fun i hi hi0 => ?_, fun i hi hi1 => ?_, by simpa using hlen⟩
 ·show (A.nodes.set _ _).length = (A.s.used.set _ _).length
  rw [List.length_set, List.length_set]; exact h.nl
 ·show (((A.cnt.set _ _).set _ _).set _ _).length = (A.s.used.set _ _).length
  rw [List.length_set, List.length_set, List.length_set, List.length_set]; exact h.cl
 ·rw [hnd i hi0] at hc
  by_cases e : i = A.s.next
  ·rw [if_pos e] at hc
   rcases hc with hc | hc <;> rw [hc]
   ·exact hup _ hl
   ·exact hup _ hr
  ·rw [if_neg e] at hc
   rw [hok i hi0, if_neg e] at hi
   exact hup _ (h.kid i hi hi0 c hc)
 ·rw [hnd i hi0]
  by_cases e : i = A.s.next
  ·rw [if_pos e, hsz _ hl, hsz _ hr]; exact hs
  ·rw [if_neg e]
   rw [hok i hi0, if_neg e] at hi
   rw [hsz _ (h.kid i hi hi0 _ (.inl rfl)), hsz _ (h.kid i hi hi0 _ (.inr rfl))]
   exact h.sz i hi hi0
 ·rw [hnd i hi0]
  by_cases e : i = A.s.next
  ·rw [if_pos e]; exact hp
  ·rw [if_neg e]
   rw [hok i hi0, if_neg e] at hi
   exact h.pos i hi hi0
 ·rcases List.mem_cons.1 hr2 with e | hr2
  ·rw [e]; exact .inr ⟨hn.1, by rw [hok _ (by omega), if_pos rfl]⟩
  ·exact hup _ (h.ref r hr2)
 ·have h1 : 1 ≤ i := by
   rcases Int.lt_or_le i 1 with h1 | h1
   ·have : i = 0 := by omega
    subst this
    rw [hok 0 (by omega), if_neg (by omega), h.s.u0] at hi; cases hi
   ·exact h1
  rw [hok i hi0] at hi
  have hp2 : (A.s.next :: R ++ (A.make n).kids).count i = (A.s.next :: (R ++ ([n.lf, n.rg] ++ A.kids))).count i := by
   rw [List.cons_append]
   exact (List.Perm.cons _ (List.Perm.append_left R hkp)).count_eq i
  rw [hp2]
  by_cases e : i = A.s.next
  ·rw [hcnt i h1 (.inl e), if_pos e, e, List.count_cons_self, List.count_append, List.count_append]
   have c1 : R.count A.s.next = 0 := List.count_eq_zero.2 fun hm => hne _ (h.ref _ hm) rfl
   have c2 : [n.lf, n.rg].count A.s.next = 0 := List.count_eq_zero.2 fun hm => by
    rcases List.mem_cons.1 hm with e2 | hm
    ·exact hne _ hl e2.symm
    ·exact hne _ hr (List.mem_singleton.1 hm).symm
   have c3 : A.kids.count A.s.next = 0 := List.count_eq_zero.2 fun hm => by
    obtain ⟨j, j0, j1, jc⟩ := (A.mem_kids _).1 hm
    exact hne _ (h.kid j j1 j0 _ jc) rfl
   omega
  ·rw [if_neg e] at hi
   have hc2 := h.cnt i hi hi0
   have hb := h.cnt_le hi hi0
   rw [List.count_append] at hc2
   rw [hcnt i h1 (.inr hi), if_neg e, List.count_cons_of_ne (fun h => e h.symm), List.count_append, List.count_append]
   have c2 : ([n.lf, n.rg].count i : Nat) = (if i = n.lf then 1 else 0) + (if i = n.rg then 1 else 0) := by
    rw [List.count_cons, List.count_cons, List.count_nil]
    have q1 : (n.lf == i) = decide (i = n.lf) := by rw [Bool.eq_iff_iff, beq_iff_eq, decide_eq_true_eq]; exact ⟨Eq.symm, Eq.symm⟩
    have q2 : (n.rg == i) = decide (i = n.rg) := by rw [Bool.eq_iff_iff, beq_iff_eq, decide_eq_true_eq]; exact ⟨Eq.symm, Eq.symm⟩
    rw [q1, q2]
    simp only [decide_eq_true_eq]
    omega
   rw [c2]
   split <;> split <;> omega
 ·rw [hnd i (by omega)]
  rw [hok i (by omega)] at hi
  by_cases e : i = A.s.next
  ·rw [if_pos e] at hi; cases hi
  ·rw [if_neg e] at hi ⊢
   exact h.zero i hi hi1
theorem SOk.free_rng {S : SM} (h : SOk S) : 0 ≤ S.free ∧ S.free ≤ 131072 := by
 have h1 := h.rle; have h2 := h.cap; have h3 := h.fr; have h4 : S.cap = (S.used.length : Int) - 1 := rfl
 unfold SM.free; omega
theorem AM.cnt_live {A : AM} (h : SOk A.s) : A.s.free + A.live.length = A.s.cap := by
 have hc : A.s.cap = (A.s.used.length : Int) - 1 := rfl
 have hcp := h.cap
 have hfr := h.fr
 have hp : ((List.range A.s.cap.toNat).map fun i : Nat => (i : Int) + 1).Perm (A.live ++ (A.s.rel ++ (List.range (A.s.cap - A.s.fresh).toNat).map fun i : Nat => A.s.fresh + 1 + (i : Int))) := by
  refine (List.perm_ext_iff_of_nodup ?_ ?_).2 fun j => ?_
  ·exact List.pairwise_map.2 ((List.nodup_range).imp fun h e => h (by omega))
  ·refine List.nodup_append.2 ⟨A.live_nodup, List.nodup_append.2 ⟨h.nd, List.pairwise_map.2 ((List.nodup_range).imp fun h e => h (by omega)), fun a ha b hb e => ?_⟩, fun a ha b hb e => ?_⟩
   ·have h1 := h.rm a ha
    obtain ⟨i, _, rfl⟩ := List.mem_map.1 hb
    omega
   ·have h1 := (A.mem_live a).1 ha
    rcases List.mem_append.1 hb with hb | hb
    ·have h2 := (h.rm b hb).2.2
     rw [← e, h1.2] at h2; cases h2
    ·obtain ⟨i, _, e2⟩ := List.mem_map.1 hb
     have h2 := h.hi a (by omega)
     rw [h1.2] at h2; cases h2
  ·rw [List.mem_append, List.mem_append, A.mem_live, List.mem_map, List.mem_map]
   constructor
   ·rintro ⟨i, hi, rfl⟩
    have hi := List.mem_range.1 hi
    by_cases ho : A.s.ok ((i : Int) + 1) = true
    ·exact .inl ⟨by omega, ho⟩
    ·right
     by_cases hf : (i : Int) + 1 ≤ A.s.fresh
     ·exact .inl (h.cov _ (by omega) hf (by simpa using ho))
     ·exact .inr ⟨((i : Int) - A.s.fresh).toNat, List.mem_range.2 (by omega), by omega⟩
   ·rintro (⟨h0, h1⟩ | h1 | ⟨i, hi, rfl⟩)
    ·have h2 := SM.ok_rng h h0 h1
     exact ⟨(j - 1).toNat, List.mem_range.2 (by omega), by omega⟩
    ·have h2 := h.rm j h1
     exact ⟨(j - 1).toNat, List.mem_range.2 (by omega), by omega⟩
    ·have hi := List.mem_range.1 hi
     exact ⟨(A.s.fresh + i).toNat, List.mem_range.2 (by omega), by omega⟩
 have h1 := hp.length_eq
 simp only [List.length_map, List.length_range, List.length_append] at h1
 unfold SM.free
 omega
theorem Zio {A B : AM} (h : ∀ j, 0 ≤ j → B.s.ok j = true → A.s.ok j = true) : B.live.length ≤ A.live.length := by
 have hh : ∀ {l m : List Int}, l.Nodup → (∀ z ∈ l, z ∈ m) → l.length ≤ m.length := by
  intro l
  induction l with
  | nil => intro m _ _; exact Nat.zero_le _
  | cons x t ih =>
   intro m hn hs
   obtain ⟨h1, h2⟩ := List.nodup_cons.1 hn
   have h3 : x ∈ m := hs x (List.mem_cons_self ..)
   have h4 := ih (m := m.erase x) h2 (fun z hz => (List.mem_erase_of_ne (fun e => h1 (by rw [← e]; exact hz))).2 (hs z (List.mem_cons_of_mem _ hz)))
   rw [List.length_erase_of_mem h3] at h4
   have := List.length_pos_of_mem h3
   simp; omega
 exact hh B.live_nodup fun z hz => by
  have := (B.mem_live z).1 hz
  exact (A.mem_live z).2 ⟨this.1, h z this.1 this.2⟩
def XF (l r : Int) (k : Nat) : Int := if k = 0 then l else r
theorem lr_at {l r : Int} {k : Nat} (h : k < 2) : (#[.int .u32 l, .int .u32 r] : Array Value)[k]? = some (.int .u32 (XF l r k)) := by
 match k, h with
 | 0, _ => rfl
 | 1, _ => rfl
def Zob (n x : Nd) : Nd := ⟨n.key, n.val, n.lf, n.rg, n.size + x.size, IntKind.i64.wrap (n.sum + x.sum), min n.mn x.mn, max n.mx x.mx⟩
def XP (A : AM) (l r : Int) (n : Nd) : Nat → Nd
 | 0 => n
 | k + 1 => if XF l r k = 0 then XP A l r n k else Zob (XP A l r n k) (A.nd (XF l r k))
def Jl (key val l r : Int) : Nd := ⟨key, val, l, r, 1, val, val, val⟩
def AM.nodeOf (A : AM) (key val l r : Int) : Nd := XP A l r (Jl key val l r) 2
theorem Jv (A : AM) (l r : Int) (n : Nd) : ∀ k, (XP A l r n k).lf = n.lf ∧ (XP A l r n k).rg = n.rg ∧ (XP A l r n k).key = n.key ∧ (XP A l r n k).val = n.val
 | 0 => ⟨rfl, rfl, rfl, rfl⟩
 | k + 1 => by
  unfold XP
  split
  ·exact Jv A l r n k
  ·exact Jv A l r n k
structure Kd (A : AM) (l r : Int) : Prop where
 cl : l = 0 ∨ (1 ≤ l ∧ A.s.ok l = true)
 cr : r = 0 ∨ (1 ≤ r ∧ A.s.ok r = true)
 lz : 0 ≤ A.sz l
 rz : 0 ≤ A.sz r
 z : 1 + A.sz l + A.sz r ≤ 2147483647
theorem sz_0 {A : AM} (h : SOk A.s) : A.sz 0 = 0 := by unfold AM.sz; rw [h.u0]; rfl
theorem Zc1 {A : AM} {c : Int} (h : A.s.ok c = true) : A.sz c = (A.nd c).size := by unfold AM.sz; rw [if_pos h]
theorem Kd.at_ {A : AM} {l r : Int} (h : Kd A l r) (k : Nat) : (XF l r k = 0 ∨ (1 ≤ XF l r k ∧ A.s.ok (XF l r k) = true)) ∧ 0 ≤ A.sz (XF l r k) := by
 unfold XF
 split
 ·exact ⟨h.cl, h.lz⟩
 ·exact ⟨h.cr, h.rz⟩
theorem Zb6 {A : AM} (hA : AWf A) {l r : Int} (h : Kd A l r) (n : Nd) (k : Nat) : (XP A l r n (k + 1)).size = (XP A l r n k).size + A.sz (XF l r k) := by
 rw [XP]
 split
 ·rename_i e; rw [e, sz_0 hA.s]; omega
 ·rename_i e; rw [Zc1 ((h.at_ k).1.resolve_left e).2]; rfl
theorem Zat {A : AM} (hA : AWf A) {key val l r : Int} (h : Kd A l r) : (A.nodeOf key val l r).size = 1 + A.sz l + A.sz r := by
 unfold AM.nodeOf
 rw [Zb6 hA h, Zb6 hA h]; rfl
theorem Zlw {A : AM} (hA : AWf A) {key val l r : Int} (h : Kd A l r) {k : Nat} (hk : k < 2) : 1 ≤ (XP A l r (Jl key val l r) k).size ∧ (XP A l r (Jl key val l r) k).size + A.sz (XF l r k) ≤ 2147483647 := by
 have h1 := h.lz; have h2 := h.rz; have h3 := h.z
 match k, hk with
 | 0, _ => exact ⟨by simp [XP, Jl], by show 1 + A.sz l ≤ _; omega⟩
 | 1, _ =>
  rw [Zb6 hA h]
  exact ⟨by show 1 ≤ 1 + A.sz l; omega, by show 1 + A.sz l + A.sz r ≤ _; omega⟩
theorem Zfe {A : AM} (h : AWf A) {c : Int} (hc : c = 0 ∨ (1 ≤ c ∧ A.s.ok c = true)) : 0 ≤ c ∧ c ≤ 65536 ∧ c.toNat < A.s.used.length := by
 have h4 := h.s.cap
 have h5 : A.s.cap = (A.s.used.length : Int) - 1 := rfl
 rcases hc with e | ⟨h1, h2⟩
 ·subst e; exact ⟨by omega, by omega, by show 0 < _; omega⟩
 ·have h3 := SM.ok_rng h.s (by omega) h2
  omega
theorem Znl {A : AM} {n : Nd} {l r z2 z3 : Int} (h2 : (A.cnt.set A.s.next.toNat 1)[l.toNat]? = some z2) (h3 : ((A.cnt.set A.s.next.toNat 1).set l.toNat (IntKind.i64.wrap (z2 + 1)))[r.toNat]? = some z3) (hl : n.lf = l) (hr : n.rg = r) :
  A.make n = AM.mk A.s.alloc (A.nodes.set A.s.next.toNat n) (((A.cnt.set A.s.next.toNat 1).set l.toNat (IntKind.i64.wrap (z2 + 1))).set r.toNat (IntKind.i64.wrap (z3 + 1))) := by
 subst hl; subst hr
 have e1 : (A.put n).cntOf n.lf = z2 := by unfold AM.cntOf; show ((A.cnt.set A.s.next.toNat 1)[n.lf.toNat]?).getD 0 = z2; rw [h2]; rfl
 have e2 : (A.put n).inc n.lf = AM.mk A.s.alloc (A.nodes.set A.s.next.toNat n) ((A.cnt.set A.s.next.toNat 1).set n.lf.toNat (IntKind.i64.wrap (z2 + 1))) := by unfold AM.inc; rw [e1]; rfl
 unfold AM.make
 rw [e2]
 unfold AM.inc AM.cntOf
 simp only
 rw [h3]; rfl
def Is (A : AM) : Tr → Int → Prop
 | .nil, i => i = 0
 | .node l k v r, i => 1 ≤ i ∧ A.s.ok i = true ∧ (A.nd i).key = k ∧ (A.nd i).val = v ∧ Is A l (A.nd i).lf ∧ Is A r (A.nd i).rg
theorem Is.sz {A : AM} {R : List Int} (h : ARf A R) : ∀ (t : Tr) (i : Int), Is A t i → A.sz i = t.n
 | .nil, i, hi => by
  have : i = 0 := hi
  subst this
  unfold AM.sz
  rw [h.s.u0]; rfl
 | .node l k v r, i, ⟨h1, h2, _, _, h5, h6⟩ => by
  have hs := (h.sz i h2 (by omega)).1
  rw [Is.sz h l _ h5, Is.sz h r _ h6] at hs
  unfold AM.sz
  rw [if_pos h2, hs]; simp only [Tr.n]; omega
theorem Is.ref {A : AM} : ∀ {t : Tr} {i : Int}, Is A t i → i = 0 ∨ (1 ≤ i ∧ A.s.ok i = true)
 | .nil, _, h => .inl h
 | .node _ _ _ _, _, h => .inr ⟨h.1, h.2.1⟩
theorem Is.nil_iff {A : AM} {t : Tr} {i : Int} (h : Is A t i) : i = 0 ↔ t = .nil := by
 cases t with
 | nil => exact ⟨fun _ => rfl, fun _ => h⟩
 | node => exact ⟨fun e => absurd h.1 (by omega), fun e => by cases e⟩
theorem ARf.tree {A : AM} {R : List Int} (h : ARf A R) : ∀ (m : Nat) (i : Int), (i = 0 ∨ (1 ≤ i ∧ A.s.ok i = true)) → A.sz i ≤ m → ∃ t, Is A t i
 | m, i, hi, hm => by
  induction m using Nat.strongRecOn generalizing i with
  | _ m ih =>
   rcases hi with e | ⟨h1, h2⟩
   ·exact ⟨.nil, e⟩
   ·have hs := (h.sz i h2 (by omega)).1
    have hp := h.pos i h2 (by omega)
    have e : A.sz i = (A.nd i).size := by unfold AM.sz; rw [if_pos h2]
    have hk := fun c hc => h.kid i h2 (by omega) c hc
    have hn : ∀ c, (c = 0 ∨ (1 ≤ c ∧ A.s.ok c = true)) → 0 ≤ A.sz c := fun c hc => by
     rcases hc with e | ⟨c1, c2⟩
     ·subst e; unfold AM.sz; rw [h.s.u0]; exact Int.le_refl _
     ·have := h.pos c c2 (by omega); unfold AM.sz; rw [if_pos c2]; omega
    have hl := hn _ (hk _ (.inl rfl))
    have hr := hn _ (hk _ (.inr rfl))
    obtain ⟨l, il⟩ := ih (m - 1) (by omega) _ (hk _ (.inl rfl)) (by omega)
    obtain ⟨r, ir⟩ := ih (m - 1) (by omega) _ (hk _ (.inr rfl)) (by omega)
    exact ⟨.node l _ _ r, h1, h2, rfl, rfl, il, ir⟩
def ixs (A : AM) : Tr → Int → List Int
 | .nil, _ => []
 | .node l _ _ r, i => ixs A l (A.nd i).lf ++ i :: ixs A r (A.nd i).rg
theorem XJ {A B : AM} (h : ∀ j, 1 ≤ j → A.s.ok j = true → B.nd j = A.nd j) : ∀ (t : Tr) (i : Int), Is A t i → ixs B t i = ixs A t i
 | .nil, _, _ => rfl
 | .node l k v r, i, ⟨h1, h2, _, _, h5, h6⟩ => by
  unfold ixs
  rw [h i h1 h2, XJ h l _ h5, XJ h r _ h6]
structure Kp (A B : AM) (R : List Int) : Prop where
 is : ∀ r ∈ R, ∀ t, Is A t r → Is B t r
 ix : ∀ r ∈ R, ∀ t, Is A t r → ixs B t r = ixs A t r
instance {A B : AM} {R : List Int} : CoeFun (Kp A B R) fun _ => ∀ r ∈ R, ∀ t, Is A t r → Is B t r := ⟨Kp.is⟩
theorem Kp.refl (A : AM) (R : List Int) : Kp A A R := ⟨fun _ _ _ h => h, fun _ _ _ _ => rfl⟩
theorem Kp.trans {A B C : AM} {R : List Int} (h : Kp A B R) (k : Kp B C R) : Kp A C R := ⟨fun r hr t ht => k.is r hr t (h.is r hr t ht), fun r hr t ht => (k.ix r hr t (h.is r hr t ht)).trans (h.ix r hr t ht)⟩
theorem Kp.sub {A B : AM} {R R' : List Int} (h : Kp A B R) (hs : ∀ r ∈ R', r ∈ R) : Kp A B R' := ⟨fun r hr t ht => h.is r (hs r hr) t ht, fun r hr t ht => h.ix r (hs r hr) t ht⟩
theorem Kp.cons {A B : AM} {R : List Int} {x : Int} (h : Kp A B (x :: R)) : Kp A B R := h.sub fun _ hr => List.mem_cons_of_mem _ hr
theorem Is.mono {A B : AM} {RB : List Int} (hB : ARf B RB) (h : ∀ j, 0 ≤ j → B.s.ok j = true → B.nd j = A.nd j) : ∀ (t : Tr) (i : Int), Is A t i → (i = 0 ∨ B.s.ok i = true) → Is B t i
 | .nil, _, hi, _ => hi
 | .node l k v r, i, ⟨h1, h2, h3, h4, h5, h6⟩, hb => by
  have hb : B.s.ok i = true := hb.resolve_left (by omega)
  have hk := fun c hc => hB.kid i hb (by omega) c hc
  have e := h i (by omega) hb
  refine ⟨h1, hb, by rw [e]; exact h3, by rw [e]; exact h4, ?_, ?_⟩
  ·rw [e]; exact Is.mono hB h l _ h5 ((hk _ (.inl (by rw [e]))).imp id (·.2))
  ·rw [e]; exact Is.mono hB h r _ h6 ((hk _ (.inr (by rw [e]))).imp id (·.2))
theorem Is.up {A B : AM} (h : ∀ j, 1 ≤ j → A.s.ok j = true → B.s.ok j = true ∧ B.nd j = A.nd j) : ∀ (t : Tr) (i : Int), Is A t i → Is B t i
 | .nil, _, hi => hi
 | .node l k v r, i, ⟨h1, h2, h3, h4, h5, h6⟩ => by
  obtain ⟨hb, e⟩ := h i h1 h2
  refine ⟨h1, hb, by rw [e]; exact h3, by rw [e]; exact h4, ?_, ?_⟩
  ·rw [e]; exact Is.up h l _ h5
  ·rw [e]; exact Is.up h r _ h6
structure TOp (A B : AM) (R : List Int) (i : Int) (t : Tr) (c : Nat) : Prop where
 ref : ARf B (i :: R)
 is : Is B t i
 kp : Kp A B R
 fr : A.s.free ≤ B.s.free + c
 cap : B.s.used.length = A.s.used.length
theorem TOp.rng {A B : AM} {R : List Int} {i : Int} {t : Tr} {c : Nat} (h : TOp A B R i t c) : 0 ≤ i ∧ i < 4294967296 := ⟨(h.ref.rng (List.mem_cons_self ..)).1, (h.ref.rng (List.mem_cons_self ..)).2.1⟩
theorem ARf.refl {A : AM} {R : List Int} {i : Int} {t : Tr} (h : ARf A (i :: R)) (hi : Is A t i) : TOp A A R i t 0 := ⟨h, hi, Kp.refl _ _, by omega, rfl⟩
theorem TOp.trans {A B C : AM} {R R' : List Int} {i j : Int} {t u : Tr} {c d : Nat} (h : TOp A B R' i t c) (k : TOp B C R j u d) (hs : ∀ r ∈ R, r ∈ R') : TOp A C R j u (c + d) :=
 ⟨k.ref, k.is, (h.kp.sub hs).trans k.kp, by have := h.fr; have := k.fr; omega, k.cap.trans h.cap⟩
theorem TOp.weak {A B : AM} {R : List Int} {i : Int} {t : Tr} {c d : Nat} (h : TOp A B R i t c) (hd : c ≤ d) : TOp A B R i t d := ⟨h.ref, h.is, h.kp, by have := h.fr; omega, h.cap⟩
theorem AM.ret_eq {A : AM} {R : List Int} (h : ARf A R) {i : Int} (hi : i = 0 ∨ (1 ≤ i ∧ A.s.ok i = true)) (hl : R.length + 1 ≤ 1000000000) : ARf (A.ret i) (i :: R) ∧ A.retE i = 0 := by
 unfold AM.ret AM.retE
 rcases hi with e | ⟨h1, h2⟩
 ·subst e; rw [if_neg (fun h => h.1 rfl), if_pos (.inl rfl)]; exact ⟨h.cons0 hl, rfl⟩
 ·rw [if_pos ⟨by omega, h2⟩, if_pos (.inr h2)]; exact ⟨h.inc h2 (by omega) hl, rfl⟩
theorem Is.same {A B : AM} (hs : B.s = A.s) (hn : B.nodes = A.nodes) : ∀ (t : Tr) (i : Int), Is A t i → Is B t i := by
 refine fun t i h => Is.up (fun j _ hj => ⟨by rw [hs]; exact hj, ?_⟩) t i h
 unfold AM.nd; rw [hn]
theorem AM.ret_same (A : AM) (i : Int) : (A.ret i).s = A.s ∧ (A.ret i).nodes = A.nodes := by
 unfold AM.ret
 split <;> exact ⟨rfl, rfl⟩
theorem Is.ret {A : AM} {t : Tr} {j : Int} (i : Int) (h : Is A t j) : Is (A.ret i) t j := Is.same (A.ret_same i).1 (A.ret_same i).2 t j h
theorem Kp.ret (A : AM) (i : Int) (R : List Int) : Kp A (A.ret i) R := ⟨fun _ _ _ h => h.ret i, fun _ _ t ht => XJ (fun j _ _ => by unfold AM.nd; rw [(A.ret_same i).2]) t _ ht⟩
end Go.V
namespace Go.V
open Go Go.RowKit
theorem AM.make_keep {A : AM} {n : Nd} (h : AWf A) (hf : 0 < A.s.free) : (∀ j, 1 ≤ j → A.s.ok j = true → (A.make n).s.ok j = true ∧ (A.make n).nd j = A.nd j) ∧ (A.make n).s.ok A.s.next = true ∧ (A.make n).nd A.s.next = n ∧ (A.make n).s.free = A.s.free - 1 ∧ (A.make n).s.used.length = A.s.used.length := by
 have hn := SM.next_rng h.s hf
 have hnl : A.s.next.toNat < A.nodes.length := by rw [h.nl]; exact hn.2.2.1
 have hok : ∀ j, 0 ≤ j → (A.make n).s.ok j = if j = A.s.next then true else A.s.ok j := fun j hj => SM.alloc_ok' h.s hf hj
 have hnd : ∀ j, 0 ≤ j → (A.make n).nd j = if j = A.s.next then n else A.nd j := fun j hj => AM.nd_set hnl (by omega) hj
 refine ⟨fun j hj ho => ?_, by rw [hok _ (by omega), if_pos rfl], by rw [hnd _ (by omega), if_pos rfl], SM.alloc_free _, ?_⟩
 ·have hne : j ≠ A.s.next := fun e => by rw [e, hn.2.2.2] at ho; cases ho
  rw [hok j (by omega), hnd j (by omega), if_neg hne, if_neg hne]; exact ⟨ho, rfl⟩
 ·show (A.s.used.set _ _).length = _
  rw [List.length_set]
structure Mk (A : AM) (R : List Int) (l r : Int) (tl tr : Tr) (k v : Int) : Prop where
 kd : Kd A l r
 rf : ARf (A.make (A.nodeOf k v l r)) (A.s.next :: l :: r :: R)
 is : Is (A.make (A.nodeOf k v l r)) (.node tl k v tr) A.s.next
 kp : Kp A (A.make (A.nodeOf k v l r)) (l :: r :: R)
 fr : (A.make (A.nodeOf k v l r)).s.free = A.s.free - 1
 cap : (A.make (A.nodeOf k v l r)).s.used.length = A.s.used.length
theorem Mk.of {A : AM} {R : List Int} {l r : Int} {tl tr : Tr} {k v : Int} (hA : ARf A (l :: r :: R)) (hl : Is A tl l) (hr : Is A tr r) (hf : 0 < A.s.free) (hz : tl.n + tr.n ≤ 2000000000) (hlen : R.length + 4 ≤ 1000000000) : Mk A R l r tl tr k v := by
 have hn := SM.next_rng hA.s hf
 have e1 := Is.sz hA tl l hl
 have e2 := Is.sz hA tr r hr
 have kd : Kd A l r := ⟨hl.ref, hr.ref, by omega, by omega, by omega⟩
 have hnl := Jv A l r (Jl k v l r) 2
 have hlf : (A.nodeOf k v l r).lf = l := hnl.1
 have hrg : (A.nodeOf k v l r).rg = r := hnl.2.1
 have hky : (A.nodeOf k v l r).key = k := hnl.2.2.1
 have hvl : (A.nodeOf k v l r).val = v := hnl.2.2.2
 have hsz := Zat hA.toAWf (key := k) (val := v) kd
 obtain ⟨k1, k2, k3, k4, k5⟩ := AM.make_keep (n := A.nodeOf k v l r) hA.toAWf hf
 have rf := hA.make (n := A.nodeOf k v l r) hf (by rw [hlf]; exact hl.ref) (by rw [hrg]; exact hr.ref) (by rw [hlf, hrg]; omega) (by omega) (by simp; omega)
 refine ⟨kd, rf, ⟨hn.1, k2, by rw [k3]; exact hky, by rw [k3]; exact hvl, ?_, ?_⟩, ⟨fun x _ t ht => Is.up k1 t x ht, fun x _ t ht => XJ (fun j h0 hj => (k1 j h0 hj).2) t x ht⟩, k4, k5⟩
 ·rw [k3, hlf]; exact Is.up k1 tl l hl
 ·rw [k3, hrg]; exact Is.up k1 tr r hr
structure Rl (A B : AM) (R : List Int) : Prop where
 ref : ARf B R
 kp : Kp A B R
 fr : A.s.free ≤ B.s.free
 cap : B.s.used.length = A.s.used.length
theorem Mk.op {A B C : AM} {R : List Int} {l r : Int} {tl tr : Tr} {k v : Int} (h : Mk A R l r tl tr k v) (h1 : Rl (A.make (A.nodeOf k v l r)) B (A.s.next :: r :: R)) (h2 : Rl B C (A.s.next :: R)) : TOp A C R A.s.next (.node tl k v tr) 1 :=
 ⟨h2.ref, h2.kp _ (List.mem_cons_self ..) _ (h1.kp _ (List.mem_cons_self ..) _ h.is),
  ((h.kp.cons.cons.trans h1.kp.cons.cons).trans h2.kp.cons),
  by have := h.fr; have := h1.fr; have := h2.fr; omega, by rw [h2.cap, h1.cap, h.cap]⟩
theorem Mk.p1 {A : AM} {R : List Int} {l r : Int} {tl tr : Tr} {k v : Int} (h : Mk A R l r tl tr k v) : ARf (A.make (A.nodeOf k v l r)) (l :: A.s.next :: r :: R) := h.rf.perm (List.Perm.swap _ _ _)
theorem Rl.p1 {A B : AM} {R : List Int} {x r : Int} (h : Rl A B (x :: r :: R)) : ARf B (r :: x :: R) := h.ref.perm (List.Perm.swap _ _ _)
structure Opn (A B : AM) (R : List Int) (x y : Int) (l r : Tr) : Prop where
 ref : ARf B (x :: y :: R)
 il : Is B l x
 ir : Is B r y
 kp : Kp A B R
 fr : A.s.free ≤ B.s.free
 cap : B.s.used.length = A.s.used.length
theorem Opn.rng {A B : AM} {R : List Int} {x y : Int} {l r : Tr} (h : Opn A B R x y l r) : (0 ≤ x ∧ x < 4294967296) ∧ 0 ≤ y ∧ y < 4294967296 := by
 have h1 := h.ref.rng (r := x) (by simp)
 have h2 := h.ref.rng (r := y) (by simp)
 omega
theorem Opn.of {A B : AM} {R : List Int} {i k v : Int} {l r : Tr} (hi : Is A (.node l k v r) i) (h : Rl ((A.ret (A.nd i).lf).ret (A.nd i).rg) B ((A.nd i).lf :: (A.nd i).rg :: R)) : Opn A B R (A.nd i).lf (A.nd i).rg l r :=
 ⟨h.ref, h.kp _ (by simp) _ ((hi.2.2.2.2.1.ret _).ret _), h.kp _ (by simp) _ ((hi.2.2.2.2.2.ret _).ret _), ((Kp.ret _ _ _).trans (Kp.ret _ _ _)).trans h.kp.cons.cons,
  by have := h.fr; rw [(AM.ret_same _ _).1, (AM.ret_same _ _).1] at this; exact this, by rw [h.cap, (AM.ret_same _ _).1, (AM.ret_same _ _).1]⟩
theorem Opn.swap {A B : AM} {R : List Int} {x y : Int} {l r : Tr} (h : Opn A B R x y l r) : ARf B (y :: x :: R) := h.ref.perm (List.Perm.swap _ _ _)
structure Ch (A B : AM) (R : List Int) (c : Nat) : Prop where
 kp : Kp A B R
 fr : A.s.free ≤ B.s.free + c
 cap : B.s.used.length = A.s.used.length
theorem Ch.trans {A B C : AM} {R R' R'' : List Int} {c d : Nat} (h : Ch A B R' c) (k : Ch B C R'' d) (h1 : ∀ r ∈ R, r ∈ R') (h2 : ∀ r ∈ R, r ∈ R'') : Ch A C R (c + d) :=
 ⟨(h.kp.sub h1).trans (k.kp.sub h2), by have := h.fr; have := k.fr; omega, k.cap.trans h.cap⟩
theorem Opn.ch {A B : AM} {R : List Int} {x y : Int} {l r : Tr} (h : Opn A B R x y l r) : Ch A B R 0 := ⟨h.kp, by have := h.fr; omega, h.cap⟩
theorem TOp.ch {A B : AM} {R : List Int} {i : Int} {t : Tr} {c : Nat} (h : TOp A B R i t c) : Ch A B R c := ⟨h.kp, h.fr, h.cap⟩
theorem Rl.ch {A B : AM} {R : List Int} (h : Rl A B R) : Ch A B R 0 := ⟨h.kp, by have := h.fr; omega, h.cap⟩
theorem TOp.after {A B C : AM} {R R' : List Int} {i : Int} {t : Tr} {c d e : Nat} (k : TOp B C R i t d) (h : Ch A B R' c) (h1 : ∀ r ∈ R, r ∈ R') (he : c + d ≤ e) : TOp A C R i t e :=
 let q := h.trans k.ch h1 (fun _ h => h)
 ⟨k.ref, k.is, q.kp, by have := q.fr; omega, q.cap⟩
theorem ARf.sw {A : AM} {R : List Int} {a b : Int} (h : ARf A (a :: b :: R)) : ARf A (b :: a :: R) := h.perm (List.Perm.swap _ _ _)
theorem ARf.r3 {A : AM} {R : List Int} {a b c : Int} (h : ARf A (a :: b :: c :: R)) : ARf A (c :: a :: b :: R) := h.perm ((List.Perm.cons a (List.Perm.swap c b R)).trans (List.Perm.swap c a _))
theorem ARf.r4 {A : AM} {R : List Int} {a b c d : Int} (h : ARf A (a :: b :: c :: d :: R)) : ARf A (d :: a :: b :: c :: R) := h.perm ((List.Perm.cons a ((List.Perm.cons b (List.Perm.swap d c R)).trans (List.Perm.swap d b _))).trans (List.Perm.swap d a _))
theorem sb1 {a : Int} {R : List Int} : ∀ r ∈ R, r ∈ a :: R := fun _ h => List.mem_cons_of_mem _ h
theorem sb2 {a b : Int} {R : List Int} : ∀ r ∈ R, r ∈ a :: b :: R := fun _ h => List.mem_cons_of_mem _ (List.mem_cons_of_mem _ h)
theorem sb0 {R : List Int} : ∀ r ∈ R, r ∈ R := fun _ h => h
end Go.V
namespace Go.V
open Go Go.RowKit
theorem JH (A : AM) : ∀ (t : Tr) (i : Int), Is A t i → (ixs A t i).map (fun j => ((A.nd j).key, (A.nd j).val)) = t.ls
 | .nil, _, _ => rfl
 | .node l k v r, i, ⟨_, _, h3, h4, h5, h6⟩ => by
  unfold ixs Tr.ls
  rw [List.map_append, List.map_cons, JH A l _ h5, JH A r _ h6, h3, h4]
theorem Zbp (A : AM) {t : Tr} {i : Int} (h : Is A t i) : (ixs A t i).length = t.n := by
 rw [← Tr.ls_len, ← JH A t i h, List.length_map]
theorem Zau {A : AM} {t : Tr} {i : Int} (h : Is A t i) (hs : Srt t.ls) : (ixs A t i).Nodup := by
 have h1 := JH A t i h
 rw [← h1] at hs
 have h2 := List.pairwise_map.1 hs
 exact h2.imp fun {a b} hab e => by subst e; exact absurd hab (by omega)
theorem Zb7 (A : AM) : ∀ (t : Tr) (i : Int), Is A t i → ∀ j ∈ ixs A t i, 1 ≤ j ∧ A.s.ok j = true
 | .nil, _, _, _, hj => by cases hj
 | .node l k v r, i, ⟨h1, h2, _, _, h5, h6⟩, j, hj => by
  unfold ixs at hj
  rcases List.mem_append.1 hj with hj | hj
  ·exact Zb7 A l _ h5 j hj
  ·rcases List.mem_cons.1 hj with rfl | hj
   ·exact ⟨h1, h2⟩
   ·exact Zb7 A r _ h6 j hj
theorem JD {A : AM} : ∀ {t : Tr} {i : Int}, Is A t i → i ≠ 0 → i ∈ ixs A t i
 | .nil, _, h, hne => absurd h hne
 | .node _ _ _ _, _, _, _ => by unfold ixs; simp
theorem Qg {A : AM} : ∀ (t : Tr) (i : Int), Is A t i → ∀ j ∈ ixs A t i, ∀ c, c = (A.nd j).lf ∨ c = (A.nd j).rg → c ≠ 0 → c ∈ ixs A t i
 | .nil, _, _, _, hj, _, _, _ => by cases hj
 | .node l k v r, i, ⟨h1, h2, _, _, h5, h6⟩, j, hj, c, hc, hne => by
  unfold ixs at hj ⊢
  rcases List.mem_append.1 hj with hj | hj
  ·exact List.mem_append_left _ (Qg l _ h5 j hj c hc hne)
  ·rcases List.mem_cons.1 hj with rfl | hj
   ·rcases hc with rfl | rfl
    ·exact List.mem_append_left _ (JD h5 hne)
    ·exact List.mem_append_right _ (List.mem_cons_of_mem _ (JD h6 hne))
   ·exact List.mem_append_right _ (List.mem_cons_of_mem _ (Qg r _ h6 j hj c hc hne))
theorem Zlb {A : AM} {R : List Int} (h : ARf A R) (S : Int → Prop) (hR : ∀ r ∈ R, r ≠ 0 → S r) (hK : ∀ j, 1 ≤ j → A.s.ok j = true → S j → ∀ c, c = (A.nd j).lf ∨ c = (A.nd j).rg → c ≠ 0 → S c) : ∀ j, 1 ≤ j → A.s.ok j = true → S j := by
 have key : ∀ (m : Nat) (j : Int), 1 ≤ j → A.s.ok j = true → 2147483647 - (A.nd j).size < m → S j := by
  intro m
  induction m with
  | zero => intro j h1 h2 h3; have := (h.sz j h2 (by omega)).2; omega
  | succ m ih =>
   intro j h1 h2 h3
   have hc := h.cnt j h2 (by omega)
   have hm : j ∈ R ++ A.kids := List.count_pos_iff.1 (by omega)
   rcases List.mem_append.1 hm with hm | hm
   ·exact hR j hm (by omega)
   ·obtain ⟨p, p0, p1, p2⟩ := (A.mem_kids j).1 hm
    have hp1 := (SM.ok_rng h.s p0 p1).1
    have hsz := (h.sz p p1 p0).1
    have hn : ∀ c, (c = 0 ∨ (1 ≤ c ∧ A.s.ok c = true)) → 0 ≤ A.sz c := fun c hc => by
     rcases hc with e | ⟨c1, c2⟩
     ·subst e; unfold AM.sz; rw [h.s.u0]; exact Int.le_refl _
     ·have := h.pos c c2 (by omega); unfold AM.sz; rw [if_pos c2]; omega
    have hl := hn _ (h.kid p p1 p0 _ (.inl rfl))
    have hr := hn _ (h.kid p p1 p0 _ (.inr rfl))
    have hsj : A.sz j = (A.nd j).size := by unfold AM.sz; rw [if_pos h2]
    have hlt : (A.nd j).size < (A.nd p).size := by
     rcases p2 with e | e
     ·rw [← hsj, e]; omega
     ·rw [← hsj, e]; omega
    exact hK p hp1 p1 (ih p hp1 p1 (by omega)) j p2 (by omega)
 intro j h1 h2
 exact key ((2147483647 - (A.nd j).size).toNat + 1) j h1 h2 (by have := (h.sz j h2 (by omega)).2; omega)
theorem Zkd {A : AM} {r : Int} {t : Tr} (h : ARf A [r]) (hi : Is A t r) (hs : Srt t.ls) : A.s.cap - A.s.free = t.n := by
 have h1 := AM.cnt_live h.s
 have hp : A.live.Perm (ixs A t r) := (List.perm_ext_iff_of_nodup A.live_nodup (Zau hi hs)).2 fun j => by
  rw [A.mem_live]
  constructor
  ·rintro ⟨h0, h2⟩
   have h3 := (SM.ok_rng h.s h0 h2).1
   refine Zlb h (fun j => j ∈ ixs A t r) (fun x hx hne => ?_) (fun j _ _ hj c hc hne => Qg t r hi j hj c hc hne) j h3 h2
   rw [List.mem_singleton.1 hx] at hne ⊢
   exact JD hi hne
  ·intro hj
   have := Zb7 A t r hi j hj
   exact ⟨by omega, this.2⟩
 have h2 := hp.length_eq
 rw [Zbp A hi] at h2
 omega
end Go.V
