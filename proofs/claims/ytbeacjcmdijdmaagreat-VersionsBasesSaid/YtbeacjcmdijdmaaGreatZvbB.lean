/-
  What the proof of Jvb stands on, part 2.
  Conditions: none.
-/
import Derived.Test.YtbeacjcmdijdmaaGreatZvbA
/-! ## Types -/
namespace Go.Proofs.YtbeacjcmdijdmaaGreat
open Go Go.V
def tab : Tab := { ints := [(2, .i64), (3, .i64), (5, .u8), (6, .u8), (12, .u64), (21, .i32), (23, .u64), (26, .i64), (64, .u32), (115, .u16), (299, .u64), (327, .i64), (356, .u64), (378, .u8), (379, .u8), (382, .i32), (383, .i32)], strs := [9, 10, 11], bools := [4], ptrs := [15, 16, 17, 25, 29, 31, 78, 134, 137, 158, 255, 303, 305, 360, 364, 367, 381], slices := [22, 32, 33, 38, 41, 45, 49, 56, 60, 73, 77, 79, 97, 98, 111, 159, 208, 282, 340], flds := [(7, [(0, 1, false), (1, 1, false), (2, 1, false), (3, 1, false)]), (8, [(0, 1, false), (1, 1, false), (2, 1, false), (3, 1, false)]), (13, [(0, 1, false), (1, 1, false)]), (14, [(0, 1, false), (1, 1, false)]), (18, [(0, 1, false)]), (19, [(0, 1, false)]), (34, [(0, 1, false), (1, 1, false), (2, 1, false), (3, 1, false), (4, 1, false)]), (35, [(0, 1, false), (1, 1, false), (2, 1, false), (3, 1, false), (4, 1, false)]), (36, [(0, 5, true), (5, 1, false)]), (37, [(0, 5, true), (5, 1, false)]), (39, [(0, 1, false), (1, 1, false), (2, 1, false)]), (40, [(0, 1, false), (1, 1, false), (2, 1, false)]), (42, [(0, 1, false), (1, 6, true), (7, 3, true), (10, 1, false)]), (43, [(0, 1, false), (1, 6, true), (7, 3, true), (10, 1, false)]), (46, [(0, 1, false), (1, 11, true), (12, 1, false)]), (47, [(0, 1, false), (1, 11, true), (12, 1, false)]), (50, [(0, 1, false), (1, 1, false), (2, 1, false), (3, 1, false), (4, 1, false)]), (51, [(0, 1, false), (1, 1, false), (2, 1, false), (3, 1, false), (4, 1, false)]), (61, [(0, 1, false), (1, 1, false)]), (62, [(0, 1, false), (1, 1, false)]), (80, [(0, 1, false), (1, 1, false), (2, 1, false)]), (81, [(0, 1, false), (1, 1, false), (2, 1, false)]), (82, [(0, 1, false), (1, 1, false)]), (83, [(0, 1, false), (1, 1, false)]), (88, [(0, 1, false), (1, 1, false), (2, 1, false), (3, 1, false)]), (89, [(0, 1, false), (1, 1, false), (2, 1, false), (3, 1, false)]), (99, [(0, 1, false), (1, 1, false), (2, 1, false), (3, 1, false)]), (100, [(0, 1, false), (1, 1, false), (2, 1, false), (3, 1, false)]), (105, [(0, 1, false), (1, 1, false)]), (106, [(0, 1, false), (1, 1, false)]), (109, [(0, 1, false), (1, 1, false), (2, 1, false), (3, 1, false)]), (110, [(0, 1, false), (1, 1, false), (2, 1, false), (3, 1, false)]), (120, [(0, 1, false), (1, 1, false)]), (121, [(0, 1, false), (1, 1, false)]), (141, [(0, 1, false), (1, 1, false)]), (142, [(0, 1, false), (1, 1, false)]), (143, [(0, 1, false), (1, 1, false), (2, 2, true), (4, 1, false)]), (144, [(0, 1, false), (1, 1, false), (2, 2, true), (4, 1, false)]), (160, [(0, 1, false), (1, 1, false), (2, 1, false), (3, 1, false)]), (161, [(0, 1, false), (1, 1, false), (2, 1, false), (3, 1, false)]), (171, [(0, 1, false), (1, 1, false), (2, 1, false), (3, 1, false), (4, 1, false), (5, 1, false), (6, 1, false), (7, 1, false)]), (172, [(0, 1, false), (1, 1, false), (2, 1, false), (3, 1, false), (4, 1, false), (5, 1, false), (6, 1, false), (7, 1, false)]), (173, [(0, 1, false), (1, 1, false), (2, 1, false), (3, 8, true)]), (174, [(0, 1, false), (1, 1, false), (2, 1, false), (3, 8, true)]), (187, [(0, 1, false), (1, 1, false), (2, 1, false), (3, 1, false), (4, 1, false)]), (188, [(0, 1, false), (1, 1, false), (2, 1, false), (3, 1, false), (4, 1, false)]), (216, [(0, 1, false), (1, 1, false)]), (217, [(0, 1, false), (1, 1, false)]), (218, [(0, 1, false), (1, 1, false), (2, 1, false)]), (219, [(0, 1, false), (1, 1, false), (2, 1, false)]), (227, [(0, 1, false), (1, 1, false)]), (228, [(0, 1, false), (1, 1, false)]), (230, [(0, 1, false), (1, 1, false), (2, 1, false)]), (231, [(0, 1, false), (1, 1, false), (2, 1, false)]), (242, [(0, 1, false), (1, 1, false), (2, 1, false), (3, 1, false)]), (243, [(0, 1, false), (1, 1, false), (2, 1, false), (3, 1, false)]), (246, [(0, 1, false), (1, 1, false)]), (247, [(0, 1, false), (1, 1, false)]), (256, [(0, 2, true), (2, 1, false), (3, 1, false), (4, 1, false)]), (257, [(0, 2, true), (2, 1, false), (3, 1, false), (4, 1, false)]), (306, [(0, 1, false), (1, 1, false), (2, 1, false)]), (307, [(0, 1, false), (1, 1, false), (2, 1, false)]), (311, [(0, 1, false), (1, 1, false), (2, 1, false), (3, 1, false), (4, 1, false), (5, 1, false), (6, 1, false)]), (312, [(0, 1, false), (1, 1, false), (2, 1, false), (3, 1, false), (4, 1, false), (5, 1, false), (6, 1, false)]), (321, [(0, 1, false), (1, 1, false), (2, 1, false), (3, 1, false)]), (322, [(0, 1, false), (1, 1, false), (2, 1, false), (3, 1, false)]), (341, [(0, 1, false)]), (342, [(0, 1, false)]), (344, [(0, 1, false), (1, 1, false), (2, 2, true), (4, 1, false)]), (345, [(0, 1, false), (1, 1, false), (2, 2, true), (4, 1, false)]), (373, [(0, 1, false), (1, 1, false), (2, 1, false), (3, 1, false)]), (374, [(0, 1, false), (1, 1, false), (2, 1, false), (3, 1, false)]), (384, [(0, 1, false), (1, 1, false), (2, 1, false), (3, 1, false), (4, 1, false), (5, 1, false), (6, 1, false), (7, 1, false), (8, 1, false), (9, 1, false), (10, 1, false)]), (385, [(0, 1, false), (1, 1, false), (2, 1, false), (3, 1, false), (4, 1, false), (5, 1, false), (6, 1, false), (7, 1, false), (8, 1, false), (9, 1, false), (10, 1, false)])], ones := [1, 2, 3, 4, 5, 6, 9, 10, 11, 12, 15, 16, 17, 20, 21, 22, 23, 24, 25, 26, 28, 29, 30, 31, 32, 33, 38, 41, 44, 45, 48, 49, 52, 53, 55, 56, 57, 58, 59, 60, 63, 64, 66, 68, 69, 70, 71, 72, 73, 74, 76, 77, 78, 79, 85, 87, 91, 93, 94, 95, 96, 97, 98, 101, 103, 104, 107, 108, 111, 112, 113, 114, 115, 116, 117, 119, 122, 123, 124, 125, 126, 127, 129, 130, 131, 133, 134, 136, 137, 139, 140, 145, 146, 147, 149, 150, 151, 152, 154, 156, 157, 158, 159, 162, 163, 164, 165, 166, 167, 168, 169, 170, 175, 176, 177, 178, 180, 182, 183, 185, 186, 189, 190, 191, 192, 193, 194, 195, 196, 197, 198, 199, 201, 203, 204, 206, 207, 208, 209, 210, 211, 212, 213, 214, 215, 220, 221, 222, 223, 224, 226, 229, 232, 233, 235, 237, 239, 241, 244, 245, 248, 249, 250, 251, 253, 254, 255, 258, 259, 260, 261, 262, 264, 265, 267, 268, 269, 270, 271, 272, 273, 274, 276, 277, 278, 279, 280, 281, 282, 283, 284, 285, 286, 287, 289, 291, 293, 294, 295, 296, 297, 298, 299, 300, 301, 303, 304, 305, 308, 309, 310, 313, 315, 316, 317, 318, 319, 320, 323, 325, 326, 327, 329, 330, 331, 333, 334, 335, 336, 337, 338, 339, 340, 343, 347, 348, 349, 350, 351, 352, 353, 354, 355, 356, 357, 358, 359, 360, 361, 362, 363, 364, 365, 366, 367, 369, 370, 371, 372, 378, 379, 380, 381, 382, 383] }
theorem tabok : tab.chk Tryz.prog = true := by kernel_rfl
instance : TabOk Tryz.prog tab := ⟨tabok⟩
theorem zv_35 : ZV Tryz.prog 35 #[.int .i64 0, .slice none 0 0, .int .i64 0, .slice none 0 0, .slice none 0 0] := zvMk (v := .agg #[.int .i64 0, .slice none 0 0, .int .i64 0, .slice none 0 0, .slice none 0 0]) (by kernel_rfl) rfl
theorem zv_37 : ZV Tryz.prog 37 #[.int .i64 0, .slice none 0 0, .int .i64 0, .slice none 0 0, .slice none 0 0, .slice none 0 0] := zvMk (v := .agg #[.int .i64 0, .slice none 0 0, .int .i64 0, .slice none 0 0, .slice none 0 0, .slice none 0 0]) (by kernel_rfl) rfl
theorem zv_40 : ZV Tryz.prog 40 #[.int .i64 0, .slice none 0 0, .slice none 0 0] := zvMk (v := .agg #[.int .i64 0, .slice none 0 0, .slice none 0 0]) (by kernel_rfl) rfl
theorem zv_43 : ZV Tryz.prog 43 #[.int .i64 0, .int .i64 0, .slice none 0 0, .int .i64 0, .slice none 0 0, .slice none 0 0, .slice none 0 0, .int .i64 0, .slice none 0 0, .slice none 0 0, .slice none 0 0] := zvMk (v := .agg #[.int .i64 0, .int .i64 0, .slice none 0 0, .int .i64 0, .slice none 0 0, .slice none 0 0, .slice none 0 0, .int .i64 0, .slice none 0 0, .slice none 0 0, .slice none 0 0]) (by kernel_rfl) rfl
theorem zv_47 : ZV Tryz.prog 47 #[.pointer none, .int .i64 0, .int .i64 0, .slice none 0 0, .int .i64 0, .slice none 0 0, .slice none 0 0, .slice none 0 0, .int .i64 0, .slice none 0 0, .slice none 0 0, .slice none 0 0, .slice none 0 0] := zvMk (v := .agg #[.pointer none, .int .i64 0, .int .i64 0, .slice none 0 0, .int .i64 0, .slice none 0 0, .slice none 0 0, .slice none 0 0, .int .i64 0, .slice none 0 0, .slice none 0 0, .slice none 0 0, .slice none 0 0]) (by kernel_rfl) rfl
theorem zv_62 : ZV Tryz.prog 62 #[.slice none 0 0, .slice none 0 0] := zvMk (v := .agg #[.slice none 0 0, .slice none 0 0]) (by kernel_rfl) rfl
theorem zv_121 : ZV Tryz.prog 121 #[.int .i64 0, .int .i64 0] := zvMk (v := .agg #[.int .i64 0, .int .i64 0]) (by kernel_rfl) rfl
theorem zv_142 : ZV Tryz.prog 142 #[.pointer none, .map none] := zvMk (v := .agg #[.pointer none, .map none]) (by kernel_rfl) rfl
theorem zv_144 : ZV Tryz.prog 144 #[.pointer none, .pointer none, .pointer none, .map none, .int .i64 0] := zvMk (v := .agg #[.pointer none, .pointer none, .pointer none, .map none, .int .i64 0]) (by kernel_rfl) rfl
theorem zv_161 : ZV Tryz.prog 161 #[.pointer none, .slice none 0 0, .slice none 0 0, .int .u64 0] := zvMk (v := .agg #[.pointer none, .slice none 0 0, .slice none 0 0, .int .u64 0]) (by kernel_rfl) rfl
theorem zv_172 : ZV Tryz.prog 172 #[.int .i64 0, .int .i64 0, .int .u32 0, .int .u32 0, .int .i64 0, .int .i64 0, .int .i64 0, .int .i64 0] := zvMk (v := .agg #[.int .i64 0, .int .i64 0, .int .u32 0, .int .u32 0, .int .i64 0, .int .i64 0, .int .i64 0, .int .i64 0]) (by kernel_rfl) rfl
theorem zv_174 : ZV Tryz.prog 174 #[.bool false, .int .i64 0, .int .u32 0, .int .i64 0, .int .i64 0, .int .u32 0, .int .u32 0, .int .i64 0, .int .i64 0, .int .i64 0, .int .i64 0] := zvMk (v := .agg #[.bool false, .int .i64 0, .int .u32 0, .int .i64 0, .int .i64 0, .int .u32 0, .int .u32 0, .int .i64 0, .int .i64 0, .int .i64 0, .int .i64 0]) (by kernel_rfl) rfl
theorem zv_228 : ZV Tryz.prog 228 #[.pointer none, .slice none 0 0] := zvMk (v := .agg #[.pointer none, .slice none 0 0]) (by kernel_rfl) rfl
theorem zv_231 : ZV Tryz.prog 231 #[.int .i64 0, .int .i64 0, .map none] := zvMk (v := .agg #[.int .i64 0, .int .i64 0, .map none]) (by kernel_rfl) rfl
theorem zv_243 : ZV Tryz.prog 243 #[.slice none 0 0, .slice none 0 0, .slice none 0 0, .int .u32 0] := zvMk (v := .agg #[.slice none 0 0, .slice none 0 0, .slice none 0 0, .int .u32 0]) (by kernel_rfl) rfl
theorem zv_247 : ZV Tryz.prog 247 #[.bool false, .slice none 0 0] := zvMk (v := .agg #[.bool false, .slice none 0 0]) (by kernel_rfl) rfl
theorem zv_248 : ZV Tryz.prog 248 #[.map none] := zvMk (v := .map none) (by kernel_rfl) rfl
theorem zv_257 : ZV Tryz.prog 257 #[.slice none 0 0, .slice none 0 0, .int .i64 0, .bool false, .int .i64 0] := zvMk (v := .agg #[.slice none 0 0, .slice none 0 0, .int .i64 0, .bool false, .int .i64 0]) (by kernel_rfl) rfl
theorem zv_302 : ZV Tryz.prog 302 #[.int .u32 0, .int .u32 0] := zvMk (v := .agg #[.int .u32 0, .int .u32 0]) (by kernel_rfl) rfl
theorem ag_35 : AggT Tryz.prog 35 5 := agMk (by kernel_rfl) (by kernel_rfl) (by kernel_rfl)
theorem ag_37 : AggT Tryz.prog 37 6 := agMk (by kernel_rfl) (by kernel_rfl) (by kernel_rfl)
theorem ag_40 : AggT Tryz.prog 40 3 := agMk (by kernel_rfl) (by kernel_rfl) (by kernel_rfl)
theorem ag_43 : AggT Tryz.prog 43 11 := agMk (by kernel_rfl) (by kernel_rfl) (by kernel_rfl)
theorem ag_51 : AggT Tryz.prog 51 5 := agMk (by kernel_rfl) (by kernel_rfl) (by kernel_rfl)
theorem ag_62 : AggT Tryz.prog 62 2 := agMk (by kernel_rfl) (by kernel_rfl) (by kernel_rfl)
theorem ag_121 : AggT Tryz.prog 121 2 := agMk (by kernel_rfl) (by kernel_rfl) (by kernel_rfl)
theorem ag_172 : AggT Tryz.prog 172 8 := agMk (by kernel_rfl) (by kernel_rfl) (by kernel_rfl)
theorem ag_174 : AggT Tryz.prog 174 11 := agMk (by kernel_rfl) (by kernel_rfl) (by kernel_rfl)
theorem ag_247 : AggT Tryz.prog 247 2 := agMk (by kernel_rfl) (by kernel_rfl) (by kernel_rfl)
theorem el_22 : Elem Tryz.prog 22 51 #[.int .i64 0, .int .u64 0, .int .u64 0, .slice none 0 0, .bool false] 5 56 := elMk (v := .agg #[.int .i64 0, .int .u64 0, .int .u64 0, .slice none 0 0, .bool false]) Tryz.underlying22 (by kernel_rfl) rfl rfl (by decide) rfl
theorem el_32 : Elem Tryz.prog 32 64 #[.int .u32 0] 1 4 := elMk (v := .int .u32 0) Tryz.underlying32 (by kernel_rfl) rfl rfl (by decide) rfl
theorem el_33 : Elem Tryz.prog 33 4 #[.bool false] 1 1 := elMk (v := .bool false) Tryz.underlying33 (by kernel_rfl) rfl rfl (by decide) rfl
theorem el_38 : Elem Tryz.prog 38 56 #[.slice none 0 0] 1 24 := elMk (v := .slice none 0 0) Tryz.underlying38 (by kernel_rfl) rfl rfl (by decide) rfl
theorem el_41 : Elem Tryz.prog 41 49 #[.slice none 0 0] 1 24 := elMk (v := .slice none 0 0) Tryz.underlying41 (by kernel_rfl) rfl rfl (by decide) rfl
theorem el_45 : Elem Tryz.prog 45 23 #[.int .u64 0] 1 8 := elMk (v := .int .u64 0) Tryz.underlying45 (by kernel_rfl) rfl rfl (by decide) rfl
theorem el_49 : Elem Tryz.prog 49 121 #[.int .i64 0, .int .i64 0] 2 16 := elMk (v := .agg #[.int .i64 0, .int .i64 0]) Tryz.underlying49 (by kernel_rfl) rfl rfl (by decide) rfl
theorem el_56 : Elem Tryz.prog 56 3 #[.int .i64 0] 1 8 := elMk (v := .int .i64 0) Tryz.underlying56 (by kernel_rfl) rfl rfl (by decide) rfl
theorem el_60 : Elem Tryz.prog 60 174 #[.bool false, .int .i64 0, .int .u32 0, .int .i64 0, .int .i64 0, .int .u32 0, .int .u32 0, .int .i64 0, .int .i64 0, .int .i64 0, .int .i64 0] 11 80 := elMk (v := .agg #[.bool false, .int .i64 0, .int .u32 0, .int .i64 0, .int .i64 0, .int .u32 0, .int .u32 0, .int .i64 0, .int .i64 0, .int .i64 0, .int .i64 0]) Tryz.underlying60 (by kernel_rfl) rfl rfl (by decide) rfl
theorem el_159 : Elem Tryz.prog 159 172 #[.int .i64 0, .int .i64 0, .int .u32 0, .int .u32 0, .int .i64 0, .int .i64 0, .int .i64 0, .int .i64 0] 8 56 := elMk (v := .agg #[.int .i64 0, .int .i64 0, .int .u32 0, .int .u32 0, .int .i64 0, .int .i64 0, .int .i64 0, .int .i64 0]) Tryz.underlying159 (by kernel_rfl) rfl rfl (by decide) rfl
theorem eq_121 : EqT Tryz.prog 121 [.int .i64, .int .i64] := ⟨by kernel_rfl, by kernel_rfl, by kernel_rfl, by kernel_rfl⟩
theorem mt_140 : MapT Tryz.prog 140 3 (.int .i64) 64 (.int .u32 0) := mtMk (by kernel_rfl) (by kernel_rfl) (by kernel_rfl)
theorem mt_229 : MapT Tryz.prog 229 3 (.int .i64) 247 (.agg #[.bool false, .slice none 0 0]) := mtMk (by kernel_rfl) (by kernel_rfl) (by kernel_rfl)
theorem mt_248 : MapT Tryz.prog 248 3 (.int .i64) 4 (.bool false) := mtMk (by kernel_rfl) (by kernel_rfl) (by kernel_rfl)
theorem ar_302 : ArrT Tryz.prog 302 2 64 := ⟨by kernel_rfl, by kernel_rfl⟩
end Go.Proofs.YtbeacjcmdijdmaaGreat
/-! ## Aga -/
namespace Go.V
open Go Go.RowKit Go.Maps Go.Sort
section
variable {g w w' : World} {L : List HP} {e size n : Nat} {v : Value} {xs : List Value}
theorem St.of_row (ls : List (List Value)) (h : St g L w) (hb : Below w.heap.size w w') (hr : w'.ownsRow w.heap.size e size v n xs) (hls : ls.flatten = xs) (hn : ls.length = n) (hok : OkE size ls) :
    ∃ a c, v = .slice a ls.length c ∧ St g (Own e size ls a c :: L) w' := by
  subst hn; subst hls
  have h0 : St g (pur True :: L) w := h.add fun _ _ => trivial
  obtain ⟨b1, b2, b3, b4, b5⟩ := hb
  obtain ⟨_, ⟨rfl, hn⟩ | ⟨q, cap, cur, rfl, hq, hcur, h1, h2, h3, h4⟩⟩ := hr
  · have hz : ls = [] := List.length_eq_zero_iff.1 hn
    subst hz
    refine ⟨none, 0, rfl, h0.upd b1 b2 b3 b4 fun o1 r _ _ _ _ => ⟨fun _ => none, ⟨OkE.nil _, .inl ⟨rfl, rfl, rfl⟩⟩, fun _ _ h => (by cases h), fun k hk => absurd rfl hk, fun k hk _ => b5 k hk⟩⟩
  · refine ⟨some ⟨q, 0, none⟩, cap, rfl, h0.upd b1 b2 b3 b4 fun o1 r _ _ _ _ => ⟨fun k => if k = q then some (.cells cur e (0, 0)) else none, ⟨hok, .inr ⟨q, cur, rfl, by simp, h1, h2, h3, h4⟩⟩, fun k x hx => ?_, fun k hk => ?_, fun k hk _ => b5 k hk⟩⟩
    · simp only at hx
      split at hx
      · rename_i hk; subst hk; simp only [Option.some.injEq] at hx; subst hx; exact hcur
      · cases hx
    · simp only [ne_eq, ite_eq_right_iff, reduceCtorEq, imp_false, Classical.not_not] at hk
      exact .inr (by omega)
theorem St.under (h : St g L w) (hb : Below w.heap.size w w') : St g L w' := by
  have h0 : St g (pur True :: L) w := h.add fun _ _ => trivial
  obtain ⟨b1, b2, b3, b4, b5⟩ := hb
  refine (h0.upd (B := pur True) b1 b2 b3 b4 fun o1 r _ _ _ _ => ⟨fun _ => none, trivial, fun _ _ h => (by cases h), fun k hk => absurd rfl hk, fun k hk _ => b5 k hk⟩).tail
end
section
variable {g w : World} {L : List HP} {e c : Nat} {ls : List Int} {b : Nat}
theorem i64s_flat (l : List Int) : (i64s l).flatten = l.map (Value.int .i64) := by
  induction l with
  | nil => rfl
  | cons x l ih => simp only [i64s, List.map_cons, List.flatten_cons, List.singleton_append] at ih ⊢; rw [ih]
theorem St.holdsI (h : St g L w) (i : Nat) (hi : L[i]? = some (Own e 1 (i64s ls) (some ⟨b, 0, none⟩) c)) : Holds (Value.int .i64) w b 0 ls.toArray ∧ b < w.heap.size ∧ ls.length ≤ c := by
  obtain ⟨o1, r, ⟨h1, h2⟩, ho, hr⟩ := h.get i hi
  rcases h2 with ⟨h3, _, _⟩ | ⟨b', cur, h3, q2, q3, q4, q5, q6⟩
  · cases h3
  · cases h3
    have hb := ho _ _ q2
    refine ⟨holds_of_blockI hb (by rw [i64s_len, Nat.mul_one, i64s_flat] at q6; exact q6), (Array.getElem?_eq_some_iff.1 hb).1, by simpa using q3⟩
theorem St.putI (h : St g (Own e 1 (i64s ls) (some ⟨b, 0, none⟩) c :: L) w) (ts : List Int) (hl : ts.length = ls.length) (n : Nat) (os : Array Obj) :
    St g (Own e 1 (i64s ts) (some ⟨b, 0, none⟩) c :: L) (grow (putRow (Value.int .i64) (Sort.ahead w n) b 0 ts.toArray) os) := by
  have hg := grownBy_sortedI (w := w) (g := b) (n := n) (os := os) ts.toArray
  refine h.upd hg.os hg.tape hg.output hg.size fun o1 r hA hw _ _ => ?_
  obtain ⟨h1, h2⟩ := hA
  rcases h2 with ⟨h3, _, _⟩ | ⟨b', cur, h3, q2, q3, q4, q5, q6⟩
  · cases h3
  · cases h3
    have hb := hw _ _ q2
    rw [i64s_len] at q3 q6
    refine ⟨fun k => if k = b then some (.cells (putCells (Value.int .i64) 0 ts.toArray cur) e (0, 0)) else none, ⟨i64s_ok _, .inr ⟨b, _, rfl, if_pos rfl, by rw [i64s_len, hl]; exact q3, q4, by simp [putCells, q5], ?_⟩⟩, fun k x hx => ?_, fun k hk => ?_, fun k hk hn => ?_⟩
    · rw [i64s_len, Nat.mul_one, i64s_flat]
      exact take_putCellsI cur ts (by rw [hl, q5, Nat.mul_one]; exact q3)
    · simp only at hx
      split at hx
      · rename_i hk; subst hk; simp only [Option.some.injEq] at hx; subst hx; exact heap_sortedI _ hb
      · cases hx
    · simp only [ne_eq, ite_eq_right_iff, reduceCtorEq, imp_false, Classical.not_not] at hk
      subst hk; exact .inl (by rw [q2]; simp)
    · refine hg.block k hk fun he => ?_
      simp only [Option.some.injEq] at he; subst he
      rw [q2] at hn; cases hn
theorem St.ownTake {a : Option Addr} {size : Nat} {ks : List (List Value)} (h : St g (Own e size ks a c :: L) w) (k : Nat) : St g (Own e size (ks.take k) a c :: L) w := by
  refine h.impl fun o r ⟨h1, h2⟩ => ⟨fun x hx => h1 x (List.mem_of_mem_take hx), ?_⟩
  rcases h2 with ⟨q1, q2, rfl⟩ | ⟨b, cur, q1, q2, q3, q4, q5, q6⟩
  · exact .inl ⟨q1, q2, by simp⟩
  · refine .inr ⟨b, cur, q1, q2, Nat.le_trans (by rw [List.length_take]; omega) q3, q4, q5, ?_⟩
    have h4 : ∀ x ∈ ks.take k, x.length = size := fun x hx => h1.len x (List.mem_of_mem_take hx)
    have h5 := flat_len (ks.take k) size h4
    have h6 : (ks.take k).flatten = ks.flatten.take ((ks.take k).length * size) := by
      have h7 : ks.flatten = (ks.take k).flatten ++ (ks.drop k).flatten := by rw [← List.flatten_append, List.take_append_drop]
      rw [h7, List.take_left' h5]
    rw [h6, ← q6, List.take_take]
    congr 1
    have : (ks.take k).length ≤ ks.length := by rw [List.length_take]; omega
    exact (Nat.min_eq_left (Nat.mul_le_mul_right _ this)).symm
theorem St.addrI {a : Option Addr} (h : St g L w) (i : Nat) (hi : L[i]? = some (Own e 1 (i64s ls) a c)) (hne : ls ≠ []) : ∃ b, a = some ⟨b, 0, none⟩ := by
  obtain ⟨o1, r, ⟨h1, h2⟩, ho, hr⟩ := h.get i hi
  rcases h2 with ⟨_, _, h3⟩ | ⟨b', cur, h3, _⟩
  · simp [i64s] at h3; exact absurd h3 hne
  · exact ⟨b', h3⟩
end
theorem compact_len (l : List Int) : (Go.Lib.compact l).length ≤ l.length := by
  unfold Go.Lib.compact Go.Lib.compactUpTo
  rw [List.length_map]
  exact Nat.le_trans (List.length_filter_le _ _) (by simp)
theorem sort_eqI {ys ss : List Int} (hp : ss.Perm ys) (hs : ss.Pairwise (· ≤ ·)) : ys.mergeSort (fun x y => decide (x ≤ y)) = ss := by
  have h1 := mergeSort_of_perm_i hp
  show ys.mergeSort leI = _
  rw [← h1]
  exact List.mergeSort_of_pairwise (le := leI) (hs.imp fun h => decide_eq_true h)
end Go.V
namespace Go.V
open Go Go.RowKit Go.Maps
structure VN where
  n : Int
  live : Bool
  ab : List Int
  a : Option Addr
  c : Nat
  born : Nat
def vV (x : VN) : Value := .agg #[.bool x.live, .slice x.a (i64s x.ab).length x.c]
def vK (x : VN) : Value × Value × Nat := (.int .i64 x.n, vV x, x.born)
def vF (x : VN) : List HP := [Sh 3 1 (i64s x.ab) x.a x.c]
theorem vF_sh (x : VN) : ∀ A ∈ vF x, Sht A := fun A hA => by
  simp only [vF, List.mem_singleton] at hA; subst hA; exact Sht.sh
def VUq (xs : List VN) : Prop := xs.Pairwise fun x y => x.n ≠ y.n
theorem v_key (xs : List VN) : ∀ x ∈ xs.map vK, MapKept.IsKey (.int .i64) x.1 := fun x hx => by
  obtain ⟨y, _, rfl⟩ := List.mem_map.1 hx
  rfl
theorem v_in {xs : List VN} {k : Nat} {x : VN} (hx : xs[k]? = some x) (hu : VUq xs) : mfind (.int .i64) (.int .i64 x.n) (xs.map vK) = some (some (k, vV x)) := by
  refine mfind_some (d := .int .i64) (k := .int .i64 x.n) (b := x.born) rfl (v_key xs) (by rw [List.getElem?_map, hx]; rfl) fun j hj y hy => ?_
  rw [List.getElem?_map] at hy
  cases hz : xs[j]? with
  | none => rw [hz] at hy; cases hy
  | some u =>
    rw [hz] at hy
    simp only [Option.map_some, Option.some.injEq] at hy
    subst hy
    intro he
    have he2 : u.n = x.n := (Value.int.inj he).2
    have hl := (List.getElem?_eq_some_iff.1 hz).1
    have hl2 := (List.getElem?_eq_some_iff.1 hx).1
    refine List.pairwise_iff_getElem.1 hu j k hl hl2 hj ?_
    rw [(List.getElem?_eq_some_iff.1 hz).2, (List.getElem?_eq_some_iff.1 hx).2, he2]
theorem v_out {xs : List VN} {n : Int} (h : ∀ x ∈ xs, x.n ≠ n) : mfind (.int .i64) (.int .i64 n) (xs.map vK) = some none := by
  refine mfind_none (d := .int .i64) (k := .int .i64 n) rfl (v_key xs) fun x hx => ?_
  obtain ⟨y, hy, rfl⟩ := List.mem_map.1 hx
  intro he
  exact h y hy (Value.int.inj he).2
theorem v_cases (xs : List VN) (n : Int) : (∃ (k : Nat) (x : VN), xs[k]? = some x ∧ x.n = n) ∨ ∀ x ∈ xs, x.n ≠ n := by
  by_cases h : ∃ x ∈ xs, x.n = n
  · obtain ⟨x, hx, hn⟩ := h
    obtain ⟨k, hk⟩ := List.mem_iff_getElem?.1 hx
    exact .inl ⟨k, x, hk, hn⟩
  · exact .inr fun x hx hn => h ⟨x, hx, hn⟩
theorem VUq.one {R : List VN} (h : VUq R) {i j : Nat} {x y : VN} (hi : R[i]? = some x) (hj : R[j]? = some y) (he : x.n = y.n) : i = j := by
  have h1 := (List.getElem?_eq_some_iff.1 hi).1
  have h2 := (List.getElem?_eq_some_iff.1 hj).1
  have e1 : R[i] = x := (List.getElem?_eq_some_iff.1 hi).2
  have e2 : R[j] = y := (List.getElem?_eq_some_iff.1 hj).2
  rcases Nat.lt_trichotomy i j with hl | hl | hl
  · exact absurd (by rw [e1, e2]; exact he) (List.pairwise_iff_getElem.1 h i j h1 h2 hl)
  · exact hl
  · exact absurd (by rw [e1, e2]; exact he.symm) (List.pairwise_iff_getElem.1 h j i h2 h1 hl)
def vfind (xs : List VN) (n : Int) : Option VN := xs.find? fun x => decide (x.n = n)
def liveG (xs : List VN) (n : Int) : Bool := ((vfind xs n).map (·.live)).getD false
def preG (xs : List VN) (n : Int) : Bool := (vfind xs n).isSome
def abG (xs : List VN) (n : Int) : List Int := ((vfind xs n).map (·.ab)).getD []
theorem vfind_in {xs : List VN} {k : Nat} {x : VN} (hx : xs[k]? = some x) (hu : VUq xs) : vfind xs x.n = some x := by
  cases hf : vfind xs x.n with
  | none =>
    have := List.find?_eq_none.1 hf x (List.mem_of_getElem? hx)
    exact absurd (decide_eq_true rfl) this
  | some y =>
    have hn : y.n = x.n := of_decide_eq_true (List.find?_some (p := fun q : VN => decide (q.n = x.n)) hf)
    obtain ⟨j, hj⟩ := List.mem_iff_getElem?.1 (List.mem_of_find?_eq_some hf)
    have := hu.one hj hx hn
    subst this
    rw [hj] at hx; exact hx
theorem vfind_out {xs : List VN} {n : Int} (h : ∀ x ∈ xs, x.n ≠ n) : vfind xs n = none := by
  refine List.find?_eq_none.2 fun x hx he => h x hx (of_decide_eq_true he)
theorem vfind_some {xs : List VN} {n : Int} {x : VN} (h : vfind xs n = some x) : x ∈ xs ∧ x.n = n := ⟨List.mem_of_find?_eq_some h, of_decide_eq_true (List.find?_some (p := fun q : VN => decide (q.n = n)) h)⟩
theorem vfind_none {xs : List VN} {n : Int} : vfind xs n = none ↔ ∀ x ∈ xs, x.n ≠ n := ⟨fun h x hx e => List.find?_eq_none.1 h x hx (decide_eq_true e), vfind_out⟩
theorem vfind_mem {xs : List VN} {x : VN} (hx : x ∈ xs) (hu : VUq xs) : vfind xs x.n = some x := by
  obtain ⟨k, hk⟩ := List.mem_iff_getElem?.1 hx
  exact vfind_in hk hu
theorem g_in {xs : List VN} {n : Int} {x : VN} (h : vfind xs n = some x) : liveG xs n = x.live ∧ preG xs n = true ∧ abG xs n = x.ab := by simp [liveG, preG, abG, h]
theorem g_out {xs : List VN} {n : Int} (h : vfind xs n = none) : liveG xs n = false ∧ preG xs n = false ∧ abG xs n = [] := by simp [liveG, preG, abG, h]
theorem live_pre {xs : List VN} {n : Int} (h : liveG xs n = true) : preG xs n = true := by
  unfold liveG at h; unfold preG
  cases hf : vfind xs n with
  | none => rw [hf] at h; cases h
  | some x => rfl
theorem pre_iff {xs : List VN} {n : Int} : preG xs n = true ↔ ∃ x ∈ xs, x.n = n := by
  unfold preG
  cases hf : vfind xs n with
  | none => exact ⟨fun h => (by cases h), fun ⟨x, hx, hn⟩ => absurd hn (vfind_none.1 hf x hx)⟩
  | some x => exact ⟨fun _ => ⟨x, vfind_some hf⟩, fun _ => rfl⟩
def bK (x : Int × Nat) : Value × Value × Nat := (.int .i64 x.1, .bool true, x.2)
def BUq (xs : List (Int × Nat)) : Prop := xs.Pairwise fun x y => x.1 ≠ y.1
theorem b_key (xs : List (Int × Nat)) : ∀ x ∈ xs.map bK, MapKept.IsKey (.int .i64) x.1 := fun x hx => by
  obtain ⟨y, _, rfl⟩ := List.mem_map.1 hx
  rfl
theorem b_out {xs : List (Int × Nat)} {n : Int} (h : ∀ x ∈ xs, x.1 ≠ n) : mfind (.int .i64) (.int .i64 n) (xs.map bK) = some none := by
  refine mfind_none (d := .int .i64) (k := .int .i64 n) rfl (b_key xs) fun x hx => ?_
  obtain ⟨y, hy, rfl⟩ := List.mem_map.1 hx
  intro he
  exact h y hy (Value.int.inj he).2
theorem b_in {xs : List (Int × Nat)} {k : Nat} {x : Int × Nat} (hx : xs[k]? = some x) (hu : BUq xs) : mfind (.int .i64) (.int .i64 x.1) (xs.map bK) = some (some (k, .bool true)) := by
  refine mfind_some (d := .int .i64) (k := .int .i64 x.1) (b := x.2) rfl (b_key xs) (by rw [List.getElem?_map, hx]; rfl) fun j hj y hy => ?_
  rw [List.getElem?_map] at hy
  cases hz : xs[j]? with
  | none => rw [hz] at hy; cases hy
  | some u =>
    rw [hz] at hy
    simp only [Option.map_some, Option.some.injEq] at hy
    subst hy
    intro he
    have he2 : u.1 = x.1 := (Value.int.inj he).2
    have hl := (List.getElem?_eq_some_iff.1 hz).1
    have hl2 := (List.getElem?_eq_some_iff.1 hx).1
    refine List.pairwise_iff_getElem.1 hu j k hl hl2 hj ?_
    rw [(List.getElem?_eq_some_iff.1 hz).2, (List.getElem?_eq_some_iff.1 hx).2, he2]
theorem b_cases (xs : List (Int × Nat)) (n : Int) : (∃ (k : Nat) (x : Int × Nat), xs[k]? = some x ∧ x.1 = n) ∨ ∀ x ∈ xs, x.1 ≠ n := by
  by_cases h : ∃ x ∈ xs, x.1 = n
  · obtain ⟨x, hx, hn⟩ := h
    obtain ⟨k, hk⟩ := List.mem_iff_getElem?.1 hx
    exact .inl ⟨k, x, hk, hn⟩
  · exact .inr fun x hx hn => h ⟨x, hx, hn⟩
structure VOk (xs : List VN) (q : Nat) : Prop where
  uniq : VUq xs
  born : ∀ x ∈ xs, x.born < q
  bnd : (xs.map (·.born)).Nodup
  rng : ∀ x ∈ xs, 1 ≤ x.n ∧ x.n ≤ 1000000000
  num : xs.length ≤ 4096
section
variable {P : Program} {k : TypeId}
def noRdI (_ : Value) : Option (DataW Unit × List MemPlace) := some (.nil, [])
theorem int_keys (xs : List VN) (q : Nat) (h : VOk xs q) (hk : P.underlying k = some (.int .i64)) {w : World} {b : Nat} (hb : w.heap[b]? = some (.map (mE (xs.map vK)) q)) :
    ∃ D : DataW Unit, w.ownsMap P k noRdI b 4096 D ∧ Maps.size D = xs.length ∧ (intKeys D).Perm (xs.map (·.n)) := by
  have hrd : ∀ x : VN, x ∈ xs → Go.WideElems.rd P k noRdI ⟨.int .i64 x.n, vV x, x.born⟩ = some (.int .i64 x.n, .nil) := fun x hx => by
    have h1 := h.rng x hx
    have h2 : (Lit.int .i64 x.n).wf = true := by
      have e1 : IntKind.i64.min = -9223372036854775808 := by decide
      have e2 : IntKind.i64.max = 9223372036854775807 := by decide
      simp only [Lit.wf, e1, e2, Bool.and_eq_true, decide_eq_true_eq]
      omega
    have h3 : keyOf P k (.int .i64 x.n) = some (.int .i64 x.n) := by simp [keyOf, hk, mapKey, h2]
    simp [Go.WideElems.rd, h3, noRdI]
  have hF : Go.WideElems.Fit P k noRdI (mE (xs.map vK)) q := by
    refine ⟨by rw [mE_size, List.length_map]; exact Nat.le_trans h.num (by decide), ⟨?_, ?_, ?_⟩, ?_⟩
    · intro x hx
      simp only [mE_toList, List.map_map, List.mem_map] at hx
      obtain ⟨y, hy, rfl⟩ := hx
      exact h.born y hy
    · rw [mE_toList, List.map_map, List.map_map]
      exact h.bnd
    · rw [mE_toList, List.map_map, List.map_map]
      refine List.pairwise_map.2 (h.uniq.imp fun {a b} hne he => hne ?_)
      exact (Value.int.inj he).2
    · intro x hx
      simp only [mE_toList, List.map_map, List.mem_map] at hx
      obtain ⟨y, hy, rfl⟩ := hx
      exact ⟨_, hrd y hy⟩
  refine ⟨_, ⟨_, _, hb, hF, by rw [mE_size, List.length_map]; exact h.num, rfl⟩, ?_, ?_⟩
  · rw [Maps.size_eq, (WideShapes.sorted_perm _).length_eq]; simp
  · refine ((WideShapes.sorted_perm _).map _).trans ?_
    rw [mE_toList, List.map_map, List.map_map, List.map_map]
    refine List.Perm.of_eq (List.map_congr_left fun x hx => ?_)
    simp only [Function.comp_def, vK, Go.WideElems.rg, hrd x hx, Option.getD_some, intOf]
end
end Go.V
namespace Go.V
open Go Go.RowKit
def Asc (l : List Int) : Prop := l.Pairwise fun a b => a < b
def gcm (l m : List Int) : Int := ((l.filter fun z => decide (z ∈ m)).getLast?).getD 0
theorem Asc.nodup {l : List Int} (h : Asc l) : l.Nodup := h.imp fun h => by omega
theorem Asc.last {l : List Int} (h : Asc l) {u : Int} (hu : u ∈ l) (hm : ∀ z ∈ l, z ≤ u) : l.getLast? = some u := by
  induction l with
  | nil => cases hu
  | cons x t ih =>
    have hp := List.pairwise_cons.1 h
    cases t with
    | nil => simp at hu; subst hu; rfl
    | cons y t =>
      rw [List.getLast?_cons_cons]
      refine ih hp.2 ?_ fun z hz => hm z (List.mem_cons_of_mem _ hz)
      rcases List.mem_cons.1 hu with rfl | hu
      · have h1 := hp.1 y (List.mem_cons_self ..)
        have h2 := hm y (List.mem_cons_of_mem _ (List.mem_cons_self ..))
        omega
      · exact hu
theorem gcm_is {l m : List Int} (h : Asc l) {u : Int} (h1 : u ∈ l) (h2 : u ∈ m) (hm : ∀ z ∈ l, z ∈ m → z ≤ u) : gcm l m = u := by
  unfold gcm
  have h3 : Asc (l.filter fun z => decide (z ∈ m)) := h.sublist List.filter_sublist
  rw [h3.last (List.mem_filter.2 ⟨h1, decide_eq_true h2⟩) fun z hz => hm z (List.mem_filter.1 hz).1 (of_decide_eq_true (List.mem_filter.1 hz).2)]
  rfl
theorem gcm_no {l m : List Int} (h : ∀ z ∈ l, z ∉ m) : gcm l m = 0 := by
  unfold gcm
  rw [List.filter_eq_nil_iff.2 fun z hz hd => h z hz (of_decide_eq_true hd)]
  rfl
theorem Asc.max_ex {l : List Int} (h : Asc l) (hne : l ≠ []) : ∃ u ∈ l, ∀ z ∈ l, z ≤ u := by
  refine ⟨l.getLast hne, List.getLast_mem hne, fun z hz => ?_⟩
  induction l with
  | nil => exact absurd rfl hne
  | cons x t ih =>
    have hp := List.pairwise_cons.1 h
    cases t with
    | nil => simp at hz; subst hz; exact Int.le_refl _
    | cons y t =>
      rw [List.getLast_cons (by simp)]
      rcases List.mem_cons.1 hz with rfl | hz
      · have h1 := hp.1 _ (List.getLast_mem (l := y :: t) (by simp)); omega
      · exact ih hp.2 (by simp) hz
theorem gcm_cases {l m : List Int} (h : Asc l) : (gcm l m = 0 ∧ ∀ z ∈ l, z ∉ m) ∨ (gcm l m ∈ l ∧ gcm l m ∈ m ∧ ∀ z ∈ l, z ∈ m → z ≤ gcm l m) := by
  by_cases hne : (l.filter fun z => decide (z ∈ m)) = []
  · have h1 : ∀ z ∈ l, z ∉ m := fun z hz hzm => List.filter_eq_nil_iff.1 hne z hz (decide_eq_true hzm)
    exact .inl ⟨gcm_no h1, h1⟩
  · obtain ⟨u, hu, hm⟩ := (show Asc _ from h.sublist List.filter_sublist).max_ex hne
    have h1 := (List.mem_filter.1 hu).1
    have h2 : u ∈ m := of_decide_eq_true (List.mem_filter.1 hu).2
    have h3 : ∀ z ∈ l, z ∈ m → z ≤ u := fun z hz hzm => hm z (List.mem_filter.2 ⟨hz, decide_eq_true hzm⟩)
    rw [gcm_is h h1 h2 h3]
    exact .inr ⟨h1, h2, h3⟩
theorem gcm_comm {l m : List Int} (hl : Asc l) (hm : Asc m) : gcm l m = gcm m l := by
  rcases gcm_cases (l := l) (m := m) hl with ⟨h1, h2⟩ | ⟨h1, h2, h3⟩
  · rw [h1, gcm_no fun z hz hzl => h2 z hzl hz]
  · exact (gcm_is hm h2 h1 fun z hz hzl => h3 z hzl hz).symm
theorem take_le {l : List Int} (h : Asc l) {k : Nat} {u : Int} (hu : l[k]? = some u) {z : Int} (hz : z ∈ l.take (k + 1)) : z ≤ u := by
  rw [List.take_add_one, hu] at hz
  rcases List.mem_append.1 hz with hz | hz
  · obtain ⟨i, hi⟩ := List.mem_iff_getElem?.1 hz
    rw [List.getElem?_take] at hi
    split at hi
    · rename_i hlt
      have h1 := (List.getElem?_eq_some_iff.1 hi).1
      have h2 := (List.getElem?_eq_some_iff.1 hu).1
      have h3 := List.pairwise_iff_getElem.1 h i k h1 h2 hlt
      rw [(List.getElem?_eq_some_iff.1 hi).2, (List.getElem?_eq_some_iff.1 hu).2] at h3
      omega
    · cases hi
  · simp at hz; omega
theorem take_drop1 {l : List Int} {k : Nat} {u z : Int} (hu : l[k]? = some u) (hz : z ∈ l.take (k + 1)) (hne : z ≠ u) : z ∈ l.take k := by
  rw [List.take_add_one, hu] at hz
  rcases List.mem_append.1 hz with hz | hz
  · exact hz
  · simp at hz; exact absurd hz hne
def baseG (xs : List VN) (x y : Int) : Int := if liveG xs x = true ∧ liveG xs y = true then gcm (abG xs x) (abG xs y) else 0
structure GOk (xs : List VN) (q : Nat) : Prop extends VOk xs q where
  asc : ∀ x ∈ xs, Asc x.ab
  self : ∀ x ∈ xs, x.n ∈ x.ab
  le : ∀ x ∈ xs, ∀ z ∈ x.ab, z ≤ x.n
  pre : ∀ x ∈ xs, ∀ z ∈ x.ab, preG xs z = true
  tr : ∀ x ∈ xs, ∀ z ∈ x.ab, ∀ u ∈ abG xs z, u ∈ x.ab
theorem nd_le : ∀ {l m : List Int}, l.Nodup → (∀ z ∈ l, z ∈ m) → l.length ≤ m.length
  | [], _, _, _ => Nat.zero_le _
  | x :: t, m, h, hs => by
    have hp := List.nodup_cons.1 h
    have h1 := List.perm_cons_erase (hs x (List.mem_cons_self ..))
    have h2 : t.length ≤ (m.erase x).length := nd_le hp.2 fun z hz => by
      have h3 := h1.mem_iff.1 (hs z (List.mem_cons_of_mem _ hz))
      rcases List.mem_cons.1 h3 with rfl | h3
      · exact absurd hz hp.1
      · exact h3
    have h4 := h1.length_eq
    simp only [List.length_cons] at h4 ⊢
    omega
theorem GOk.len {xs : List VN} {q : Nat} (h : GOk xs q) {x : VN} (hx : x ∈ xs) : x.ab.length ≤ xs.length := by
  have h1 : x.ab.length ≤ (xs.map VN.n).length := by
    refine nd_le (h.asc x hx).nodup fun z hz => ?_
    obtain ⟨y, hy, hn⟩ := pre_iff.1 (h.pre x hx z hz)
    exact List.mem_map.2 ⟨y, hy, hn⟩
  simpa using h1
theorem GOk.lenA {xs : List VN} {q : Nat} (h : GOk xs q) (n : Int) : (abG xs n).length ≤ 4096 := by
  cases hf : vfind xs n with
  | none => rw [(g_out hf).2.2]; exact Nat.zero_le _
  | some x => rw [(g_in hf).2.2]; exact Nat.le_trans (h.len (vfind_some hf).1) h.num
theorem GOk.ascA {xs : List VN} {q : Nat} (h : GOk xs q) (n : Int) : Asc (abG xs n) := by
  cases hf : vfind xs n with
  | none => rw [(g_out hf).2.2]; exact List.Pairwise.nil
  | some x => rw [(g_in hf).2.2]; exact h.asc x (vfind_some hf).1
theorem GOk.nil : GOk [] 0 := ⟨⟨List.Pairwise.nil, fun _ h => (by cases h), List.nodup_nil, fun _ h => (by cases h), by simp⟩, fun _ h => (by cases h), fun _ h => (by cases h), fun _ h => (by cases h), fun _ h => (by cases h), fun _ h => (by cases h)⟩
end Go.V
namespace Go.V
open Go Go.RowKit
def srtI (l : List Int) : List Int := l.mergeSort fun x y => decide (x ≤ y)
theorem srtI_perm (l : List Int) : (srtI l).Perm l := List.mergeSort_perm _ _
theorem srtI_le (l : List Int) : (srtI l).Pairwise (· ≤ ·) := by
  have h := List.pairwise_mergeSort (le := fun x y : Int => decide (x ≤ y)) (fun a b c h1 h2 => by
    simp only [decide_eq_true_eq] at h1 h2 ⊢; omega) (fun a b => by
    simp only [Bool.or_eq_true, decide_eq_true_eq]; omega) l
  exact h.imp fun h => of_decide_eq_true h
theorem comp_inv {d : Array Int} (hs : d.toList.Pairwise (· ≤ ·)) : ∀ m, m ≤ d.size → Asc (Go.Lib.compactUpTo d m) ∧ (∀ z, z ∈ Go.Lib.compactUpTo d m ↔ ∃ j, j < m ∧ d[j]! = z)
  | 0, _ => ⟨List.Pairwise.nil, fun z => ⟨fun h => by simp [Go.Lib.compactUpTo] at h, fun ⟨j, hj, _⟩ => by omega⟩⟩
  | m + 1, hm => by
    obtain ⟨h1, h2⟩ := comp_inv hs m (by omega)
    rw [Go.Lib.compactUpTo_succ]
    have hle : ∀ i j, i < j → j < d.size → d[i]! ≤ d[j]! := fun i j hij hj => by
      have := List.pairwise_iff_getElem.1 hs i j (by simpa using (by omega : i < d.size)) (by simpa using hj) hij
      rw [getElem!_pos d i (by omega), getElem!_pos d j hj]
      simpa using this
    by_cases hk : Go.Lib.keeps d m = true
    · rw [if_pos hk]
      refine ⟨List.pairwise_append.2 ⟨h1, List.pairwise_singleton _ _, fun a ha b hb => ?_⟩, fun z => ?_⟩
      · simp only [List.mem_singleton] at hb; subst hb
        obtain ⟨j, hj, rfl⟩ := (h2 a).1 ha
        have hm0 : m ≠ 0 := by omega
        have hne : d[m]! ≠ d[m - 1]! := by
          have := of_decide_eq_true hk
          exact this.resolve_left hm0
        have e1 := hle (m - 1) m (by omega) (by omega)
        have e2 : d[j]! ≤ d[m - 1]! := by
          by_cases hj2 : j = m - 1
          · rw [hj2]; exact Int.le_refl _
          · exact hle j (m - 1) (by omega) (by omega)
        omega
      · rw [List.mem_append, List.mem_singleton, h2]
        constructor
        · rintro (⟨j, hj, he⟩ | rfl)
          · exact ⟨j, by omega, he⟩
          · exact ⟨m, by omega, rfl⟩
        · rintro ⟨j, hj, he⟩
          by_cases hjm : j = m
          · subst hjm; exact .inr he.symm
          · exact .inl ⟨j, by omega, he⟩
    · rw [if_neg hk, List.append_nil]
      refine ⟨h1, fun z => ?_⟩
      rw [h2]
      constructor
      · rintro ⟨j, hj, he⟩; exact ⟨j, by omega, he⟩
      · rintro ⟨j, hj, he⟩
        by_cases hjm : j = m
        · subst hjm
          have hk2 : ¬ (j = 0 ∨ d[j]! ≠ d[j - 1]!) := fun h => hk (decide_eq_true h)
          have hj0 : j ≠ 0 := fun h => hk2 (.inl h)
          have hj1 : d[j]! = d[j - 1]! := Classical.not_not.1 fun h => hk2 (.inr h)
          exact ⟨j - 1, by omega, by rw [← hj1]; exact he⟩
        · exact ⟨j, by omega, he⟩
theorem comp_asc {l : List Int} (hs : l.Pairwise (· ≤ ·)) : Asc (Go.Lib.compact l) := (comp_inv (d := l.toArray) (by simpa using hs) l.length (by simp)).1
theorem comp_mem {l : List Int} (hs : l.Pairwise (· ≤ ·)) (z : Int) : z ∈ Go.Lib.compact l ↔ z ∈ l := by
  rw [show (z ∈ Go.Lib.compact l) = (z ∈ Go.Lib.compactUpTo l.toArray l.length) from rfl, (comp_inv (d := l.toArray) (by simpa using hs) l.length (by simp)).2 z, List.mem_iff_getElem]
  constructor
  · rintro ⟨j, hj, he⟩
    exact ⟨j, hj, by rw [← he, getElem!_pos l.toArray j (by simpa using hj)]; simp⟩
  · rintro ⟨j, hj, he⟩
    exact ⟨j, hj, by rw [getElem!_pos l.toArray j (by simpa using hj)]; simpa using he⟩
def absr (l : List Int) : List Int := Go.Lib.compact (srtI l)
theorem absr_asc (l : List Int) : Asc (absr l) := comp_asc (srtI_le l)
theorem absr_mem (l : List Int) (z : Int) : z ∈ absr l ↔ z ∈ l := by
  unfold absr
  rw [comp_mem (srtI_le l), (srtI_perm l).mem_iff]
theorem St.shsSub {α : Type} {f : α → List HP} {zs zs' : List α} {g w : World} {L : List HP} (h : St g (Shs f zs :: L) w) (hs : ∀ z ∈ zs', z ∈ zs) : St g (Shs f zs' :: L) w := h.impl fun _ _ hh z hz => hh z (hs z hz)
theorem snoc_mem {α : Type} {xs : List α} {v z : α} (h : z ∈ xs ++ [v]) : z ∈ v :: xs := by
  rcases List.mem_append.1 h with h | h
  · exact List.mem_cons_of_mem _ h
  · rw [List.mem_singleton.1 h]; exact List.mem_cons_self ..
def newAb (xs : List VN) (n : Int) (ps : List Int) : List Int := [n] ++ ps.flatMap (abG xs)
theorem newAb_snoc {xs : List VN} {n p : Int} {ps : List Int} {k : Nat} (h : ps[k]? = some p) : newAb xs n (ps.take k) ++ abG xs p = newAb xs n (ps.take (k + 1)) := by
  unfold newAb
  rw [List.take_add_one, h, List.flatMap_append, List.append_assoc]
  simp
theorem live_ix {xs : List VN} {n : Int} (h : liveG xs n = true) : ∃ (k : Nat) (x : VN), xs[k]? = some x ∧ x.n = n ∧ x.live = true ∧ abG xs n = x.ab := by
  cases hf : vfind xs n with
  | none => rw [(g_out hf).1] at h; cases h
  | some x =>
    obtain ⟨h1, h2⟩ := vfind_some hf
    obtain ⟨k, hk⟩ := List.mem_iff_getElem?.1 h1
    obtain ⟨h3, _, h4⟩ := g_in hf
    exact ⟨k, x, hk, h2, h3 ▸ h, h4⟩
theorem vfind_app {xs : List VN} {v : VN} (hn : ∀ x ∈ xs, x.n ≠ v.n) (n : Int) : vfind (xs ++ [v]) n = if n = v.n then some v else vfind xs n := by
  unfold vfind
  rw [List.find?_append]
  by_cases h : n = v.n
  · subst h
    rw [if_pos rfl, show xs.find? (fun x => decide (x.n = v.n)) = none from vfind_out hn]
    simp
  · rw [if_neg h]
    cases hf : xs.find? (fun x => decide (x.n = n)) with
    | some x => rfl
    | none =>
      simp only [Option.none_or, List.find?_cons, List.find?_nil]
      rw [decide_eq_false (fun e => h e.symm)]
theorem GOk.add {xs : List VN} {q : Nat} (h : GOk xs q) {v : VN} {ps : List Int} (hn : ∀ x ∈ xs, x.n < v.n) (hr : 1 ≤ v.n ∧ v.n ≤ 1000000000) (hb : v.born = q) (hl : xs.length < 4096)
    (ha : Asc v.ab) (hm : ∀ z, z ∈ v.ab ↔ z ∈ newAb xs v.n ps) : GOk (xs ++ [v]) (q + 1) := by
  have hne : ∀ x ∈ xs, x.n ≠ v.n := fun x hx e => by have := hn x hx; omega
  have hf := vfind_app hne
  have hold : ∀ z ∈ ps.flatMap (abG xs), ∃ x ∈ xs, z ∈ x.ab := fun z hz => by
    obtain ⟨p, _, hz⟩ := List.mem_flatMap.1 hz
    cases hp : vfind xs p with
    | none => rw [(g_out hp).2.2] at hz; cases hz
    | some x => rw [(g_in hp).2.2] at hz; exact ⟨x, (vfind_some hp).1, hz⟩
  have hm2 : ∀ z, z ∈ v.ab ↔ z = v.n ∨ z ∈ ps.flatMap (abG xs) := fun z => by rw [hm]; simp [newAb]
  have hpre : ∀ z, preG xs z = true → preG (xs ++ [v]) z = true := fun z hz => by
    obtain ⟨x, hx, e⟩ := pre_iff.1 hz
    exact pre_iff.2 ⟨x, List.mem_append_left _ hx, e⟩
  have hlt : ∀ z, preG xs z = true → z < v.n := fun z hz => by
    obtain ⟨x, hx, e⟩ := pre_iff.1 hz
    have := hn x hx; omega
  have hab : ∀ z, z ≠ v.n → abG (xs ++ [v]) z = abG xs z := fun z hz => by unfold abG; rw [hf, if_neg hz]
  refine ⟨⟨?_, fun x hx => ?_, ?_, fun x hx => ?_, by simp; omega⟩, fun x hx => ?_, fun x hx => ?_, fun x hx z hz => ?_, fun x hx z hz => ?_, fun x hx z hz u hu => ?_⟩
  · refine List.pairwise_append.2 ⟨h.uniq, List.pairwise_singleton _ _, fun a hax b hbx => ?_⟩
    simp only [List.mem_singleton] at hbx; subst hbx; exact hne a hax
  · rcases List.mem_append.1 hx with hx | hx
    · have := h.born x hx; omega
    · simp only [List.mem_singleton] at hx; subst hx; omega
  · rw [List.map_append, List.nodup_append]
    refine ⟨h.bnd, by simp, fun a ha b hb2 => ?_⟩
    obtain ⟨x, hx, rfl⟩ := List.mem_map.1 ha
    simp only [List.map_cons, List.map_nil, List.mem_singleton] at hb2
    have := h.born x hx; omega
  · rcases List.mem_append.1 hx with hx | hx
    · exact h.rng x hx
    · simp only [List.mem_singleton] at hx; subst hx; exact hr
  · rcases List.mem_append.1 hx with hx | hx
    · exact h.asc x hx
    · simp only [List.mem_singleton] at hx; subst hx; exact ha
  · rcases List.mem_append.1 hx with hx | hx
    · exact h.self x hx
    · simp only [List.mem_singleton] at hx; subst hx; exact (hm2 _).2 (.inl rfl)
  · rcases List.mem_append.1 hx with hx | hx
    · exact h.le x hx z hz
    · simp only [List.mem_singleton] at hx; subst hx
      rcases (hm2 z).1 hz with rfl | hz
      · exact Int.le_refl _
      · obtain ⟨y, hy, hzy⟩ := hold z hz
        have := h.le y hy z hzy
        have := hn y hy
        omega
  · rcases List.mem_append.1 hx with hx | hx
    · exact hpre z (h.pre x hx z hz)
    · simp only [List.mem_singleton] at hx; subst hx
      rcases (hm2 z).1 hz with rfl | hz
      · exact pre_iff.2 ⟨x, List.mem_append_right _ (List.mem_singleton.2 rfl), rfl⟩
      · obtain ⟨y, hy, hzy⟩ := hold z hz
        exact hpre z (h.pre y hy z hzy)
  · rcases List.mem_append.1 hx with hx | hx
    · have h1 := hlt z (h.pre x hx z hz)
      rw [hab z (by omega)] at hu
      exact h.tr x hx z hz u hu
    · simp only [List.mem_singleton] at hx; subst hx
      rcases (hm2 z).1 hz with rfl | hz
      · unfold abG at hu; rw [hf, if_pos rfl] at hu; exact hu
      · obtain ⟨p, hp, hzp⟩ := List.mem_flatMap.1 hz
        cases hfp : vfind xs p with
        | none => rw [(g_out hfp).2.2] at hzp; cases hzp
        | some y =>
          rw [(g_in hfp).2.2] at hzp
          have hy := (vfind_some hfp).1
          have h1 := hlt z (h.pre y hy z hzp)
          rw [hab z (by omega)] at hu
          refine (hm2 u).2 (.inr (List.mem_flatMap.2 ⟨p, hp, ?_⟩))
          rw [(g_in hfp).2.2]
          exact h.tr y hy z hzp u hu
end Go.V
namespace Go.V
open Go Go.RowKit
def inB (ns : List (Int × Nat)) (k : Int) : Bool := ns.any fun x => decide (x.1 = k)
theorem inB_iff {ns : List (Int × Nat)} {k : Int} : inB ns k = true ↔ ∃ x ∈ ns, x.1 = k := by
  unfold inB
  rw [List.any_eq_true]
  exact ⟨fun ⟨x, hx, h⟩ => ⟨x, hx, of_decide_eq_true h⟩, fun ⟨x, hx, h⟩ => ⟨x, hx, decide_eq_true h⟩⟩
theorem b_find {ns : List (Int × Nat)} (hu : BUq ns) (k : Int) : (∃ j : Nat, inB ns k = true ∧ (∃ b, ns[j]? = some (k, b)) ∧ mfind (.int .i64) (.int .i64 k) (ns.map bK) = some (some (j, .bool true))) ∨ (inB ns k = false ∧ (∀ x ∈ ns, x.1 ≠ k) ∧ mfind (.int .i64) (.int .i64 k) (ns.map bK) = some none) := by
  rcases b_cases ns k with ⟨j, x, hx, rfl⟩ | hn
  · exact .inl ⟨j, inB_iff.2 ⟨x, List.mem_of_getElem? hx, rfl⟩, ⟨x.2, hx⟩, b_in hx hu⟩
  · refine .inr ⟨?_, hn, b_out hn⟩
    cases h : inB ns k with
    | false => rfl
    | true => obtain ⟨x, hx, he⟩ := inB_iff.1 h; exact absurd he (hn x hx)
section
variable {P : Program} {T : Tab} [hT : TabOk P T] {n : Nat} {os l : List Oper} {K : Kt} {F : Fm} {w g : World} {L : List HP} {t kt et : TypeId} {b c : Nat}
theorem WL.lkB {o : Oper} {x y : Operand} {k : Int} {ns : List (Int × Nat)} (hg : o.guard = none) (ho : o.op = .lookup t x y false) (hM : MapT P t kt (.int .i64) et (.bool false)) (i : Nat) (hS : St g L w) (hi : L[i]? = some (blk b (.map (mE (ns.map bK)) c))) (hx : ev F x = .map (some b)) (hy : ev F y = .int .i64 k) (hu : BUq ns)
    (hk : WL P n os l K (updo F o.dst (.bool (inB ns k))) w) : WL P n os (o :: l) K F w := by
  rcases b_find hu k with ⟨j, h1, _, h3⟩ | ⟨h1, _, h3⟩
  · exact WL.lk hg ho hM i hS hi hx hy rfl h3 (v := .bool (inB ns k)) (by rw [h1]; rfl) hk
  · exact WL.lk hg ho hM i hS hi hx hy rfl h3 (v := .bool (inB ns k)) (by rw [h1]; rfl) hk
theorem WL.muB {o : Oper} {x y qq : Operand} {k : Int} {ns : List (Int × Nat)} (hg : o.guard = none) (hd : o.dst = none) (ho : o.op = .mapUpdate t x y qq) (hM : MapT P t kt (.int .i64) et (.bool false)) (i : Nat) (hS : St g L w) (hi : L[i]? = some (blk b (.map (mE (ns.map bK)) c))) (hx : ev F x = .map (some b)) (hy : ev F y = .int .i64 k) (hq : ev F qq = .bool true) (hu : BUq ns)
    (hk : ∀ ns' q' w', BUq ns' → (∀ z, inB ns' z = true ↔ z = k ∨ inB ns z = true) → St g (L.set i (blk b (.map (mE (List.map bK ns')) q'))) w' → WL P n os l K F w') : WL P n os (o :: l) K F w := by
  rcases b_find hu k with ⟨j, h1, ⟨bn, h2⟩, h3⟩ | ⟨h1, h2, h3⟩
  · have hj : (ns.map bK)[j]? = some (.int .i64 k, .bool true, bn) := by rw [List.getElem?_map, h2]; rfl
    refine WL.muE hg hd ho hM i hS hi hx hy hq rfl h3 hj fun w' hS' => ?_
    have he : (ns.map bK).set j (.int .i64 k, .bool true, bn) = ns.map bK := by
      have hl := (List.getElem?_eq_some_iff.1 hj).1
      have e := (List.getElem?_eq_some_iff.1 hj).2
      rw [← e]; exact List.set_getElem_self _
    rw [he] at hS'
    exact hk ns c w' hu (fun z => ⟨.inr, fun h => h.elim (fun e => by rw [e]; exact h1) id⟩) hS'
  · refine WL.muN hg hd ho hM i hS hi hx hy hq rfl h3 fun w' hS' => ?_
    have he : ns.map bK ++ [(.int .i64 k, .bool true, c)] = (ns ++ [(k, c)]).map bK := by simp [bK]
    rw [he] at hS'
    refine hk (ns ++ [(k, c)]) (c + 1) w' (List.pairwise_append.2 ⟨hu, List.pairwise_singleton _ _, fun a ha b hb => by simp only [List.mem_singleton] at hb; subst hb; exact h2 a ha⟩) (fun z => ?_) hS'
    rw [inB_iff, inB_iff]
    constructor
    · rintro ⟨x, hx, he⟩
      rcases List.mem_append.1 hx with hx | hx
      · exact .inr ⟨x, hx, he⟩
      · simp only [List.mem_singleton] at hx; subst hx; exact .inl he.symm
    · rintro (rfl | ⟨x, hx, he⟩)
      · exact ⟨(z, c), by simp, rfl⟩
      · exact ⟨x, List.mem_append_left _ hx, he⟩
end
def vw (xs : List VN) (z : Int) : Option (Bool × List Int) := (vfind xs z).map fun x => (x.live, x.ab)
theorem live_vw (xs : List VN) (z : Int) : liveG xs z = ((vw xs z).map (·.1)).getD false := by
  unfold liveG vw; cases vfind xs z <;> rfl
theorem pre_vw (xs : List VN) (z : Int) : preG xs z = (vw xs z).isSome := by
  unfold preG vw; cases vfind xs z <;> rfl
theorem ab_vw (xs : List VN) (z : Int) : abG xs z = ((vw xs z).map (·.2)).getD [] := by
  unfold abG vw; cases vfind xs z <;> rfl
theorem erase_mem {xs : List VN} {j : Nat} {u : VN} (hu : VUq xs) (hj : xs[j]? = some u) (x : VN) : x ∈ xs.eraseIdx j ↔ x ∈ xs ∧ x.n ≠ u.n := by
  induction xs generalizing j with
  | nil => simp at hj
  | cons y t ih =>
    have hp := List.pairwise_cons.1 hu
    cases j with
    | zero =>
      simp at hj; subst hj
      simp only [List.eraseIdx_cons_zero, List.mem_cons]
      constructor
      · exact fun h => ⟨.inr h, fun e => hp.1 x h e.symm⟩
      · rintro ⟨rfl | h, h2⟩
        · exact absurd rfl h2
        · exact h
    | succ j =>
      simp at hj
      have h1 := hp.1 u (List.mem_of_getElem? hj)
      simp only [List.eraseIdx_cons_succ, List.mem_cons, ih hp.2 hj]
      constructor
      · rintro (rfl | ⟨h, h2⟩)
        · exact ⟨.inl rfl, h1⟩
        · exact ⟨.inr h, h2⟩
      · rintro ⟨rfl | h, h2⟩
        · exact .inl rfl
        · exact .inr ⟨h, h2⟩
theorem VUq.find {xs : List VN} (hu : VUq xs) {z : Int} {x : VN} : vfind xs z = some x ↔ x ∈ xs ∧ x.n = z := ⟨vfind_some, fun ⟨h, e⟩ => by subst e; exact vfind_mem h hu⟩
theorem vw_erase {xs : List VN} {j : Nat} {u : VN} (hu : VUq xs) (hj : xs[j]? = some u) (z : Int) : vw (xs.eraseIdx j) z = if z = u.n then none else vw xs z := by
  have hu2 : VUq (xs.eraseIdx j) := hu.sublist (List.eraseIdx_sublist xs j)
  unfold vw
  by_cases hz : z = u.n
  · rw [if_pos hz]
    rw [vfind_out (fun x hx e => ((erase_mem hu hj x).1 hx).2 (by rw [e, hz]))]; rfl
  · rw [if_neg hz]
    congr 1
    cases hf : vfind xs z with
    | none => exact vfind_out fun x hx e => vfind_none.1 hf x ((erase_mem hu hj x).1 hx).1 e
    | some x =>
      obtain ⟨h1, h2⟩ := vfind_some hf
      exact hu2.find.2 ⟨(erase_mem hu hj x).2 ⟨h1, fun e => hz (h2.symm.trans e)⟩, h2⟩
theorem VUq.set {xs : List VN} {j : Nat} {u u' : VN} (hu : VUq xs) (hj : xs[j]? = some u) (hn : u'.n = u.n) : VUq (xs.set j u') := by
  unfold VUq at hu ⊢
  rw [← List.pairwise_map (f := VN.n) (R := fun a b => a ≠ b)] at hu ⊢
  have hl := (List.getElem?_eq_some_iff.1 hj).1
  have he := (List.getElem?_eq_some_iff.1 hj).2
  have : (xs.set j u').map VN.n = xs.map VN.n := by
    rw [List.map_set, hn]
    have h5 : (xs.map VN.n)[j]'(by simpa using hl) = u.n := by simp [he]
    rw [← h5]; exact List.set_getElem_self _
  rw [this]; exact hu
theorem set_mem {xs : List VN} {j : Nat} {u u' : VN} (hu : VUq xs) (hj : xs[j]? = some u) (x : VN) : x ∈ xs.set j u' ↔ x = u' ∨ (x ∈ xs ∧ x.n ≠ u.n) := by
  induction xs generalizing j with
  | nil => simp at hj
  | cons y t ih =>
    have hp := List.pairwise_cons.1 hu
    cases j with
    | zero =>
      simp at hj; subst hj
      simp only [List.set_cons_zero, List.mem_cons]
      constructor
      · rintro (h | h)
        · exact .inl h
        · exact .inr ⟨.inr h, fun e => hp.1 x h e.symm⟩
      · rintro (h | ⟨rfl | h, h2⟩)
        · exact .inl h
        · exact absurd rfl h2
        · exact .inr h
    | succ j =>
      simp at hj
      have h1 := hp.1 u (List.mem_of_getElem? hj)
      simp only [List.set_cons_succ, List.mem_cons, ih hp.2 hj]
      constructor
      · rintro (rfl | h | ⟨h, h2⟩)
        · exact .inr ⟨.inl rfl, h1⟩
        · exact .inl h
        · exact .inr ⟨.inr h, h2⟩
      · rintro (h | ⟨rfl | h, h2⟩)
        · exact .inr (.inl h)
        · exact .inl rfl
        · exact .inr (.inr ⟨h, h2⟩)
theorem vw_set {xs : List VN} {j : Nat} {u u' : VN} (hu : VUq xs) (hj : xs[j]? = some u) (hn : u'.n = u.n) (z : Int) : vw (xs.set j u') z = if z = u.n then some (u'.live, u'.ab) else vw xs z := by
  have hu2 := hu.set hj hn
  unfold vw
  by_cases hz : z = u.n
  · rw [if_pos hz, hu2.find.2 ⟨(set_mem hu hj u').2 (.inl rfl), hn.trans hz.symm⟩]; rfl
  · rw [if_neg hz]
    congr 1
    cases hf : vfind xs z with
    | none =>
      refine vfind_out fun x hx e => ?_
      rcases (set_mem hu hj x).1 hx with rfl | ⟨h, _⟩
      · exact hz (e.symm.trans hn)
      · exact vfind_none.1 hf x h e
    | some x =>
      obtain ⟨h1, h2⟩ := vfind_some hf
      exact hu2.find.2 ⟨(set_mem hu hj x).2 (.inr ⟨h1, fun e => hz (h2.symm.trans e)⟩), h2⟩
theorem VOk.rem {xs : List VN} {q : Nat} (h : VOk xs q) (j : Nat) : VOk (xs.eraseIdx j) q := by
  have hs := List.eraseIdx_sublist xs j
  exact ⟨h.uniq.sublist hs, fun x hx => h.born x (hs.subset hx), h.bnd.sublist (hs.map _), fun x hx => h.rng x (hs.subset hx), Nat.le_trans hs.length_le h.num⟩
theorem VOk.set {xs : List VN} {q j : Nat} {u u' : VN} (h : VOk xs q) (hj : xs[j]? = some u) (hn : u'.n = u.n) (hb : u'.born = u.born) : VOk (xs.set j u') q := by
  have hm := List.mem_of_getElem? hj
  have hl := (List.getElem?_eq_some_iff.1 hj).1
  have he := (List.getElem?_eq_some_iff.1 hj).2
  have hmem : ∀ x ∈ xs.set j u', x = u' ∨ x ∈ xs := fun x hx => (List.mem_or_eq_of_mem_set hx).symm
  refine ⟨h.uniq.set hj hn, fun x hx => ?_, ?_, fun x hx => ?_, by rw [List.length_set]; exact h.num⟩
  · rcases hmem x hx with rfl | hx
    · rw [hb]; exact h.born u hm
    · exact h.born x hx
  · have : (xs.set j u').map VN.born = xs.map VN.born := by
      rw [List.map_set, hb]
      have h5 : (xs.map VN.born)[j]'(by simpa using hl) = u.born := by simp [he]
      rw [← h5]; exact List.set_getElem_self _
    rw [this]; exact h.bnd
  · rcases hmem x hx with rfl | hx
    · rw [hn]; exact h.rng u hm
    · exact h.rng x hx
end Go.V
namespace Go.V
open Go Go.RowKit
def needG (xs : List VN) (z : Int) : Prop := liveG xs z = true ∨ (0 < z ∧ ∃ x y, liveG xs x = true ∧ liveG xs y = true ∧ x < y ∧ baseG xs x y = z)
theorem fl_skip {f : Int → Bool} {ss : List Int} {k : Nat} {n : Int} (h : ss[k]? = some n) (hf : f n = false) : (ss.take (k + 1)).filter f = (ss.take k).filter f := by
  rw [List.take_add_one, h, List.filter_append]; simp [hf]
theorem fl_take {f : Int → Bool} {ss : List Int} {k : Nat} {n : Int} (h : ss[k]? = some n) (hf : f n = true) : (ss.take (k + 1)).filter f = (ss.take k).filter f ++ [n] := by
  rw [List.take_add_one, h, List.filter_append]; simp [hf]
theorem need_next {xs : List VN} {ns ns2 : List (Int × Nat)} {lv : List Int} {n : Int} (h1 : ∀ z, inB ns z = true ↔ z ∈ lv ∨ (0 < z ∧ ∃ x ∈ lv, ∃ y ∈ lv, x < y ∧ baseG xs x y = z)) (h2 : ∀ z, inB ns2 z = true ↔ z = n ∨ inB ns z = true ∨ (0 < z ∧ ∃ x ∈ lv, baseG xs x n = z)) (hlt : ∀ x ∈ lv, x < n) :
    ∀ z, inB ns2 z = true ↔ z ∈ lv ++ [n] ∨ (0 < z ∧ ∃ x ∈ lv ++ [n], ∃ y ∈ lv ++ [n], x < y ∧ baseG xs x y = z) := fun z => by
  rw [h2, h1]
  constructor
  · rintro (rfl | (h | ⟨h, x, hx, y, hy, hxy, he⟩) | ⟨h, x, hx, he⟩)
    · exact .inl (by simp)
    · exact .inl (List.mem_append_left _ h)
    · exact .inr ⟨h, x, List.mem_append_left _ hx, y, List.mem_append_left _ hy, hxy, he⟩
    · exact .inr ⟨h, x, List.mem_append_left _ hx, n, by simp, hlt x hx, he⟩
  · rintro (h | ⟨h, x, hx, y, hy, hxy, he⟩)
    · rcases List.mem_append.1 h with h | h
      · exact .inr (.inl (.inl h))
      · exact .inl (List.mem_singleton.1 h)
    · rcases List.mem_append.1 hx with hx | hx
      · rcases List.mem_append.1 hy with hy | hy
        · exact .inr (.inl (.inr ⟨h, x, hx, y, hy, hxy, he⟩))
        · rw [List.mem_singleton.1 hy] at he; exact .inr (.inr ⟨h, x, hx, he⟩)
      · rw [List.mem_singleton.1 hx] at hxy
        rcases List.mem_append.1 hy with hy | hy
        · have := hlt y hy; omega
        · rw [List.mem_singleton.1 hy] at hxy; omega
theorem need_in {xs : List VN} {a b ns : List (Int × Nat)} {lv : List Int} {n x : Int} {k : Nat} (h : ∀ z, inB a z = true ↔ z = n ∨ inB ns z = true ∨ (0 < z ∧ ∃ x ∈ lv.take k, baseG xs x n = z)) (hx : lv[k]? = some x) (hp : 0 < baseG xs x n) (h2 : ∀ z, inB b z = true ↔ z = baseG xs x n ∨ inB a z = true) :
    ∀ z, inB b z = true ↔ z = n ∨ inB ns z = true ∨ (0 < z ∧ ∃ x ∈ lv.take (k + 1), baseG xs x n = z) := fun z => by
  rw [h2, h, List.take_add_one, hx]
  constructor
  · rintro (rfl | h | h | ⟨h, y, hy, he⟩)
    · exact .inr (.inr ⟨hp, x, by simp, rfl⟩)
    · exact .inl h
    · exact .inr (.inl h)
    · exact .inr (.inr ⟨h, y, List.mem_append_left _ hy, he⟩)
  · rintro (h | h | ⟨h, y, hy, he⟩)
    · exact .inr (.inl h)
    · exact .inr (.inr (.inl h))
    · rcases List.mem_append.1 hy with hy | hy
      · exact .inr (.inr (.inr ⟨h, y, hy, he⟩))
      · simp at hy; subst hy; exact .inl he.symm
theorem need_in0 {xs : List VN} {a ns : List (Int × Nat)} {lv : List Int} {n x : Int} {k : Nat} (h : ∀ z, inB a z = true ↔ z = n ∨ inB ns z = true ∨ (0 < z ∧ ∃ x ∈ lv.take k, baseG xs x n = z)) (hx : lv[k]? = some x) (hp : ¬ 0 < baseG xs x n) :
    ∀ z, inB a z = true ↔ z = n ∨ inB ns z = true ∨ (0 < z ∧ ∃ x ∈ lv.take (k + 1), baseG xs x n = z) := fun z => by
  rw [h, List.take_add_one, hx]
  constructor
  · rintro (h | h | ⟨h, y, hy, he⟩)
    · exact .inl h
    · exact .inr (.inl h)
    · exact .inr (.inr ⟨h, y, List.mem_append_left _ hy, he⟩)
  · rintro (h | h | ⟨h, y, hy, he⟩)
    · exact .inl h
    · exact .inr (.inl h)
    · rcases List.mem_append.1 hy with hy | hy
      · exact .inr (.inr ⟨h, y, hy, he⟩)
      · simp at hy; subst hy; omega
structure Keys (xs : List VN) (ss : List Int) : Prop where
  perm : ss.Perm (xs.map VN.n)
  asc : Asc ss
theorem Keys.le {xs : List VN} {ss : List Int} (h : Keys xs ss) : ss.Pairwise (· ≤ ·) := h.asc.imp fun h => by omega
theorem Keys.mem {xs : List VN} {ss : List Int} (h : Keys xs ss) (z : Int) : z ∈ ss ↔ preG xs z = true := by
  rw [h.perm.mem_iff, pre_iff, List.mem_map]
theorem keys_ex {xs : List VN} (hu : VUq xs) : ∃ ss, Keys xs ss := by
  refine ⟨srtI (xs.map VN.n), srtI_perm _, ?_⟩
  have h1 : (srtI (xs.map VN.n)).Nodup := (srtI_perm _).nodup_iff.2 (List.pairwise_map.2 hu)
  exact (List.pairwise_and_iff.2 ⟨srtI_le (xs.map VN.n), h1⟩).imp fun ⟨h, k⟩ => by omega
theorem take_lt {ss : List Int} (h : Asc ss) {k : Nat} {n : Int} (hn : ss[k]? = some n) : ∀ x ∈ ss.take k, x < n := fun x hx => by
  obtain ⟨i, hi⟩ := List.mem_iff_getElem?.1 hx
  rw [List.getElem?_take] at hi
  split at hi
  · rename_i hlt
    have h1 := (List.getElem?_eq_some_iff.1 hi).1
    have h2 := (List.getElem?_eq_some_iff.1 hn).1
    have h3 := List.pairwise_iff_getElem.1 h i k h1 h2 hlt
    rw [(List.getElem?_eq_some_iff.1 hi).2, (List.getElem?_eq_some_iff.1 hn).2] at h3
    exact h3
  · cases hi
theorem need_end {xs : List VN} {ss : List Int} {ns : List (Int × Nat)} (hK : Keys xs ss) (h : ∀ z, inB ns z = true ↔ z ∈ ss.filter (liveG xs) ∨ (0 < z ∧ ∃ x ∈ ss.filter (liveG xs), ∃ y ∈ ss.filter (liveG xs), x < y ∧ baseG xs x y = z)) : ∀ z, inB ns z = true ↔ needG xs z := fun z => by
  have hm : ∀ z, z ∈ ss.filter (liveG xs) ↔ liveG xs z = true := fun z => by
    rw [List.mem_filter]
    exact ⟨fun h => h.2, fun h => ⟨(hK.mem z).2 (live_pre h), h⟩⟩
  rw [h, hm]
  constructor
  · rintro (h | ⟨h, x, hx, y, hy, hxy, he⟩)
    · exact .inl h
    · exact .inr ⟨h, x, y, (hm x).1 hx, (hm y).1 hy, hxy, he⟩
  · rintro (h | ⟨h, x, y, hx, hy, hxy, he⟩)
    · exact .inl h
    · exact .inr ⟨h, x, (hm x).2 hx, y, (hm y).2 hy, hxy, he⟩
end Go.V
namespace Go.V
open Go Go.RowKit
structure GF (f : Int → Option (Bool × List Int)) : Prop where
  asc : ∀ z l a, f z = some (l, a) → Asc a
  self : ∀ z l a, f z = some (l, a) → z ∈ a
  le : ∀ z l a, f z = some (l, a) → ∀ u ∈ a, u ≤ z
  pre : ∀ z l a, f z = some (l, a) → ∀ u ∈ a, (f u).isSome = true
  tr : ∀ z l a, f z = some (l, a) → ∀ u ∈ a, ∀ l' a', f u = some (l', a') → ∀ t ∈ a', t ∈ a
theorem vw_some {xs : List VN} {z : Int} {l : Bool} {a : List Int} (h : vw xs z = some (l, a)) : ∃ x, vfind xs z = some x ∧ x.live = l ∧ x.ab = a := by
  unfold vw at h
  cases hf : vfind xs z with
  | none => rw [hf] at h; cases h
  | some x => rw [hf] at h; simp at h; exact ⟨x, rfl, h.1, h.2⟩
theorem vw_mem {xs : List VN} (hu : VUq xs) {x : VN} (hx : x ∈ xs) : vw xs x.n = some (x.live, x.ab) := by unfold vw; rw [vfind_mem hx hu]; rfl
theorem GOk.gf {xs : List VN} {q : Nat} (h : GOk xs q) : GF (vw xs) := by
  refine ⟨fun z l a hz => ?_, fun z l a hz => ?_, fun z l a hz => ?_, fun z l a hz u hu => ?_, fun z l a hz u hu l' a' hu' t ht => ?_⟩
  all_goals obtain ⟨x, hx, rfl, rfl⟩ := vw_some hz
  all_goals obtain ⟨h1, h2⟩ := vfind_some hx
  · exact h.asc x h1
  · subst h2; exact h.self x h1
  · subst h2; exact h.le x h1
  · rw [← pre_vw]; exact h.pre x h1 u hu
  · refine h.tr x h1 u hu t ?_
    rw [ab_vw, hu']; exact ht
theorem GF.gok {xs : List VN} {q : Nat} (h : GF (vw xs)) (hv : VOk xs q) : GOk xs q := by
  refine ⟨hv, fun x hx => ?_, fun x hx => ?_, fun x hx => ?_, fun x hx z hz => ?_, fun x hx z hz u hu => ?_⟩
  · exact h.asc _ _ _ (vw_mem hv.uniq hx)
  · exact h.self _ _ _ (vw_mem hv.uniq hx)
  · exact h.le _ _ _ (vw_mem hv.uniq hx)
  · rw [pre_vw]; exact h.pre _ _ _ (vw_mem hv.uniq hx) z hz
  · rw [ab_vw] at hu
    cases hf : vw xs z with
    | none => rw [hf] at hu; cases hu
    | some p => rw [hf] at hu; exact h.tr _ _ _ (vw_mem hv.uniq hx) z hz p.1 p.2 hf u hu
def keep (N : Int → Bool) (f : Int → Option (Bool × List Int)) (z : Int) : Option (Bool × List Int) := if N z = true then (f z).map fun p => (p.1, p.2.filter N) else none
theorem keep_some {N : Int → Bool} {f : Int → Option (Bool × List Int)} {z : Int} {l : Bool} {a : List Int} (h : keep N f z = some (l, a)) : N z = true ∧ ∃ a0, f z = some (l, a0) ∧ a = a0.filter N := by
  unfold keep at h
  split at h
  · rename_i hN
    cases hf : f z with
    | none => rw [hf] at h; cases h
    | some p => rw [hf] at h; simp at h; exact ⟨hN, p.2, by rw [← h.1], h.2.symm⟩
  · cases h
theorem GF.keep {f : Int → Option (Bool × List Int)} (h : GF f) (N : Int → Bool) : GF (keep N f) := by
  refine ⟨fun z l a hz => ?_, fun z l a hz => ?_, fun z l a hz => ?_, fun z l a hz u hu => ?_, fun z l a hz u hu l' a' hu' t ht => ?_⟩
  all_goals obtain ⟨hN, a0, h0, rfl⟩ := keep_some hz
  · exact (h.asc z l a0 h0).sublist List.filter_sublist
  · exact List.mem_filter.2 ⟨h.self z l a0 h0, hN⟩
  · exact fun u hu => h.le z l a0 h0 u (List.mem_filter.1 hu).1
  · obtain ⟨h1, h2⟩ := List.mem_filter.1 hu
    have h3 := h.pre z l a0 h0 u h1
    unfold Go.V.keep
    rw [if_pos h2]
    cases hf : f u with
    | none => rw [hf] at h3; cases h3
    | some p => rfl
  · obtain ⟨_, a1, h1, rfl⟩ := keep_some hu'
    obtain ⟨h2, h3⟩ := List.mem_filter.1 ht
    exact List.mem_filter.2 ⟨h.tr z l a0 h0 u (List.mem_filter.1 hu).1 l' a1 h1 t h2, h3⟩
def dead (f : Int → Option (Bool × List Int)) (n : Int) (z : Int) : Option (Bool × List Int) := if z = n then (f z).map fun p => (false, p.2) else f z
theorem dead_some {f : Int → Option (Bool × List Int)} {n z : Int} {l : Bool} {a : List Int} (h : dead f n z = some (l, a)) : ∃ l0, f z = some (l0, a) := by
  unfold dead at h
  split at h
  · cases hf : f z with
    | none => rw [hf] at h; cases h
    | some p => rw [hf] at h; simp at h; exact ⟨p.1, by rw [← h.2]⟩
  · exact ⟨l, h⟩
theorem dead_iss (f : Int → Option (Bool × List Int)) (n z : Int) : (dead f n z).isSome = (f z).isSome := by
  unfold dead; split
  · cases f z <;> rfl
  · rfl
theorem GF.dead {f : Int → Option (Bool × List Int)} (h : GF f) (n : Int) : GF (dead f n) := by
  refine ⟨fun z l a hz => ?_, fun z l a hz => ?_, fun z l a hz => ?_, fun z l a hz u hu => ?_, fun z l a hz u hu l' a' hu' t ht => ?_⟩
  all_goals obtain ⟨l0, h0⟩ := dead_some hz
  · exact h.asc z l0 a h0
  · exact h.self z l0 a h0
  · exact h.le z l0 a h0
  · rw [dead_iss]; exact h.pre z l0 a h0 u hu
  · obtain ⟨l1, h1⟩ := dead_some hu'
    exact h.tr z l0 a h0 u hu l1 a' h1 t ht
def RelP (xs : List VN) (n : Int) (xs2 : List VN) : Prop := ∃ (xs1 : List VN) (N : Int → Bool), (∀ z, vw xs1 z = dead (vw xs) n z) ∧ (∀ z, N z = true ↔ needG xs1 z) ∧ ∀ z, vw xs2 z = keep N (vw xs1) z
theorem dead_set {xs : List VN} {k : Nat} {x : VN} (hu : VUq xs) (hx : xs[k]? = some x) : ∀ z, vw (xs.set k (VN.mk x.n false x.ab x.a x.c x.born)) z = dead (vw xs) x.n z := fun z => by
  rw [vw_set (u' := VN.mk x.n false x.ab x.a x.c x.born) hu hx rfl]
  unfold dead
  split
  · rename_i he; subst he; rw [vw_mem hu (List.mem_of_getElem? hx)]; rfl
  · rfl
def half (N : Int → Bool) (f : Int → Option (Bool × List Int)) (D : List Int) (z : Int) : Option (Bool × List Int) := if z ∈ D then keep N f z else f z
theorem half_del {N : Int → Bool} {f : Int → Option (Bool × List Int)} {ss : List Int} {k : Nat} {n : Int} {cur : List VN} {j : Nat} {u : VN} (hu : VUq cur) (hj : cur[j]? = some u) (hn : u.n = n) (hk : ss[k]? = some n) (h : ∀ z, vw cur z = half N f (ss.take k) z) (hN : N n = false) :
    ∀ z, vw (cur.eraseIdx j) z = half N f (ss.take (k + 1)) z := fun z => by
  subst hn
  rw [vw_erase hu hj, h]
  unfold half
  rw [List.take_add_one, hk]
  by_cases hz : z = u.n
  · subst hz
    rw [if_pos rfl, if_pos (by simp)]
    unfold keep
    rw [if_neg (by rw [hN]; decide)]
  · rw [if_neg hz]
    have : (z ∈ ss.take k ++ (some u.n).toList) ↔ z ∈ ss.take k := by simp [hz]
    by_cases hm : z ∈ ss.take k
    · rw [if_pos hm, if_pos (this.2 hm)]
    · rw [if_neg hm, if_neg (fun h => hm (this.1 h))]
theorem half_set {N : Int → Bool} {f : Int → Option (Bool × List Int)} {ss : List Int} {k : Nat} {n : Int} {cur : List VN} {j : Nat} {u u' : VN} (hu : VUq cur) (hj : cur[j]? = some u) (hn : u.n = n) (hk : ss[k]? = some n) (h : ∀ z, vw cur z = half N f (ss.take k) z) (hN : N n = true) (hnk : n ∉ ss.take k) (hu1 : u'.n = u.n) (hu2 : u'.live = u.live) (hu3 : u'.ab = u.ab.filter N) :
    ∀ z, vw (cur.set j u') z = half N f (ss.take (k + 1)) z := fun z => by
  subst hn
  have h0 := h u.n
  rw [vw_mem hu (List.mem_of_getElem? hj)] at h0
  unfold half at h0
  rw [if_neg hnk] at h0
  rw [vw_set hu hj hu1, h]
  unfold half
  rw [List.take_add_one, hk]
  by_cases hz : z = u.n
  · subst hz
    rw [if_pos rfl, if_pos (by simp)]
    unfold keep
    rw [if_pos hN, ← h0, hu2, hu3]; rfl
  · rw [if_neg hz]
    have : (z ∈ ss.take k ++ (some u.n).toList) ↔ z ∈ ss.take k := by simp [hz]
    by_cases hm : z ∈ ss.take k
    · rw [if_pos hm, if_pos (this.2 hm)]
    · rw [if_neg hm, if_neg (fun h => hm (this.1 h))]
theorem half_end {N : Int → Bool} {xs1 : List VN} {ss : List Int} (hK : Keys xs1 ss) (z : Int) : half N (vw xs1) ss z = keep N (vw xs1) z := by
  unfold half
  by_cases hm : z ∈ ss
  · rw [if_pos hm]
  · rw [if_neg hm]
    have h1 : vw xs1 z = none := by
      cases hv : vw xs1 z with
      | none => rfl
      | some p => exact absurd ((hK.mem z).2 (by rw [pre_vw, hv]; rfl)) hm
    unfold keep
    rw [h1]; split <;> rfl
theorem half_at {N : Int → Bool} {xs1 cur : List VN} {ss : List Int} (hK : Keys xs1 ss) {k : Nat} {n : Int} (hn : ss[k]? = some n) (h : ∀ z, vw cur z = half N (vw xs1) (ss.take k) z) : n ∉ ss.take k ∧ ∃ (j : Nat) (u : VN), cur[j]? = some u ∧ u.n = n ∧ vw xs1 n = some (u.live, u.ab) := by
  have h1 : n ∉ ss.take k := fun hm => by have := take_lt hK.asc hn n hm; omega
  refine ⟨h1, ?_⟩
  have h2 := h n
  unfold half at h2
  rw [if_neg h1] at h2
  have h3 : (vw xs1 n).isSome = true := by rw [← pre_vw]; exact (hK.mem n).1 (List.mem_of_getElem? hn)
  rw [← h2] at h3
  cases hv : vw cur n with
  | none => rw [hv] at h3; cases h3
  | some p =>
    obtain ⟨x, hx, e1, e2⟩ := vw_some (l := p.1) (a := p.2) hv
    obtain ⟨hm, hxn⟩ := vfind_some hx
    obtain ⟨j, hj⟩ := List.mem_iff_getElem?.1 hm
    exact ⟨j, x, hj, hxn, by rw [← h2, hv, e1, e2]⟩
theorem St.shsMap {α : Type} {f : α → List HP} {zs zs' : List α} {g w : World} {L : List HP} (h : St g (Shs f zs :: L) w) (hs : ∀ z ∈ zs', ∃ y ∈ zs, f z = f y) : St g (Shs f zs' :: L) w := h.impl fun _ _ hh z hz => by
  obtain ⟨y, hy, e⟩ := hs z hz
  rw [e]; exact hh y hy
end Go.V
namespace Go.V
open Go Go.RowKit
def okPs (ps : List Int) : Prop := ps.length ≤ 2 ∧ ∀ x y, ps = [x, y] → x ≠ y
instance (ps : List Int) : Decidable (okPs ps) := match ps with
  | [] => isTrue ⟨by simp, fun _ _ h => by cases h⟩
  | [_] => isTrue ⟨by simp, fun _ _ h => by cases h⟩
  | [x, y] => if h : x = y then isFalse (fun k => k.2 x y rfl h) else isTrue ⟨by simp, fun _ _ e => by cases e; exact h⟩
  | _ :: _ :: _ :: _ => isFalse (fun k => by have := k.1; simp at this)
theorem okPs_ne {ps : List Int} (h : okPs ps) {x y : Int} (h0 : ps[0]? = some x) (h1 : ps[1]? = some y) : x ≠ y := by
  have hl := h.1
  match ps, hl, h0, h1 with
  | [], _, h0, _ => cases h0
  | [_], _, _, h1 => cases h1
  | [u, v], _, h0, h1 => simp at h0 h1; subst h0; subst h1; exact h.2 _ _ rfl
theorem okPs_no {ps : List Int} (h : ¬ okPs ps) : 2 < ps.length ∨ ∃ x, ps = [x, x] := by
  match ps, h with
  | [], h => exact absurd ⟨by simp, fun _ _ h => by cases h⟩ h
  | [_], h => exact absurd ⟨by simp, fun _ _ h => by cases h⟩ h
  | [x, y], h =>
    by_cases he : x = y
    · subst he; exact .inr ⟨x, rfl⟩
    · exact absurd ⟨by simp, fun _ _ e => by cases e; exact he⟩ h
  | _ :: _ :: _ :: _, _ => exact .inl (by simp)
structure GI (xs : List VN) (q : Nat) (cap last : Int) : Prop where
  ok : GOk xs q
  le : ∀ x ∈ xs, x.n ≤ last
  la : 0 ≤ last
  cp : 1 ≤ cap ∧ cap ≤ 4096
def addE (xs : List VN) (cap : Int) (ps : List Int) : Int :=
  if ¬ okPs ps then 1 else if ¬ (∀ z ∈ ps, liveG xs z = true) then 4 else if cap ≤ xs.length then 2 else 0
def addV (xs : List VN) (cap last : Int) (ps : List Int) : Int := if addE xs cap ps = 0 then last + 1 else 0
def AddP (xs : List VN) (cap last : Int) (ps : List Int) (xs2 : List VN) (last2 : Int) : Prop :=
  (addE xs cap ps ≠ 0 ∧ xs2 = xs ∧ last2 = last) ∨ (addE xs cap ps = 0 ∧ last2 = last + 1 ∧ ∃ vn : VN, xs2 = xs ++ [vn] ∧ vn.n = last + 1 ∧ vn.live = true ∧ Asc vn.ab ∧ ∀ z, z ∈ vn.ab ↔ z ∈ newAb xs (last + 1) ps)
def relE (xs : List VN) (n : Int) : Int := if liveG xs n = true then 0 else 4
def RelQ (xs : List VN) (n : Int) (xs2 : List VN) : Prop := (liveG xs n = true ∧ RelP xs n xs2) ∨ (liveG xs n = false ∧ xs2 = xs)
theorem first_dead {xs : List VN} : ∀ {ps : List Int}, ¬ (∀ z ∈ ps, liveG xs z = true) → ∃ (i : Nat) (b : Int), ps[i]? = some b ∧ liveG xs b = false ∧ ∀ j, j < i → ∀ y, ps[j]? = some y → liveG xs y = true
  | [], h => absurd (fun _ hz => by cases hz) h
  | p :: ps, h => by
    cases hp : liveG xs p with
    | false => exact ⟨0, p, rfl, hp, fun j hj => by omega⟩
    | true =>
      obtain ⟨i, b, hi, hb, hlt⟩ := first_dead (ps := ps) fun h2 => h fun z hz => by
        rcases List.mem_cons.1 hz with rfl | hz
        · exact hp
        · exact h2 z hz
      refine ⟨i + 1, b, by simpa using hi, hb, fun j hj y hy => ?_⟩
      cases j with
      | zero => simp at hy; subst hy; exact hp
      | succ j => exact hlt j (by omega) y (by simpa using hy)
theorem addE_ok {xs : List VN} {cap : Int} {ps : List Int} (h1 : okPs ps) (h2 : ∀ z ∈ ps, liveG xs z = true) (h3 : ¬ cap ≤ xs.length) : addE xs cap ps = 0 := by
  unfold addE
  rw [if_neg (fun h => h h1), if_neg (fun h => h h2), if_neg h3]
theorem keys_len {xs : List VN} {ss : List Int} (h : ss.Perm (xs.map VN.n)) : ss.length = xs.length := by simpa using h.length_eq
theorem addE_inv {xs : List VN} {cap : Int} {ps : List Int} (h : addE xs cap ps = 0) : okPs ps ∧ (∀ z ∈ ps, liveG xs z = true) ∧ (xs.length : Int) < cap := by
  unfold addE at h
  split at h
  · omega
  · rename_i h1
    split at h
    · omega
    · rename_i h2
      split at h
      · omega
      · rename_i h3
        exact ⟨Classical.not_not.1 h1, Classical.not_not.1 h2, by omega⟩
theorem vw_app {xs : List VN} {v : VN} (hn : ∀ x ∈ xs, x.n ≠ v.n) (z : Int) : vw (xs ++ [v]) z = if z = v.n then some (v.live, v.ab) else vw xs z := by
  unfold vw
  rw [vfind_app hn]
  split <;> rfl
theorem RelP.le {xs xs2 : List VN} {n last : Int} (hu : VUq xs2) (h : RelP xs n xs2) (hl : ∀ x ∈ xs, x.n ≤ last) : ∀ x ∈ xs2, x.n ≤ last := fun x hx => by
  obtain ⟨xs1, N, h1, _, h3⟩ := h
  have h4 := vw_mem hu hx
  rw [h3] at h4
  obtain ⟨_, a0, h5, _⟩ := keep_some h4
  rw [h1] at h5
  obtain ⟨l0, h6⟩ := dead_some h5
  obtain ⟨y, hy, _, _⟩ := vw_some h6
  obtain ⟨h7, h8⟩ := vfind_some hy
  rw [← h8]; exact hl y h7
theorem asc_ext {l m : List Int} (hl : Asc l) (hm : Asc m) (h : ∀ z, z ∈ l ↔ z ∈ m) : l = m :=
  List.Perm.eq_of_pairwise (le := fun a b : Int => a ≤ b) (fun a b _ _ h1 h2 => by omega) (hl.imp fun h => by omega) (hm.imp fun h => by omega) ((List.perm_ext_iff_of_nodup hl.nodup hm.nodup).2 h)
theorem AddP.vw {xs xs2 : List VN} {cap last last2 : Int} {ps : List Int} (h : AddP xs cap last ps xs2 last2) (hl : ∀ x ∈ xs, x.n ≤ last) (h0 : addE xs cap ps = 0) : last2 = last + 1 ∧ xs2.length = xs.length + 1 ∧ ∃ ab, Asc ab ∧ (∀ z, z ∈ ab ↔ z ∈ newAb xs (last + 1) ps) ∧ ∀ z, Go.V.vw xs2 z = if z = last + 1 then some (true, ab) else Go.V.vw xs z := by
  rcases h with ⟨h, _⟩ | ⟨_, h2, v, rfl, h4, h5, h6, h7⟩
  · exact absurd h0 h
  · refine ⟨h2, by simp, v.ab, h6, h7, fun z => ?_⟩
    rw [vw_app (fun x hx e => by have := hl x hx; omega), h4, h5]
theorem AddP.bnd {xs xs2 : List VN} {cap last last2 : Int} {ps : List Int} (h : AddP xs cap last ps xs2 last2) : last ≤ last2 ∧ last2 ≤ last + 1 := by
  rcases h with ⟨_, _, h⟩ | ⟨_, h, _⟩ <;> omega
end Go.V
namespace Go.V
open Go Go.RowKit
def KO (xs : List VN) : Prop := ∀ z, preG xs z = true → needG xs z
theorem KO.nil : KO [] := fun z h => by cases h
theorem baseG_pos {xs : List VN} {x y : Int} (hx : liveG xs x = true) (hy : liveG xs y = true) : baseG xs x y = gcm (abG xs x) (abG xs y) := by rw [baseG, if_pos ⟨hx, hy⟩]
theorem KO.add {xs xs2 : List VN} {cap last last2 : Int} {ps : List Int} (h : KO xs) (hl : ∀ x ∈ xs, x.n ≤ last) (ha : AddP xs cap last ps xs2 last2) : KO xs2 := by
  by_cases h0 : addE xs cap ps = 0
  · obtain ⟨_, _, ab, _, _, hv⟩ := ha.vw hl h0
    have hlt : ∀ z, preG xs z = true → z ≤ last := fun z hz => by
      obtain ⟨x, hx, e⟩ := pre_iff.1 hz
      rw [← e]; exact hl x hx
    have hlv : ∀ z, z ≠ last + 1 → liveG xs2 z = liveG xs z ∧ abG xs2 z = abG xs z := fun z hz => by rw [live_vw, live_vw, ab_vw, ab_vw, hv, if_neg hz]; exact ⟨rfl, rfl⟩
    intro z hz
    by_cases hn : z = last + 1
    · subst hn; exact .inl (by rw [live_vw, hv, if_pos rfl]; rfl)
    · have hz1 : preG xs z = true := by rw [pre_vw, hv, if_neg hn, ← pre_vw] at hz; exact hz
      rcases h z hz1 with h1 | ⟨h1, x, y, hx, hy, hxy, he⟩
      · exact .inl (by rw [(hlv z hn).1]; exact h1)
      · have nx : x ≠ last + 1 := by have := hlt x (live_pre hx); omega
        have ny : y ≠ last + 1 := by have := hlt y (live_pre hy); omega
        have lx : liveG xs2 x = true := by rw [(hlv x nx).1]; exact hx
        have ly : liveG xs2 y = true := by rw [(hlv y ny).1]; exact hy
        refine .inr ⟨h1, x, y, lx, ly, hxy, ?_⟩
        rw [baseG_pos lx ly, (hlv x nx).2, (hlv y ny).2, ← baseG_pos hx hy]; exact he
  · rcases ha with ⟨_, rfl, _⟩ | ⟨h2, _⟩
    · exact h
    · exact absurd h2 h0
theorem keep_base {xs1 xs2 : List VN} {N : Int → Bool} (hG : GF (vw xs1)) (hpos : ∀ z, (vw xs1 z).isSome = true → 1 ≤ z) (hN : ∀ z, N z = true ↔ needG xs1 z) (hv : ∀ z, vw xs2 z = keep N (vw xs1) z) :
    (∀ z, liveG xs2 z = liveG xs1 z) ∧ (∀ z, N z = true → abG xs2 z = (abG xs1 z).filter N) ∧ ∀ x y, x < y → liveG xs1 x = true → liveG xs1 y = true → baseG xs2 x y = baseG xs1 x y := by
  have hlv : ∀ z, liveG xs2 z = liveG xs1 z := fun z => by
    cases hN1 : N z with
    | true => rw [live_vw, live_vw, hv, keep, if_pos hN1]; cases vw xs1 z <;> rfl
    | false =>
      have h1 : liveG xs1 z = false := by
        cases hl : liveG xs1 z with
        | false => rfl
        | true => rw [(hN z).2 (.inl hl)] at hN1; cases hN1
      rw [h1, live_vw, hv, keep, if_neg (by rw [hN1]; decide)]; rfl
  have hab : ∀ z, N z = true → abG xs2 z = (abG xs1 z).filter N := fun z h => by
    rw [ab_vw, ab_vw, hv, keep, if_pos h]
    cases vw xs1 z <;> rfl
  refine ⟨hlv, hab, fun x y hxy hx hy => ?_⟩
  have nx := (hN x).2 (.inl hx)
  have ny := (hN y).2 (.inl hy)
  have ax : Asc (abG xs1 x) := by
    rw [ab_vw]
    cases hf : vw xs1 x with
    | none => exact List.Pairwise.nil
    | some p => exact hG.asc x p.1 p.2 hf
  rw [baseG_pos (by rw [hlv]; exact hx) (by rw [hlv]; exact hy), baseG_pos hx hy, hab x nx, hab y ny]
  rcases gcm_cases (l := abG xs1 x) (m := abG xs1 y) ax with ⟨h1, h2⟩ | ⟨h1, h2, h3⟩
  · rw [h1]
    exact gcm_no fun z hz hz2 => h2 z (List.mem_filter.1 hz).1 (List.mem_filter.1 hz2).1
  · have hp : 0 < gcm (abG xs1 x) (abG xs1 y) ∨ ¬ 0 < gcm (abG xs1 x) (abG xs1 y) := by omega
    have hNb : N (gcm (abG xs1 x) (abG xs1 y)) = true ∨ gcm (abG xs1 x) (abG xs1 y) ≤ 0 := by
      rcases hp with hp | hp
      · exact .inl ((hN _).2 (.inr ⟨hp, x, y, hx, hy, hxy, by rw [baseG_pos hx hy]⟩))
      · exact .inr (by omega)
    rcases hNb with hNb | hNb
    · exact gcm_is (ax.sublist List.filter_sublist) (List.mem_filter.2 ⟨h1, hNb⟩) (List.mem_filter.2 ⟨h2, hNb⟩) fun z hz hz2 => h3 z (List.mem_filter.1 hz).1 (List.mem_filter.1 hz2).1
    · exfalso
      generalize gcm (abG xs1 x) (abG xs1 y) = b at *
      rw [ab_vw] at h1
      cases hf : vw xs1 x with
      | none => rw [hf] at h1; cases h1
      | some p =>
        rw [hf] at h1
        have h5 := hpos _ (hG.pre x p.1 p.2 hf _ h1)
        omega
theorem GOk.pos {xs : List VN} {q : Nat} (h : GOk xs q) (z : Int) (hz : (vw xs z).isSome = true) : 1 ≤ z := by
  rw [← pre_vw] at hz
  obtain ⟨x, hx, e⟩ := pre_iff.1 hz
  rw [← e]; exact (h.rng x hx).1
theorem RelP.facts {xs xs2 : List VN} {q : Nat} {n : Int} (hG : GOk xs q) (h : RelP xs n xs2) : (∀ z, liveG xs2 z = (liveG xs z && decide (z ≠ n))) ∧ (∀ z, preG xs2 z = true → preG xs z = true) ∧ KO xs2 := by
  obtain ⟨xs1, N, h1, h2, h3⟩ := h
  have hG1 : GF (vw xs1) := by rw [show vw xs1 = dead (vw xs) n from funext h1]; exact hG.gf.dead n
  have hpos : ∀ z, (vw xs1 z).isSome = true → 1 ≤ z := fun z hz => by rw [h1, dead_iss] at hz; exact hG.pos z hz
  obtain ⟨k1, k2, k3⟩ := keep_base hG1 hpos h2 h3
  have hlive : ∀ z, liveG xs1 z = (liveG xs z && decide (z ≠ n)) := fun z => by
    rw [live_vw, live_vw, h1, dead]
    by_cases hz : z = n
    · rw [if_pos hz, decide_eq_false (fun h => h hz), Bool.and_false]
      cases vw xs z <;> rfl
    · rw [if_neg hz, decide_eq_true hz, Bool.and_true]
  refine ⟨fun z => by rw [k1, hlive], fun z hz => ?_, fun z hz => ?_⟩
  · rw [pre_vw, h3] at hz
    rw [pre_vw]
    unfold keep at hz
    split at hz
    · cases hf : vw xs1 z with
      | none => rw [hf] at hz; cases hz
      | some p =>
        rw [← dead_iss (vw xs) n, ← h1, hf]; rfl
    · cases hz
  · rw [pre_vw, h3] at hz
    unfold keep at hz
    split at hz
    · rename_i hN
      rcases (h2 z).1 hN with h | ⟨h, x, y, hx, hy, hxy, he⟩
      · exact .inl (by rw [k1]; exact h)
      · exact .inr ⟨h, x, y, by rw [k1]; exact hx, by rw [k1]; exact hy, hxy, by rw [k3 x y hxy hx hy]; exact he⟩
    · cases hz
theorem KO.rel {xs xs2 : List VN} {q : Nat} {n : Int} (h : KO xs) (hG : GOk xs q) (hR : RelQ xs n xs2) : KO xs2 := by
  rcases hR with ⟨_, hR⟩ | ⟨_, rfl⟩
  · exact (hR.facts hG).2.2
  · exact h
theorem AddP.facts {xs xs2 : List VN} {cap last last2 : Int} {ps : List Int} (hl : ∀ x ∈ xs, x.n ≤ last) (ha : AddP xs cap last ps xs2 last2) : (addE xs cap ps ≠ 0 ∧ xs2 = xs ∧ last2 = last) ∨ (addE xs cap ps = 0 ∧ last2 = last + 1 ∧ preG xs (last + 1) = false ∧ (∀ z, liveG xs2 z = (liveG xs z || decide (z = last + 1))) ∧ (∀ z, preG xs2 z = (preG xs z || decide (z = last + 1))) ∧ xs2.length = xs.length + 1) := by
  by_cases h0 : addE xs cap ps = 0
  · obtain ⟨h1, h2, ab, _, _, hv⟩ := ha.vw hl h0
    have hn : preG xs (last + 1) = false := by
      cases hp : preG xs (last + 1) with
      | false => rfl
      | true =>
        obtain ⟨x, hx, e⟩ := pre_iff.1 hp
        have := hl x hx; omega
    refine .inr ⟨h0, h1, hn, fun z => ?_, fun z => ?_, h2⟩
    · rw [live_vw, live_vw, hv]
      by_cases hz : z = last + 1
      · rw [if_pos hz, decide_eq_true hz, Bool.or_true]; rfl
      · rw [if_neg hz, decide_eq_false hz, Bool.or_false]
    · rw [pre_vw, pre_vw, hv]
      by_cases hz : z = last + 1
      · rw [if_pos hz, decide_eq_true hz, Bool.or_true]; rfl
      · rw [if_neg hz, decide_eq_false hz, Bool.or_false]
  · rcases ha with h | ⟨h2, _⟩
    · exact .inl h
    · exact absurd h2 h0
theorem RelQ.live {xs xs2 : List VN} {q : Nat} {n : Int} (hG : GOk xs q) (h : RelQ xs n xs2) {z : Int} (hz : liveG xs2 z = true) : liveG xs z = true ∧ z ≠ n := by
  rcases h with ⟨_, h⟩ | ⟨h, rfl⟩
  · rw [(h.facts hG).1 z] at hz
    simp only [Bool.and_eq_true, decide_eq_true_eq] at hz
    exact hz
  · exact ⟨hz, fun e => by rw [e, h] at hz; cases hz⟩
theorem RelQ.same {xs xs2 : List VN} {n : Int} (h : RelQ xs n xs2) (hl : liveG xs n = false) : xs2 = xs := by
  rcases h with ⟨h, _⟩ | ⟨_, h⟩
  · rw [hl] at h; cases h
  · exact h
theorem relE_yes {xs : List VN} {n : Int} (h : relE xs n = 0) : liveG xs n = true := by
  unfold relE at h
  split at h
  · assumption
  · omega
def Gon (xs : List VN) (la : Int) (gn : List Int) : Prop := ∀ v ∈ gn, liveG xs v = false ∧ v ≤ la
theorem Gon.rel {xs xs2 : List VN} {q : Nat} {n la : Int} {gn : List Int} (h : Gon xs la gn) (hG : GOk xs q) (hR : RelQ xs n xs2) : Gon xs2 la gn := fun v hv => by
  refine ⟨?_, (h v hv).2⟩
  cases hl : liveG xs2 v with
  | false => rfl
  | true => have := (hR.live hG hl).1; rw [(h v hv).1] at this; cases this
theorem Gon.snoc {xs xs2 : List VN} {q : Nat} {n cap la : Int} {gn : List Int} (h : Gon xs la gn) (hI : GI xs q cap la) (hR : RelQ xs n xs2) (h0 : relE xs n = 0) : Gon xs2 la (gn ++ [n]) := fun v hv => by
  rcases List.mem_append.1 hv with hv | hv
  · exact h.rel hI.ok hR v hv
  · rw [List.mem_singleton.1 hv]
    refine ⟨?_, ?_⟩
    · cases hl : liveG xs2 n with
      | false => rfl
      | true => exact absurd rfl (hR.live hI.ok hl).2
    · obtain ⟨x, hx, e⟩ := pre_iff.1 (live_pre (relE_yes h0))
      rw [← e]; exact hI.le x hx
theorem Gon.add {xs xs2 : List VN} {q : Nat} {cap la la2 : Int} {ps gn : List Int} (h : Gon xs la gn) (hI : GI xs q cap la) (hA : AddP xs cap la ps xs2 la2) : Gon xs2 la2 gn := by
  rcases hA.facts hI.le with ⟨_, rfl, rfl⟩ | ⟨_, rfl, _, h4, _⟩
  · exact h
  · intro v hv
    obtain ⟨h5, h6⟩ := h v hv
    refine ⟨?_, by omega⟩
    rw [h4, h5, decide_eq_false (by omega)]; rfl
structure Cg where
  rel : Bool
  ver : Int
  ps : List Int
  a : Option Addr
  c : Nat
def cgC (z : Cg) : List Value := [.bool z.rel, .int .i64 z.ver, .slice z.a (i64s z.ps).length z.c]
def enG (l : List Cg) : List (List Value) := l.map cgC
@[simp] theorem enG_len (l : List Cg) : (enG l).length = l.length := by simp [enG]
abbrev Ir (n : Int) : Prop := -9223372036854775808 ≤ n ∧ n ≤ 9223372036854775807
structure CgOk (z : Cg) : Prop where
  ver : Ir z.ver
  ps : ∀ x ∈ z.ps, Ir x
end Go.V
namespace Go.V
open Go Go.RowKit
theorem abG_pos {xs : List VN} {q : Nat} (hG : GOk xs q) (n : Int) : ∀ z ∈ abG xs n, 1 ≤ z ∧ preG xs z = true := fun z hz => by
  cases hf : vfind xs n with
  | none => rw [(g_out hf).2.2] at hz; cases hz
  | some x =>
    rw [(g_in hf).2.2] at hz
    have h1 := hG.pre x (vfind_some hf).1 z hz
    obtain ⟨y, hy, e⟩ := pre_iff.1 h1
    exact ⟨by rw [← e]; exact (hG.rng y hy).1, h1⟩
theorem base_self {xs : List VN} {q : Nat} (hG : GOk xs q) {n : Int} (hl : liveG xs n = true) : baseG xs n n = n := by
  rw [baseG_pos hl hl]
  obtain ⟨k, x, hx, hn, _, ha⟩ := live_ix hl
  have hm := List.mem_of_getElem? hx
  rw [ha]
  subst hn
  exact gcm_is (hG.asc x hm) (hG.self x hm) (hG.self x hm) fun z hz _ => hG.le x hm z hz
theorem base_comm {xs : List VN} {q : Nat} (hG : GOk xs q) (x y : Int) : baseG xs y x = baseG xs x y := by
  unfold baseG
  by_cases h : liveG xs x = true ∧ liveG xs y = true
  · rw [if_pos h, if_pos ⟨h.2, h.1⟩]; exact gcm_comm (hG.ascA y) (hG.ascA x)
  · rw [if_neg h, if_neg (fun k => h ⟨k.2, k.1⟩)]
theorem base_pre {xs : List VN} {q : Nat} (hG : GOk xs q) {x y : Int} (h : baseG xs x y ≠ 0) : preG xs (baseG xs x y) = true := by
  unfold baseG at h ⊢
  split at h
  · rename_i hl
    rw [if_pos hl]
    rcases gcm_cases (l := abG xs x) (m := abG xs y) (hG.ascA x) with ⟨h2, _⟩ | ⟨h2, _, _⟩
    · exact absurd h2 h
    · exact (abG_pos hG x _ h2).2
  · exact absurd rfl h
end Go.V
namespace Go.V
open Go Go.RowKit Go.Maps Go.Sort
structure KOk {α : Type} (f : α → Value × Value × Nat) (n : α → Int) (xs : List α) (q : Nat) : Prop where
  key : ∀ x ∈ xs, (f x).1 = .int .i64 (n x)
  uniq : xs.Pairwise fun x y => n x ≠ n y
  born : ∀ x ∈ xs, (f x).2.2 < q
  bnd : (xs.map fun x => (f x).2.2).Nodup
  rng : ∀ x ∈ xs, -9223372036854775808 ≤ n x ∧ n x ≤ 9223372036854775807
  num : xs.length ≤ 4096
section
variable {P : Program} {k : TypeId} {α : Type} {f : α → Value × Value × Nat} {n : α → Int}
theorem keys_of (xs : List α) (q : Nat) (h : KOk f n xs q) (hk : P.underlying k = some (.int .i64)) {w : World} {b : Nat} (hb : w.heap[b]? = some (.map (mE (xs.map f)) q)) :
    ∃ D : DataW Unit, w.ownsMap P k noRdI b 4096 D ∧ Maps.size D = xs.length ∧ (intKeys D).Perm (xs.map n) := by
  have hrd : ∀ x : α, x ∈ xs → Go.WideElems.rd P k noRdI ⟨(f x).1, (f x).2.1, (f x).2.2⟩ = some (.int .i64 (n x), .nil) := fun x hx => by
    have h1 := h.rng x hx
    have h2 : (Lit.int .i64 (n x)).wf = true := by
      have e1 : IntKind.i64.min = -9223372036854775808 := by decide
      have e2 : IntKind.i64.max = 9223372036854775807 := by decide
      simp only [Lit.wf, e1, e2, Bool.and_eq_true, decide_eq_true_eq]
      omega
    have h3 : keyOf P k (.int .i64 (n x)) = some (.int .i64 (n x)) := by simp [keyOf, hk, mapKey, h2]
    simp [Go.WideElems.rd, h.key x hx, h3, noRdI]
  have hF : Go.WideElems.Fit P k noRdI (mE (xs.map f)) q := by
    refine ⟨by rw [mE_size, List.length_map]; exact Nat.le_trans h.num (by decide), ⟨?_, ?_, ?_⟩, ?_⟩
    · intro x hx
      simp only [mE_toList, List.map_map, List.mem_map] at hx
      obtain ⟨y, hy, rfl⟩ := hx
      exact h.born y hy
    · rw [mE_toList, List.map_map, List.map_map]
      exact h.bnd
    · rw [mE_toList, List.map_map, List.map_map]
      refine List.pairwise_map.2 (List.Pairwise.imp_of_mem (R := fun x y => n x ≠ n y) (fun {a b} ha hb' hne he => hne ?_) h.uniq)
      simp only [Function.comp_def, h.key a ha, h.key b hb'] at he
      exact (Value.int.inj he).2
    · intro x hx
      simp only [mE_toList, List.map_map, List.mem_map] at hx
      obtain ⟨y, hy, rfl⟩ := hx
      exact ⟨_, hrd y hy⟩
  refine ⟨_, ⟨_, _, hb, hF, by rw [mE_size, List.length_map]; exact h.num, rfl⟩, ?_, ?_⟩
  · rw [Maps.size_eq, (WideShapes.sorted_perm _).length_eq]; simp
  · refine ((WideShapes.sorted_perm _).map _).trans ?_
    rw [mE_toList, List.map_map, List.map_map, List.map_map]
    refine List.Perm.of_eq (List.map_congr_left fun x hx => ?_)
    simp only [Function.comp_def, Go.WideElems.rg, hrd x hx, Option.getD_some, intOf]
theorem ki_key {xs : List α} (h : ∀ x ∈ xs, (f x).1 = .int .i64 (n x)) : ∀ x ∈ xs.map f, MapKept.IsKey (.int .i64) x.1 := fun x hx => by
  obtain ⟨y, hy, rfl⟩ := List.mem_map.1 hx
  rw [h y hy]; rfl
theorem ki_in {xs : List α} (h1 : ∀ x ∈ xs, (f x).1 = .int .i64 (n x)) (hu : xs.Pairwise fun x y => n x ≠ n y) {k : Nat} {x : α} (hx : xs[k]? = some x) : mfind (.int .i64) (.int .i64 (n x)) (xs.map f) = some (some (k, (f x).2.1)) := by
  refine mfind_some (d := .int .i64) (k := .int .i64 (n x)) (b := (f x).2.2) rfl (ki_key h1) (by rw [List.getElem?_map, hx]; show some (f x) = _; rw [← h1 x (List.mem_of_getElem? hx)]) fun j hj y hy => ?_
  rw [List.getElem?_map] at hy
  cases hz : xs[j]? with
  | none => rw [hz] at hy; cases hy
  | some u =>
    rw [hz] at hy
    simp only [Option.map_some, Option.some.injEq] at hy
    subst hy
    intro he
    rw [h1 u (List.mem_of_getElem? hz)] at he
    have he2 : n u = n x := (Value.int.inj he).2
    have hl := (List.getElem?_eq_some_iff.1 hz).1
    have hl2 := (List.getElem?_eq_some_iff.1 hx).1
    refine List.pairwise_iff_getElem.1 hu j k hl hl2 hj ?_
    rw [(List.getElem?_eq_some_iff.1 hz).2, (List.getElem?_eq_some_iff.1 hx).2, he2]
theorem ki_out {xs : List α} (h1 : ∀ x ∈ xs, (f x).1 = .int .i64 (n x)) {m : Int} (h : ∀ x ∈ xs, n x ≠ m) : mfind (.int .i64) (.int .i64 m) (xs.map f) = some none := by
  refine mfind_none (d := .int .i64) (k := .int .i64 m) rfl (ki_key h1) fun x hx => ?_
  obtain ⟨y, hy, rfl⟩ := List.mem_map.1 hx
  rw [h1 y hy]
  intro he
  exact h y hy (Value.int.inj he).2
theorem ki_cases (n : α → Int) (xs : List α) (m : Int) : (∃ (k : Nat) (x : α), xs[k]? = some x ∧ n x = m) ∨ ∀ x ∈ xs, n x ≠ m := by
  by_cases h : ∃ x ∈ xs, n x = m
  · obtain ⟨x, hx, hn⟩ := h
    obtain ⟨k, hk⟩ := List.mem_iff_getElem?.1 hx
    exact .inl ⟨k, x, hk, hn⟩
  · exact .inr fun x hx hn => h ⟨x, hx, hn⟩
theorem KOk.nil : KOk f n [] 0 := ⟨fun _ h => (by cases h), List.Pairwise.nil, fun _ h => (by cases h), List.nodup_nil, fun _ h => (by cases h), by simp⟩
theorem KOk.snoc {xs : List α} {q : Nat} (h : KOk f n xs q) {x : α} (hk : (f x).1 = .int .i64 (n x)) (hn : ∀ y ∈ xs, n y ≠ n x) (hb : (f x).2.2 = q) (hr : -9223372036854775808 ≤ n x ∧ n x ≤ 9223372036854775807) (hl : xs.length < 4096) : KOk f n (xs ++ [x]) (q + 1) := by
  refine ⟨fun y hy => ?_, ?_, fun y hy => ?_, ?_, fun y hy => ?_, by simp; omega⟩
  · rcases List.mem_append.1 hy with hy | hy
    · exact h.key y hy
    · rw [List.mem_singleton.1 hy]; exact hk
  · refine List.pairwise_append.2 ⟨h.uniq, List.pairwise_singleton _ _, fun a ha b hb' => ?_⟩
    rw [List.mem_singleton.1 hb']; exact hn a ha
  · rcases List.mem_append.1 hy with hy | hy
    · exact Nat.lt_succ_of_lt (h.born y hy)
    · rw [List.mem_singleton.1 hy, hb]; exact Nat.lt_succ_self _
  · rw [List.map_append]
    refine List.nodup_append.2 ⟨h.bnd, List.pairwise_singleton _ _, fun a ha b hb' e => ?_⟩
    rw [List.map_singleton, List.mem_singleton] at hb'
    obtain ⟨y, hy, rfl⟩ := List.mem_map.1 ha
    have := h.born y hy
    rw [e, hb', hb] at this; omega
  · rcases List.mem_append.1 hy with hy | hy
    · exact h.rng y hy
    · rw [List.mem_singleton.1 hy]; exact hr
theorem KOk.erase {xs : List α} {q : Nat} (h : KOk f n xs q) (j : Nat) : KOk f n (xs.eraseIdx j) q := by
  have hs := List.eraseIdx_sublist xs j
  exact ⟨fun y hy => h.key y (hs.subset hy), h.uniq.sublist hs, fun y hy => h.born y (hs.subset hy), h.bnd.sublist (hs.map _), fun y hy => h.rng y (hs.subset hy), Nat.le_trans hs.length_le h.num⟩
theorem keysR_ex {xs : List α} {q : Nat} (h : KOk f n xs q) : ∃ ss : List Int, ss.Perm (xs.map n) ∧ (ss.Pairwise fun a b => a < b) ∧ ∀ z, z ∈ ss ↔ ∃ r ∈ xs, n r = z := by
  have hp : ((xs.map n).mergeSort fun x y => decide (x ≤ y)).Perm (xs.map n) := List.mergeSort_perm _ _
  have hs : ((xs.map n).mergeSort fun x y => decide (x ≤ y)).Pairwise (fun a b => decide (a ≤ b) = true) := List.pairwise_mergeSort (fun a b c h1 h2 => by simp at *; omega) (fun a b => by simp; omega) _
  have hd : (xs.map n).Nodup := List.pairwise_map.2 h.uniq
  refine ⟨_, hp, ?_, fun z => by rw [hp.mem_iff, List.mem_map]⟩
  have h1 := (hp.nodup_iff).2 hd
  refine List.Pairwise.imp (fun {a b} h => ?_) (List.Pairwise.and hs h1)
  have h2 := of_decide_eq_true h.1
  have h3 := h.2
  omega
theorem erase_mem' {xs : List α} (hu : xs.Pairwise fun x y => n x ≠ n y) {j : Nat} {u : α} (hj : xs[j]? = some u) (x : α) : x ∈ xs.eraseIdx j ↔ x ∈ xs ∧ n x ≠ n u := by
  induction xs generalizing j with
  | nil => simp at hj
  | cons y ys ih =>
    obtain ⟨h1, h2⟩ := List.pairwise_cons.1 hu
    cases j with
    | zero =>
      simp only [List.getElem?_cons_zero, Option.some.injEq] at hj
      subst hj
      rw [List.eraseIdx_cons_zero, List.mem_cons]
      constructor
      · intro hx; exact ⟨.inr hx, fun e => h1 x hx e.symm⟩
      · rintro ⟨rfl | hx, hn⟩
        · exact absurd rfl hn
        · exact hx
    | succ j =>
      rw [List.getElem?_cons_succ] at hj
      rw [List.eraseIdx_cons_succ, List.mem_cons, List.mem_cons, ih h2 hj]
      constructor
      · rintro (rfl | ⟨hx, hn⟩)
        · exact ⟨.inl rfl, h1 u (List.mem_of_getElem? hj)⟩
        · exact ⟨.inr hx, hn⟩
      · rintro ⟨rfl | hx, hn⟩
        · exact .inl rfl
        · exact .inr ⟨hx, hn⟩
end
end Go.V
/-! ## Skp -/
namespace Go.Proofs
open Go.Shelf
def Tryz.keysA_ren : Go.Shelf.Ren := ⟨fun | 7 => 194 | 10 => 221 | n => n, fun | 23 => 229 | 26 => 3 | 3 => 247 | 28 => 166 | 0 => 0 | 27 => 165 | 33 => 163 | 4 => 4 | n => n, fun | n => n⟩
theorem Tryz.keysA : Go.Proofs.SlLaysZI.n7 Tryz.prog Tryz.keysA_ren := {
  mixed := by kernel_rfl
  f7 := ⟨Tryz.f194.name, by decide, Tryz.func194.trans (congrArg some (by kernel_rfl))⟩
  f10 := ⟨Tryz.f221.name, by decide, Tryz.func221.trans (congrArg some (by kernel_rfl))⟩
  t0 := Tryz.underlying0
  a0 := Tryz.isAgg0
  z0 := Tryz.sizeOf0
  v0 := Tryz.zeroValue0
  t4 := Tryz.underlying4
  a4 := Tryz.isAgg4
  z4 := Tryz.sizeOf4
  v4 := Tryz.zeroValue4
  t23 := Tryz.underlying229
  a23 := Tryz.isAgg229
  z23 := Tryz.sizeOf229
  v23 := Tryz.zeroValue229
  t26 := Tryz.underlying3
  a26 := Tryz.isAgg3
  z26 := Tryz.sizeOf3
  v26 := Tryz.zeroValue3
  t27 := Tryz.underlying165
  a27 := Tryz.isAgg165
  z27 := Tryz.sizeOf165
  v27 := Tryz.zeroValue165
  t28 := Tryz.underlying166
  a28 := Tryz.isAgg166
  z28 := Tryz.sizeOf166
  v28 := Tryz.zeroValue166
  t33 := Tryz.underlying163
  a33 := Tryz.isAgg163
  z33 := Tryz.sizeOf163
  v33 := Tryz.zeroValue163 }
def Tryz.keysB_ren : Go.Shelf.Ren := ⟨fun | 7 => 78 | 10 => 147 | n => n, fun | 23 => 140 | 26 => 3 | 3 => 64 | 28 => 166 | 0 => 0 | 27 => 165 | 33 => 163 | 4 => 4 | n => n, fun | n => n⟩
theorem Tryz.keysB : Go.Proofs.SlLaysZI.n7 Tryz.prog Tryz.keysB_ren := {
  mixed := by kernel_rfl
  f7 := ⟨Tryz.f78.name, by decide, Tryz.func78.trans (congrArg some (by kernel_rfl))⟩
  f10 := ⟨Tryz.f147.name, by decide, Tryz.func147.trans (congrArg some (by kernel_rfl))⟩
  t0 := Tryz.underlying0
  a0 := Tryz.isAgg0
  z0 := Tryz.sizeOf0
  v0 := Tryz.zeroValue0
  t4 := Tryz.underlying4
  a4 := Tryz.isAgg4
  z4 := Tryz.sizeOf4
  v4 := Tryz.zeroValue4
  t23 := Tryz.underlying140
  a23 := Tryz.isAgg140
  z23 := Tryz.sizeOf140
  v23 := Tryz.zeroValue140
  t26 := Tryz.underlying3
  a26 := Tryz.isAgg3
  z26 := Tryz.sizeOf3
  v26 := Tryz.zeroValue3
  t27 := Tryz.underlying165
  a27 := Tryz.isAgg165
  z27 := Tryz.sizeOf165
  v27 := Tryz.zeroValue165
  t28 := Tryz.underlying166
  a28 := Tryz.isAgg166
  z28 := Tryz.sizeOf166
  v28 := Tryz.zeroValue166
  t33 := Tryz.underlying163
  a33 := Tryz.isAgg163
  z33 := Tryz.sizeOf163
  v33 := Tryz.zeroValue163 }
def Tryz.sortedA_ren : Go.Shelf.Ren := ⟨fun | 6 => 77 | 8 => 145 | 9 => 146 | 11 => 196 | 13 => 198 | 12 => 197 | 23 => 231 | 24 => 232 | 14 => 222 | 15 => 223 | 16 => 224 | 17 => 225 | 18 => 226 | 19 => 227 | 20 => 228 | 21 => 229 | 22 => 230 | 25 => 257 | 26 => 258 | 27 => 259 | 28 => 260 | 29 => 261 | 30 => 262 | 31 => 270 | n => n, fun | 26 => 3 | 28 => 166 | 24 => 56 | 0 => 0 | 3 => 3 | 37 => 299 | 48 => 64 | 50 => 23 | 4 => 4 | 40 => 328 | 39 => 327 | 45 => 332 | 5 => 5 | 9 => 9 | 51 => 356 | 55 => 360 | 57 => 367 | 58 => 368 | 33 => 163 | n => n, fun | n => n⟩
theorem Tryz.sortedA : Go.Proofs.SlLaysZI.n6 Tryz.prog Tryz.sortedA_ren := {
  mixed := by kernel_rfl
  f6 := ⟨Tryz.f77.name, by decide, Tryz.func77.trans (congrArg some (by kernel_rfl))⟩
  f8 := ⟨Tryz.f145.name, by decide, Tryz.func145.trans (congrArg some (by kernel_rfl))⟩
  f11 := ⟨Tryz.f196.name, by decide, Tryz.func196.trans (congrArg some (by kernel_rfl))⟩
  t0 := Tryz.underlying0
  a0 := Tryz.isAgg0
  z0 := Tryz.sizeOf0
  v0 := Tryz.zeroValue0
  t24 := Tryz.underlying56
  a24 := Tryz.isAgg56
  z24 := Tryz.sizeOf56
  v24 := Tryz.zeroValue56
  t26 := Tryz.underlying3
  a26 := Tryz.isAgg3
  z26 := Tryz.sizeOf3
  v26 := Tryz.zeroValue3
  t28 := Tryz.underlying166
  a28 := Tryz.isAgg166
  z28 := Tryz.sizeOf166
  v28 := Tryz.zeroValue166
  i26 := by kernel_rfl }
def Tryz.sortA_ren : Go.Shelf.Ren := ⟨fun | 5 => 146 | 8 => 198 | 7 => 197 | 19 => 231 | 20 => 232 | 10 => 222 | 11 => 223 | 12 => 224 | 13 => 225 | 14 => 226 | 15 => 227 | 16 => 228 | 17 => 229 | 18 => 230 | 30 => 257 | 31 => 258 | 32 => 259 | 33 => 260 | 34 => 261 | 35 => 262 | 40 => 270 | n => n, fun | 23 => 56 | 25 => 3 | 3 => 3 | 32 => 299 | 22 => 56 | 0 => 0 | 44 => 64 | 46 => 23 | 4 => 4 | 36 => 328 | 35 => 327 | 41 => 332 | 5 => 5 | 9 => 9 | 53 => 356 | 57 => 360 | 63 => 367 | 64 => 368 | n => n, fun | n => n⟩
theorem Tryz.sortA : Go.Proofs.SlLaysM.n5 Tryz.prog Tryz.sortA_ren := {
  mixed := by kernel_rfl
  f5 := ⟨Tryz.f146.name, by decide, Tryz.func146.trans (congrArg some (by kernel_rfl))⟩
  f7 := ⟨Tryz.f197.name, by decide, Tryz.func197.trans (congrArg some (by kernel_rfl))⟩
  f8 := Tryz.func198.trans (congrArg some (by kernel_rfl))
  f10 := ⟨Tryz.f222.name, by decide, Tryz.func222.trans (congrArg some (by kernel_rfl))⟩
  f11 := ⟨Tryz.f223.name, by decide, Tryz.func223.trans (congrArg some (by kernel_rfl))⟩
  f12 := ⟨Tryz.f224.name, by decide, Tryz.func224.trans (congrArg some (by kernel_rfl))⟩
  f13 := ⟨Tryz.f225.name, by decide, Tryz.func225.trans (congrArg some (by kernel_rfl))⟩
  f14 := ⟨Tryz.f226.name, by decide, Tryz.func226.trans (congrArg some (by kernel_rfl))⟩
  f15 := ⟨Tryz.f227.name, by decide, Tryz.func227.trans (congrArg some (by kernel_rfl))⟩
  f16 := ⟨Tryz.f228.name, by decide, Tryz.func228.trans (congrArg some (by kernel_rfl))⟩
  f17 := ⟨Tryz.f229.name, by decide, Tryz.func229.trans (congrArg some (by kernel_rfl))⟩
  f18 := ⟨Tryz.f230.name, by decide, Tryz.func230.trans (congrArg some (by kernel_rfl))⟩
  f19 := Tryz.func231.trans (congrArg some (by kernel_rfl))
  f20 := Tryz.func232.trans (congrArg some (by kernel_rfl))
  f30 := ⟨Tryz.f257.name, by decide, Tryz.func257.trans (congrArg some (by kernel_rfl))⟩
  f31 := Tryz.func258.trans (congrArg some (by kernel_rfl))
  f32 := Tryz.func259.trans (congrArg some (by kernel_rfl))
  f33 := ⟨Tryz.f260.name, by decide, Tryz.func260.trans (congrArg some (by kernel_rfl))⟩
  f34 := ⟨Tryz.f261.name, by decide, Tryz.func261.trans (congrArg some (by kernel_rfl))⟩
  f35 := ⟨Tryz.f262.name, by decide, Tryz.func262.trans (congrArg some (by kernel_rfl))⟩
  f40 := ⟨Tryz.f270.name, by decide, Tryz.func270.trans (congrArg some (by kernel_rfl))⟩
  t0 := Tryz.underlying0
  a0 := Tryz.isAgg0
  z0 := Tryz.sizeOf0
  v0 := Tryz.zeroValue0
  t3 := Tryz.underlying3
  a3 := Tryz.isAgg3
  z3 := Tryz.sizeOf3
  v3 := Tryz.zeroValue3
  t4 := Tryz.underlying4
  a4 := Tryz.isAgg4
  z4 := Tryz.sizeOf4
  v4 := Tryz.zeroValue4
  t5 := Tryz.underlying5
  a5 := Tryz.isAgg5
  z5 := Tryz.sizeOf5
  v5 := Tryz.zeroValue5
  t9 := Tryz.underlying9
  a9 := Tryz.isAgg9
  z9 := Tryz.sizeOf9
  v9 := Tryz.zeroValue9
  t22 := Tryz.underlying56
  a22 := Tryz.isAgg56
  z22 := Tryz.sizeOf56
  v22 := Tryz.zeroValue56
  t23 := Tryz.underlying56
  a23 := Tryz.isAgg56
  z23 := Tryz.sizeOf56
  v23 := Tryz.zeroValue56
  t25 := Tryz.underlying3
  a25 := Tryz.isAgg3
  z25 := Tryz.sizeOf3
  v25 := Tryz.zeroValue3
  t32 := Tryz.underlying299
  a32 := Tryz.isAgg299
  z32 := Tryz.sizeOf299
  v32 := Tryz.zeroValue299
  t35 := Tryz.underlying327
  a35 := Tryz.isAgg327
  z35 := Tryz.sizeOf327
  v35 := Tryz.zeroValue327
  t36 := Tryz.underlying328
  a36 := Tryz.isAgg328
  z36 := Tryz.sizeOf328
  v36 := Tryz.zeroValue328
  t41 := Tryz.underlying332
  a41 := Tryz.isAgg332
  z41 := Tryz.sizeOf332
  v41 := Tryz.zeroValue332
  t44 := Tryz.underlying64
  a44 := Tryz.isAgg64
  z44 := Tryz.sizeOf64
  v44 := Tryz.zeroValue64
  t46 := Tryz.underlying23
  a46 := Tryz.isAgg23
  z46 := Tryz.sizeOf23
  v46 := Tryz.zeroValue23
  t53 := Tryz.underlying356
  a53 := Tryz.isAgg356
  z53 := Tryz.sizeOf356
  v53 := Tryz.zeroValue356
  t57 := Tryz.underlying360
  a57 := Tryz.isAgg360
  z57 := Tryz.sizeOf360
  v57 := Tryz.zeroValue360
  t63 := Tryz.underlying367
  a63 := Tryz.isAgg367
  z63 := Tryz.sizeOf367
  v63 := Tryz.zeroValue367
  t64 := Tryz.underlying368
  a64 := Tryz.isAgg368
  z64 := Tryz.sizeOf368
  v64 := Tryz.zeroValue368 }
def Tryz.compactA_ren : Go.Shelf.Ren := ⟨fun | 43 => 219 | n => n, fun | 22 => 56 | 23 => 3 | 3 => 3 | 4 => 4 | 0 => 0 | n => n, fun | n => n⟩
theorem Tryz.compactA : Go.Proofs.SlLaysN.n43 Tryz.prog Tryz.compactA_ren := {
  mixed := by kernel_rfl
  f43 := ⟨Tryz.f219.name, by decide, Tryz.func219.trans (congrArg some (by kernel_rfl))⟩
  t0 := Tryz.underlying0
  a0 := Tryz.isAgg0
  z0 := Tryz.sizeOf0
  v0 := Tryz.zeroValue0
  t3 := Tryz.underlying3
  a3 := Tryz.isAgg3
  z3 := Tryz.sizeOf3
  v3 := Tryz.zeroValue3
  t4 := Tryz.underlying4
  a4 := Tryz.isAgg4
  z4 := Tryz.sizeOf4
  v4 := Tryz.zeroValue4
  t22 := Tryz.underlying56
  a22 := Tryz.isAgg56
  z22 := Tryz.sizeOf56
  v22 := Tryz.zeroValue56
  t23 := Tryz.underlying3
  a23 := Tryz.isAgg3
  z23 := Tryz.sizeOf3
  v23 := Tryz.zeroValue3
  i23 := by kernel_rfl }
def Tryz.delA_ren : Go.Shelf.Ren := ⟨fun | 10 => 143 | 6 => 195 | n => n, fun | 22 => 56 | 23 => 3 | 25 => 163 | 3 => 3 | 4 => 4 | 0 => 0 | n => n, fun | n => n⟩
theorem Tryz.delA : Go.Proofs.SlLaysH.n10 Tryz.prog Tryz.delA_ren := {
  mixed := by kernel_rfl
  f6 := ⟨Tryz.f195.name, by decide, Tryz.func195.trans (congrArg some (by kernel_rfl))⟩
  f10 := ⟨Tryz.f143.name, by decide, Tryz.func143.trans (congrArg some (by kernel_rfl))⟩
  t0 := Tryz.underlying0
  a0 := Tryz.isAgg0
  z0 := Tryz.sizeOf0
  v0 := Tryz.zeroValue0
  t3 := Tryz.underlying3
  a3 := Tryz.isAgg3
  z3 := Tryz.sizeOf3
  v3 := Tryz.zeroValue3
  t4 := Tryz.underlying4
  a4 := Tryz.isAgg4
  z4 := Tryz.sizeOf4
  v4 := Tryz.zeroValue4
  t22 := Tryz.underlying56
  a22 := Tryz.isAgg56
  z22 := Tryz.sizeOf56
  v22 := Tryz.zeroValue56
  a23 := Tryz.isAgg3
  z23 := Tryz.sizeOf3
  t25 := Tryz.underlying163
  a25 := Tryz.isAgg163
  z25 := Tryz.sizeOf163
  v25 := Tryz.zeroValue163 }
end Go.Proofs
/-! ## A1 -/
namespace Go.Proofs
open Go.RowKit Go.Maps Go.Sort Go.Shelf
theorem Tryz.sortsA (m : Nat) : AnyZI.SortsIn Tryz.prog Tryz.sortedA_ren Fence.wide m :=
  ⟨fun blk off cap ss W hH hblk hsz => callsIn_wide.2 (AnyM.slices_Sort_int Tryz.sortA blk off cap ss W hH hblk hsz),
   fun p cap W => callsIn_wide.2 (AnyM.slices_Sort_int_none Tryz.sortA p cap W)⟩
end Go.Proofs
namespace Go.Proofs.YtbeacjcmdijdmaaGreat
open Go Go.V Go.RowKit Go.Maps Go.Sort Go.Shelf
set_option maxRecDepth 8192 in
theorem live_in {g w : World} {L : List HP} (p m : Nat) (cap last : Int) (xs : List VN) (q : Nat) (k : Nat) (x : VN) (hx : xs[k]? = some x) (hu : VUq xs) (hS : St g (cel p #[.int .i64 cap, .int .i64 last, .map (some m)] 231 :: blk m (.map (mE (List.map vK xs)) q) :: Shs vF xs :: L) w) :
    Sp Tryz.prog 139 [.pointer (some ⟨p, 0, none⟩), .int .i64 x.n] w (fun v w' => v = .bool x.live ∧ St g (cel p #[.int .i64 cap, .int .i64 last, .map (some m)] 231 :: blk m (.map (mE (List.map vK xs)) q) :: Shs vF xs :: L) w') := by
  refine Sp.enter Tryz.func139 rfl (by kernel_rfl) (by kernel_rfl) ?_
  refine WC.seq <| WC.region <| WL.r 1 rfl <| WL.nil <| WC.seq <| WC.region <| WL.run 5 [.map (some m)] rfl (by exact hS.ld 0 rfl rfl) ?_
  refine WL.lk rfl rfl mt_229 1 hS rfl rfl rfl (by first | trivial | rfl) (r := some (k, .agg #[.bool x.live, .slice x.a (i64s x.ab).length x.c])) (v_in hx hu) rfl ?_
  refine WL.r 2 rfl <| WL.nil <| WC.ret ?_
  refine ⟨[.bool x.live], rfl, ?_⟩
  exact ⟨rfl, hS⟩
set_option maxRecDepth 8192 in
theorem live_out {g w : World} {L : List HP} (p m : Nat) (cap last : Int) (xs : List VN) (q : Nat) (n : Int) (hn : ∀ x ∈ xs, x.n ≠ n) (hS : St g (cel p #[.int .i64 cap, .int .i64 last, .map (some m)] 231 :: blk m (.map (mE (List.map vK xs)) q) :: Shs vF xs :: L) w) :
    Sp Tryz.prog 139 [.pointer (some ⟨p, 0, none⟩), .int .i64 n] w (fun v w' => v = .bool false ∧ St g (cel p #[.int .i64 cap, .int .i64 last, .map (some m)] 231 :: blk m (.map (mE (List.map vK xs)) q) :: Shs vF xs :: L) w') := by
  refine Sp.enter Tryz.func139 rfl (by kernel_rfl) (by kernel_rfl) ?_
  refine WC.seq <| WC.region <| WL.r 1 rfl <| WL.nil <| WC.seq <| WC.region <| WL.run 5 [.map (some m)] rfl (by exact hS.ld 0 rfl rfl) ?_
  refine WL.lk rfl rfl mt_229 1 hS rfl rfl rfl (by first | trivial | rfl) (r := none) (v_out hn) rfl ?_
  refine WL.r 2 rfl <| WL.nil <| WC.ret ?_
  refine ⟨[.bool false], rfl, ?_⟩
  exact ⟨rfl, hS⟩
set_option maxRecDepth 8192 in
theorem live_spec {g w : World} {L : List HP} (p m : Nat) (cap last : Int) (xs : List VN) (q : Nat) (n : Int) (hu : VUq xs) (hS : St g (cel p #[.int .i64 cap, .int .i64 last, .map (some m)] 231 :: blk m (.map (mE (List.map vK xs)) q) :: Shs vF xs :: L) w) :
    Sp Tryz.prog 139 [.pointer (some ⟨p, 0, none⟩), .int .i64 n] w (fun v w' => v = .bool (liveG xs n) ∧ St g (cel p #[.int .i64 cap, .int .i64 last, .map (some m)] 231 :: blk m (.map (mE (List.map vK xs)) q) :: Shs vF xs :: L) w') := by
  rcases v_cases xs n with ⟨k, x, hx, rfl⟩ | hn
  · rw [(g_in (vfind_in hx hu)).1]; exact live_in p m cap last xs q k x hx hu hS
  · rw [(g_out (vfind_out hn)).1]; exact live_out p m cap last xs q n hn hS
set_option maxRecDepth 8192 in
theorem pre_in {g w : World} {L : List HP} (p m : Nat) (cap last : Int) (xs : List VN) (q : Nat) (k : Nat) (x : VN) (hx : xs[k]? = some x) (hu : VUq xs) (hS : St g (cel p #[.int .i64 cap, .int .i64 last, .map (some m)] 231 :: blk m (.map (mE (List.map vK xs)) q) :: Shs vF xs :: L) w) :
    Sp Tryz.prog 76 [.pointer (some ⟨p, 0, none⟩), .int .i64 x.n] w (fun v w' => v = .bool true ∧ St g (cel p #[.int .i64 cap, .int .i64 last, .map (some m)] 231 :: blk m (.map (mE (List.map vK xs)) q) :: Shs vF xs :: L) w') := by
  refine Sp.enter Tryz.func76 rfl (by kernel_rfl) (by kernel_rfl) ?_
  refine WC.seq <| WC.region <| WL.r 1 rfl <| WL.nil <| WC.seq <| WC.region <| WL.run 5 [.map (some m)] rfl (by exact hS.ld 0 rfl rfl) ?_
  refine WL.lk rfl rfl mt_229 1 hS rfl rfl rfl (by first | trivial | rfl) (r := some (k, .agg #[.bool x.live, .slice x.a (i64s x.ab).length x.c])) (v_in hx hu) rfl ?_
  refine WL.r 3 rfl <| WL.new rfl rfl zv_247 hS (fun b1 w hS => ?_)
  refine WL.stF rfl rfl rfl 0 hS rfl rfl rfl rfl rfl ag_247 (fun w hS => ?_)
  replace hS := hS.n4 L (a0 := cel b1 #[.bool x.live, .slice x.a (List.length (i64s x.ab)) x.c] 247) rfl
  refine WL.r 1 rfl <| WL.nil <| WC.seq <| WC.region <| WL.r 2 rfl <| WL.nil <| WC.ret ?_
  refine ⟨[.bool true], rfl, ?_⟩
  replace hS := (hS.sel 1 [] rfl)
  exact ⟨rfl, hS⟩
set_option maxRecDepth 8192 in
theorem pre_out {g w : World} {L : List HP} (p m : Nat) (cap last : Int) (xs : List VN) (q : Nat) (n : Int) (hn : ∀ x ∈ xs, x.n ≠ n) (hS : St g (cel p #[.int .i64 cap, .int .i64 last, .map (some m)] 231 :: blk m (.map (mE (List.map vK xs)) q) :: Shs vF xs :: L) w) :
    Sp Tryz.prog 76 [.pointer (some ⟨p, 0, none⟩), .int .i64 n] w (fun v w' => v = .bool false ∧ St g (cel p #[.int .i64 cap, .int .i64 last, .map (some m)] 231 :: blk m (.map (mE (List.map vK xs)) q) :: Shs vF xs :: L) w') := by
  refine Sp.enter Tryz.func76 rfl (by kernel_rfl) (by kernel_rfl) ?_
  refine WC.seq <| WC.region <| WL.r 1 rfl <| WL.nil <| WC.seq <| WC.region <| WL.run 5 [.map (some m)] rfl (by exact hS.ld 0 rfl rfl) ?_
  refine WL.lk rfl rfl mt_229 1 hS rfl rfl rfl (by first | trivial | rfl) (r := none) (v_out hn) rfl ?_
  refine WL.r 3 rfl <| WL.new rfl rfl zv_247 hS (fun b1 w hS => ?_)
  refine WL.stF rfl rfl rfl 0 hS rfl rfl rfl rfl rfl ag_247 (fun w hS => ?_)
  replace hS := hS.n4 L (a0 := cel b1 #[.bool false, .slice none 0 0] 247) rfl
  refine WL.r 1 rfl <| WL.nil <| WC.seq <| WC.region <| WL.r 2 rfl <| WL.nil <| WC.ret ?_
  refine ⟨[.bool false], rfl, ?_⟩
  replace hS := (hS.sel 1 [] rfl)
  exact ⟨rfl, hS⟩
set_option maxRecDepth 8192 in
theorem pre_spec {g w : World} {L : List HP} (p m : Nat) (cap last : Int) (xs : List VN) (q : Nat) (n : Int) (hu : VUq xs) (hS : St g (cel p #[.int .i64 cap, .int .i64 last, .map (some m)] 231 :: blk m (.map (mE (List.map vK xs)) q) :: Shs vF xs :: L) w) :
    Sp Tryz.prog 76 [.pointer (some ⟨p, 0, none⟩), .int .i64 n] w (fun v w' => v = .bool (preG xs n) ∧ St g (cel p #[.int .i64 cap, .int .i64 last, .map (some m)] 231 :: blk m (.map (mE (List.map vK xs)) q) :: Shs vF xs :: L) w') := by
  rcases v_cases xs n with ⟨k, x, hx, rfl⟩ | hn
  · rw [(g_in (vfind_in hx hu)).2.1]; exact pre_in p m cap last xs q k x hx hu hS
  · rw [(g_out (vfind_out hn)).2.1]; exact pre_out p m cap last xs q n hn hS
set_option maxRecDepth 8192 in
theorem clone_sh {g w : World} {L : List HP} (ls : List Int) (a : Option Addr) (c : Nat) (hl : ls.length ≤ 1000000) (hS : St g (Sh 3 1 (i64s ls) a c :: L) w) :
    Sp Tryz.prog 144 [.slice a (List.length (i64s ls)) c] w (fun v w' => ∃ (a2 : Option Addr) (c2 : Nat), v = .slice a2 (List.length (i64s ls)) c2 ∧ St g (Own 3 1 (i64s ls) a2 c2 :: Sh 3 1 (i64s ls) a c :: L) w') := by
  refine Sp.enter Tryz.func144 rfl (by kernel_rfl) (by kernel_rfl) ?_
  have _ := hl
  refine WC.seq <| WC.region <| WL.r 1 rfl <| WL.nil <| WC.seq <| WC.seq <| WC.region <| WL.r 1 rfl <| WL.eqN rfl rfl el_56 rfl rfl <| WL.nil <| WC.if_ rfl (fun cd1 => ?_) (fun cd1 => ?_)
  · refine WC.seq <| WC.region <| WL.r 1 rfl <| WL.nil <| WC.ret ?_
    refine ⟨[.slice none 0 0], rfl, ?_⟩
    replace hS := hS.nil_ 3 1
    cases a with
    | some _ => cases cd1
    | none =>
      have h0 : ls = [] := by simpa [i64s] using hS.nilLS 1 rfl
      subst h0; exact ⟨_, _, rfl, hS⟩
  · refine WC.skip <| WC.seq <| WC.region <| WL.lit rfl rfl ([]) el_56 hS (by exact trivial) (by simp [OkE, Value.oneCell']) rfl (Nat.le_of_ble_eq_true rfl) (fun b1 w hS => ?_)
    refine WL.r 1 rfl <| WL.app rfl rfl 0 (i64s ls) el_56 hS rfl (hS.srcS 1 rfl) (List.nil_append _) (Rm.of (by first | omega | (simp <;> omega)) (by decide)) rfl rfl (fun a1 c1 w hS => ?_)
    replace hS := hS.n2 L (a0 := Own 3 1 (i64s ls) a1 c1) rfl
    refine WL.r 1 rfl <| WL.nil <| WC.ret ?_
    refine ⟨[.slice a1 (List.length (i64s ls)) c1], rfl, ?_⟩
    exact ⟨_, _, rfl, hS⟩
set_option maxRecDepth 8192 in
theorem keys_spec {g w : World} {L : List HP} (m : Nat) (hS : St g (L) w) :
    Sp Tryz.prog 194 [.map (some m)] w (fun v w' => ∃ (c : Nat), v = .func (.func 221) #[] #[.pointer (some ⟨c, 0, none⟩)] ∧ St g (cel c #[.map (some m)] 229 :: L) w') := by
  have h := callsIn_wide.1 (AnyZI.keys_in Tryz.keysA Fence.wide 5 trivial rfl (some m) w)
  refine ⟨⟨_, _, Tryz.func194, by kernel_rfl, rfl⟩, h.mono fun e w' ⟨he, hw⟩ => ⟨_, he, ?_⟩⟩
  subst hw
  exact ⟨_, rfl, hS.new _⟩
set_option maxRecDepth 8192 in
theorem sorted_spec {g w : World} {L : List HP} (m c q : Nat) (xs : List VN) (ss : List Int) (ht : VOk xs q) (hp : ss.Perm (xs.map VN.n)) (hs : ss.Pairwise (· ≤ ·)) (hS : St g (cel c #[.map (some m)] 229 :: blk m (.map (mE (List.map vK xs)) q) :: L) w) :
    Sp Tryz.prog 77 [.func (.func 221) #[] #[.pointer (some ⟨c, 0, none⟩)]] w (fun v w' => ∃ (a2 : Option Addr) (c2 : Nat), v = .slice a2 (List.length (i64s ss)) c2 ∧ St g (Own 3 1 (i64s ss) a2 c2 :: cel c #[.map (some m)] 229 :: blk m (.map (mE (List.map vK xs)) q) :: L) w') := by
  have hc : w.cell? ⟨c, 0, none⟩ = some (.map (some m)) := hS.ld 0 rfl rfl
  have hcl : c < w.heap.size := by
    have h1 := hS.heap 0 rfl
    exact (Array.getElem?_eq_some_iff.1 h1).1
  have hm := hS.heap 1 rfl
  obtain ⟨D, hD, hsz, hk⟩ := int_keys (P := Tryz.prog) (k := 3) xs q ht Tryz.underlying3 hm
  have hseq := AnyZI.keys_gives (ρ := Tryz.keysA_ren) { Tryz.keysA with } Fence.wide 2 trivial rfl (by omega) c m 4096 D w hcl hc hD
  have h := callsIn_wide.1 (AnyZI.sorted_in Tryz.sortedA Fence.wide 5 trivial trivial trivial trivial rfl (by omega) (Tryz.sortsA _) (enters_of Tryz.func146 (by kernel_rfl) rfl) 221 #[.pointer (some ⟨c, 0, none⟩)] trivial (enters_of Tryz.func221 (by kernel_rfl) rfl) _ _ (by rw [hsz]; exact Nat.le_trans ht.num (by decide)) (by rw [hsz]; have := ht.num; omega) w hseq)
  refine ⟨⟨_, _, Tryz.func77, by kernel_rfl, rfl⟩, h.mono fun e w' ⟨v, ys, he, hys, hrow, _, hb⟩ => ⟨v, he, ?_⟩⟩
  have hpp : ss.Perm ys := hp.trans (hys.trans hk).symm
  obtain ⟨a, c2, rfl, hS2⟩ := St.of_row (i64s ss) hS hb hrow (by rw [sort_eqI hpp hs, i64s_flat]) (by simpa using hpp.length_eq) (i64s_ok ss)
  exact ⟨a, c2, rfl, hS2⟩
set_option maxRecDepth 8192 in
theorem vers_spec {g w : World} {L : List HP} (p m : Nat) (cap last : Int) (xs : List VN) (q : Nat) (ss : List Int) (ht : VOk xs q) (hp : ss.Perm (xs.map VN.n)) (hs : ss.Pairwise (· ≤ ·)) (hS : St g (cel p #[.int .i64 cap, .int .i64 last, .map (some m)] 231 :: blk m (.map (mE (List.map vK xs)) q) :: Shs vF xs :: L) w) :
    Sp Tryz.prog 142 [.pointer (some ⟨p, 0, none⟩)] w (fun v w' => ∃ (a2 : Option Addr) (c2 : Nat), v = .slice a2 (List.length (i64s ss)) c2 ∧ St g (Own 3 1 (i64s ss) a2 c2 :: cel p #[.int .i64 cap, .int .i64 last, .map (some m)] 231 :: blk m (.map (mE (List.map vK xs)) q) :: Shs vF xs :: L) w') := by
  refine Sp.enter Tryz.func142 rfl (by kernel_rfl) (by kernel_rfl) ?_
  refine WC.seq <| WC.region <| WL.r 1 rfl <| WL.nil <| WC.seq <| WC.region <| WL.run 4 [.map (some m)] rfl (by exact hS.ld 0 rfl rfl) ?_
  refine WL.call rfl rfl (keys_spec (m := m)  (hS := hS)) rfl ?_
  clear hS; rintro _ w ⟨c1, rfl, hS⟩
  replace hS := hS.n4 L (a0 := cel c1 #[.map (some m)] 229) rfl
  refine WL.call rfl rfl (sorted_spec (m := m) (c := c1) (q := q) (xs := xs) (ss := ss) (ht := ht) (hp := hp) (hs := hs) (hS := (hS.sel 3 [0, 1, 0] rfl))) rfl ?_
  clear hS; rintro _ w ⟨a1, c2, rfl, hS⟩
  replace hS := hS.n5 L (a0 := Own 3 1 (i64s ss) a1 c2) rfl
  refine WL.r 1 rfl <| WL.nil <| WC.ret ?_
  refine ⟨[.slice a1 (List.length (i64s ss)) c2], rfl, ?_⟩
  replace hS := (hS.sel 4 [0, 2, 1] rfl)
  exact ⟨_, _, rfl, hS⟩
set_option maxRecDepth 8192 in
theorem sort_spec {g w : World} {L : List HP} (ls ss : List Int) (a : Option Addr) (c : Nat) (hne : ls ≠ []) (hl : ls.length ≤ 1000000) (hp : ss.Perm ls) (hs : ss.Pairwise (· ≤ ·)) (hS : St g (Own 3 1 (i64s ls) a c :: L) w) :
    Sp Tryz.prog 146 [.slice a (List.length (i64s ls)) c] w (fun v w' => v = .tuple #[] ∧ St g (Own 3 1 (i64s ss) a c :: L) w') := by
  obtain ⟨b, rfl⟩ := hS.addrI 0 rfl hne
  obtain ⟨hH, hb, hcap⟩ := hS.holdsI 0 rfl
  have h := AnyM.slices_Sort_int Tryz.sortA b 0 c ls w hH hb (by omega)
  rw [← i64s_len ls] at h
  refine ⟨⟨_, _, Tryz.func146, by kernel_rfl, rfl⟩, h.mono fun e w' ⟨he, n, os, hw⟩ => ⟨_, he, rfl, ?_⟩⟩
  subst hw
  rw [sort_eqI hp hs]
  exact hS.putI ss hp.length_eq n os
set_option maxRecDepth 8192 in
theorem compact_spec {g w : World} {L : List HP} (ls : List Int) (a : Option Addr) (c : Nat) (hne : ls ≠ []) (hl : ls.length ≤ 1000000) (hS : St g (Own 3 1 (i64s ls) a c :: L) w) :
    Sp Tryz.prog 219 [.slice a (List.length (i64s ls)) c] w (fun v w' => v = .slice a (List.length (i64s (Lib.compact ls))) c ∧ St g (Own 3 1 (i64s (Lib.compact ls)) a c :: L) w') := by
  obtain ⟨b, rfl⟩ := hS.addrI 0 rfl hne
  obtain ⟨hH, hb, hcap⟩ := hS.holdsI 0 rfl
  have h := AnyG.slices_Compact_int Tryz.compactA b 0 c ls w hH (by omega) hcap
  rw [← i64s_len ls] at h
  refine ⟨⟨_, _, Tryz.func219, by kernel_rfl, rfl⟩, h.mono fun e w' ⟨he, n, hw⟩ => ⟨_, he, by rw [i64s_len], ?_⟩⟩
  subst hw
  have hcl := compact_len ls
  have h2 := hS.putI (Lib.compact ls ++ List.replicate (ls.length - (Lib.compact ls).length) 0) (by simp; omega) n #[]
  rw [i64s_len]
  have h3 := h2.ownTake (Lib.compact ls).length
  rw [i64s_take, List.take_left] at h3
  simpa using h3
end Go.Proofs.YtbeacjcmdijdmaaGreat
/-! ## A2 -/
namespace Go.Proofs.YtbeacjcmdijdmaaGreat
open Go Go.V
set_option maxHeartbeats 1000000 in
set_option maxRecDepth 8192 in
theorem base_in {g w : World} {L : List HP} (p m : Nat) (cap last : Int) (xs : List VN) (q : Nat) (k1 k2 : Nat) (x y : VN) (hx : xs[k1]? = some x) (hy : xs[k2]? = some y) (hu : VUq xs) (hlx : x.live = true) (hly : y.live = true) (hax : Asc x.ab) (hay : Asc y.ab) (hbx : x.ab.length ≤ 1000000) (hby : y.ab.length ≤ 1000000) (hS : St g (cel p #[.int .i64 cap, .int .i64 last, .map (some m)] 231 :: blk m (.map (mE (List.map vK xs)) q) :: Shs vF xs :: L) w) :
    Sp Tryz.prog 83 [.pointer (some ⟨p, 0, none⟩), .int .i64 x.n, .int .i64 y.n] w (fun v w' => v = .int .i64 (gcm x.ab y.ab) ∧ St g (cel p #[.int .i64 cap, .int .i64 last, .map (some m)] 231 :: blk m (.map (mE (List.map vK xs)) q) :: Shs vF xs :: L) w') := by
  refine Sp.enter Tryz.func83 rfl (by kernel_rfl) (by kernel_rfl) ?_
  have _ := hby
  have _ := hbx
  refine WC.seq <| WC.region <| WL.r 1 rfl <| WL.nil <| WC.seq <| WC.seq <| WC.region <| WL.r 2 rfl <| WL.call rfl rfl (live_in (p := p) (m := m) (cap := cap) (last := last) (xs := xs) (q := q) (k := k1) (x := x) (hx := hx) (hu := hu) (hS := hS)) rfl ?_
  clear hS; rintro _ w ⟨rfl, hS⟩
  replace hS := hS.n3 L rfl
  refine WL.r 1 rfl <| WL.r 1 rfl <| WL.reb 15 (.bool false) (congrArg Value.bool (Bool.eq_false_iff.2 ((by rw [hlx]; decide)))) ?_
  refine WL.ung rfl rfl rfl <| WL.r 1 rfl <| WL.ung rfl rfl rfl <| WL.r 1 rfl <| WL.ung rfl rfl rfl <| WL.call rfl rfl (live_in (p := p) (m := m) (cap := cap) (last := last) (xs := xs) (q := q) (k := k2) (x := y) (hx := hy) (hu := hu) (hS := hS)) rfl ?_
  clear hS; rintro _ w ⟨rfl, hS⟩
  replace hS := hS.n3 L rfl
  refine WL.ung rfl rfl rfl <| WL.r 1 rfl <| WL.r 1 rfl <| WL.nil ?_
  as_aux_lemma =>
  refine WC.ifF rfl (by rw [hly]; rfl) ?_
  refine WC.skip <| WC.seq <| WC.plan [([0, 4, 7, 11, 1, 8, 2, 9, 3, 10, 5, 12, 6, 13, 14, 15], none)] (by kernel_rfl) (by kernel_rfl) ?_
  replace hS : St g (Sh 3 1 (i64s x.ab) x.a x.c :: cel p #[.int .i64 cap, .int .i64 last, .map (some m)] 231 :: blk m (.map (mE (List.map vK xs)) q) :: Shs vF xs :: L) w := hS.shsGet 2 rfl (List.mem_of_getElem? hx)
  replace hS : St g (Sh 3 1 (i64s y.ab) y.a y.c :: Sh 3 1 (i64s x.ab) x.a x.c :: cel p #[.int .i64 cap, .int .i64 last, .map (some m)] 231 :: blk m (.map (mE (List.map vK xs)) q) :: Shs vF xs :: L) w := hS.shsGet 3 rfl (List.mem_of_getElem? hy)
  refine WQ.run 10 [.map (some m), .map (some m)] rfl (by exact ⟨hS.ld 2 rfl rfl, hS.ld 2 rfl rfl⟩) ?_
  refine WQ.lk rfl rfl mt_229 3 hS rfl rfl rfl (by first | trivial | rfl) (r := some (k1, .agg #[.bool x.live, .slice x.a (i64s x.ab).length x.c])) (v_in hx hu) rfl ?_
  refine WQ.lk rfl rfl mt_229 3 hS rfl rfl rfl (by first | trivial | rfl) (r := some (k2, .agg #[.bool y.live, .slice y.a (i64s y.ab).length y.c])) (v_in hy hu) rfl ?_
  refine WQ.r 4 rfl <| WQ.nil ?_
  intro m1
  replace hS := hS.drewN m1; generalize hwm1 : World.drewN _ _ = w at *; clear hwm1
  refine WC.seq <| WC.seq <| WC.region ?_
  have h1l := i64s_len x.ab; have h2l := i64s_len y.ab
  refine WL.r 3 rfl <| WL.nw 37 rfl (w64 (by omega)) ?_
  refine WL.r 3 rfl <| WL.nw 40 rfl (w64 (by omega)) ?_
  refine WL.r 2 rfl <| WL.nil <| WC.block <| WC.loop [7, 8, 9, 10] (fun kM vs w => ∃ (ni nj : Nat), vs = [.slice x.a (List.length (i64s x.ab)) x.c, .slice y.a (List.length (i64s y.ab)) y.c, .int .i64 ((ni : Int) - 1), .int .i64 ((nj : Int) - 1)] ∧ St g (Sh 3 1 (i64s y.ab) y.a y.c :: Sh 3 1 (i64s x.ab) x.a x.c :: cel p #[.int .i64 cap, .int .i64 last, .map (some m)] 231 :: blk m (.map (mE (List.map vK xs)) q) :: Shs vF xs :: L) w ∧ (ni ≤ x.ab.length) ∧ (nj ≤ y.ab.length) ∧ (∀ z ∈ x.ab, z ∈ y.ab → z ∈ List.take ni x.ab ∧ z ∈ List.take nj y.ab) ∧ (ni + nj) = kM) ((List.length (i64s x.ab)) + (List.length (i64s y.ab))) ⟨(i64s x.ab).length, (i64s y.ab).length, rfl, hS, (Nat.le_of_eq h1l), (Nat.le_of_eq h2l), (fun z h1 h2 => ⟨by rw [h1l, List.take_length]; exact h1, by rw [h2l, List.take_length]; exact h2⟩), rfl⟩ ?_
  clear hS; rintro _ _ w j ⟨ni, nj, rfl, hS, hi, hj, hc, rfl⟩
  refine WC.seq <| WC.seq <| WC.region ?_
  have h1l := i64s_len x.ab; have h2l := i64s_len y.ab
  refine WL.r 2 rfl <| WL.rG 4 rfl (fun j => ?_)
  refine WL.prop 46 rfl (band (dd _) (dd _)) <| WL.nil ?_
  as_aux_lemma =>
  refine WC.ifP rfl (fun cd1 => ?_) (fun cd1 => ?_)
  · refine WC.skip <| WC.block <| WC.block <| WC.seq <| WC.plan [([0, 1, 4, 5, 2, 6, 3, 7, 8, 9], none)] (by kernel_rfl) (by kernel_rfl) ?_
    obtain ⟨u, hu1⟩ : ∃ u, x.ab[ni - 1]? = some u := ⟨_, List.getElem?_eq_getElem (by omega)⟩; obtain ⟨v, hv1⟩ : ∃ v, y.ab[nj - 1]? = some v := ⟨_, List.getElem?_eq_getElem (by omega)⟩
    have ei : ni - 1 + 1 = ni := by omega
    have ej : nj - 1 + 1 = nj := by omega
    refine WQ.r 4 rfl <| WQ.ix rfl rfl (i := (ni : Int) - 1) (ni - 1) el_56 rfl rfl (by omega) (by omega) (hS.rdS 1 rfl (i64s_at hu1)).1 ?_
    refine WQ.ix rfl rfl (i := (nj : Int) - 1) (nj - 1) el_56 rfl rfl (by omega) (by omega) (hS.rdS 0 rfl (i64s_at hv1)).1 ?_
    refine WQ.run 4 [.int .i64 u, .int .i64 v] rfl (by exact ⟨(hS.rdS 1 rfl (i64s_at hu1)).2 0 _ rfl, (hS.rdS 0 rfl (i64s_at hv1)).2 0 _ rfl⟩) ?_
    refine WQ.nil ?_
    intro m2
    replace hS := hS.drewN m2; generalize hwm2 : World.drewN _ _ = w at *; clear hwm2
    refine WC.ifP rfl (fun cd2 => ?_) (fun cd2 => ?_)
    · refine WC.seq <| WC.region <| WL.r 2 rfl <| WL.ix rfl rfl (i := (ni : Int) - 1) (ni - 1) el_56 rfl rfl (by omega) (by omega) (hS.rdS 1 rfl (i64s_at hu1)).1 ?_
      refine WL.run 2 [.int .i64 u] rfl (by exact (hS.rdS 1 rfl (i64s_at hu1)).2 0 _ rfl) ?_
      refine WL.nil <| WC.ret ?_
      refine ⟨[.int .i64 u], rfl, ?_⟩
      replace hS := (hS.sel 2 [] rfl)
      exact ⟨congrArg (Value.int .i64) (gcm_is hax (List.mem_of_getElem? hu1) (by rw [cd2]; exact List.mem_of_getElem? hv1) (fun z h1 h2 => take_le hax hu1 (by rw [ei]; exact (hc z h1 h2).1))).symm, hS⟩
    · refine WC.seq <| WC.plan [([0, 1, 4, 5, 2, 6, 3, 7, 8, 9], none)] (by kernel_rfl) (by kernel_rfl) ?_
      refine WQ.r 4 rfl <| WQ.ix rfl rfl (i := (ni : Int) - 1) (ni - 1) el_56 rfl rfl (by omega) (by omega) (hS.rdS 1 rfl (i64s_at hu1)).1 ?_
      refine WQ.ix rfl rfl (i := (nj : Int) - 1) (nj - 1) el_56 rfl rfl (by omega) (by omega) (hS.rdS 0 rfl (i64s_at hv1)).1 ?_
      refine WQ.run 4 [.int .i64 u, .int .i64 v] rfl (by exact ⟨(hS.rdS 1 rfl (i64s_at hu1)).2 0 _ rfl, (hS.rdS 0 rfl (i64s_at hv1)).2 0 _ rfl⟩) ?_
      refine WQ.nil ?_
      intro m3
      replace hS := hS.drewN m3; generalize hwm3 : World.drewN _ _ = w at *; clear hwm3
      as_aux_lemma =>
      refine WC.ifP rfl (fun cd3 => ?_) (fun cd3 => ?_)
      · refine WC.region <| WL.r 2 rfl <| WL.reb 74 (.int .i64 (((ni - 1 : Nat) : Int) - 1)) (congrArg (Value.int .i64) (by rw [w64 (by omega)]; omega)) ?_
        refine WL.r 1 rfl <| WL.nil ?_
        exact ⟨_, by omega, ni - 1, nj, rfl, hS, (by omega), (by omega), (fun z h1 h2 => ⟨take_drop1 hu1 (by rw [ei]; exact (hc z h1 h2).1) (fun e => by have := take_le hay hv1 (by rw [ej]; exact (hc z h1 h2).2); omega), (hc z h1 h2).2⟩), rfl⟩
      · refine WC.region <| WL.r 2 rfl <| WL.reb 48 (.int .i64 (((nj - 1 : Nat) : Int) - 1)) (congrArg (Value.int .i64) (by rw [w64 (by omega)]; omega)) ?_
        refine WL.r 1 rfl <| WL.nil ?_
        exact ⟨_, by omega, ni, nj - 1, rfl, hS, (by omega), (by omega), (fun z h1 h2 => ⟨(hc z h1 h2).1, take_drop1 hv1 (by rw [ej]; exact (hc z h1 h2).2) (fun e => by have := take_le hax hu1 (by rw [ei]; exact (hc z h1 h2).1); omega)⟩), rfl⟩
  · refine WC.exit <| WC.seq <| WC.region <| WL.r 1 rfl <| WL.nil <| WC.ret ?_
    refine ⟨[.int .i64 0], rfl, ?_⟩
    replace hS := (hS.sel 2 [] rfl)
    exact ⟨congrArg (Value.int .i64) (gcm_no (fun z h1 h2 => by
    have h3 := hc z h1 h2
    rcases Nat.eq_zero_or_pos ni with h4 | h4
    · rw [h4, List.take_zero] at h3; cases h3.1
    · rcases Nat.eq_zero_or_pos nj with h5 | h5
      · rw [h5, List.take_zero] at h3; cases h3.2
      · omega)).symm, hS⟩
set_option maxRecDepth 8192 in
theorem base_no1 {g w : World} {L : List HP} (p m : Nat) (cap last : Int) (xs : List VN) (q : Nat) (n1 n2 : Int) (hu : VUq xs) (hl : liveG xs n1 = false) (hS : St g (cel p #[.int .i64 cap, .int .i64 last, .map (some m)] 231 :: blk m (.map (mE (List.map vK xs)) q) :: Shs vF xs :: L) w) :
    Sp Tryz.prog 83 [.pointer (some ⟨p, 0, none⟩), .int .i64 n1, .int .i64 n2] w (fun v w' => v = .int .i64 0 ∧ St g (cel p #[.int .i64 cap, .int .i64 last, .map (some m)] 231 :: blk m (.map (mE (List.map vK xs)) q) :: Shs vF xs :: L) w') := by
  refine Sp.enter Tryz.func83 rfl (by kernel_rfl) (by kernel_rfl) ?_
  have _ := hu
  refine WC.seq <| WC.region <| WL.r 1 rfl <| WL.nil <| WC.seq <| WC.seq <| WC.region <| WL.r 2 rfl <| WL.call rfl rfl (live_spec (p := p) (m := m) (cap := cap) (last := last) (xs := xs) (q := q) (n := n1) (hu := (by first | assumption | exact (GI.ok (by assumption)).uniq)) (hS := hS)) rfl ?_
  clear hS; rintro _ w ⟨rfl, hS⟩
  replace hS := hS.n3 L rfl
  refine WL.r 1 rfl <| WL.r 1 rfl <| WL.reb 15 (.bool true) (congrArg Value.bool ((by rw [hl]; rfl))) ?_
  refine WL.skp rfl rfl rfl rfl <| WL.skp rfl rfl rfl rfl <| WL.skp rfl rfl rfl rfl <| WL.skp rfl rfl rfl rfl <| WL.r 1 rfl <| WL.nil <| WC.ifT rfl rfl <| WC.seq <| WC.region <| WL.r 1 rfl <| WL.nil ?_
  as_aux_lemma =>
  refine WC.ret ?_
  refine ⟨[.int .i64 0], rfl, ?_⟩
  exact ⟨rfl, hS⟩
set_option maxRecDepth 8192 in
theorem base_no2 {g w : World} {L : List HP} (p m : Nat) (cap last : Int) (xs : List VN) (q : Nat) (n1 n2 : Int) (hu : VUq xs) (hl1 : liveG xs n1 = true) (hl : liveG xs n2 = false) (hS : St g (cel p #[.int .i64 cap, .int .i64 last, .map (some m)] 231 :: blk m (.map (mE (List.map vK xs)) q) :: Shs vF xs :: L) w) :
    Sp Tryz.prog 83 [.pointer (some ⟨p, 0, none⟩), .int .i64 n1, .int .i64 n2] w (fun v w' => v = .int .i64 0 ∧ St g (cel p #[.int .i64 cap, .int .i64 last, .map (some m)] 231 :: blk m (.map (mE (List.map vK xs)) q) :: Shs vF xs :: L) w') := by
  refine Sp.enter Tryz.func83 rfl (by kernel_rfl) (by kernel_rfl) ?_
  have _ := hu
  refine WC.seq <| WC.region <| WL.r 1 rfl <| WL.nil <| WC.seq <| WC.seq <| WC.region <| WL.r 2 rfl <| WL.call rfl rfl (live_spec (p := p) (m := m) (cap := cap) (last := last) (xs := xs) (q := q) (n := n1) (hu := (by first | assumption | exact (GI.ok (by assumption)).uniq)) (hS := hS)) rfl ?_
  clear hS; rintro _ w ⟨rfl, hS⟩
  replace hS := hS.n3 L rfl
  refine WL.r 1 rfl <| WL.r 1 rfl <| WL.reb 15 (.bool false) (congrArg Value.bool (Bool.eq_false_iff.2 ((by rw [hl1]; decide)))) ?_
  refine WL.ung rfl rfl rfl <| WL.r 1 rfl <| WL.ung rfl rfl rfl <| WL.r 1 rfl <| WL.ung rfl rfl rfl <| WL.call rfl rfl (live_spec (p := p) (m := m) (cap := cap) (last := last) (xs := xs) (q := q) (n := n2) (hu := (by first | assumption | exact (GI.ok (by assumption)).uniq)) (hS := hS)) rfl ?_
  clear hS; rintro _ w ⟨rfl, hS⟩
  replace hS := hS.n3 L rfl
  refine WL.ung rfl rfl rfl <| WL.r 1 rfl <| WL.r 1 rfl <| WL.nil ?_
  as_aux_lemma =>
  refine WC.ifT rfl (by rw [hl]; rfl) ?_
  refine WC.seq <| WC.region <| WL.r 1 rfl <| WL.nil <| WC.ret ?_
  refine ⟨[.int .i64 0], rfl, ?_⟩
  exact ⟨rfl, hS⟩
set_option maxRecDepth 8192 in
theorem base_spec {g w : World} {L : List HP} (p m : Nat) (cap last : Int) (xs : List VN) (q : Nat) (n1 n2 : Int) (hG : GOk xs q) (hS : St g (cel p #[.int .i64 cap, .int .i64 last, .map (some m)] 231 :: blk m (.map (mE (List.map vK xs)) q) :: Shs vF xs :: L) w) :
    Sp Tryz.prog 83 [.pointer (some ⟨p, 0, none⟩), .int .i64 n1, .int .i64 n2] w (fun v w' => v = .int .i64 (baseG xs n1 n2) ∧ St g (cel p #[.int .i64 cap, .int .i64 last, .map (some m)] 231 :: blk m (.map (mE (List.map vK xs)) q) :: Shs vF xs :: L) w') := by
  cases h1 : liveG xs n1 with
  | false =>
    rw [baseG, if_neg (fun h => by rw [h1] at h; cases h.1)]
    exact base_no1 p m cap last xs q n1 n2 hG.uniq h1 hS
  | true =>
    cases h2 : liveG xs n2 with
    | false =>
      rw [baseG, if_neg (fun h => by rw [h2] at h; cases h.2)]
      exact base_no2 p m cap last xs q n1 n2 hG.uniq h1 h2 hS
    | true =>
      rw [baseG, if_pos ⟨h1, h2⟩]
      rcases v_cases xs n1 with ⟨k1, x, hx, rfl⟩ | hn
      · rcases v_cases xs n2 with ⟨k2, y, hy, rfl⟩ | hn
        · obtain ⟨a1, _, a3⟩ := g_in (vfind_in hx hG.uniq)
          obtain ⟨b1, _, b3⟩ := g_in (vfind_in hy hG.uniq)
          rw [a3, b3]
          have l1 := hG.len (List.mem_of_getElem? hx)
          have l2 := hG.len (List.mem_of_getElem? hy)
          have l3 := hG.num
          exact base_in p m cap last xs q k1 k2 x y hx hy hG.uniq (a1 ▸ h1) (b1 ▸ h2) (hG.asc x (List.mem_of_getElem? hx)) (hG.asc y (List.mem_of_getElem? hy)) (by omega) (by omega) hS
        · rw [(g_out (vfind_out hn)).1] at h2; cases h2
      · rw [(g_out (vfind_out hn)).1] at h1; cases h1
end Go.Proofs.YtbeacjcmdijdmaaGreat
/-! ## A3 -/
namespace Go.Proofs.YtbeacjcmdijdmaaGreat
open Go Go.V
set_option maxRecDepth 8192 in
theorem new_ok {g w : World} {L : List HP} (cap : Int) (hc : 1 ≤ cap ∧ cap ≤ 4096) (hS : St g (L) w) :
    Sp Tryz.prog 59 [.int .i64 cap] w (fun v w' => ∃ (p m : Nat), v = .tuple #[.pointer (some ⟨p, 0, none⟩), .int .i64 0] ∧ St g (cel p #[.int .i64 cap, .int .i64 0, .map (some m)] 231 :: blk m (.map (mE (List.map vK [])) 0) :: Shs vF [] :: L) w') := by
  refine Sp.enter Tryz.func59 rfl (by kernel_rfl) (by kernel_rfl) ?_
  have _ := hc
  refine WC.seq <| WC.region <| WL.r 2 rfl <| WL.nil <| WC.seq <| WC.seq <| WC.region <| WL.r 2 rfl <| WL.rG 4 rfl (fun j => ?_)
  refine WL.prop 9 rfl (bor (dd _) (dd _)) <| WL.nil <| WC.ifF rfl (decide_eq_false ((by omega))) ?_
  refine WC.skip <| WC.seq <| WC.region <| WL.r 1 rfl <| WL.mkM rfl rfl hS (fun b1 w hS => ?_)
  refine WL.build rfl rfl (cs := [.int .i64 cap, .int .i64 0, .map (some b1)]) zv_231 rfl rfl <| WL.box rfl rfl #[.int .i64 cap, .int .i64 0, .map (some b1)] hS rfl rfl (fun b2 w hS => ?_)
  refine WL.r 2 rfl <| WL.nil <| WC.ret ?_
  replace hS := (hS.shsNil vF).sel 3 [1, 1, 0] rfl
  replace hS : St g (cel b2 #[.int .i64 cap, .int .i64 0, .map (some b1)] 231 :: blk b1 (.map (mE (List.map vK [])) 0) :: Shs vF [] :: L) w := hS
  refine ⟨[.pointer (some ⟨b2, 0, none⟩), .int .i64 0], ⟨rfl, rfl⟩, ?_⟩
  exact ⟨_, _, rfl, hS⟩
set_option maxRecDepth 8192 in
theorem add_inv1 {g w : World} {L : List HP} (p m : Nat) (cap last : Int) (xs : List VN) (q : Nat) (ps : List Int) (a : Option Addr) (c : Nat) (hl : 2 < ps.length) (hS : St g (Sh 3 1 (i64s ps) a c :: cel p #[.int .i64 cap, .int .i64 last, .map (some m)] 231 :: blk m (.map (mE (List.map vK xs)) q) :: Shs vF xs :: L) w) :
    Sp Tryz.prog 186 [.pointer (some ⟨p, 0, none⟩), .slice a (List.length (i64s ps)) c] w (fun v w' => v = .tuple #[.int .i64 0, .int .i64 1] ∧ St g (Sh 3 1 (i64s ps) a c :: cel p #[.int .i64 cap, .int .i64 last, .map (some m)] 231 :: blk m (.map (mE (List.map vK xs)) q) :: Shs vF xs :: L) w') := by
  refine Sp.enter Tryz.func186 rfl (by kernel_rfl) (by kernel_rfl) ?_
  have _ := hl
  refine WC.seq <| WC.region <| WL.r 2 rfl <| WL.nil <| WC.seq <| WC.seq <| WC.plan [([0, 1, 2, 3, 4, 5, 6, 7, 8, 11, 9, 12, 10, 13, 14, 15, 16], none)] (by kernel_rfl) (by kernel_rfl) ?_
  have hpl := i64s_len ps
  refine WQ.r 4 rfl <| WQ.reb 14 (.bool true) (congrArg Value.bool (decide_eq_true ((by omega)))) ?_
  refine WQ.skp rfl rfl rfl rfl <| WQ.skp rfl rfl rfl rfl <| WQ.skp rfl rfl rfl rfl <| WQ.skp rfl rfl rfl rfl <| WQ.skU rfl rfl rfl <| WQ.skU rfl rfl rfl <| WQ.skU rfl rfl rfl <| WQ.skU rfl rfl rfl <| WQ.skU rfl rfl rfl <| WQ.skU rfl rfl rfl <| WQ.skU rfl rfl rfl <| WQ.skp rfl rfl rfl rfl ?_
  refine WQ.r 1 rfl <| WQ.nil ?_
  intro m1
  replace hS := hS.drewN m1; generalize hwm1 : World.drewN _ _ = w at *; clear hwm1
  as_aux_lemma =>
  refine WC.ifT rfl rfl <| WC.seq <| WC.region <| WL.r 2 rfl <| WL.nil <| WC.ret ?_
  refine ⟨[.int .i64 0, .int .i64 1], ⟨rfl, rfl⟩, ?_⟩
  exact ⟨rfl, hS⟩
set_option maxRecDepth 8192 in
theorem add_inv2 {g w : World} {L : List HP} (p m : Nat) (cap last : Int) (xs : List VN) (q : Nat) (x : Int) (a : Option Addr) (c : Nat) (hS : St g (Sh 3 1 (i64s [x, x]) a c :: cel p #[.int .i64 cap, .int .i64 last, .map (some m)] 231 :: blk m (.map (mE (List.map vK xs)) q) :: Shs vF xs :: L) w) :
    Sp Tryz.prog 186 [.pointer (some ⟨p, 0, none⟩), .slice a (List.length (i64s [x, x])) c] w (fun v w' => v = .tuple #[.int .i64 0, .int .i64 1] ∧ St g (Sh 3 1 (i64s [x, x]) a c :: cel p #[.int .i64 cap, .int .i64 last, .map (some m)] 231 :: blk m (.map (mE (List.map vK xs)) q) :: Shs vF xs :: L) w') := by
  refine Sp.enter Tryz.func186 rfl (by kernel_rfl) (by kernel_rfl) ?_
  refine WC.seq <| WC.region <| WL.r 2 rfl <| WL.nil <| WC.seq <| WC.seq <| WC.plan [([0, 1, 2, 3, 4, 5, 6, 7, 8, 11, 9, 12, 10, 13, 14, 15, 16], none)] (by kernel_rfl) (by kernel_rfl) ?_
  have hpl : (i64s [x, x]).length = 2 := rfl
  refine WQ.r 4 rfl <| WQ.reb 14 (.bool false) (congrArg Value.bool (decide_eq_false ((by omega)))) ?_
  refine WQ.ung rfl rfl rfl <| WQ.r 1 rfl <| WQ.ung rfl rfl rfl <| WQ.r 1 rfl <| WQ.ung rfl rfl rfl <| WQ.r 1 rfl <| WQ.ung rfl rfl rfl <| WQ.r 1 rfl <| WQ.reb 18 (.bool true) (congrArg Value.bool (decide_eq_true ((by omega)))) ?_
  refine WQ.ung rfl rfl rfl <| WQ.r 1 rfl <| WQ.ung rfl rfl rfl <| WQ.r 1 rfl <| WQ.ung rfl rfl rfl <| WQ.ix rfl rfl (i := 0) (0) el_56 rfl rfl (by omega) (by omega) (hS.rdS 0 rfl (i64s_at (k := 0) (x := x) rfl)).1 ?_
  refine WQ.ung rfl rfl rfl <| WQ.ix rfl rfl (i := 1) (1) el_56 rfl rfl (by omega) (by omega) (hS.rdS 0 rfl (i64s_at (k := 1) (x := x) rfl)).1 ?_
  refine WQ.ung rfl rfl rfl <| WQ.run 1 [.int .i64 x] rfl (by exact (hS.rdS 0 rfl (i64s_at (k := 0) (x := x) rfl)).2 0 _ rfl) ?_
  refine WQ.ung rfl rfl rfl <| WQ.run 1 [.int .i64 x] rfl (by exact (hS.rdS 0 rfl (i64s_at (k := 1) (x := x) rfl)).2 0 _ rfl) ?_
  refine WQ.ung rfl rfl rfl <| WQ.r 1 rfl <| WQ.ung rfl rfl rfl <| WQ.r 2 rfl <| WQ.nil ?_
  intro m1
  replace hS := hS.drewN m1; generalize hwm1 : World.drewN _ _ = w at *; clear hwm1
  as_aux_lemma =>
  refine WC.ifT rfl (decide_eq_true (rfl)) <| WC.seq <| WC.region <| WL.r 2 rfl <| WL.nil <| WC.ret ?_
  refine ⟨[.int .i64 0, .int .i64 1], ⟨rfl, rfl⟩, ?_⟩
  exact ⟨rfl, hS⟩
set_option maxRecDepth 8192 in
theorem add_nf {g w : World} {L : List HP} (p m : Nat) (cap last : Int) (xs : List VN) (q : Nat) (ps : List Int) (a : Option Addr) (c : Nat) (i : Nat) (b : Int) (hu : VUq xs) (hps : okPs ps) (hi : ps[i]? = some b) (hb : liveG xs b = false) (hlt : ∀ j, j < i → ∀ y, ps[j]? = some y → liveG xs y = true) (hS : St g (Sh 3 1 (i64s ps) a c :: cel p #[.int .i64 cap, .int .i64 last, .map (some m)] 231 :: blk m (.map (mE (List.map vK xs)) q) :: Shs vF xs :: L) w) :
    Sp Tryz.prog 186 [.pointer (some ⟨p, 0, none⟩), .slice a (List.length (i64s ps)) c] w (fun v w' => v = .tuple #[.int .i64 0, .int .i64 4] ∧ St g (Sh 3 1 (i64s ps) a c :: cel p #[.int .i64 cap, .int .i64 last, .map (some m)] 231 :: blk m (.map (mE (List.map vK xs)) q) :: Shs vF xs :: L) w') := by
  refine Sp.enter Tryz.func186 rfl (by kernel_rfl) (by kernel_rfl) ?_
  have _ := hlt
  have _ := hu
  refine WC.seq <| WC.region ?_
  have hpl := i64s_len ps
  have hp2 := hps.1
  refine WL.r 2 rfl <| WL.nil <| WC.seq <| WC.seq <| WC.cut [0, 1, 4, 5, 27] (fun vs w => ∃ (t27 : Bool), vs = [.pointer (some ⟨p, 0, none⟩), .slice a (List.length (i64s ps)) c, .int .i64 0, .int .i64 0, .bool t27] ∧ St g (Sh 3 1 (i64s ps) a c :: cel p #[.int .i64 cap, .int .i64 last, .map (some m)] 231 :: blk m (.map (mE (List.map vK xs)) q) :: Shs vF xs :: L) w ∧ (t27 = false)) ?_ ?_
  · refine WC.plan [([0, 1, 2, 3, 4, 5, 6, 7, 8, 11, 9, 12, 10, 13, 14, 15, 16], none)] (by kernel_rfl) (by kernel_rfl) ?_
    refine WQ.r 4 rfl <| WQ.reb 14 (.bool false) (congrArg Value.bool (decide_eq_false ((by omega)))) ?_
    refine WQ.ung rfl rfl rfl <| WQ.r 1 rfl <| WQ.ung rfl rfl rfl <| WQ.r 1 rfl <| WQ.ung rfl rfl rfl <| WQ.r 1 rfl <| WQ.ung rfl rfl rfl <| WQ.r 1 rfl ?_
    by_cases cg1 : (List.length (i64s ps) : Int) = 2
    · refine WQ.reb 18 (.bool true) (congrArg Value.bool (decide_eq_true cg1)) <| WQ.ung rfl rfl rfl <| WQ.r 1 rfl <| WQ.ung rfl rfl rfl <| WQ.r 1 rfl <| WQ.ung rfl rfl rfl ?_
      obtain ⟨p0, h0⟩ : ∃ u, ps[0]? = some u := ⟨_, List.getElem?_eq_getElem (by omega)⟩; obtain ⟨p1, h1⟩ : ∃ u, ps[1]? = some u := ⟨_, List.getElem?_eq_getElem (by omega)⟩
      refine WQ.ix rfl rfl (i := 0) (0) el_56 rfl rfl (by omega) (by omega) (hS.rdS 0 rfl (i64s_at h0)).1 ?_
      refine WQ.ung rfl rfl rfl <| WQ.ix rfl rfl (i := 1) (1) el_56 rfl rfl (by omega) (by omega) (hS.rdS 0 rfl (i64s_at h1)).1 ?_
      refine WQ.ung rfl rfl rfl <| WQ.run 1 [.int .i64 p0] rfl (by exact (hS.rdS 0 rfl (i64s_at h0)).2 0 _ rfl) ?_
      refine WQ.ung rfl rfl rfl <| WQ.run 1 [.int .i64 p1] rfl (by exact (hS.rdS 0 rfl (i64s_at h1)).2 0 _ rfl) ?_
      refine WQ.ung rfl rfl rfl <| WQ.r 1 rfl <| WQ.ung rfl rfl rfl <| WQ.r 2 rfl <| WQ.nil ?_
      intro m1
      replace hS := hS.drewN m1; generalize hwm1 : World.drewN _ _ = w at *; clear hwm1
      exact ⟨decide (p0 = p1), rfl, hS, (decide_eq_false (okPs_ne hps h0 h1))⟩
    · refine WQ.reb 18 (.bool false) (congrArg Value.bool (decide_eq_false cg1)) <| WQ.skp rfl rfl rfl rfl <| WQ.skp rfl rfl rfl rfl <| WQ.skp rfl rfl rfl rfl <| WQ.skp rfl rfl rfl rfl <| WQ.skp rfl rfl rfl rfl <| WQ.skp rfl rfl rfl rfl <| WQ.skp rfl rfl rfl rfl <| WQ.ung rfl rfl rfl <| WQ.r 2 rfl <| WQ.nil ?_
      intro m1
      replace hS := hS.drewN m1; generalize hwm1 : World.drewN _ _ = w at *; clear hwm1
      exact ⟨false, rfl, hS, (rfl)⟩
  clear hS; rintro _ w j ⟨t27, rfl, hS, h27⟩
  refine WC.ifF rfl h27 <| WC.skip <| WC.seq <| WC.seq <| WC.region ?_
  have hpl := i64s_len ps; have hil := (List.getElem?_eq_some_iff.1 hi).1
  refine WL.r 3 rfl <| WL.nil <| WC.block <| WC.loop [0, 1, 28, 29, 30] (fun kM vs w => ∃ (k : Nat), vs = [.pointer (some ⟨p, 0, none⟩), .slice a (List.length (i64s ps)) c, .slice a (List.length (i64s ps)) c, .int .i64 (List.length (i64s ps) : Int), .int .i64 (k : Int)] ∧ St g (Sh 3 1 (i64s ps) a c :: cel p #[.int .i64 cap, .int .i64 last, .map (some m)] 231 :: blk m (.map (mE (List.map vK xs)) q) :: Shs vF xs :: L) w ∧ (k ≤ i) ∧ (ps.length - k) = kM) ((List.length ps) - 0) ⟨0, rfl, hS, (Nat.zero_le _), rfl⟩ ?_
  clear hS; rintro _ _ w j ⟨k, rfl, hS, hk, rfl⟩
  refine WC.seq <| WC.region ?_
  have hpl := i64s_len ps; have hil := (List.getElem?_eq_some_iff.1 hi).1
  refine WL.r 1 rfl <| WL.nil ?_
  as_aux_lemma =>
  refine WC.seq <| WC.ifT rfl (decide_eq_true ((by omega))) ?_
  refine WC.skip <| WC.seq <| WC.block <| WC.seq <| WC.region ?_
  obtain ⟨z, hz⟩ : ∃ u, ps[k]? = some u := ⟨_, List.getElem?_eq_getElem (by omega)⟩
  refine WL.ix rfl rfl (i := (k : Int)) (k) el_56 rfl rfl (by omega) (by omega) (hS.rdS 0 rfl (i64s_at hz)).1 ?_
  refine WL.run 2 [.int .i64 z] rfl (by exact (hS.rdS 0 rfl (i64s_at hz)).2 0 _ rfl) ?_
  refine WL.nil <| WC.seq <| WC.region <| WL.r 2 rfl <| WL.call rfl rfl (live_spec (p := p) (m := m) (cap := cap) (last := last) (xs := xs) (q := q) (n := z) (hu := (by first | assumption | exact (GI.ok (by assumption)).uniq)) (hS := (hS.sel 4 [1, 1, 1, 0] rfl))) rfl ?_
  clear hS; rintro _ w ⟨rfl, hS⟩
  replace hS := hS.n4 L rfl
  refine WL.r 1 rfl <| WL.nil <| WC.if_ rfl (fun cd1 => ?_) (fun cd1 => ?_)
  · refine WC.seq <| WC.region <| WL.r 2 rfl <| WL.nil <| WC.ret ?_
    refine ⟨[.int .i64 0, .int .i64 4], ⟨rfl, rfl⟩, ?_⟩
    replace hS := (hS.sel 4 [3, 0, 0, 0] rfl)
    exact ⟨rfl, hS⟩
  · refine WC.skip <| WC.region <| WL.r 1 rfl <| WL.nw 38 rfl (w64 (by omega)) ?_
    refine WL.r 1 rfl <| WL.nil ?_
    exact ⟨_, by omega, k + 1, rfl, (hS.sel 4 [3, 0, 0, 0] rfl), (Nat.lt_of_le_of_ne hk (fun e => by subst e; rw [hi] at hz; cases hz; rw [hb] at cd1; cases cd1)), rfl⟩
set_option maxRecDepth 8192 in
theorem add_full {g w : World} {L : List HP} (p m : Nat) (cap last : Int) (xs : List VN) (q : Nat) (ps : List Int) (a : Option Addr) (c : Nat) (hu : VUq xs) (hps : okPs ps) (hlv : ∀ z ∈ ps, liveG xs z = true) (hc : cap ≤ xs.length) (hS : St g (Sh 3 1 (i64s ps) a c :: cel p #[.int .i64 cap, .int .i64 last, .map (some m)] 231 :: blk m (.map (mE (List.map vK xs)) q) :: Shs vF xs :: L) w) :
    Sp Tryz.prog 186 [.pointer (some ⟨p, 0, none⟩), .slice a (List.length (i64s ps)) c] w (fun v w' => v = .tuple #[.int .i64 0, .int .i64 2] ∧ St g (Sh 3 1 (i64s ps) a c :: cel p #[.int .i64 cap, .int .i64 last, .map (some m)] 231 :: blk m (.map (mE (List.map vK xs)) q) :: Shs vF xs :: L) w') := by
  refine Sp.enter Tryz.func186 rfl (by kernel_rfl) (by kernel_rfl) ?_
  have _ := hc
  have _ := hu
  refine WC.seq <| WC.region ?_
  have hpl := i64s_len ps
  have hp2 := hps.1
  refine WL.r 2 rfl <| WL.nil <| WC.seq <| WC.seq <| WC.cut [0, 1, 4, 5, 27] (fun vs w => ∃ (t27 : Bool), vs = [.pointer (some ⟨p, 0, none⟩), .slice a (List.length (i64s ps)) c, .int .i64 0, .int .i64 0, .bool t27] ∧ St g (Sh 3 1 (i64s ps) a c :: cel p #[.int .i64 cap, .int .i64 last, .map (some m)] 231 :: blk m (.map (mE (List.map vK xs)) q) :: Shs vF xs :: L) w ∧ (t27 = false)) ?_ ?_
  · refine WC.plan [([0, 1, 2, 3, 4, 5, 6, 7, 8, 11, 9, 12, 10, 13, 14, 15, 16], none)] (by kernel_rfl) (by kernel_rfl) ?_
    refine WQ.r 4 rfl <| WQ.reb 14 (.bool false) (congrArg Value.bool (decide_eq_false ((by omega)))) ?_
    refine WQ.ung rfl rfl rfl <| WQ.r 1 rfl <| WQ.ung rfl rfl rfl <| WQ.r 1 rfl <| WQ.ung rfl rfl rfl <| WQ.r 1 rfl <| WQ.ung rfl rfl rfl <| WQ.r 1 rfl ?_
    by_cases cg1 : (List.length (i64s ps) : Int) = 2
    · refine WQ.reb 18 (.bool true) (congrArg Value.bool (decide_eq_true cg1)) <| WQ.ung rfl rfl rfl <| WQ.r 1 rfl <| WQ.ung rfl rfl rfl <| WQ.r 1 rfl <| WQ.ung rfl rfl rfl ?_
      obtain ⟨p0, h0⟩ : ∃ u, ps[0]? = some u := ⟨_, List.getElem?_eq_getElem (by omega)⟩; obtain ⟨p1, h1⟩ : ∃ u, ps[1]? = some u := ⟨_, List.getElem?_eq_getElem (by omega)⟩
      refine WQ.ix rfl rfl (i := 0) (0) el_56 rfl rfl (by omega) (by omega) (hS.rdS 0 rfl (i64s_at h0)).1 ?_
      refine WQ.ung rfl rfl rfl <| WQ.ix rfl rfl (i := 1) (1) el_56 rfl rfl (by omega) (by omega) (hS.rdS 0 rfl (i64s_at h1)).1 ?_
      refine WQ.ung rfl rfl rfl <| WQ.run 1 [.int .i64 p0] rfl (by exact (hS.rdS 0 rfl (i64s_at h0)).2 0 _ rfl) ?_
      refine WQ.ung rfl rfl rfl <| WQ.run 1 [.int .i64 p1] rfl (by exact (hS.rdS 0 rfl (i64s_at h1)).2 0 _ rfl) ?_
      refine WQ.ung rfl rfl rfl <| WQ.r 1 rfl <| WQ.ung rfl rfl rfl <| WQ.r 2 rfl <| WQ.nil ?_
      intro m1
      replace hS := hS.drewN m1; generalize hwm1 : World.drewN _ _ = w at *; clear hwm1
      exact ⟨decide (p0 = p1), rfl, hS, (decide_eq_false (okPs_ne hps h0 h1))⟩
    · refine WQ.reb 18 (.bool false) (congrArg Value.bool (decide_eq_false cg1)) <| WQ.skp rfl rfl rfl rfl <| WQ.skp rfl rfl rfl rfl <| WQ.skp rfl rfl rfl rfl <| WQ.skp rfl rfl rfl rfl <| WQ.skp rfl rfl rfl rfl <| WQ.skp rfl rfl rfl rfl <| WQ.skp rfl rfl rfl rfl <| WQ.ung rfl rfl rfl <| WQ.r 2 rfl <| WQ.nil ?_
      intro m1
      replace hS := hS.drewN m1; generalize hwm1 : World.drewN _ _ = w at *; clear hwm1
      exact ⟨false, rfl, hS, (rfl)⟩
  clear hS; rintro _ w j ⟨t27, rfl, hS, h27⟩
  refine WC.ifF rfl h27 <| WC.skip <| WC.seq <| WC.seq <| WC.region ?_
  have hpl := i64s_len ps
  refine WL.r 3 rfl <| WL.nil <| WC.block <| WC.loop [0, 1, 28, 29, 30] (fun kM vs w => ∃ (k : Nat), vs = [.pointer (some ⟨p, 0, none⟩), .slice a (List.length (i64s ps)) c, .slice a (List.length (i64s ps)) c, .int .i64 (List.length (i64s ps) : Int), .int .i64 (k : Int)] ∧ St g (Sh 3 1 (i64s ps) a c :: cel p #[.int .i64 cap, .int .i64 last, .map (some m)] 231 :: blk m (.map (mE (List.map vK xs)) q) :: Shs vF xs :: L) w ∧ (k ≤ ps.length) ∧ (ps.length - k) = kM) ((List.length ps) - 0) ⟨0, rfl, hS, (Nat.zero_le _), rfl⟩ ?_
  clear hS; rintro _ _ w j ⟨k, rfl, hS, hk, rfl⟩
  refine WC.seq <| WC.region ?_
  have hpl := i64s_len ps
  refine WL.r 1 rfl <| WL.nil ?_
  as_aux_lemma =>
  refine WC.seq <| WC.ifP rfl (fun cd1 => ?_) (fun cd1 => ?_)
  · refine WC.skip <| WC.seq <| WC.block <| WC.seq <| WC.region ?_
    obtain ⟨z, hz⟩ : ∃ u, ps[k]? = some u := ⟨_, List.getElem?_eq_getElem (by omega)⟩
    refine WL.ix rfl rfl (i := (k : Int)) (k) el_56 rfl rfl (by omega) (by omega) (hS.rdS 0 rfl (i64s_at hz)).1 ?_
    refine WL.run 2 [.int .i64 z] rfl (by exact (hS.rdS 0 rfl (i64s_at hz)).2 0 _ rfl) ?_
    refine WL.nil <| WC.seq <| WC.region <| WL.r 2 rfl <| WL.call rfl rfl (live_spec (p := p) (m := m) (cap := cap) (last := last) (xs := xs) (q := q) (n := z) (hu := (by first | assumption | exact (GI.ok (by assumption)).uniq)) (hS := (hS.sel 4 [1, 1, 1, 0] rfl))) rfl ?_
    clear hS; rintro _ w ⟨rfl, hS⟩
    replace hS := hS.n4 L rfl
    refine WL.r 1 rfl <| WL.nil <| WC.ifF rfl (by rw [hlv z (List.mem_of_getElem? hz)]; rfl) ?_
    refine WC.skip <| WC.region <| WL.r 1 rfl <| WL.nw 38 rfl (w64 (by omega)) ?_
    refine WL.r 1 rfl <| WL.nil ?_
    exact ⟨_, by omega, k + 1, rfl, (hS.sel 4 [3, 0, 0, 0] rfl), (by omega), rfl⟩
  · refine WC.exit <| WC.seq <| WC.seq <| WC.plan [([0, 5, 1, 6, 2, 7, 3, 8, 4, 9], none)] (by kernel_rfl) (by kernel_rfl) ?_
    have hms := mE_size (List.map vK xs); have hms2 : (List.map vK xs).length = xs.length := List.length_map _
    refine WQ.run 8 [.map (some m), .int .i64 cap] rfl (by exact ⟨hS.ld 1 rfl rfl, hS.ld 1 rfl rfl⟩) ?_
    refine WQ.lenM rfl rfl mt_229 2 hS rfl rfl <| WQ.r 1 rfl <| WQ.nil ?_
    intro m1
    replace hS := hS.drewN m1; generalize hwm1 : World.drewN _ _ = w at *; clear hwm1
    refine WC.ifT rfl (decide_eq_true ((by omega))) ?_
    refine WC.seq <| WC.region <| WL.r 2 rfl <| WL.nil <| WC.ret ?_
    refine ⟨[.int .i64 0, .int .i64 2], ⟨rfl, rfl⟩, ?_⟩
    exact ⟨rfl, hS⟩
set_option maxHeartbeats 1000000 in
set_option maxRecDepth 8192 in
theorem add_ok {g w : World} {L : List HP} (p m : Nat) (cap last : Int) (xs : List VN) (q : Nat) (ps : List Int) (a : Option Addr) (c : Nat) (hG : GOk xs q) (hps : okPs ps) (hlv : ∀ z ∈ ps, liveG xs z = true) (hc : (xs.length : Int) < cap) (hc2 : cap ≤ 4096) (hla : 0 ≤ last ∧ last < 1000000000) (hlt : ∀ x ∈ xs, x.n ≤ last) (hS : St g (Sh 3 1 (i64s ps) a c :: cel p #[.int .i64 cap, .int .i64 last, .map (some m)] 231 :: blk m (.map (mE (List.map vK xs)) q) :: Shs vF xs :: L) w) :
    Sp Tryz.prog 186 [.pointer (some ⟨p, 0, none⟩), .slice a (List.length (i64s ps)) c] w (fun v w' => ∃ (vn : VN), v = .tuple #[.int .i64 (last + 1), .int .i64 0] ∧ St g (Sh 3 1 (i64s ps) a c :: cel p #[.int .i64 cap, .int .i64 (last + 1), .map (some m)] 231 :: blk m (.map (mE (List.map vK (xs ++ [vn]))) (q + 1)) :: Shs vF (xs ++ [vn]) :: L) w' ∧ (vn.n = last + 1 ∧ vn.live = true ∧ vn.born = q) ∧ (Asc vn.ab ∧ ∀ z, z ∈ vn.ab ↔ z ∈ newAb xs (last + 1) ps)) := by
  refine Sp.enter Tryz.func186 rfl (by kernel_rfl) (by kernel_rfl) ?_
  have _ := hla
  have _ := hc2
  have _ := hc
  refine WC.seq <| WC.region ?_
  have hpl := i64s_len ps
  have hp2 := hps.1
  refine WL.r 2 rfl <| WL.nil <| WC.seq <| WC.seq <| WC.cut [0, 1, 4, 5, 27] (fun vs w => ∃ (t27 : Bool), vs = [.pointer (some ⟨p, 0, none⟩), .slice a (List.length (i64s ps)) c, .int .i64 0, .int .i64 0, .bool t27] ∧ St g (Sh 3 1 (i64s ps) a c :: cel p #[.int .i64 cap, .int .i64 last, .map (some m)] 231 :: blk m (.map (mE (List.map vK xs)) q) :: Shs vF xs :: L) w ∧ (t27 = false)) ?_ ?_
  · refine WC.plan [([0, 1, 2, 3, 4, 5, 6, 7, 8, 11, 9, 12, 10, 13, 14, 15, 16], none)] (by kernel_rfl) (by kernel_rfl) ?_
    refine WQ.r 4 rfl <| WQ.reb 14 (.bool false) (congrArg Value.bool (decide_eq_false ((by omega)))) ?_
    refine WQ.ung rfl rfl rfl <| WQ.r 1 rfl <| WQ.ung rfl rfl rfl <| WQ.r 1 rfl <| WQ.ung rfl rfl rfl <| WQ.r 1 rfl <| WQ.ung rfl rfl rfl <| WQ.r 1 rfl ?_
    by_cases cg1 : (List.length (i64s ps) : Int) = 2
    · refine WQ.reb 18 (.bool true) (congrArg Value.bool (decide_eq_true cg1)) <| WQ.ung rfl rfl rfl <| WQ.r 1 rfl <| WQ.ung rfl rfl rfl <| WQ.r 1 rfl <| WQ.ung rfl rfl rfl ?_
      obtain ⟨p0, h0⟩ : ∃ u, ps[0]? = some u := ⟨_, List.getElem?_eq_getElem (by omega)⟩; obtain ⟨p1, h1⟩ : ∃ u, ps[1]? = some u := ⟨_, List.getElem?_eq_getElem (by omega)⟩
      refine WQ.ix rfl rfl (i := 0) (0) el_56 rfl rfl (by omega) (by omega) (hS.rdS 0 rfl (i64s_at h0)).1 ?_
      refine WQ.ung rfl rfl rfl <| WQ.ix rfl rfl (i := 1) (1) el_56 rfl rfl (by omega) (by omega) (hS.rdS 0 rfl (i64s_at h1)).1 ?_
      refine WQ.ung rfl rfl rfl <| WQ.run 1 [.int .i64 p0] rfl (by exact (hS.rdS 0 rfl (i64s_at h0)).2 0 _ rfl) ?_
      refine WQ.ung rfl rfl rfl <| WQ.run 1 [.int .i64 p1] rfl (by exact (hS.rdS 0 rfl (i64s_at h1)).2 0 _ rfl) ?_
      refine WQ.ung rfl rfl rfl <| WQ.r 1 rfl <| WQ.ung rfl rfl rfl <| WQ.r 2 rfl <| WQ.nil ?_
      intro m1
      replace hS := hS.drewN m1; generalize hwm1 : World.drewN _ _ = w at *; clear hwm1
      exact ⟨decide (p0 = p1), rfl, hS, (decide_eq_false (okPs_ne hps h0 h1))⟩
    · refine WQ.reb 18 (.bool false) (congrArg Value.bool (decide_eq_false cg1)) <| WQ.skp rfl rfl rfl rfl <| WQ.skp rfl rfl rfl rfl <| WQ.skp rfl rfl rfl rfl <| WQ.skp rfl rfl rfl rfl <| WQ.skp rfl rfl rfl rfl <| WQ.skp rfl rfl rfl rfl <| WQ.skp rfl rfl rfl rfl <| WQ.ung rfl rfl rfl <| WQ.r 2 rfl <| WQ.nil ?_
      intro m1
      replace hS := hS.drewN m1; generalize hwm1 : World.drewN _ _ = w at *; clear hwm1
      exact ⟨false, rfl, hS, (rfl)⟩
  clear hS; rintro _ w j ⟨t27, rfl, hS, h27⟩
  refine WC.ifF rfl h27 <| WC.skip <| WC.seq <| WC.seq <| WC.region ?_
  have hu := hG.uniq
  have hpl := i64s_len ps
  refine WL.r 3 rfl <| WL.nil <| WC.block <| WC.loop [0, 1, 28, 29, 30] (fun kM vs w => ∃ (k : Nat), vs = [.pointer (some ⟨p, 0, none⟩), .slice a (List.length (i64s ps)) c, .slice a (List.length (i64s ps)) c, .int .i64 (List.length (i64s ps) : Int), .int .i64 (k : Int)] ∧ St g (Sh 3 1 (i64s ps) a c :: cel p #[.int .i64 cap, .int .i64 last, .map (some m)] 231 :: blk m (.map (mE (List.map vK xs)) q) :: Shs vF xs :: L) w ∧ (k ≤ ps.length) ∧ (ps.length - k) = kM) ((List.length ps) - 0) ⟨0, rfl, hS, (Nat.zero_le _), rfl⟩ ?_
  clear hS; rintro _ _ w j ⟨k, rfl, hS, hk, rfl⟩
  refine WC.seq <| WC.region ?_
  have hu := hG.uniq
  have hpl := i64s_len ps
  refine WL.r 1 rfl <| WL.nil ?_
  as_aux_lemma =>
  refine WC.seq <| WC.ifP rfl (fun cd1 => ?_) (fun cd1 => ?_)
  · refine WC.skip <| WC.seq <| WC.block <| WC.seq <| WC.region ?_
    obtain ⟨z, hz⟩ : ∃ u, ps[k]? = some u := ⟨_, List.getElem?_eq_getElem (by omega)⟩
    refine WL.ix rfl rfl (i := (k : Int)) (k) el_56 rfl rfl (by omega) (by omega) (hS.rdS 0 rfl (i64s_at hz)).1 ?_
    refine WL.run 2 [.int .i64 z] rfl (by exact (hS.rdS 0 rfl (i64s_at hz)).2 0 _ rfl) ?_
    refine WL.nil <| WC.seq <| WC.region <| WL.r 2 rfl <| WL.call rfl rfl (live_spec (p := p) (m := m) (cap := cap) (last := last) (xs := xs) (q := q) (n := z) (hu := (by first | assumption | exact (GI.ok (by assumption)).uniq)) (hS := (hS.sel 4 [1, 1, 1, 0] rfl))) rfl ?_
    clear hS; rintro _ w ⟨rfl, hS⟩
    replace hS := hS.n4 L rfl
    refine WL.r 1 rfl <| WL.nil <| WC.ifF rfl (by rw [hlv z (List.mem_of_getElem? hz)]; rfl) ?_
    refine WC.skip <| WC.region <| WL.r 1 rfl <| WL.nw 38 rfl (w64 (by omega)) ?_
    refine WL.r 1 rfl <| WL.nil ?_
    exact ⟨_, by omega, k + 1, rfl, (hS.sel 4 [3, 0, 0, 0] rfl), (by omega), rfl⟩
  · refine WC.exit <| WC.seq <| WC.seq <| WC.plan [([0, 5, 1, 6, 2, 7, 3, 8, 4, 9], none)] (by kernel_rfl) (by kernel_rfl) ?_
    have hms := mE_size (List.map vK xs); have hms2 : (List.map vK xs).length = xs.length := List.length_map _
    refine WQ.run 8 [.map (some m), .int .i64 cap] rfl (by exact ⟨hS.ld 1 rfl rfl, hS.ld 1 rfl rfl⟩) ?_
    refine WQ.lenM rfl rfl mt_229 2 hS rfl rfl <| WQ.r 1 rfl <| WQ.nil ?_
    intro m1
    replace hS := hS.drewN m1; generalize hwm1 : World.drewN _ _ = w at *; clear hwm1
    refine WC.ifF rfl (decide_eq_false ((by omega))) ?_
    refine WC.skip <| WC.seq <| WC.region <| WL.run 5 [.int .i64 last] rfl (by exact hS.ld 1 rfl rfl) ?_
    refine WL.nw 53 rfl (w64 (by omega)) ?_
    refine WL.r 2 rfl <| WL.st rfl rfl rfl 1 hS rfl rfl rfl rfl rfl rfl (fun w hS => ?_)
    replace hS := hS.n4 L (a1 := cel p #[.int .i64 cap, .int .i64 (last + 1), .map (some m)] 231) rfl
    refine WL.nil <| WC.seq <| WC.region <| WL.run 4 [.int .i64 (last + 1)] rfl (by exact hS.ld 1 rfl rfl) ?_
    refine WL.lit rfl rfl (i64s [last + 1]) el_56 hS (by exact ⟨rfl, rfl⟩) (i64s_ok _) rfl (Nat.le_of_ble_eq_true rfl) (fun b1 w hS => ?_)
    refine WL.r 1 rfl <| WL.nil ?_
    as_aux_lemma =>
    refine WC.seq <| WC.seq <| WC.region <| WL.r 3 rfl <| WL.nil <| WC.block <| WC.loop [0, 8, 61, 62, 63] (fun kM vs w => ∃ (k : Nat) (acc : List Int) (u : Option Addr) (d : Nat), vs = [.pointer (some ⟨p, 0, none⟩), .slice u (List.length (i64s acc)) d, .slice a (List.length (i64s ps)) c, .int .i64 (List.length (i64s ps) : Int), .int .i64 (k : Int)] ∧ St g (Own 3 1 (i64s acc) u d :: Sh 3 1 (i64s ps) a c :: cel p #[.int .i64 cap, .int .i64 (last + 1), .map (some m)] 231 :: blk m (.map (mE (List.map vK xs)) q) :: Shs vF xs :: L) w ∧ (k ≤ ps.length) ∧ (acc = newAb xs (last + 1) (List.take k ps)) ∧ (acc.length ≤ 1 + 4096 * k) ∧ (ps.length - k) = kM) ((List.length ps) - 0) ⟨0, [last + 1], some ⟨b1, 0, none⟩, 1, rfl, hS, (Nat.zero_le _), (rfl), (Nat.le_refl _), rfl⟩ ?_
    clear hS; rintro _ _ w j ⟨k, acc, u, d, rfl, hS, hk, ha, hal, rfl⟩
    refine WC.seq <| WC.region <| WL.r 1 rfl <| WL.nil <| WC.seq <| WC.ifP rfl (fun cd2 => ?_) (fun cd2 => ?_)
    · refine WC.skip <| WC.seq <| WC.block <| WC.seq <| WC.region ?_
      obtain ⟨z, hz⟩ : ∃ u, ps[k]? = some u := ⟨_, List.getElem?_eq_getElem (by omega)⟩; obtain ⟨j, x, hx, hn, _, habx⟩ := live_ix (hlv z (List.mem_of_getElem? hz)); have hxl := hG.len (List.mem_of_getElem? hx); have hnum := hG.num; have hacl := i64s_len acc; have hxal := i64s_len x.ab
      refine WL.ix rfl rfl (i := (k : Int)) (k) el_56 rfl rfl (by omega) (by omega) (hS.rdS 1 rfl (i64s_at hz)).1 ?_
      refine WL.run 2 [.int .i64 z] rfl (by exact (hS.rdS 1 rfl (i64s_at hz)).2 0 _ rfl) ?_
      refine WL.nil <| WC.region ?_
      replace hS : St g (Sh 3 1 (i64s x.ab) x.a x.c :: Own 3 1 (i64s acc) u d :: Sh 3 1 (i64s ps) a c :: cel p #[.int .i64 cap, .int .i64 (last + 1), .map (some m)] 231 :: blk m (.map (mE (List.map vK xs)) q) :: Shs vF xs :: L) w := hS.shsGet 4 rfl (List.mem_of_getElem? hx)
      refine WL.run 6 [.map (some m)] rfl (by exact hS.ld 3 rfl rfl) ?_
      refine WL.lk rfl rfl mt_229 4 hS rfl rfl rfl (by first | trivial | rfl) (r := some (j, .agg #[.bool x.live, .slice x.a (i64s x.ab).length x.c])) (hn ▸ v_in hx hG.uniq) rfl ?_
      refine WL.r 1 rfl <| WL.app rfl rfl 1 (i64s (acc ++ x.ab)) el_56 hS rfl (hS.srcS 0 rfl) (i64s_app _ _).symm (Rm.of (by first | omega | (simp <;> omega)) (by decide)) rfl rfl (fun a1 c1 w hS => ?_)
      replace hS := hS.n6 L (a0 := Sh 3 1 (i64s x.ab) x.a x.c) (a1 := Own 3 1 (i64s (acc ++ x.ab)) a1 c1) rfl
      refine WL.r 1 rfl <| WL.nil ?_
      as_aux_lemma =>
      refine WC.region <| WL.r 1 rfl <| WL.nw 76 rfl (w64 (by omega)) ?_
      refine WL.r 1 rfl <| WL.nil ?_
      exact ⟨_, by omega, k + 1, acc ++ x.ab, a1, c1, rfl, (hS.sel 1 [] rfl), (by omega), (by rw [ha, ← habx]; exact newAb_snoc hz), (by rw [List.length_append]; omega), rfl⟩
    · refine WC.exit <| WC.seq <| WC.region <| WL.r 1 rfl <| WL.call rfl rfl (sort_spec (ls := acc) (ss := srtI acc) (a := u) (c := d) (hne := (by rw [ha]; simp [newAb])) (hl := (by omega)) (hp := (srtI_perm acc)) (hs := (srtI_le acc)) (hS := hS)) rfl ?_
      clear hS; rintro _ w ⟨rfl, hS⟩
      replace hS := hS.n5 L (a0 := Own 3 1 (i64s (srtI acc)) u d) rfl
      refine WL.nil <| WC.seq <| WC.plan [([0, 4, 8, 1, 5, 2, 6, 3, 7], some (9, [0, 1, 2, 3, 4, 5, 6, 7])), ([], some (10, [0, 1, 2, 3, 4, 5, 6, 7])), ([], some (11, []))] (by kernel_rfl) (by kernel_rfl) ?_
      refine WQ.reb 8 (.slice u (i64s (srtI acc)).length d) (congrArg (fun m => Value.slice u m d) (by rw [i64s_len, i64s_len]; exact (srtI_perm acc).length_eq.symm)) ?_
      refine WQ.run 9 [.map (some m), .int .i64 (last + 1)] rfl (by exact ⟨hS.ld 2 rfl rfl, hS.ld 2 rfl rfl⟩) ?_
      refine WQ.nil ?_
      intro m2
      replace hS := hS.drewN m2; generalize hwm2 : World.drewN _ _ = w at *; clear hwm2
      refine WL.call rfl rfl (compact_spec (ls := srtI acc) (a := u) (c := d) (hne := (fun e => by have h9 := (srtI_perm acc).length_eq; rw [e, ha] at h9; simp [newAb] at h9)) (hl := (by rw [(srtI_perm acc).length_eq]; omega)) (hS := hS)) rfl ?_
      clear hS; rintro _ w ⟨rfl, hS⟩
      replace hS := hS.n5 L (a0 := Own 3 1 (i64s (Lib.compact (srtI acc))) u d) rfl
      refine WL.nil ?_
      refine ⟨by exact ⟨RQ.pure rfl rfl rfl rfl, RQ.pure rfl rfl rfl rfl, RQ.pure rfl rfl rfl rfl, RQ.load rfl rfl rfl rfl (hS.ld 2 rfl rfl), RQ.pure rfl rfl rfl rfl, RQ.pure rfl rfl rfl rfl, RQ.pure rfl rfl rfl rfl, RQ.load rfl rfl rfl rfl (hS.ld 2 rfl rfl)⟩, ?_⟩
      refine WQ.nil ?_
      intro m3
      replace hS := hS.drewN m3; generalize hwm3 : World.drewN _ _ = w at *; clear hwm3
      refine WL.build rfl rfl (cs := [.bool true, .slice u (List.length (i64s (Lib.compact (srtI acc)))) d]) zv_247 rfl rfl <| WL.nil ?_
      refine ⟨by exact ⟨RQ.pure rfl rfl rfl rfl, RQ.pure rfl rfl rfl rfl, RQ.pure rfl rfl rfl rfl, RQ.load rfl rfl rfl rfl (hS.ld 2 rfl rfl), RQ.pure rfl rfl rfl rfl, RQ.pure rfl rfl rfl rfl, RQ.pure rfl rfl rfl rfl, RQ.load rfl rfl rfl rfl (hS.ld 2 rfl rfl)⟩, ?_⟩
      refine WQ.nil ?_
      intro m4
      replace hS := hS.drewN m4; generalize hwm4 : World.drewN _ _ = w at *; clear hwm4
      refine WL.muN rfl rfl rfl mt_229 3 hS rfl rfl rfl rfl (by first | trivial | rfl) (v_out (fun x hx e => by have h9 := hlt x hx; omega)) (fun w hS => ?_)
      replace hS := hS.n5 L (a3 := blk m (.map (mE ((List.map vK xs) ++ [⟨.int .i64 (last + 1), .agg #[.bool true, .slice u (List.length (i64s (Lib.compact (srtI acc)))) d], q⟩])) (q + 1))) rfl
      refine WL.nil ?_
      refine ⟨by exact trivial, ?_⟩
      intro m5
      replace hS := hS.drewN m5; generalize hwm5 : World.drewN _ _ = w at *; clear hwm5
      as_aux_lemma =>
      refine WC.seq <| WC.region <| WL.run 6 [.int .i64 (last + 1)] rfl (by exact hS.ld 2 rfl rfl) ?_
      refine WL.nil <| WC.ret ?_
      have hm : List.map vK xs ++ [(.int .i64 (last + 1), .agg #[.bool true, .slice u (i64s (Lib.compact (srtI acc))).length d], q)] = List.map vK (xs ++ [(VN.mk (last + 1) true (Lib.compact (srtI acc)) u d q)]) := by simp [vK, vV]
      rw [hm] at hS
      replace hS := (St.shsSub (zs' := xs ++ [(VN.mk (last + 1) true (Lib.compact (srtI acc)) u d q)]) (St.shsCons (hS.share.sel 5 [4, 0, 0, 0, 0] rfl) (z := (VN.mk (last + 1) true (Lib.compact (srtI acc)) u d q)) (vF_sh _) [0] rfl) (fun z hz => snoc_mem hz)).sel 5 [2, 2, 2, 0] rfl
      replace hS := hS.n4 L (a2 := blk m (.map (mE (List.map vK (xs ++ [VN.mk (last + 1) true (Lib.compact (srtI acc)) u d q]))) (q + 1))) (a3 := Shs vF (xs ++ [VN.mk (last + 1) true (Lib.compact (srtI acc)) u d q])) rfl
      refine ⟨[.int .i64 (last + 1), .int .i64 0], ⟨rfl, rfl⟩, ?_⟩
      exact ⟨_, rfl, hS, ⟨rfl, rfl, rfl⟩, absr_asc acc, fun z => by
      have h9 := absr_mem acc z
      rw [ha, List.take_of_length_le (by omega)] at h9
      rw [ha, List.take_of_length_le (by omega)]; exact h9⟩
end Go.Proofs.YtbeacjcmdijdmaaGreat
/-! ## A4 -/
namespace Go.Proofs.YtbeacjcmdijdmaaGreat
open Go Go.V Go.RowKit Go.Sort Go.Shelf
set_option maxRecDepth 8192 in
theorem forgot_spec {g w : World} {L : List HP} (k : Int) (b m2 q2 : Nat) (ns : List (Int × Nat)) (hu : BUq ns) (hS : St g (cel b #[.map (some m2)] 248 :: blk m2 (.map (mE (List.map bK ns)) q2) :: L) w) :
    Sp Tryz.prog 141 [.int .i64 k, .pointer (some ⟨b, 0, none⟩)] w (fun v w' => v = .bool (! (inB ns k)) ∧ St g (cel b #[.map (some m2)] 248 :: blk m2 (.map (mE (List.map bK ns)) q2) :: L) w' ∧ (w' = w)) := by
  refine Sp.enter Tryz.func141 rfl (by kernel_rfl) (by kernel_rfl) ?_
  refine WC.seq <| WC.region <| WL.r 1 rfl <| WL.nil <| WC.seq <| WC.region <| WL.run 2 [.map (some m2)] rfl (by exact hS.ld 0 rfl rfl) ?_
  refine WL.lkB rfl rfl mt_248 1 hS rfl rfl rfl hu <| WL.r 1 rfl <| WL.r 1 rfl <| WL.nil <| WC.ret ?_
  refine ⟨[.bool (! (inB ns k))], rfl, ?_⟩
  exact ⟨rfl, hS, rfl⟩
set_option maxRecDepth 8192 in
theorem del_spec {g w : World} {L : List HP} (ls : List Int) (a : Option Addr) (c b m2 q2 : Nat) (ns : List (Int × Nat)) (hu : BUq ns) (hne : ls ≠ []) (hl : ls.length ≤ 1000000) (hS : St g (Own 3 1 (i64s ls) a c :: cel b #[.map (some m2)] 248 :: blk m2 (.map (mE (List.map bK ns)) q2) :: L) w) :
    Sp Tryz.prog 143 [.slice a (List.length (i64s ls)) c, .func (.func 141) #[] #[.pointer (some ⟨b, 0, none⟩)]] w (fun v w' => v = .slice a (List.length (i64s (List.filter (inB ns) ls))) c ∧ St g (Own 3 1 (i64s (List.filter (inB ns) ls)) a c :: cel b #[.map (some m2)] 248 :: blk m2 (.map (mE (List.map bK ns)) q2) :: L) w') := by
  obtain ⟨b0, rfl⟩ := hS.addrI 0 rfl hne
  obtain ⟨hH, hb, hcap⟩ := hS.holdsI 0 rfl
  have gv : ∀ (W : World) (x : Int), St g (cel b #[.map (some m2)] 248 :: blk m2 (.map (mE (List.map bK ns)) q2) :: L) W → Go.Proofs.FnGives Tryz.prog 141 #[.pointer (some ⟨b, 0, none⟩)] #[.int .i64 x] (.bool (!inB ns x)) W := fun W x hW => by
    have h := (forgot_spec x b m2 q2 ns hu hW).go
    exact h.mono fun e w' ⟨v, he, hv, _, hw⟩ => ⟨by rw [he, hv], 0, by rw [hw]; rfl⟩
  have hp : Go.Proofs.PredAt Tryz.prog 141 #[.pointer (some ⟨b, 0, none⟩)] (Value.int .i64) (fun x => !inB ns x) w := fun W x hB => gv W x (hS.under hB).tail
  have hpo : Go.Proofs.PredOver Tryz.prog 141 #[.pointer (some ⟨b, 0, none⟩)] (Value.int .i64) (fun x => !inB ns x) b0 0 ls.toArray.size w := fun n os dk x hd => gv _ x (by
    have h1 := (hS.putI dk.toList (by simpa using hd) n os).tail
    simpa [sortWorld] using h1)
  have h := Go.Proofs.AnyE.slices_DeleteFunc Tryz.delA (Value.int .i64) (fun _ => rfl) (fun x => !inB ns x) 141 #[.pointer (some ⟨b, 0, none⟩)] (Go.Proofs.enters_of Tryz.func141 (by kernel_rfl) rfl) 0 Tryz.zeroValue3 b0 0 c ls.toArray w hp hpo hH (by simp; omega) (by simpa using hcap)
  have hf : (ls.toArray.toList.filter fun x => !(fun x => !inB ns x) x) = ls.filter (inB ns) := by simp
  have hsz : ls.toArray.size = (i64s ls).length := by simp
  rw [hf, hsz] at h
  refine ⟨⟨_, _, Tryz.func143, by kernel_rfl, rfl⟩, h.mono fun e w' ⟨he, n, hw⟩ => ⟨_, he, by rw [i64s_len], ?_⟩⟩
  subst hw
  have hfl : (ls.filter (inB ns)).length ≤ ls.length := List.length_filter_le _ _
  have h2 := hS.putI (ls.filter (inB ns) ++ List.replicate (ls.length - (ls.filter (inB ns)).length) 0) (by simp; omega) n #[]
  rw [i64s_len]
  have h3 := h2.ownTake (ls.filter (inB ns)).length
  rw [i64s_take, List.take_left] at h3
  simpa using h3
set_option maxHeartbeats 2000000 in
set_option maxRecDepth 8192 in
theorem needed_spec {g w : World} {L : List HP} (p m : Nat) (cap last : Int) (xs : List VN) (q : Nat) (ss : List Int) (hG : GOk xs q) (hK : Keys xs ss) (hS : St g (cel p #[.int .i64 cap, .int .i64 last, .map (some m)] 231 :: blk m (.map (mE (List.map vK xs)) q) :: Shs vF xs :: L) w) :
    Sp Tryz.prog 140 [.pointer (some ⟨p, 0, none⟩)] w (fun v w' => ∃ (m2 q2 : Nat) (ns : List (Int × Nat)), v = .map (some m2) ∧ St g (blk m2 (.map (mE (List.map bK ns)) q2) :: cel p #[.int .i64 cap, .int .i64 last, .map (some m)] 231 :: blk m (.map (mE (List.map vK xs)) q) :: Shs vF xs :: L) w' ∧ (BUq ns) ∧ (∀ z, inB ns z = true ↔ needG xs z)) := by
  refine Sp.enter Tryz.func140 rfl (by kernel_rfl) (by kernel_rfl) ?_
  refine WC.seq <| WC.region ?_
  have hu := hG.uniq; have ht := hG.toVOk; have hsl := i64s_len ss; have hssl : ss.length ≤ 4096 := by rw [hK.perm.length_eq, List.length_map]; exact hG.num
  refine WL.r 1 rfl <| WL.nil <| WC.seq <| WC.region <| WL.mkM rfl rfl hS (fun b1 w hS => ?_)
  refine WL.r 1 rfl <| WL.nil <| WC.seq <| WC.region <| WL.r 1 rfl <| WL.nil <| WC.seq <| WC.seq <| WC.region <| WL.r 1 rfl <| WL.call rfl rfl (vers_spec (p := p) (m := m) (cap := cap) (last := last) (xs := xs) (q := q) (ss := ss) (ht := (by first | assumption | exact (GI.ok (by assumption)).toVOk)) (hp := hK.perm) (hs := hK.le) (hS := (hS.sel 4 [1, 1, 1, 0] rfl))) rfl ?_
  clear hS; rintro _ w ⟨a1, c1, rfl, hS⟩
  replace hS := hS.n5 L (a0 := Own 3 1 (i64s ss) a1 c1) (a4 := blk b1 (.map (mE []) 0)) rfl
  refine WL.r 2 rfl <| WL.nil <| WC.block ?_
  replace hS := hS.nil_ 3 1
  refine WC.loop [0, 2, 3, 4, 12, 13, 14] (fun kM vs w => ∃ (k : Nat) (ns : List (Int × Nat)) (q2 : Nat) (lv : List Int) (u : Option Addr) (d : Nat), vs = [.pointer (some ⟨p, 0, none⟩), .map none, .map (some b1), .slice u (List.length (i64s lv)) d, .slice a1 (List.length (i64s ss)) c1, .int .i64 (List.length (i64s ss) : Int), .int .i64 (k : Int)] ∧ St g (Own 3 1 (i64s lv) u d :: Own 3 1 (i64s ss) a1 c1 :: cel p #[.int .i64 cap, .int .i64 last, .map (some m)] 231 :: blk m (.map (mE (List.map vK xs)) q) :: Shs vF xs :: blk b1 (.map (mE (List.map bK ns)) q2) :: L) w ∧ (k ≤ ss.length) ∧ (lv = (List.take k ss).filter (liveG xs)) ∧ (BUq ns) ∧ (∀ z, inB ns z = true ↔ z ∈ lv ∨ (0 < z ∧ ∃ x ∈ lv, ∃ y ∈ lv, x < y ∧ baseG xs x y = z)) ∧ (ss.length - k) = kM) ((List.length ss) - 0) ⟨0, [], 0, [], none, 0, rfl, hS, (Nat.zero_le _), (rfl), (List.Pairwise.nil), (fun z => by simp [inB]), rfl⟩ ?_
  clear hS; rintro _ _ w j ⟨k, ns, q2, lv, u, d, rfl, hS, hk, hlv, hns, hm, rfl⟩
  refine WC.seq <| WC.region <| WL.r 1 rfl <| WL.nil ?_
  as_aux_lemma =>
  refine WC.seq <| WC.ifP rfl (fun cd1 => ?_) (fun cd1 => ?_)
  · refine WC.skip <| WC.seq <| WC.block <| WC.seq <| WC.region ?_
    obtain ⟨n, hn⟩ : ∃ u, ss[k]? = some u := ⟨_, List.getElem?_eq_getElem (by omega)⟩; have hlvl : lv.length ≤ k := by rw [hlv]; exact Nat.le_trans (List.length_filter_le _ _) (by rw [List.length_take]; omega)
    refine WL.ix rfl rfl (i := (k : Int)) (k) el_56 rfl rfl (by omega) (by omega) (hS.rdO 1 rfl (i64s_at hn)).1 ?_
    refine WL.run 2 [.int .i64 n] rfl (by exact (hS.rdO 1 rfl (i64s_at hn)).2 0 _ rfl) ?_
    refine WL.nil <| WC.seq <| WC.seq <| WC.region <| WL.r 2 rfl <| WL.call rfl rfl (live_spec (p := p) (m := m) (cap := cap) (last := last) (xs := xs) (q := q) (n := n) (hu := (by first | assumption | exact (GI.ok (by assumption)).uniq)) (hS := (hS.sel 5 [2, 2, 2, 0, 0] rfl))) rfl ?_
    clear hS; rintro _ w ⟨rfl, hS⟩
    replace hS := hS.n6 L rfl
    refine WL.r 1 rfl <| WL.nil <| WC.if_ rfl (fun cd2 => ?_) (fun cd2 => ?_)
    · refine WC.exit <| WC.region <| WL.r 1 rfl <| WL.nw 43 rfl (w64 (by omega)) ?_
      refine WL.r 1 rfl <| WL.nil ?_
      exact ⟨_, by omega, k + 1, ns, q2, lv, u, d, rfl, (hS.sel 5 [3, 3, 0, 0, 0] rfl), (by omega), (by rw [hlv]; exact (fl_skip hn (by simpa using cd2)).symm), (hns), (hm), rfl⟩
    · refine WC.skip <| WC.seq <| WC.region <| WL.r 2 rfl <| WL.muB rfl rfl rfl mt_248 5 hS rfl rfl rfl rfl hns (fun ns1 qs1 w hns1 hmem1 hS => ?_)
      replace hS := hS.n6 L (a5 := blk b1 (.map (mE (List.map bK ns1)) qs1)) rfl
      refine WL.nil ?_
      as_aux_lemma =>
      refine WC.seq <| WC.seq <| WC.region ?_
      have hll := i64s_len lv
      refine WL.r 3 rfl <| WL.nil <| WC.block <| WC.loop [0, 2, 3, 4, 6, 12, 13, 14, 15, 16, 17, 18, 19, 20, 21, 22, 23, 24, 25, 26] (fun kM vs w => ∃ (k2 : Nat) (nsb : List (Int × Nat)) (qb : Nat), vs = [.pointer (some ⟨p, 0, none⟩), .map none, .map (some b1), .slice u (List.length (i64s lv)) d, .int .i64 n, .slice a1 (List.length (i64s ss)) c1, .int .i64 (List.length (i64s ss) : Int), .int .i64 (k : Int), .bool (decide ((k : Int) < (List.length (i64s ss) : Int))), .pointer (some ⟨bo a1, (oo a1) + (k * 1), none⟩), .int .i64 n, .pointer (some ⟨p, 0, none⟩), .int .i64 n, .bool (liveG xs n), .bool (! (liveG xs n)), .map (some b1), .int .i64 n, .slice u (List.length (i64s lv)) d, .int .i64 (List.length (i64s lv) : Int), .int .i64 (k2 : Int)] ∧ St g (cel p #[.int .i64 cap, .int .i64 last, .map (some m)] 231 :: blk m (.map (mE (List.map vK xs)) q) :: Shs vF xs :: Own 3 1 (i64s lv) u d :: Own 3 1 (i64s ss) a1 c1 :: blk b1 (.map (mE (List.map bK nsb)) qb) :: L) w ∧ (k2 ≤ lv.length) ∧ (BUq nsb) ∧ (∀ z, inB nsb z = true ↔ z = n ∨ inB ns z = true ∨ (0 < z ∧ ∃ x ∈ List.take k2 lv, baseG xs x n = z)) ∧ (lv.length - k2) = kM) ((List.length lv) - 0) ⟨0, ns1, qs1, rfl, hS, (Nat.zero_le _), (hns1), (fun z => by rw [hmem1]; simp), rfl⟩ ?_
      clear hS; rintro _ _ w j ⟨k2, nsb, qb, rfl, hS, hk2, hnb, hmb, rfl⟩
      refine WC.seq <| WC.region ?_
      have hll := i64s_len lv
      refine WL.r 1 rfl <| WL.nil <| WC.seq <| WC.ifP rfl (fun cd3 => ?_) (fun cd3 => ?_)
      · refine WC.skip <| WC.seq <| WC.block <| WC.seq <| WC.region ?_
        obtain ⟨x, hx⟩ : ∃ u, lv[k2]? = some u := ⟨_, List.getElem?_eq_getElem (by omega)⟩
        refine WL.ix rfl rfl (i := (k2 : Int)) (k2) el_56 rfl rfl (by omega) (by omega) (hS.rdO 3 rfl (i64s_at hx)).1 ?_
        refine WL.run 2 [.int .i64 x] rfl (by exact (hS.rdO 3 rfl (i64s_at hx)).2 0 _ rfl) ?_
        refine WL.nil ?_
        as_aux_lemma =>
        refine WC.seq <| WC.region <| WL.r 3 rfl <| WL.call rfl rfl (base_spec (p := p) (m := m) (cap := cap) (last := last) (xs := xs) (q := q) (n1 := x) (n2 := n) (hG := (by first | assumption | exact GI.ok (by assumption))) (hS := hS)) rfl ?_
        clear hS; rintro _ w ⟨rfl, hS⟩
        replace hS := hS.n6 L rfl
        refine WL.r 1 rfl <| WL.nil <| WC.seq <| WC.region <| WL.r 2 rfl <| WL.nil <| WC.ifP rfl (fun cd4 => ?_) (fun cd4 => ?_)
        · refine WC.region <| WL.r 2 rfl <| WL.muB rfl rfl rfl mt_248 5 hS rfl rfl rfl rfl hnb (fun ns2 qs2 w hns2 hmem2 hS => ?_)
          replace hS := hS.n6 L (a5 := blk b1 (.map (mE (List.map bK ns2)) qs2)) rfl
          refine WL.nil <| WC.region <| WL.r 1 rfl <| WL.nw 38 rfl (w64 (by omega)) ?_
          refine WL.r 1 rfl <| WL.nil ?_
          exact ⟨_, by omega, k2 + 1, ns2, qs2, rfl, hS, (by omega), (hns2), (need_in hmb hx cd4 hmem2), rfl⟩
        · refine WC.skip <| WC.region <| WL.r 1 rfl <| WL.nw 38 rfl (w64 (by omega)) ?_
          refine WL.r 1 rfl <| WL.nil ?_
          exact ⟨_, by omega, k2 + 1, nsb, qb, rfl, hS, (by omega), (hnb), (need_in0 hmb hx cd4), rfl⟩
      · refine WC.exit <| WC.region ?_
        have hll2 := i64s_len lv
        refine WL.r 2 rfl <| WL.lit rfl rfl (i64s [n]) el_56 hS (by exact ⟨rfl, rfl⟩) (i64s_ok _) rfl (Nat.le_of_ble_eq_true rfl) (fun b2 w hS => ?_)
        refine WL.app rfl rfl 4 (i64s (lv ++ [n])) el_56 hS rfl (hS.srcO 0 rfl) (i64s_app _ _).symm (Rm.of (by first | omega | (simp <;> omega)) (by decide)) rfl rfl (fun a2 c2 w hS => ?_)
        replace hS := hS.n7 L (a0 := Own 3 1 (i64s [n]) (some ⟨b2, 0, none⟩) (List.length (i64s [n]))) (a4 := Own 3 1 (i64s (lv ++ [n])) a2 c2) rfl
        refine WL.r 1 rfl <| WL.nil ?_
        as_aux_lemma =>
        refine WC.region <| WL.r 1 rfl <| WL.nw 43 rfl (w64 (by omega)) ?_
        refine WL.r 1 rfl <| WL.nil ?_
        exact ⟨_, by omega, k + 1, nsb, qb, lv ++ [n], a2, c2, rfl, (hS.sel 6 [4, 4, 1, 1, 1] rfl), (by omega), (by rw [hlv]; exact (fl_take hn (by simpa using cd2)).symm), (hnb), (need_next hm (fun z => by rw [hmb, List.take_of_length_le (by omega)]) (fun x hx => by rw [hlv] at hx; exact take_lt hK.asc hn x (List.mem_filter.1 hx).1)), rfl⟩
  · refine WC.exit <| WC.seq <| WC.region <| WL.r 2 rfl <| WL.nil <| WC.ret ?_
    refine ⟨[.map (some b1)], rfl, ?_⟩
    replace hS := (hS.sel 6 [5, 2, 2, 2] rfl)
    exact ⟨_, _, _, rfl, hS, hns, need_end hK (by rw [hlv, List.take_of_length_le (by omega)] at hm; exact hm)⟩
end Go.Proofs.YtbeacjcmdijdmaaGreat
/-! ## A5 -/
namespace Go.Proofs.YtbeacjcmdijdmaaGreat
open Go Go.V Go.RowKit
set_option maxRecDepth 8192 in
theorem rel_nf {g w : World} {L : List HP} (p m : Nat) (cap last : Int) (xs : List VN) (q : Nat) (n : Int) (hu : VUq xs) (hl : liveG xs n = false) (hS : St g (cel p #[.int .i64 cap, .int .i64 last, .map (some m)] 231 :: blk m (.map (mE (List.map vK xs)) q) :: Shs vF xs :: L) w) :
    Sp Tryz.prog 75 [.pointer (some ⟨p, 0, none⟩), .int .i64 n] w (fun v w' => v = .int .i64 4 ∧ St g (cel p #[.int .i64 cap, .int .i64 last, .map (some m)] 231 :: blk m (.map (mE (List.map vK xs)) q) :: Shs vF xs :: L) w') := by
  refine Sp.enter Tryz.func75 rfl (by kernel_rfl) (by kernel_rfl) ?_
  have _ := hu
  refine WC.seq <| WC.region <| WL.r 1 rfl <| WL.nil <| WC.seq <| WC.seq <| WC.region <| WL.r 2 rfl <| WL.call rfl rfl (live_spec (p := p) (m := m) (cap := cap) (last := last) (xs := xs) (q := q) (n := n) (hu := (by first | assumption | exact (GI.ok (by assumption)).uniq)) (hS := hS)) rfl ?_
  clear hS; rintro _ w ⟨rfl, hS⟩
  replace hS := hS.n3 L rfl
  refine WL.r 1 rfl <| WL.nil <| WC.ifT rfl (by rw [hl]; rfl) ?_
  refine WC.seq <| WC.region <| WL.r 1 rfl <| WL.nil <| WC.ret ?_
  refine ⟨[.int .i64 4], rfl, ?_⟩
  exact ⟨rfl, hS⟩
set_option maxHeartbeats 2000000 in
set_option maxRecDepth 8192 in
theorem rel_ok {g w : World} {L : List HP} (p m : Nat) (cap last : Int) (xs : List VN) (q : Nat) (k : Nat) (x : VN) (hG : GOk xs q) (hx : xs[k]? = some x) (hl : x.live = true) (hS : St g (cel p #[.int .i64 cap, .int .i64 last, .map (some m)] 231 :: blk m (.map (mE (List.map vK xs)) q) :: Shs vF xs :: L) w) :
    Sp Tryz.prog 75 [.pointer (some ⟨p, 0, none⟩), .int .i64 x.n] w (fun v w' => ∃ (xs2 : List VN), v = .int .i64 0 ∧ St g (cel p #[.int .i64 cap, .int .i64 last, .map (some m)] 231 :: blk m (.map (mE (List.map vK xs2)) q) :: Shs vF xs2 :: L) w' ∧ (GOk xs2 q) ∧ (RelP xs x.n xs2)) := by
  refine Sp.enter Tryz.func75 rfl (by kernel_rfl) (by kernel_rfl) ?_
  refine WC.seq <| WC.region <| WL.r 1 rfl <| WL.nil <| WC.seq <| WC.seq <| WC.region ?_
  have hu := hG.uniq
  refine WL.r 2 rfl <| WL.call rfl rfl (live_in (p := p) (m := m) (cap := cap) (last := last) (xs := xs) (q := q) (k := k) (x := x) (hx := hx) (hu := hu) (hS := hS)) rfl ?_
  clear hS; rintro _ w ⟨rfl, hS⟩
  replace hS := hS.n3 L rfl
  refine WL.r 1 rfl <| WL.nil <| WC.ifF rfl (by rw [hl]; rfl) ?_
  refine WC.skip <| WC.seq <| WC.plan [([0, 4, 5, 9, 1, 6, 2, 7, 3, 8, 10, 11], some (12, [0, 1, 2, 3, 4])), ([], some (13, []))] (by kernel_rfl) (by kernel_rfl) ?_
  refine WQ.run 10 [.map (some m), .map (some m)] rfl (by exact ⟨hS.ld 0 rfl rfl, hS.ld 0 rfl rfl⟩) ?_
  refine WQ.lk rfl rfl mt_229 1 hS rfl rfl rfl (by first | trivial | rfl) (r := some (k, .agg #[.bool x.live, .slice x.a (i64s x.ab).length x.c])) (v_in hx hu) rfl ?_
  refine WQ.r 1 rfl <| WQ.nil ?_
  intro m1
  replace hS := hS.drewN m1; generalize hwm1 : World.drewN _ _ = w at *; clear hwm1
  refine WL.build rfl rfl (cs := [.bool false, .slice x.a (List.length (i64s x.ab)) x.c]) zv_247 rfl rfl <| WL.nil ?_
  refine ⟨by exact ⟨RQ.pure rfl rfl rfl rfl, RQ.pure rfl rfl rfl rfl, RQ.pure rfl rfl rfl rfl, RQ.load rfl rfl rfl rfl (hS.ld 0 rfl rfl), RQ.pure rfl rfl rfl rfl⟩, ?_⟩
  refine WQ.nil ?_
  intro m2
  replace hS := hS.drewN m2; generalize hwm2 : World.drewN _ _ = w at *; clear hwm2
  refine WL.muR (List.map vK (List.set xs k (VN.mk x.n false x.ab x.a x.c x.born))) rfl rfl rfl mt_229 1 hS rfl (k := .int .i64 x.n) (v := .agg #[.bool false, .slice x.a (List.length (i64s x.ab)) x.c]) rfl rfl rfl (by first | trivial | rfl) (j := k) (u := (vV x)) (v_in hx hu) (by rw [List.getElem?_map, hx]; rfl) (List.map_set (f := vK) (l := xs) (i := k) (a := (VN.mk x.n false x.ab x.a x.c x.born))).symm (fun w hS => ?_)
  replace hS := hS.n3 L (a1 := blk m (.map (mE (List.map vK (List.set xs k (VN.mk x.n false x.ab x.a x.c x.born)))) q)) rfl
  refine WL.nil ?_
  refine ⟨by exact trivial, ?_⟩
  intro m3
  replace hS := hS.drewN m3; generalize hwm3 : World.drewN _ _ = w at *; clear hwm3
  as_aux_lemma =>
  refine WC.seq <| WC.region ?_
  replace hS := (St.shsMap (zs' := xs.set k (VN.mk x.n false x.ab x.a x.c x.born)) (hS.sel 3 [2, 0, 0] rfl) (fun z hz => by
    rcases (set_mem hu hx z).1 hz with rfl | h
    · exact ⟨x, List.mem_of_getElem? hx, rfl⟩
    · exact ⟨z, h.1, rfl⟩)).sel 3 [1, 1, 0] rfl
  obtain ⟨xs1, hxs1⟩ : ∃ xs1, xs1 = xs.set k (VN.mk x.n false x.ab x.a x.c x.born) := ⟨_, rfl⟩
  rw [← hxs1] at hS
  have hv1 : ∀ z, vw xs1 z = dead (vw xs) x.n z := by rw [hxs1]; exact dead_set hu hx
  have hV1 : VOk xs1 q := by rw [hxs1]; exact hG.toVOk.set hx rfl rfl
  have hG1 : GOk xs1 q := GF.gok (by rw [funext hv1]; exact hG.gf.dead _) hV1
  obtain ⟨ss, hK⟩ := keys_ex hV1.uniq
  replace hS := hS.n3 L (a1 := blk m (.map (mE (List.map vK xs1)) q)) (a2 := Shs vF xs1) rfl
  refine WL.r 1 rfl <| WL.call rfl rfl (needed_spec (p := p) (m := m) (cap := cap) (last := last) (xs := xs1) (q := q) (ss := ss) (hG := (by first | assumption | exact GI.ok (by assumption))) (hK := hK) (hS := hS)) rfl ?_
  clear hS; rintro _ w ⟨m4, q1, ns1, rfl, hS, f1, f2⟩
  replace hS := hS.n4 L (a0 := blk m4 (.map (mE (List.map bK ns1)) q1)) rfl
  refine WL.new rfl rfl zv_248 hS (fun b1 w hS => ?_)
  refine WL.st rfl rfl rfl 0 hS rfl rfl rfl rfl rfl rfl (fun w hS => ?_)
  replace hS := hS.n5 L (a0 := cel b1 #[.map (some m4)] 248) rfl
  refine WL.nil <| WC.seq <| WC.region <| WL.mkF rfl rfl (vs := [.pointer (some ⟨b1, 0, none⟩)]) rfl <| WL.r 1 rfl <| WL.nil <| WC.seq <| WC.seq <| WC.region ?_
  have hsl := i64s_len ss; have hssl : ss.length ≤ 4096 := by rw [hK.perm.length_eq, List.length_map]; exact hV1.num
  refine WL.r 1 rfl <| WL.call rfl rfl (vers_spec (p := p) (m := m) (cap := cap) (last := last) (xs := xs1) (q := q) (ss := ss) (ht := (by first | assumption | exact (GI.ok (by assumption)).toVOk)) (hp := hK.perm) (hs := hK.le) (hS := (hS.sel 5 [2, 2, 2, 0, 0] rfl))) rfl ?_
  clear hS; rintro _ w ⟨a1, c1, rfl, hS⟩
  replace hS := hS.n6 L (a0 := Own 3 1 (i64s ss) a1 c1) rfl
  refine WL.r 2 rfl <| WL.nil ?_
  as_aux_lemma =>
  refine WC.block <| WC.loop [0, 4, 6, 31, 32, 33] (fun kM vs w => ∃ (k2 : Nat) (cur : List VN), vs = [.pointer (some ⟨p, 0, none⟩), .int .i64 0, .func (.func 141) #[] #[.pointer (some ⟨b1, 0, none⟩)], .slice a1 (List.length (i64s ss)) c1, .int .i64 (List.length (i64s ss) : Int), .int .i64 (k2 : Int)] ∧ St g (Own 3 1 (i64s ss) a1 c1 :: cel p #[.int .i64 cap, .int .i64 last, .map (some m)] 231 :: blk m (.map (mE (List.map vK cur)) q) :: Shs vF cur :: cel b1 #[.map (some m4)] 248 :: blk m4 (.map (mE (List.map bK ns1)) q1) :: L) w ∧ (k2 ≤ ss.length) ∧ (VOk cur q) ∧ (∀ z, vw cur z = half (inB ns1) (vw xs1) (List.take k2 ss) z) ∧ (ss.length - k2) = kM) ((List.length ss) - 0) ⟨0, xs1, rfl, hS, (Nat.zero_le _), (hV1), (fun z => by simp [half]), rfl⟩ ?_
  clear hS; rintro _ _ w j ⟨k2, cur, rfl, hS, hk2, hV, hD, rfl⟩
  refine WC.seq <| WC.region ?_
  have hsl := i64s_len ss; have hssl : ss.length ≤ 4096 := by rw [hK.perm.length_eq, List.length_map]; exact hV1.num
  refine WL.r 1 rfl <| WL.nil <| WC.seq <| WC.ifP rfl (fun cd1 => ?_) (fun cd1 => ?_)
  · refine WC.skip <| WC.seq <| WC.block <| WC.seq <| WC.region ?_
    obtain ⟨n, hn⟩ : ∃ u, ss[k2]? = some u := ⟨_, List.getElem?_eq_getElem (by omega)⟩; obtain ⟨hnk, j, y, hj, hyn, hy1⟩ := half_at hK hn hD; have huc := hV.uniq
    refine WL.ix rfl rfl (i := (k2 : Int)) (k2) el_56 rfl rfl (by omega) (by omega) (hS.rdO 0 rfl (i64s_at hn)).1 ?_
    refine WL.run 2 [.int .i64 n] rfl (by exact (hS.rdO 0 rfl (i64s_at hn)).2 0 _ rfl) ?_
    refine WL.nil <| WC.seq <| WC.region <| WL.run 5 [.map (some m)] rfl (by exact hS.ld 1 rfl rfl) ?_
    refine WL.lk rfl rfl mt_229 2 hS rfl rfl rfl (by first | trivial | rfl) (r := some (j, .agg #[.bool y.live, .slice y.a (i64s y.ab).length y.c])) (hyn ▸ v_in hj huc) rfl ?_
    refine WL.new rfl rfl zv_247 hS (fun b2 w hS => ?_)
    refine WL.stF rfl rfl rfl 0 hS rfl rfl rfl rfl rfl ag_247 (fun w hS => ?_)
    replace hS := hS.n7 L (a0 := cel b2 #[.bool y.live, .slice y.a (List.length (i64s y.ab)) y.c] 247) rfl
    refine WL.nil ?_
    as_aux_lemma =>
    refine WC.seq <| WC.seq <| WC.region <| WL.r 2 rfl <| WL.callV (bs := [.pointer (some ⟨b1, 0, none⟩)]) rfl rfl rfl (forgot_spec (k := n) (b := b1) (m2 := m4) (q2 := q1) (ns := ns1) (hu := (by assumption)) (hS := (hS.sel 7 [5, 5, 0, 0, 0, 0, 0] rfl))) rfl ?_
    clear hS; rintro _ w ⟨rfl, hS, f3⟩
    replace hS := hS.n7 L rfl
    refine WL.nil <| WC.if_ rfl (fun cd2 => ?_) (fun cd2 => ?_)
    · refine WC.seq <| WC.region <| WL.run 5 [.map (some m)] rfl (by exact hS.ld 4 rfl rfl) ?_
      refine WL.del rfl rfl mt_229 5 hS rfl rfl rfl (by first | trivial | rfl) (j := j) (v := (vV y)) (hyn ▸ v_in hj huc) (by rw [List.length_map]; exact (List.getElem?_eq_some_iff.1 hj).1) (fun w hS => ?_)
      replace hS := hS.n7 L (a5 := blk m (.map (mE (List.eraseIdx (List.map vK cur) j)) q)) rfl
      refine WL.nil <| WC.exit <| WC.region <| WL.r 1 rfl <| WL.nw 63 rfl (w64 (by omega)) ?_
      refine WL.r 1 rfl <| WL.nil ?_
      rw [show (List.map vK cur).eraseIdx j = List.map vK (cur.eraseIdx j) by simp [List.eraseIdx_eq_take_drop_succ]] at hS
      replace hS := (St.shsSub (zs' := cur.eraseIdx j) (hS.at_ 6 rfl) (fun z hz => (List.eraseIdx_sublist cur j).subset hz)).sel 7 [4, 4, 4, 0, 0, 0] rfl
      replace hS := hS.n6 L (a2 := blk m (.map (mE (List.map vK (List.eraseIdx cur j))) q)) (a3 := Shs vF (List.eraseIdx cur j)) rfl
      exact ⟨_, by omega, k2 + 1, List.eraseIdx cur j, rfl, hS, (by omega), (hV.rem j), (half_del huc hj hyn hn hD (by simpa using cd2)), rfl⟩
    · refine WC.skip <| WC.seq <| WC.region ?_
      have hyl : y.ab.length ≤ 4096 := by have h9 := hG1.lenA n; rw [ab_vw, hy1] at h9; exact h9
      have hye : y.ab ≠ [] := fun e => by have h9 := hG1.gf.self n _ _ hy1; rw [e] at h9; cases h9
      replace hS : St g (Sh 3 1 (i64s y.ab) y.a y.c :: cel b1 #[.map (some m4)] 248 :: blk m4 (.map (mE (List.map bK ns1)) q1) :: cel b2 #[.bool y.live, .slice y.a (List.length (i64s y.ab)) y.c] 247 :: Own 3 1 (i64s ss) a1 c1 :: cel p #[.int .i64 cap, .int .i64 last, .map (some m)] 231 :: blk m (.map (mE (List.map vK cur)) q) :: Shs vF cur :: L) w := hS.shsGet 6 rfl (List.mem_of_getElem? hj)
      refine WL.run 2 [.slice y.a (List.length (i64s y.ab)) y.c] rfl (by exact hS.ld 3 rfl rfl) ?_
      refine WL.call rfl rfl (clone_sh (ls := y.ab) (a := y.a) (c := y.c) (hl := (by omega)) (hS := hS)) rfl ?_
      clear hS; rintro _ w ⟨a2, c2, rfl, hS⟩
      replace hS := hS.n9 L (a0 := Own 3 1 (i64s y.ab) a2 c2) (a1 := Sh 3 1 (i64s y.ab) y.a y.c) rfl
      refine WL.r 1 rfl <| WL.call rfl rfl (del_spec (ls := y.ab) (a := a2) (c := c2) (b := b1) (m2 := m4) (q2 := q1) (ns := ns1) (hu := (by assumption)) (hne := hye) (hl := (by omega)) (hS := (hS.sel 4 [0, 1, 1, 0] rfl))) rfl ?_
      clear hS; rintro _ w ⟨rfl, hS⟩
      replace hS := hS.n9 L (a0 := Own 3 1 (i64s (List.filter (inB ns1) y.ab)) a2 c2) rfl
      refine WL.r 1 rfl <| WL.st rfl rfl rfl 4 hS rfl rfl rfl rfl rfl rfl (fun w hS => ?_)
      replace hS := hS.n9 L (a4 := cel b2 #[.bool y.live, .slice a2 (List.length (i64s (List.filter (inB ns1) y.ab))) c2] 247) rfl
      refine WL.nil ?_
      as_aux_lemma =>
      refine WC.plan [([0, 4, 1, 2, 3], some (5, [0, 1, 2, 3, 4])), ([], some (6, []))] (by kernel_rfl) (by kernel_rfl) ?_
      refine WQ.run 5 [.map (some m)] rfl (by exact hS.ld 6 rfl rfl) ?_
      refine WQ.nil ?_
      intro m5
      replace hS := hS.drewN m5; generalize hwm5 : World.drewN _ _ = w at *; clear hwm5
      refine WL.ldF rfl rfl 4 hS rfl rfl ag_247 <| WL.nil ?_
      refine ⟨by exact ⟨RQ.pure rfl rfl rfl rfl, RQ.pure rfl rfl rfl rfl, RQ.pure rfl rfl rfl rfl, RQ.load rfl rfl rfl rfl (hS.ld 6 rfl rfl), RQ.pure rfl rfl rfl rfl⟩, ?_⟩
      refine WQ.nil ?_
      intro m6
      replace hS := hS.drewN m6; generalize hwm6 : World.drewN _ _ = w at *; clear hwm6
      refine WL.muR (List.map vK (List.set cur j (VN.mk n y.live (List.filter (inB ns1) y.ab) a2 c2 y.born))) rfl rfl rfl mt_229 7 hS rfl (k := .int .i64 n) (v := .agg #[.bool y.live, .slice a2 (List.length (i64s (List.filter (inB ns1) y.ab))) c2]) rfl rfl rfl (by first | trivial | rfl) (j := j) (u := (vV y)) (hyn ▸ v_in hj huc) (by rw [List.getElem?_map, hj, ← hyn]; rfl) (List.map_set (f := vK) (l := cur) (i := j) (a := VN.mk n y.live (List.filter (inB ns1) y.ab) a2 c2 y.born)).symm (fun w hS => ?_)
      replace hS := hS.n9 L (a7 := blk m (.map (mE (List.map vK (List.set cur j (VN.mk n y.live (List.filter (inB ns1) y.ab) a2 c2 y.born)))) q)) rfl
      refine WL.nil ?_
      refine ⟨by exact trivial, ?_⟩
      intro m7
      replace hS := hS.drewN m7; generalize hwm7 : World.drewN _ _ = w at *; clear hwm7
      refine WC.region <| WL.r 1 rfl <| WL.nw 63 rfl (w64 (by omega)) ?_
      refine WL.r 1 rfl <| WL.nil ?_
      replace hS := (St.shsSub (zs' := cur.set j (VN.mk n y.live (List.filter (inB ns1) y.ab) a2 c2 y.born)) (St.shsCons (hS.share.sel 9 [8, 0, 0, 0, 2, 2, 2] rfl) (z := (VN.mk n y.live (List.filter (inB ns1) y.ab) a2 c2 y.born)) (vF_sh _) [0] rfl) (fun z hz => by
        rcases (set_mem huc hj z).1 hz with rfl | h
        · exact List.mem_cons_self ..
        · exact List.mem_cons_of_mem _ h.1)).sel 7 [4, 4, 4, 0, 1, 1] rfl
      replace hS := hS.n6 L (a3 := Shs vF (List.set cur j (VN.mk n y.live (List.filter (inB ns1) y.ab) a2 c2 y.born))) rfl
      exact ⟨_, by omega, k2 + 1, List.set cur j (VN.mk n y.live (List.filter (inB ns1) y.ab) a2 c2 y.born), rfl, hS, (by omega), (hV.set hj hyn.symm rfl), (half_set huc hj hyn hn hD (by simpa using cd2) hnk hyn.symm rfl rfl), rfl⟩
  · refine WC.exit <| WC.seq <| WC.region ?_
    have hD2 : ∀ z, vw cur z = keep (inB ns1) (vw xs1) z := fun z => by rw [hD, List.take_of_length_le (by omega), half_end hK]
    refine WL.r 1 rfl <| WL.nil <| WC.ret ?_
    refine ⟨[.int .i64 0], rfl, ?_⟩
    replace hS := (hS.sel 6 [1, 1, 1] rfl)
    exact ⟨_, rfl, hS, GF.gok (by rw [funext hD2]; exact hG1.gf.keep _) hV, xs1, inB ns1, hv1, f2, hD2⟩
end Go.Proofs.YtbeacjcmdijdmaaGreat
/-! ## A6 -/
namespace Go.Proofs.YtbeacjcmdijdmaaGreat
open Go Go.V Go.RowKit
set_option maxRecDepth 8192 in
theorem add_spec {g w : World} {L : List HP} (p m : Nat) (cap last : Int) (xs : List VN) (q : Nat) (ps : List Int) (a : Option Addr) (c : Nat) (hI : GI xs q cap last) (hla : last < 1000000000) (hS : St g (Sh 3 1 (i64s ps) a c :: cel p #[.int .i64 cap, .int .i64 last, .map (some m)] 231 :: blk m (.map (mE (List.map vK xs)) q) :: Shs vF xs :: L) w) :
    Sp Tryz.prog 186 [.pointer (some ⟨p, 0, none⟩), .slice a (List.length (i64s ps)) c] w (fun v w' => ∃ (xs2 : List VN) (q2 : Nat) (last2 : Int), v = .tuple #[.int .i64 (addV xs cap last ps), .int .i64 (addE xs cap ps)] ∧ St g (Sh 3 1 (i64s ps) a c :: cel p #[.int .i64 cap, .int .i64 last2, .map (some m)] 231 :: blk m (.map (mE (List.map vK xs2)) q2) :: Shs vF xs2 :: L) w' ∧ (GI xs2 q2 cap last2) ∧ (AddP xs cap last ps xs2 last2)) := by
  by_cases h1 : okPs ps
  · by_cases h2 : ∀ z ∈ ps, liveG xs z = true
    · by_cases h3 : cap ≤ xs.length
      · have he : addE xs cap ps = 2 := by unfold addE; rw [if_neg (fun h => h h1), if_neg (fun h => h h2), if_pos h3]
        rw [addV, he, if_neg (by decide)]
        exact (add_full p m cap last xs q ps a c hI.ok.uniq h1 h2 h3 hS).mono fun v w' ⟨hv, hS'⟩ => ⟨xs, q, last, hv, hS', hI, .inl ⟨by rw [he]; decide, rfl, rfl⟩⟩
      · have he : addE xs cap ps = 0 := addE_ok h1 h2 h3
        rw [addV, he, if_pos rfl]
        have hcp := hI.cp
        refine (add_ok p m cap last xs q ps a c hI.ok h1 h2 (by omega) (by omega) ⟨hI.la, hla⟩ hI.le hS).mono fun v w' ⟨vn, hv, hS', ⟨e1, e2, e3⟩, e4, e5⟩ => ⟨xs ++ [vn], q + 1, last + 1, hv, hS', ⟨?_, fun x hx => ?_, by have := hI.la; omega, hcp⟩, .inr ⟨he, rfl, vn, rfl, e1, e2, e4, e5⟩⟩
        · have hla0 := hI.la
          exact hI.ok.add (ps := ps) (fun x hx => by have := hI.le x hx; omega) (by omega) e3 (by omega) e4 (by rw [e1]; exact e5)
        · rcases List.mem_append.1 hx with hx | hx
          · have := hI.le x hx; omega
          · rw [List.mem_singleton.1 hx, e1]; exact Int.le_refl _
    · have he : addE xs cap ps = 4 := by unfold addE; rw [if_neg (fun h => h h1), if_pos h2]
      rw [addV, he, if_neg (by decide)]
      obtain ⟨i, b, hi, hb, hlt⟩ := first_dead h2
      exact (add_nf p m cap last xs q ps a c i b hI.ok.uniq h1 hi hb hlt hS).mono fun v w' ⟨hv, hS'⟩ => ⟨xs, q, last, hv, hS', hI, .inl ⟨by rw [he]; decide, rfl, rfl⟩⟩
  · have he : addE xs cap ps = 1 := by unfold addE; rw [if_pos h1]
    rw [addV, he, if_neg (by decide)]
    rcases okPs_no h1 with h2 | ⟨x, rfl⟩
    · exact (add_inv1 p m cap last xs q ps a c h2 hS).mono fun v w' ⟨hv, hS'⟩ => ⟨xs, q, last, hv, hS', hI, .inl ⟨by rw [he]; decide, rfl, rfl⟩⟩
    · exact (add_inv2 p m cap last xs q x a c hS).mono fun v w' ⟨hv, hS'⟩ => ⟨xs, q, last, hv, hS', hI, .inl ⟨by rw [he]; decide, rfl, rfl⟩⟩
set_option maxRecDepth 8192 in
theorem rel_spec {g w : World} {L : List HP} (p m : Nat) (cap last : Int) (xs : List VN) (q : Nat) (n : Int) (hI : GI xs q cap last) (hS : St g (cel p #[.int .i64 cap, .int .i64 last, .map (some m)] 231 :: blk m (.map (mE (List.map vK xs)) q) :: Shs vF xs :: L) w) :
    Sp Tryz.prog 75 [.pointer (some ⟨p, 0, none⟩), .int .i64 n] w (fun v w' => ∃ (xs2 : List VN), v = .int .i64 (relE xs n) ∧ St g (cel p #[.int .i64 cap, .int .i64 last, .map (some m)] 231 :: blk m (.map (mE (List.map vK xs2)) q) :: Shs vF xs2 :: L) w' ∧ (GI xs2 q cap last) ∧ (RelQ xs n xs2)) := by
  cases hl : liveG xs n with
  | false =>
    rw [relE, if_neg (by rw [hl]; decide)]
    exact (rel_nf p m cap last xs q n hI.ok.uniq hl hS).mono fun v w' ⟨hv, hS'⟩ => ⟨xs, hv, hS', hI, .inr ⟨hl, rfl⟩⟩
  | true =>
    rw [relE, if_pos hl]
    obtain ⟨k, x, hk, rfl, hx, _⟩ := live_ix hl
    refine (rel_ok p m cap last xs q k x hI.ok hk hx hS).mono fun v w' ⟨xs2, hv, hS', hG2, hR⟩ => ⟨xs2, hv, hS', ⟨hG2, hR.le hG2.uniq hI.le, hI.la, hI.cp⟩, .inl ⟨hl, hR⟩⟩
set_option maxRecDepth 8192 in
theorem sameI {g w : World} {L : List HP} (xs ys : List Int) (a b : Option Addr) (c d : Nat) (hl : xs.length ≤ 1000000000) (hS : St g (Sh 3 1 (i64s xs) a c :: Sh 3 1 (i64s ys) b d :: L) w) :
    Sp Tryz.prog 56 [.slice a (List.length (i64s xs)) c, .slice b (List.length (i64s ys)) d] w (fun v w' => ∃ (ok : Bool), v = .bool ok ∧ St g (Sh 3 1 (i64s xs) a c :: Sh 3 1 (i64s ys) b d :: L) w' ∧ (ok = true ↔ xs = ys)) := by
  refine Sp.enter Tryz.func56 rfl (by kernel_rfl) (by kernel_rfl) ?_
  have _ := hl
  refine WC.seq <| WC.region <| WL.r 1 rfl <| WL.nil <| WC.seq <| WC.seq <| WC.region ?_
  have h1 := i64s_len xs; have h2 := i64s_len ys
  refine WL.r 5 rfl <| WL.nil <| WC.ifP rfl (fun cd1 => ?_) (fun cd1 => ?_)
  · refine WC.seq <| WC.region <| WL.r 1 rfl <| WL.nil <| WC.ret ?_
    refine ⟨[.bool false], rfl, ?_⟩
    exact ⟨_, rfl, hS, ⟨fun h => (by cases h), fun h => by rw [h1, h2, h] at cd1; exact absurd rfl cd1⟩⟩
  · refine WC.skip <| WC.seq <| WC.seq <| WC.region <| WL.r 1 rfl <| WL.nil <| WC.block <| WC.loop [0, 1, 5] (fun kM vs w => ∃ (k : Nat), vs = [.slice a (List.length (i64s xs)) c, .slice b (List.length (i64s ys)) d, .int .i64 (k : Int)] ∧ St g (Sh 3 1 (i64s xs) a c :: Sh 3 1 (i64s ys) b d :: L) w ∧ (k ≤ xs.length) ∧ (xs.take k = ys.take k) ∧ (xs.length - k) = kM) ((List.length xs) - 0) ⟨0, rfl, hS, (Nat.zero_le _), (rfl), rfl⟩ ?_
    clear hS; rintro _ _ w j ⟨k, rfl, hS, hk, he, rfl⟩
    refine WC.seq <| WC.seq <| WC.region <| WL.r 4 rfl <| WL.nil ?_
    as_aux_lemma =>
    refine WC.ifP rfl (fun cd2 => ?_) (fun cd2 => ?_)
    · refine WC.skip <| WC.seq <| WC.block <| WC.seq <| WC.plan [([0, 1, 4, 5, 2, 6, 3, 7, 8], none)] (by kernel_rfl) (by kernel_rfl) ?_
      refine WQ.r 4 rfl ?_
      obtain ⟨x, hx⟩ : ∃ x, xs[k]? = some x := ⟨_, List.getElem?_eq_getElem (by omega)⟩
      refine WQ.ix rfl rfl (i := (k : Int)) (k) el_56 rfl rfl (by omega) (len_of (i64s_at hx)) (hS.rdS 0 rfl (i64s_at hx)).1 ?_
      obtain ⟨y, hy⟩ : ∃ y, ys[k]? = some y := ⟨_, List.getElem?_eq_getElem (by omega)⟩
      refine WQ.ix rfl rfl (i := (k : Int)) (k) el_56 rfl rfl (by omega) (len_of (i64s_at hy)) (hS.rdS 1 rfl (i64s_at hy)).1 ?_
      refine WQ.run 3 [.int .i64 x, .int .i64 y] rfl (by exact ⟨(hS.rdS 0 rfl (i64s_at hx)).2 0 _ rfl, (hS.rdS 1 rfl (i64s_at hy)).2 0 _ rfl⟩) ?_
      refine WQ.nil ?_
      intro m1
      replace hS := hS.drewN m1; generalize hwm1 : World.drewN _ _ = w at *; clear hwm1
      refine WC.ifP rfl (fun cd3 => ?_) (fun cd3 => ?_)
      · refine WC.seq <| WC.region <| WL.r 1 rfl <| WL.nil <| WC.ret ?_
        refine ⟨[.bool false], rfl, ?_⟩
        exact ⟨_, rfl, hS, ⟨fun h => (by cases h), fun h => by subst h; rw [hx] at hy; cases hy; exact absurd rfl cd3⟩⟩
      · refine WC.skip <| WC.region <| WL.r 2 rfl <| WL.nw 16 rfl (w64 (by omega)) ?_
        refine WL.r 1 rfl <| WL.nil ?_
        exact ⟨_, by omega, k + 1, rfl, hS, (by omega), (by rw [List.take_add_one, List.take_add_one, he, hx, hy, Classical.not_not.1 cd3]), rfl⟩
    · refine WC.exit <| WC.seq <| WC.region <| WL.r 1 rfl <| WL.nil <| WC.ret ?_
      refine ⟨[.bool true], rfl, ?_⟩
      exact ⟨_, rfl, hS, ⟨fun _ => by rw [← List.take_of_length_le (i := k) (l := xs) (by omega), he, List.take_of_length_le (by omega)], fun _ => rfl⟩⟩
end Go.Proofs.YtbeacjcmdijdmaaGreat
