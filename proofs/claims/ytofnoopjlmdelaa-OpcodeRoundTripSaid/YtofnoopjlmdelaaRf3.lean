/-
  The reference's encodings of operations and answers.
  Conditions: sizes below a bound that the laws meet.
-/
import Derived.Test.YtofnoopjlmdelaaRf2
namespace Go.Proofs.Ytofnoopjlmdelaa
open Go Go.V



theorem rencode_spec {g w : World} {L : List HP} (x : OpM) (ab ae ac : Option Addr) (cb ce cc : Nat) (hw : OpW x) (hl : OpL x) (hS : St g (Sh 5 1 (by8 x.bytes) ab cb :: Sh 40 2 (en2 x.ents) ae ce :: Sh 63 4 (ch4 x.chs) ac cc :: L) w) :
    Sp Try.prog 17 [.agg #[.int .i64 x.code, .int .u64 x.a, .int .u64 x.b, .int .i64 x.key, .int .i64 x.val, .int .i64 x.lo, .int .i64 x.hi, .int .i64 x.n, .bool x.flag, .string x.name, .slice ab (List.length (by8 x.bytes)) cb, .slice ae (List.length (en2 x.ents)) ce, .slice ac (List.length (ch4 x.chs)) cc]] w (fun v w' => ∃ (a2 : Option Addr) (c2 : Nat), v = .slice a2 (List.length (by8 (eOp x))) c2 ∧ St g (Own 5 1 (by8 (eOp x)) a2 c2 :: Sh 5 1 (by8 x.bytes) ab cb :: Sh 40 2 (en2 x.ents) ae ce :: Sh 63 4 (ch4 x.chs) ac cc :: L) w') := by
  refine Sp.enter Try.func17 rfl (by kernel_rfl) (by kernel_rfl) ?_
  refine WC.seq ?_
  refine WC.region ?_
  refine WL.box rfl rfl #[.int .i64 x.code, .int .u64 x.a, .int .u64 x.b, .int .i64 x.key, .int .i64 x.val, .int .i64 x.lo, .int .i64 x.hi, .int .i64 x.n, .bool x.flag, .string x.name, .slice ab (List.length (by8 x.bytes)) cb, .slice ae (List.length (en2 x.ents)) ce, .slice ac (List.length (ch4 x.chs)) cc] hS rfl rfl (fun b1 w hS => ?_)
  refine WL.r 1 rfl ?_
  refine WL.nil ?_
  refine WC.seq ?_
  refine WC.region ?_
  have hwa := hw.a; have hwb := hw.b; have hwk := hw.key; have hwv := hw.val; have hwl := hw.lo; have hwh := hw.hi; have hwe := hw.ents; have hwc := hw.chs
  have hsb := sb_len x.name; have hln := hl.n; have hls := hl.name; have hlb := hl.bytes; have hle := hl.ents; have hlc := hl.chs
  have h6 := fs_len x.code; have hsz := ltr_size x.code
  refine WL.run 2 [.int .i64 x.code] rfl (by exact hS.ld 0 rfl rfl) ?_
  refine WL.call rfl rfl (Fields_spec (c := x.code)  (hS := hS)) rfl ?_
  rintro _ w ⟨rfl, hS⟩
  replace hS : St g (cel b1 #[.int .i64 x.code, .int .u64 x.a, .int .u64 x.b, .int .i64 x.key, .int .i64 x.val, .int .i64 x.lo, .int .i64 x.hi, .int .i64 x.n, .bool x.flag, .string x.name, .slice ab (List.length (by8 x.bytes)) cb, .slice ae (List.length (en2 x.ents)) ce, .slice ac (List.length (ch4 x.chs)) cc] 27 :: Sh 5 1 (by8 x.bytes) ab cb :: Sh 40 2 (en2 x.ents) ae ce :: Sh 63 4 (ch4 x.chs) ac cc :: L) w := hS
  refine WL.r 5 rfl ?_
  refine WL.nil ?_
  refine WC.seq ?_
  refine WC.region ?_
  refine WL.run 3 [.int .i64 x.code] rfl (by exact hS.ld 0 rfl rfl) ?_
  refine WL.reb 15 (.int .u8 (x.code % 256)) (congrArg (Value.int .u8) (by rfl)) ?_
  refine WL.lit rfl rfl (by8 [x.code % 256]) el_23 hS (by exact ⟨rfl, rfl⟩) (by8_ok _) rfl (by decide) (fun b2 w hS => ?_)
  refine WL.r 1 rfl ?_
  refine WL.nil ?_
  refine WC.seq ?_
  refine WC.seq ?_
  refine WC.region ?_
  refine WL.r 1 rfl ?_
  refine WL.nil ?_
  as_aux_lemma =>
    refine WC.block ?_
    refine WC.loop [1, 2, 3, 5, 6] (fun kM vs w => ∃ (k : Nat) (ys : List Int) (a3 : Option Addr) (c3 : Nat), vs = [.pointer (some ⟨b1, 0, none⟩), .slice none 0 0, .string (mkS ((fs x.code).map (· + 32))), .slice a3 (List.length (by8 ys)) c3, .int .i64 (k : Int)] ∧ St g (Own 5 1 (by8 ys) a3 c3 :: cel b1 #[.int .i64 x.code, .int .u64 x.a, .int .u64 x.b, .int .i64 x.key, .int .i64 x.val, .int .i64 x.lo, .int .i64 x.hi, .int .i64 x.n, .bool x.flag, .string x.name, .slice ab (List.length (by8 x.bytes)) cb, .slice ae (List.length (en2 x.ents)) ce, .slice ac (List.length (ch4 x.chs)) cc] 27 :: Sh 5 1 (by8 x.bytes) ab cb :: Sh 40 2 (en2 x.ents) ae ce :: Sh 63 4 (ch4 x.chs) ac cc :: L) w ∧ (ys.length ≤ 1 + 65546 * k ∧ k ≤ (fs x.code).length) ∧ (ys = (x.code % 256) :: ((fs x.code).take k).flatMap (fun f => eField f x)) ∧ ((fs x.code).length - k) = kM) ((List.length (fs x.code)) - 0) ⟨0, [x.code % 256], _, _, rfl, hS, (by simp), (rfl), rfl⟩ ?_
    clear hS; rintro _ _ w j ⟨k, ys, a3, c3, rfl, hS, hk, hr, rfl⟩
    refine WC.seq ?_
    refine WC.seq ?_
    refine WC.region ?_
    refine WL.r 4 rfl ?_
    refine WL.nil ?_
    refine WC.ifP rfl (fun cd1 => ?_) (fun cd1 => ?_)
    · refine WC.skip ?_
      refine WC.seq ?_
      refine WC.block ?_
      refine WC.seq ?_
      refine WC.region ?_
      refine WL.r 2 rfl ?_
      refine WL.ixs rfl rfl (v := (k : Int)) (k) rfl rfl rfl (by omega) (ltr_at (by omega)) ?_
      refine WL.nil ?_
      refine WC.block ?_
      refine WC.seq ?_
      refine WC.region ?_
      refine WL.r 2 rfl ?_
      refine WL.nil ?_
      refine WC.ifP rfl (fun cd2 => ?_) (fun cd2 => ?_)
      · refine WC.region ?_
        refine WL.run 3 [.int .u64 x.a] rfl (by exact hS.ld 1 rfl rfl) ?_
        replace hS := (hS.at_ 0 rfl).share
        replace hS : St g (Sh 5 1 (by8 ys) a3 c3 :: cel b1 #[.int .i64 x.code, .int .u64 x.a, .int .u64 x.b, .int .i64 x.key, .int .i64 x.val, .int .i64 x.lo, .int .i64 x.hi, .int .i64 x.n, .bool x.flag, .string x.name, .slice ab (List.length (by8 x.bytes)) cb, .slice ae (List.length (en2 x.ents)) ce, .slice ac (List.length (ch4 x.chs)) cc] 27 :: Sh 5 1 (by8 x.bytes) ab cb :: Sh 40 2 (en2 x.ents) ae ce :: Sh 63 4 (ch4 x.chs) ac cc :: L) w := hS
        refine WL.call rfl rfl (ru_spec (xs := ys) (a := a3) (c := c3) (n := x.a) (hx := (by first | omega | (simp <;> omega))) (hn := (by omega)) (hS := hS)) rfl ?_
        generalize hY1 : ys ++ eU x.a = Y1
        rintro _ w ⟨a1, c1, rfl, hS⟩
        have hY1f0 : (List.length Y1) ≤ (List.length ys) + 10 := by rw [← hY1, List.length_append]; exact Nat.add_le_add_left (eU_len (by omega)) _
        replace hS : St g (Own 5 1 (by8 Y1) a1 c1 :: cel b1 #[.int .i64 x.code, .int .u64 x.a, .int .u64 x.b, .int .i64 x.key, .int .i64 x.val, .int .i64 x.lo, .int .i64 x.hi, .int .i64 x.n, .bool x.flag, .string x.name, .slice ab (List.length (by8 x.bytes)) cb, .slice ae (List.length (en2 x.ents)) ce, .slice ac (List.length (ch4 x.chs)) cc] 27 :: Sh 5 1 (by8 x.bytes) ab cb :: Sh 40 2 (en2 x.ents) ae ce :: Sh 63 4 (ch4 x.chs) ac cc :: L) w := hS
        refine WL.r 1 rfl ?_
        refine WL.nil ?_
        as_aux_lemma =>
          refine WC.region ?_
          refine WL.r 2 rfl ?_
          refine WL.nw 22 rfl (w64 (by omega)) ?_
          refine WL.r 1 rfl ?_
          refine WL.nil ?_
          exact ⟨_, by omega, k + 1, Y1, _, _, rfl, hS, (by omega), (by rw [fm_take (fun f => eField f x) (getD_some (by omega)), show (fs x.code).getD k 0 = 65 by omega, eField_A, ← hY1, hr]; simp only [List.cons_append]), rfl⟩
      · refine WC.seq ?_
        refine WC.region ?_
        refine WL.r 2 rfl ?_
        refine WL.nil ?_
        as_aux_lemma =>
          refine WC.ifP rfl (fun cd3 => ?_) (fun cd3 => ?_)
          · refine WC.region ?_
            refine WL.run 3 [.int .u64 x.b] rfl (by exact hS.ld 1 rfl rfl) ?_
            replace hS := (hS.at_ 0 rfl).share
            replace hS : St g (Sh 5 1 (by8 ys) a3 c3 :: cel b1 #[.int .i64 x.code, .int .u64 x.a, .int .u64 x.b, .int .i64 x.key, .int .i64 x.val, .int .i64 x.lo, .int .i64 x.hi, .int .i64 x.n, .bool x.flag, .string x.name, .slice ab (List.length (by8 x.bytes)) cb, .slice ae (List.length (en2 x.ents)) ce, .slice ac (List.length (ch4 x.chs)) cc] 27 :: Sh 5 1 (by8 x.bytes) ab cb :: Sh 40 2 (en2 x.ents) ae ce :: Sh 63 4 (ch4 x.chs) ac cc :: L) w := hS
            refine WL.call rfl rfl (ru_spec (xs := ys) (a := a3) (c := c3) (n := x.b) (hx := (by first | omega | (simp <;> omega))) (hn := (by omega)) (hS := hS)) rfl ?_
            generalize hY1 : ys ++ eU x.b = Y1
            rintro _ w ⟨a1, c1, rfl, hS⟩
            have hY1f0 : (List.length Y1) ≤ (List.length ys) + 10 := by rw [← hY1, List.length_append]; exact Nat.add_le_add_left (eU_len (by omega)) _
            replace hS : St g (Own 5 1 (by8 Y1) a1 c1 :: cel b1 #[.int .i64 x.code, .int .u64 x.a, .int .u64 x.b, .int .i64 x.key, .int .i64 x.val, .int .i64 x.lo, .int .i64 x.hi, .int .i64 x.n, .bool x.flag, .string x.name, .slice ab (List.length (by8 x.bytes)) cb, .slice ae (List.length (en2 x.ents)) ce, .slice ac (List.length (ch4 x.chs)) cc] 27 :: Sh 5 1 (by8 x.bytes) ab cb :: Sh 40 2 (en2 x.ents) ae ce :: Sh 63 4 (ch4 x.chs) ac cc :: L) w := hS
            refine WL.r 1 rfl ?_
            refine WL.nil ?_
            refine WC.region ?_
            refine WL.r 2 rfl ?_
            refine WL.nw 22 rfl (w64 (by omega)) ?_
            refine WL.r 1 rfl ?_
            refine WL.nil ?_
            exact ⟨_, by omega, k + 1, Y1, _, _, rfl, hS, (by omega), (by rw [fm_take (fun f => eField f x) (getD_some (by omega)), show (fs x.code).getD k 0 = 66 by omega, eField_B, ← hY1, hr]; simp only [List.cons_append]), rfl⟩
          · refine WC.seq ?_
            refine WC.region ?_
            refine WL.r 2 rfl ?_
            refine WL.nil ?_
            refine WC.ifP rfl (fun cd4 => ?_) (fun cd4 => ?_)
            · refine WC.region ?_
              refine WL.run 3 [.int .i64 x.key] rfl (by exact hS.ld 1 rfl rfl) ?_
              replace hS := (hS.at_ 0 rfl).share
              replace hS : St g (Sh 5 1 (by8 ys) a3 c3 :: cel b1 #[.int .i64 x.code, .int .u64 x.a, .int .u64 x.b, .int .i64 x.key, .int .i64 x.val, .int .i64 x.lo, .int .i64 x.hi, .int .i64 x.n, .bool x.flag, .string x.name, .slice ab (List.length (by8 x.bytes)) cb, .slice ae (List.length (en2 x.ents)) ce, .slice ac (List.length (ch4 x.chs)) cc] 27 :: Sh 5 1 (by8 x.bytes) ab cb :: Sh 40 2 (en2 x.ents) ae ce :: Sh 63 4 (ch4 x.chs) ac cc :: L) w := hS
              refine WL.call rfl rfl (rz_spec (xs := ys) (a := a3) (c := c3) (n := x.key) (hx := (by first | omega | (simp <;> omega))) (hn := (by assumption)) (hS := hS)) rfl ?_
              generalize hY1 : ys ++ eZ x.key = Y1
              rintro _ w ⟨a1, c1, rfl, hS⟩
              have hY1f0 : (List.length Y1) ≤ (List.length ys) + 10 := by rw [← hY1, List.length_append]; exact Nat.add_le_add_left (eZ_len (by assumption)) _
              replace hS : St g (Own 5 1 (by8 Y1) a1 c1 :: cel b1 #[.int .i64 x.code, .int .u64 x.a, .int .u64 x.b, .int .i64 x.key, .int .i64 x.val, .int .i64 x.lo, .int .i64 x.hi, .int .i64 x.n, .bool x.flag, .string x.name, .slice ab (List.length (by8 x.bytes)) cb, .slice ae (List.length (en2 x.ents)) ce, .slice ac (List.length (ch4 x.chs)) cc] 27 :: Sh 5 1 (by8 x.bytes) ab cb :: Sh 40 2 (en2 x.ents) ae ce :: Sh 63 4 (ch4 x.chs) ac cc :: L) w := hS
              refine WL.r 1 rfl ?_
              refine WL.nil ?_
              refine WC.region ?_
              refine WL.r 2 rfl ?_
              refine WL.nw 22 rfl (w64 (by omega)) ?_
              refine WL.r 1 rfl ?_
              refine WL.nil ?_
              exact ⟨_, by omega, k + 1, Y1, _, _, rfl, hS, (by omega), (by rw [fm_take (fun f => eField f x) (getD_some (by omega)), show (fs x.code).getD k 0 = 75 by omega, eField_K, ← hY1, hr]; simp only [List.cons_append]), rfl⟩
            · refine WC.seq ?_
              refine WC.region ?_
              refine WL.r 2 rfl ?_
              refine WL.nil ?_
              refine WC.ifP rfl (fun cd5 => ?_) (fun cd5 => ?_)
              · refine WC.region ?_
                refine WL.run 3 [.int .i64 x.val] rfl (by exact hS.ld 1 rfl rfl) ?_
                replace hS := (hS.at_ 0 rfl).share
                replace hS : St g (Sh 5 1 (by8 ys) a3 c3 :: cel b1 #[.int .i64 x.code, .int .u64 x.a, .int .u64 x.b, .int .i64 x.key, .int .i64 x.val, .int .i64 x.lo, .int .i64 x.hi, .int .i64 x.n, .bool x.flag, .string x.name, .slice ab (List.length (by8 x.bytes)) cb, .slice ae (List.length (en2 x.ents)) ce, .slice ac (List.length (ch4 x.chs)) cc] 27 :: Sh 5 1 (by8 x.bytes) ab cb :: Sh 40 2 (en2 x.ents) ae ce :: Sh 63 4 (ch4 x.chs) ac cc :: L) w := hS
                refine WL.call rfl rfl (rz_spec (xs := ys) (a := a3) (c := c3) (n := x.val) (hx := (by first | omega | (simp <;> omega))) (hn := (by assumption)) (hS := hS)) rfl ?_
                generalize hY1 : ys ++ eZ x.val = Y1
                rintro _ w ⟨a1, c1, rfl, hS⟩
                have hY1f0 : (List.length Y1) ≤ (List.length ys) + 10 := by rw [← hY1, List.length_append]; exact Nat.add_le_add_left (eZ_len (by assumption)) _
                replace hS : St g (Own 5 1 (by8 Y1) a1 c1 :: cel b1 #[.int .i64 x.code, .int .u64 x.a, .int .u64 x.b, .int .i64 x.key, .int .i64 x.val, .int .i64 x.lo, .int .i64 x.hi, .int .i64 x.n, .bool x.flag, .string x.name, .slice ab (List.length (by8 x.bytes)) cb, .slice ae (List.length (en2 x.ents)) ce, .slice ac (List.length (ch4 x.chs)) cc] 27 :: Sh 5 1 (by8 x.bytes) ab cb :: Sh 40 2 (en2 x.ents) ae ce :: Sh 63 4 (ch4 x.chs) ac cc :: L) w := hS
                refine WL.r 1 rfl ?_
                refine WL.nil ?_
                refine WC.region ?_
                refine WL.r 2 rfl ?_
                refine WL.nw 22 rfl (w64 (by omega)) ?_
                refine WL.r 1 rfl ?_
                refine WL.nil ?_
                exact ⟨_, by omega, k + 1, Y1, _, _, rfl, hS, (by omega), (by rw [fm_take (fun f => eField f x) (getD_some (by omega)), show (fs x.code).getD k 0 = 86 by omega, eField_V, ← hY1, hr]; simp only [List.cons_append]), rfl⟩
              · refine WC.seq ?_
                refine WC.region ?_
                refine WL.r 2 rfl ?_
                refine WL.nil ?_
                refine WC.ifP rfl (fun cd6 => ?_) (fun cd6 => ?_)
                · refine WC.region ?_
                  refine WL.run 3 [.int .i64 x.lo] rfl (by exact hS.ld 1 rfl rfl) ?_
                  replace hS := (hS.at_ 0 rfl).share
                  replace hS : St g (Sh 5 1 (by8 ys) a3 c3 :: cel b1 #[.int .i64 x.code, .int .u64 x.a, .int .u64 x.b, .int .i64 x.key, .int .i64 x.val, .int .i64 x.lo, .int .i64 x.hi, .int .i64 x.n, .bool x.flag, .string x.name, .slice ab (List.length (by8 x.bytes)) cb, .slice ae (List.length (en2 x.ents)) ce, .slice ac (List.length (ch4 x.chs)) cc] 27 :: Sh 5 1 (by8 x.bytes) ab cb :: Sh 40 2 (en2 x.ents) ae ce :: Sh 63 4 (ch4 x.chs) ac cc :: L) w := hS
                  refine WL.call rfl rfl (rz_spec (xs := ys) (a := a3) (c := c3) (n := x.lo) (hx := (by first | omega | (simp <;> omega))) (hn := (by assumption)) (hS := hS)) rfl ?_
                  generalize hY1 : ys ++ eZ x.lo = Y1
                  rintro _ w ⟨a1, c1, rfl, hS⟩
                  have hY1f0 : (List.length Y1) ≤ (List.length ys) + 10 := by rw [← hY1, List.length_append]; exact Nat.add_le_add_left (eZ_len (by assumption)) _
                  replace hS : St g (Own 5 1 (by8 Y1) a1 c1 :: cel b1 #[.int .i64 x.code, .int .u64 x.a, .int .u64 x.b, .int .i64 x.key, .int .i64 x.val, .int .i64 x.lo, .int .i64 x.hi, .int .i64 x.n, .bool x.flag, .string x.name, .slice ab (List.length (by8 x.bytes)) cb, .slice ae (List.length (en2 x.ents)) ce, .slice ac (List.length (ch4 x.chs)) cc] 27 :: Sh 5 1 (by8 x.bytes) ab cb :: Sh 40 2 (en2 x.ents) ae ce :: Sh 63 4 (ch4 x.chs) ac cc :: L) w := hS
                  refine WL.r 1 rfl ?_
                  refine WL.nil ?_
                  as_aux_lemma =>
                    refine WC.region ?_
                    refine WL.r 2 rfl ?_
                    refine WL.nw 22 rfl (w64 (by omega)) ?_
                    refine WL.r 1 rfl ?_
                    refine WL.nil ?_
                    exact ⟨_, by omega, k + 1, Y1, _, _, rfl, hS, (by omega), (by rw [fm_take (fun f => eField f x) (getD_some (by omega)), show (fs x.code).getD k 0 = 76 by omega, eField_L, ← hY1, hr]; simp only [List.cons_append]), rfl⟩
                · refine WC.seq ?_
                  refine WC.region ?_
                  refine WL.r 2 rfl ?_
                  refine WL.nil ?_
                  refine WC.ifP rfl (fun cd7 => ?_) (fun cd7 => ?_)
                  · refine WC.region ?_
                    refine WL.run 3 [.int .i64 x.hi] rfl (by exact hS.ld 1 rfl rfl) ?_
                    replace hS := (hS.at_ 0 rfl).share
                    replace hS : St g (Sh 5 1 (by8 ys) a3 c3 :: cel b1 #[.int .i64 x.code, .int .u64 x.a, .int .u64 x.b, .int .i64 x.key, .int .i64 x.val, .int .i64 x.lo, .int .i64 x.hi, .int .i64 x.n, .bool x.flag, .string x.name, .slice ab (List.length (by8 x.bytes)) cb, .slice ae (List.length (en2 x.ents)) ce, .slice ac (List.length (ch4 x.chs)) cc] 27 :: Sh 5 1 (by8 x.bytes) ab cb :: Sh 40 2 (en2 x.ents) ae ce :: Sh 63 4 (ch4 x.chs) ac cc :: L) w := hS
                    refine WL.call rfl rfl (rz_spec (xs := ys) (a := a3) (c := c3) (n := x.hi) (hx := (by first | omega | (simp <;> omega))) (hn := (by assumption)) (hS := hS)) rfl ?_
                    generalize hY1 : ys ++ eZ x.hi = Y1
                    rintro _ w ⟨a1, c1, rfl, hS⟩
                    have hY1f0 : (List.length Y1) ≤ (List.length ys) + 10 := by rw [← hY1, List.length_append]; exact Nat.add_le_add_left (eZ_len (by assumption)) _
                    replace hS : St g (Own 5 1 (by8 Y1) a1 c1 :: cel b1 #[.int .i64 x.code, .int .u64 x.a, .int .u64 x.b, .int .i64 x.key, .int .i64 x.val, .int .i64 x.lo, .int .i64 x.hi, .int .i64 x.n, .bool x.flag, .string x.name, .slice ab (List.length (by8 x.bytes)) cb, .slice ae (List.length (en2 x.ents)) ce, .slice ac (List.length (ch4 x.chs)) cc] 27 :: Sh 5 1 (by8 x.bytes) ab cb :: Sh 40 2 (en2 x.ents) ae ce :: Sh 63 4 (ch4 x.chs) ac cc :: L) w := hS
                    refine WL.r 1 rfl ?_
                    refine WL.nil ?_
                    as_aux_lemma =>
                      refine WC.region ?_
                      refine WL.r 2 rfl ?_
                      refine WL.nw 22 rfl (w64 (by omega)) ?_
                      refine WL.r 1 rfl ?_
                      refine WL.nil ?_
                      exact ⟨_, by omega, k + 1, Y1, _, _, rfl, hS, (by omega), (by rw [fm_take (fun f => eField f x) (getD_some (by omega)), show (fs x.code).getD k 0 = 72 by omega, eField_H, ← hY1, hr]; simp only [List.cons_append]), rfl⟩
                  · refine WC.seq ?_
                    refine WC.region ?_
                    refine WL.r 2 rfl ?_
                    refine WL.nil ?_
                    as_aux_lemma =>
                      refine WC.ifP rfl (fun cd8 => ?_) (fun cd8 => ?_)
                      · refine WC.region ?_
                        refine WL.run 4 [.int .i64 x.n] rfl (by exact hS.ld 1 rfl rfl) ?_
                        refine WL.nw 67 rfl (wu64 (by omega)) ?_
                        replace hS := (hS.at_ 0 rfl).share
                        replace hS : St g (Sh 5 1 (by8 ys) a3 c3 :: cel b1 #[.int .i64 x.code, .int .u64 x.a, .int .u64 x.b, .int .i64 x.key, .int .i64 x.val, .int .i64 x.lo, .int .i64 x.hi, .int .i64 x.n, .bool x.flag, .string x.name, .slice ab (List.length (by8 x.bytes)) cb, .slice ae (List.length (en2 x.ents)) ce, .slice ac (List.length (ch4 x.chs)) cc] 27 :: Sh 5 1 (by8 x.bytes) ab cb :: Sh 40 2 (en2 x.ents) ae ce :: Sh 63 4 (ch4 x.chs) ac cc :: L) w := hS
                        refine WL.call rfl rfl (ru_spec (xs := ys) (a := a3) (c := c3) (n := x.n) (hx := (by first | omega | (simp <;> omega))) (hn := (by omega)) (hS := hS)) rfl ?_
                        generalize hY1 : ys ++ eU x.n = Y1
                        rintro _ w ⟨a1, c1, rfl, hS⟩
                        have hY1f0 : (List.length Y1) ≤ (List.length ys) + 10 := by rw [← hY1, List.length_append]; exact Nat.add_le_add_left (eU_len (by omega)) _
                        replace hS : St g (Own 5 1 (by8 Y1) a1 c1 :: cel b1 #[.int .i64 x.code, .int .u64 x.a, .int .u64 x.b, .int .i64 x.key, .int .i64 x.val, .int .i64 x.lo, .int .i64 x.hi, .int .i64 x.n, .bool x.flag, .string x.name, .slice ab (List.length (by8 x.bytes)) cb, .slice ae (List.length (en2 x.ents)) ce, .slice ac (List.length (ch4 x.chs)) cc] 27 :: Sh 5 1 (by8 x.bytes) ab cb :: Sh 40 2 (en2 x.ents) ae ce :: Sh 63 4 (ch4 x.chs) ac cc :: L) w := hS
                        refine WL.r 1 rfl ?_
                        refine WL.nil ?_
                        refine WC.region ?_
                        refine WL.r 2 rfl ?_
                        refine WL.nw 22 rfl (w64 (by omega)) ?_
                        refine WL.r 1 rfl ?_
                        refine WL.nil ?_
                        exact ⟨_, by omega, k + 1, Y1, _, _, rfl, hS, (by omega), (by rw [fm_take (fun f => eField f x) (getD_some (by omega)), show (fs x.code).getD k 0 = 78 by omega, eField_N, ← hY1, hr]; simp only [List.cons_append]), rfl⟩
                      · refine WC.seq ?_
                        refine WC.region ?_
                        refine WL.r 2 rfl ?_
                        refine WL.nil ?_
                        refine WC.ifP rfl (fun cd9 => ?_) (fun cd9 => ?_)
                        · refine WC.region ?_
                          refine WL.run 3 [.bool x.flag] rfl (by exact hS.ld 1 rfl rfl) ?_
                          refine WL.call rfl rfl (rflag_spec (xs := ys) (a := a3) (c := c3) (x := x.flag) (hx := (by first | omega | (simp <;> omega))) (hS := hS)) rfl ?_
                          generalize hY1 : ys ++ eF x.flag = Y1
                          rintro _ w ⟨a1, c1, rfl, hS⟩
                          have hY1f0 : (List.length Y1) = (List.length ys) + 1 := by rw [← hY1]; simp [eF]
                          replace hS : St g (Own 5 1 (by8 Y1) a1 c1 :: cel b1 #[.int .i64 x.code, .int .u64 x.a, .int .u64 x.b, .int .i64 x.key, .int .i64 x.val, .int .i64 x.lo, .int .i64 x.hi, .int .i64 x.n, .bool x.flag, .string x.name, .slice ab (List.length (by8 x.bytes)) cb, .slice ae (List.length (en2 x.ents)) ce, .slice ac (List.length (ch4 x.chs)) cc] 27 :: Sh 5 1 (by8 x.bytes) ab cb :: Sh 40 2 (en2 x.ents) ae ce :: Sh 63 4 (ch4 x.chs) ac cc :: L) w := hS
                          refine WL.r 1 rfl ?_
                          refine WL.nil ?_
                          refine WC.region ?_
                          refine WL.r 2 rfl ?_
                          refine WL.nw 22 rfl (w64 (by omega)) ?_
                          refine WL.r 1 rfl ?_
                          refine WL.nil ?_
                          exact ⟨_, by omega, k + 1, Y1, _, _, rfl, hS, (by omega), (by rw [fm_take (fun f => eField f x) (getD_some (by omega)), show (fs x.code).getD k 0 = 70 by omega, eField_F, ← hY1, hr]; simp only [List.cons_append]), rfl⟩
                        · refine WC.seq ?_
                          refine WC.region ?_
                          refine WL.r 2 rfl ?_
                          refine WL.nil ?_
                          refine WC.ifP rfl (fun cd10 => ?_) (fun cd10 => ?_)
                          · refine WC.region ?_
                            refine WL.run 3 [.string x.name] rfl (by exact hS.ld 1 rfl rfl) ?_
                            refine WL.toB rfl rfl Try.underlying9 Try.underlying23 Try.underlying5 hS rfl (fun a1 c1 w hS => ?_)
                            refine WL.reb 80 (.slice a1 (by8 (sb x.name)).length c1) (congrArg (fun m => Value.slice a1 m c1) (by8sb_len x.name).symm) ?_
                            replace hS : St g (Sh 5 1 (by8 (sb x.name)) a1 c1 :: Own 5 1 (by8 ys) a3 c3 :: cel b1 #[.int .i64 x.code, .int .u64 x.a, .int .u64 x.b, .int .i64 x.key, .int .i64 x.val, .int .i64 x.lo, .int .i64 x.hi, .int .i64 x.n, .bool x.flag, .string x.name, .slice ab (List.length (by8 x.bytes)) cb, .slice ae (List.length (en2 x.ents)) ce, .slice ac (List.length (ch4 x.chs)) cc] 27 :: Sh 5 1 (by8 x.bytes) ab cb :: Sh 40 2 (en2 x.ents) ae ce :: Sh 63 4 (ch4 x.chs) ac cc :: L) w := hS
                            replace hS := (hS.at_ 1 rfl).share
                            replace hS : St g (Sh 5 1 (by8 ys) a3 c3 :: Sh 5 1 (by8 (sb x.name)) a1 c1 :: cel b1 #[.int .i64 x.code, .int .u64 x.a, .int .u64 x.b, .int .i64 x.key, .int .i64 x.val, .int .i64 x.lo, .int .i64 x.hi, .int .i64 x.n, .bool x.flag, .string x.name, .slice ab (List.length (by8 x.bytes)) cb, .slice ae (List.length (en2 x.ents)) ce, .slice ac (List.length (ch4 x.chs)) cc] 27 :: Sh 5 1 (by8 x.bytes) ab cb :: Sh 40 2 (en2 x.ents) ae ce :: Sh 63 4 (ch4 x.chs) ac cc :: L) w := hS
                            refine WL.call rfl rfl (rtext_spec (xs := ys) (a := a3) (c := c3) (l := sb x.name) (la := a1) (lc := c1) (hx := (by first | omega | (simp <;> omega))) (hl := (by omega)) (hS := hS)) rfl ?_
                            generalize hY1 : ys ++ eBytes (sb x.name) = Y1
                            rintro _ w ⟨a2, c2, rfl, hS⟩
                            have hY1f0 : (List.length Y1) ≤ (List.length ys) + (10 + (List.length (sb x.name))) := by rw [← hY1, List.length_append]; exact Nat.add_le_add_left (eBytes_len (by omega)) _
                            replace hS : St g (Own 5 1 (by8 Y1) a2 c2 :: Sh 5 1 (by8 (sb x.name)) a1 c1 :: cel b1 #[.int .i64 x.code, .int .u64 x.a, .int .u64 x.b, .int .i64 x.key, .int .i64 x.val, .int .i64 x.lo, .int .i64 x.hi, .int .i64 x.n, .bool x.flag, .string x.name, .slice ab (List.length (by8 x.bytes)) cb, .slice ae (List.length (en2 x.ents)) ce, .slice ac (List.length (ch4 x.chs)) cc] 27 :: Sh 5 1 (by8 x.bytes) ab cb :: Sh 40 2 (en2 x.ents) ae ce :: Sh 63 4 (ch4 x.chs) ac cc :: L) w := hS
                            refine WL.r 1 rfl ?_
                            refine WL.nil ?_
                            as_aux_lemma =>
                              refine WC.region ?_
                              refine WL.r 2 rfl ?_
                              refine WL.nw 22 rfl (w64 (by omega)) ?_
                              refine WL.r 1 rfl ?_
                              refine WL.nil ?_
                              exact ⟨_, by omega, k + 1, Y1, _, _, rfl, (hS.sel 6 [0, 1, 1, 1, 1] rfl), (by omega), (by rw [fm_take (fun f => eField f x) (getD_some (by omega)), show (fs x.code).getD k 0 = 83 by omega, eField_S, ← hY1, hr]; simp only [List.cons_append]), rfl⟩
                          · refine WC.seq ?_
                            refine WC.region ?_
                            refine WL.r 2 rfl ?_
                            refine WL.nil ?_
                            refine WC.ifP rfl (fun cd11 => ?_) (fun cd11 => ?_)
                            · refine WC.region ?_
                              refine WL.run 3 [.slice ab (List.length (by8 x.bytes)) cb] rfl (by exact hS.ld 1 rfl rfl) ?_
                              replace hS := (hS.at_ 0 rfl).share
                              replace hS : St g (Sh 5 1 (by8 ys) a3 c3 :: cel b1 #[.int .i64 x.code, .int .u64 x.a, .int .u64 x.b, .int .i64 x.key, .int .i64 x.val, .int .i64 x.lo, .int .i64 x.hi, .int .i64 x.n, .bool x.flag, .string x.name, .slice ab (List.length (by8 x.bytes)) cb, .slice ae (List.length (en2 x.ents)) ce, .slice ac (List.length (ch4 x.chs)) cc] 27 :: Sh 5 1 (by8 x.bytes) ab cb :: Sh 40 2 (en2 x.ents) ae ce :: Sh 63 4 (ch4 x.chs) ac cc :: L) w := hS
                              refine WL.call rfl rfl (rtext_spec (xs := ys) (a := a3) (c := c3) (l := x.bytes) (la := ab) (lc := cb) (hx := (by first | omega | (simp <;> omega))) (hl := (by omega)) (hS := (hS.sel 5 [0, 1, 0, 0, 0] rfl))) rfl ?_
                              generalize hY1 : ys ++ eBytes x.bytes = Y1
                              rintro _ w ⟨a1, c1, rfl, hS⟩
                              have hY1f0 : (List.length Y1) ≤ (List.length ys) + (10 + (List.length x.bytes)) := by rw [← hY1, List.length_append]; exact Nat.add_le_add_left (eBytes_len (by omega)) _
                              replace hS : St g (Own 5 1 (by8 Y1) a1 c1 :: Sh 5 1 (by8 x.bytes) ab cb :: cel b1 #[.int .i64 x.code, .int .u64 x.a, .int .u64 x.b, .int .i64 x.key, .int .i64 x.val, .int .i64 x.lo, .int .i64 x.hi, .int .i64 x.n, .bool x.flag, .string x.name, .slice ab (List.length (by8 x.bytes)) cb, .slice ae (List.length (en2 x.ents)) ce, .slice ac (List.length (ch4 x.chs)) cc] 27 :: Sh 40 2 (en2 x.ents) ae ce :: Sh 63 4 (ch4 x.chs) ac cc :: L) w := hS
                              refine WL.r 1 rfl ?_
                              refine WL.nil ?_
                              as_aux_lemma =>
                                refine WC.region ?_
                                refine WL.r 2 rfl ?_
                                refine WL.nw 22 rfl (w64 (by omega)) ?_
                                refine WL.r 1 rfl ?_
                                refine WL.nil ?_
                                exact ⟨_, by omega, k + 1, Y1, _, _, rfl, (hS.sel 5 [0, 1, 0, 0, 0] rfl), (by omega), (by rw [fm_take (fun f => eField f x) (getD_some (by omega)), show (fs x.code).getD k 0 = 89 by omega, eField_Y, ← hY1, hr]; simp only [List.cons_append]), rfl⟩
                            · refine WC.seq ?_
                              refine WC.region ?_
                              refine WL.r 2 rfl ?_
                              refine WL.nil ?_
                              refine WC.ifP rfl (fun cd12 => ?_) (fun cd12 => ?_)
                              · refine WC.region ?_
                                refine WL.run 3 [.slice ae (List.length (en2 x.ents)) ce] rfl (by exact hS.ld 1 rfl rfl) ?_
                                replace hS := (hS.at_ 0 rfl).share
                                replace hS : St g (Sh 5 1 (by8 ys) a3 c3 :: cel b1 #[.int .i64 x.code, .int .u64 x.a, .int .u64 x.b, .int .i64 x.key, .int .i64 x.val, .int .i64 x.lo, .int .i64 x.hi, .int .i64 x.n, .bool x.flag, .string x.name, .slice ab (List.length (by8 x.bytes)) cb, .slice ae (List.length (en2 x.ents)) ce, .slice ac (List.length (ch4 x.chs)) cc] 27 :: Sh 5 1 (by8 x.bytes) ab cb :: Sh 40 2 (en2 x.ents) ae ce :: Sh 63 4 (ch4 x.chs) ac cc :: L) w := hS
                                refine WL.call rfl rfl (rentries_spec (xs := ys) (a := a3) (c := c3) (l := x.ents) (la := ae) (lc := ce) (hx := (by first | omega | (simp <;> omega))) (hl := (by omega)) (hx2 := (by first | omega | (simp <;> omega))) (hw := (by assumption)) (hS := (hS.sel 5 [0, 2, 0, 0, 0] rfl))) rfl ?_
                                generalize hY1 : ys ++ eEnts x.ents = Y1
                                rintro _ w ⟨a1, c1, rfl, hS⟩
                                have hY1f0 : (List.length Y1) ≤ (List.length ys) + (10 + 20 * (List.length x.ents)) := by rw [← hY1, List.length_append]; exact Nat.add_le_add_left (eEnts_len (by assumption) (by omega)) _
                                replace hS : St g (Own 5 1 (by8 Y1) a1 c1 :: Sh 40 2 (en2 x.ents) ae ce :: cel b1 #[.int .i64 x.code, .int .u64 x.a, .int .u64 x.b, .int .i64 x.key, .int .i64 x.val, .int .i64 x.lo, .int .i64 x.hi, .int .i64 x.n, .bool x.flag, .string x.name, .slice ab (List.length (by8 x.bytes)) cb, .slice ae (List.length (en2 x.ents)) ce, .slice ac (List.length (ch4 x.chs)) cc] 27 :: Sh 5 1 (by8 x.bytes) ab cb :: Sh 63 4 (ch4 x.chs) ac cc :: L) w := hS
                                refine WL.r 1 rfl ?_
                                refine WL.nil ?_
                                as_aux_lemma =>
                                  refine WC.region ?_
                                  refine WL.r 2 rfl ?_
                                  refine WL.nw 22 rfl (w64 (by omega)) ?_
                                  refine WL.r 1 rfl ?_
                                  refine WL.nil ?_
                                  exact ⟨_, by omega, k + 1, Y1, _, _, rfl, (hS.sel 5 [0, 1, 1, 0, 0] rfl), (by omega), (by rw [fm_take (fun f => eField f x) (getD_some (by omega)), show (fs x.code).getD k 0 = 69 by omega, eField_E, ← hY1, hr]; simp only [List.cons_append]), rfl⟩
                              · refine WC.seq ?_
                                refine WC.region ?_
                                refine WL.r 2 rfl ?_
                                refine WL.nil ?_
                                as_aux_lemma =>
                                  refine WC.ifP rfl (fun cd13 => ?_) (fun cd13 => ?_)
                                  · refine WC.region ?_
                                    refine WL.run 3 [.slice ac (List.length (ch4 x.chs)) cc] rfl (by exact hS.ld 1 rfl rfl) ?_
                                    replace hS := (hS.at_ 0 rfl).share
                                    replace hS : St g (Sh 5 1 (by8 ys) a3 c3 :: cel b1 #[.int .i64 x.code, .int .u64 x.a, .int .u64 x.b, .int .i64 x.key, .int .i64 x.val, .int .i64 x.lo, .int .i64 x.hi, .int .i64 x.n, .bool x.flag, .string x.name, .slice ab (List.length (by8 x.bytes)) cb, .slice ae (List.length (en2 x.ents)) ce, .slice ac (List.length (ch4 x.chs)) cc] 27 :: Sh 5 1 (by8 x.bytes) ab cb :: Sh 40 2 (en2 x.ents) ae ce :: Sh 63 4 (ch4 x.chs) ac cc :: L) w := hS
                                    refine WL.call rfl rfl (rchanges_spec (xs := ys) (a := a3) (c := c3) (l := x.chs) (la := ac) (lc := cc) (hx := (by first | omega | (simp <;> omega))) (hl := (by omega)) (hx2 := (by first | omega | (simp <;> omega))) (hw := (by assumption)) (hS := (hS.sel 5 [0, 3, 0, 0, 0] rfl))) rfl ?_
                                    generalize hY1 : ys ++ eChs x.chs = Y1
                                    rintro _ w ⟨a1, c1, rfl, hS⟩
                                    have hY1f0 : (List.length Y1) ≤ (List.length ys) + (10 + 31 * (List.length x.chs)) := by rw [← hY1, List.length_append]; exact Nat.add_le_add_left (eChs_len (by assumption) (by omega)) _
                                    replace hS : St g (Own 5 1 (by8 Y1) a1 c1 :: Sh 63 4 (ch4 x.chs) ac cc :: cel b1 #[.int .i64 x.code, .int .u64 x.a, .int .u64 x.b, .int .i64 x.key, .int .i64 x.val, .int .i64 x.lo, .int .i64 x.hi, .int .i64 x.n, .bool x.flag, .string x.name, .slice ab (List.length (by8 x.bytes)) cb, .slice ae (List.length (en2 x.ents)) ce, .slice ac (List.length (ch4 x.chs)) cc] 27 :: Sh 5 1 (by8 x.bytes) ab cb :: Sh 40 2 (en2 x.ents) ae ce :: L) w := hS
                                    refine WL.r 1 rfl ?_
                                    refine WL.nil ?_
                                    refine WC.region ?_
                                    refine WL.r 2 rfl ?_
                                    refine WL.nw 22 rfl (w64 (by omega)) ?_
                                    refine WL.r 1 rfl ?_
                                    refine WL.nil ?_
                                    exact ⟨_, by omega, k + 1, Y1, _, _, rfl, (hS.sel 5 [0, 1, 1, 1, 0] rfl), (by omega), (by rw [fm_take (fun f => eField f x) (getD_some (by omega)), show (fs x.code).getD k 0 = 67 by omega, eField_C, ← hY1, hr]; simp only [List.cons_append]), rfl⟩
                                  · refine WC.skip ?_
                                    refine WC.region ?_
                                    refine WL.r 2 rfl ?_
                                    refine WL.nw 22 rfl (w64 (by omega)) ?_
                                    refine WL.r 1 rfl ?_
                                    refine WL.nil ?_
                                    exact ⟨_, by omega, k + 1, ys, _, _, rfl, hS, (by omega), (by exfalso; have := ltr_in (c := x.code) (k := k) (by omega); unfold Ltr at this; omega), rfl⟩
    · refine WC.exit ?_
      refine WC.seq ?_
      refine WC.region ?_
      refine WL.r 2 rfl ?_
      refine WL.nil ?_
      refine WC.ret ?_
      refine ⟨[.slice a3 (List.length (by8 ys)) c3], rfl, ?_⟩
      replace hS := (hS.sel 5 [0, 1, 1, 1] rfl)
      have hy : ys = eOp x := by rw [hr, List.take_of_length_le (by omega), eOp]
      rw [← hy]; exact ⟨_, _, rfl, hS⟩

theorem ranswer_spec {g w : World} {L : List HP} (x : AnM) (ab ae ac ak : Option Addr) (cb ce cc ck : Nat) (hw : AnW x) (hS : St g (Sh 5 1 (by8 x.bytes) ab cb :: Sh 40 2 (en2 x.ents) ae ce :: Sh 63 4 (ch4 x.chs) ac cc :: Sh 2 1 (i64s x.keys) ak ck :: L) w) :
    Sp Try.prog 19 [.agg #[.int .i64 x.err, .int .u64 x.handle, .int .i64 x.value, .bool x.found, .int .i64 x.n, .int .i64 x.ekey, .int .i64 x.eval, .int .i64 x.count, .int .i64 x.sum, .int .i64 x.mn, .int .i64 x.mx, .slice ae (List.length (en2 x.ents)) ce, .slice ac (List.length (ch4 x.chs)) cc, .slice ak (List.length (i64s x.keys)) ck, .slice ab (List.length (by8 x.bytes)) cb]] w (fun v w' => ∃ (a2 : Option Addr) (c2 : Nat), v = .slice a2 (List.length (by8 (eAn x))) c2 ∧ St g (Own 5 1 (by8 (eAn x)) a2 c2 :: Sh 5 1 (by8 x.bytes) ab cb :: Sh 40 2 (en2 x.ents) ae ce :: Sh 63 4 (ch4 x.chs) ac cc :: Sh 2 1 (i64s x.keys) ak ck :: L) w') := by
  refine Sp.enter Try.func19 rfl (by kernel_rfl) (by kernel_rfl) ?_
  refine WC.seq ?_
  refine WC.region ?_
  refine WL.box rfl rfl #[.int .i64 x.err, .int .u64 x.handle, .int .i64 x.value, .bool x.found, .int .i64 x.n, .int .i64 x.ekey, .int .i64 x.eval, .int .i64 x.count, .int .i64 x.sum, .int .i64 x.mn, .int .i64 x.mx, .slice ae (List.length (en2 x.ents)) ce, .slice ac (List.length (ch4 x.chs)) cc, .slice ak (List.length (i64s x.keys)) ck, .slice ab (List.length (by8 x.bytes)) cb] hS rfl rfl (fun b1 w hS => ?_)
  refine WL.r 1 rfl ?_
  refine WL.nil ?_
  refine WC.seq ?_
  refine WC.plan [([0, 4, 7, 1, 5, 8, 2], some (3, [4, 5, 7, 8])), ([], some (6, [7, 8])), ([], some (9, [])), ([10], none)] (by kernel_rfl) (by kernel_rfl) ?_
  obtain ⟨w1, w2, w3, w5, w6, w7, w8, w9, w10, w11, w12, w13, w14, l1, l2, l3, l4⟩ := hw
  have hl4 := ch4_len x.chs; have hl2 := en2_len x.ents; have hl1 := by8_len x.bytes; have hl3 := i64s_len x.keys
  refine WQ.run 7 [.int .i64 x.err, .int .u64 x.handle, .int .i64 x.value] rfl (by exact ⟨hS.ld 0 rfl rfl, hS.ld 0 rfl rfl, hS.ld 0 rfl rfl⟩) ?_
  refine WQ.reb 8 (.int .u64 (x.err % 18446744073709551616)) (congrArg (Value.int .u64) (by rfl)) ?_
  refine WQ.nil ?_
  intro m1
  replace hS := hS.drewN m1; generalize hwm1 : World.drewN _ _ = w at *; clear hwm1
  replace hS := hS.nilS 5 1
  replace hS : St g (Sh 5 1 (by8 []) none 0 :: cel b1 #[.int .i64 x.err, .int .u64 x.handle, .int .i64 x.value, .bool x.found, .int .i64 x.n, .int .i64 x.ekey, .int .i64 x.eval, .int .i64 x.count, .int .i64 x.sum, .int .i64 x.mn, .int .i64 x.mx, .slice ae (List.length (en2 x.ents)) ce, .slice ac (List.length (ch4 x.chs)) cc, .slice ak (List.length (i64s x.keys)) ck, .slice ab (List.length (by8 x.bytes)) cb] 45 :: Sh 5 1 (by8 x.bytes) ab cb :: Sh 40 2 (en2 x.ents) ae ce :: Sh 63 4 (ch4 x.chs) ac cc :: Sh 2 1 (i64s x.keys) ak ck :: L) w := hS
  refine WL.call rfl rfl (ru_spec (xs := []) (a := none) (c := 0) (n := x.err % 18446744073709551616) (hx := (by first | omega | (simp <;> omega))) (hn := (by omega)) (hS := hS)) rfl ?_
  generalize hY1 : [] ++ eU (x.err % 18446744073709551616) = Y1
  rintro _ w ⟨a1, c1, rfl, hS⟩
  have hY1f0 : (List.length Y1) ≤ 0 + 10 := by rw [← hY1, List.length_append]; exact Nat.add_le_add_left (eU_len (by omega)) _
  replace hS : St g (Own 5 1 (by8 Y1) a1 c1 :: cel b1 #[.int .i64 x.err, .int .u64 x.handle, .int .i64 x.value, .bool x.found, .int .i64 x.n, .int .i64 x.ekey, .int .i64 x.eval, .int .i64 x.count, .int .i64 x.sum, .int .i64 x.mn, .int .i64 x.mx, .slice ae (List.length (en2 x.ents)) ce, .slice ac (List.length (ch4 x.chs)) cc, .slice ak (List.length (i64s x.keys)) ck, .slice ab (List.length (by8 x.bytes)) cb] 45 :: Sh 5 1 (by8 x.bytes) ab cb :: Sh 40 2 (en2 x.ents) ae ce :: Sh 63 4 (ch4 x.chs) ac cc :: Sh 2 1 (i64s x.keys) ak ck :: L) w := hS
  refine WL.nil ?_
  refine ⟨by exact ⟨RQ.pure rfl rfl rfl rfl, RQ.load rfl rfl rfl rfl (hS.ld 1 rfl rfl), RQ.pure rfl rfl rfl rfl, RQ.load rfl rfl rfl rfl (hS.ld 1 rfl rfl)⟩, ?_⟩
  refine WQ.nil ?_
  intro m2
  replace hS := hS.drewN m2; generalize hwm2 : World.drewN _ _ = w at *; clear hwm2
  replace hS := (hS.at_ 0 rfl).share
  replace hS : St g (Sh 5 1 (by8 Y1) a1 c1 :: cel b1 #[.int .i64 x.err, .int .u64 x.handle, .int .i64 x.value, .bool x.found, .int .i64 x.n, .int .i64 x.ekey, .int .i64 x.eval, .int .i64 x.count, .int .i64 x.sum, .int .i64 x.mn, .int .i64 x.mx, .slice ae (List.length (en2 x.ents)) ce, .slice ac (List.length (ch4 x.chs)) cc, .slice ak (List.length (i64s x.keys)) ck, .slice ab (List.length (by8 x.bytes)) cb] 45 :: Sh 5 1 (by8 x.bytes) ab cb :: Sh 40 2 (en2 x.ents) ae ce :: Sh 63 4 (ch4 x.chs) ac cc :: Sh 2 1 (i64s x.keys) ak ck :: L) w := hS
  refine WL.call rfl rfl (ru_spec (xs := Y1) (a := a1) (c := c1) (n := x.handle) (hx := (by first | omega | (simp <;> omega))) (hn := (by omega)) (hS := hS)) rfl ?_
  generalize hY2 : Y1 ++ eU x.handle = Y2
  rintro _ w ⟨a2, c2, rfl, hS⟩
  have hY2f0 : (List.length Y2) ≤ (List.length Y1) + 10 := by rw [← hY2, List.length_append]; exact Nat.add_le_add_left (eU_len (by omega)) _
  replace hS : St g (Own 5 1 (by8 Y2) a2 c2 :: cel b1 #[.int .i64 x.err, .int .u64 x.handle, .int .i64 x.value, .bool x.found, .int .i64 x.n, .int .i64 x.ekey, .int .i64 x.eval, .int .i64 x.count, .int .i64 x.sum, .int .i64 x.mn, .int .i64 x.mx, .slice ae (List.length (en2 x.ents)) ce, .slice ac (List.length (ch4 x.chs)) cc, .slice ak (List.length (i64s x.keys)) ck, .slice ab (List.length (by8 x.bytes)) cb] 45 :: Sh 5 1 (by8 x.bytes) ab cb :: Sh 40 2 (en2 x.ents) ae ce :: Sh 63 4 (ch4 x.chs) ac cc :: Sh 2 1 (i64s x.keys) ak ck :: L) w := hS
  refine WL.nil ?_
  refine ⟨by exact ⟨RQ.pure rfl rfl rfl rfl, RQ.load rfl rfl rfl rfl (hS.ld 1 rfl rfl)⟩, ?_⟩
  refine WQ.nil ?_
  intro m3
  replace hS := hS.drewN m3; generalize hwm3 : World.drewN _ _ = w at *; clear hwm3
  replace hS := (hS.at_ 0 rfl).share
  replace hS : St g (Sh 5 1 (by8 Y2) a2 c2 :: cel b1 #[.int .i64 x.err, .int .u64 x.handle, .int .i64 x.value, .bool x.found, .int .i64 x.n, .int .i64 x.ekey, .int .i64 x.eval, .int .i64 x.count, .int .i64 x.sum, .int .i64 x.mn, .int .i64 x.mx, .slice ae (List.length (en2 x.ents)) ce, .slice ac (List.length (ch4 x.chs)) cc, .slice ak (List.length (i64s x.keys)) ck, .slice ab (List.length (by8 x.bytes)) cb] 45 :: Sh 5 1 (by8 x.bytes) ab cb :: Sh 40 2 (en2 x.ents) ae ce :: Sh 63 4 (ch4 x.chs) ac cc :: Sh 2 1 (i64s x.keys) ak ck :: L) w := hS
  refine WL.call rfl rfl (rz_spec (xs := Y2) (a := a2) (c := c2) (n := x.value) (hx := (by first | omega | (simp <;> omega))) (hn := (by assumption)) (hS := hS)) rfl ?_
  generalize hY3 : Y2 ++ eZ x.value = Y3
  rintro _ w ⟨a3, c3, rfl, hS⟩
  have hY3f0 : (List.length Y3) ≤ (List.length Y2) + 10 := by rw [← hY3, List.length_append]; exact Nat.add_le_add_left (eZ_len (by assumption)) _
  replace hS : St g (Own 5 1 (by8 Y3) a3 c3 :: cel b1 #[.int .i64 x.err, .int .u64 x.handle, .int .i64 x.value, .bool x.found, .int .i64 x.n, .int .i64 x.ekey, .int .i64 x.eval, .int .i64 x.count, .int .i64 x.sum, .int .i64 x.mn, .int .i64 x.mx, .slice ae (List.length (en2 x.ents)) ce, .slice ac (List.length (ch4 x.chs)) cc, .slice ak (List.length (i64s x.keys)) ck, .slice ab (List.length (by8 x.bytes)) cb] 45 :: Sh 5 1 (by8 x.bytes) ab cb :: Sh 40 2 (en2 x.ents) ae ce :: Sh 63 4 (ch4 x.chs) ac cc :: Sh 2 1 (i64s x.keys) ak ck :: L) w := hS
  refine WL.nil ?_
  refine ⟨by exact trivial, ?_⟩
  refine WQ.r 1 rfl ?_
  refine WQ.nil ?_
  intro m4
  replace hS := hS.drewN m4; generalize hwm4 : World.drewN _ _ = w at *; clear hwm4
  as_aux_lemma =>
    refine WC.seq ?_
    refine WC.plan [([0, 1, 4, 2, 5], some (3, [4, 5])), ([], some (6, [])), ([7], none)] (by kernel_rfl) (by kernel_rfl) ?_
    refine WQ.run 5 [.bool x.found, .int .i64 x.n] rfl (by exact ⟨hS.ld 1 rfl rfl, hS.ld 1 rfl rfl⟩) ?_
    refine WQ.nil ?_
    intro m5
    replace hS := hS.drewN m5; generalize hwm5 : World.drewN _ _ = w at *; clear hwm5
    refine WL.call rfl rfl (rflag_spec (xs := Y3) (a := a3) (c := c3) (x := x.found) (hx := (by first | omega | (simp <;> omega))) (hS := hS)) rfl ?_
    generalize hY4 : Y3 ++ eF x.found = Y4
    rintro _ w ⟨a4, c4, rfl, hS⟩
    have hY4f0 : (List.length Y4) = (List.length Y3) + 1 := by rw [← hY4]; simp [eF]
    replace hS : St g (Own 5 1 (by8 Y4) a4 c4 :: cel b1 #[.int .i64 x.err, .int .u64 x.handle, .int .i64 x.value, .bool x.found, .int .i64 x.n, .int .i64 x.ekey, .int .i64 x.eval, .int .i64 x.count, .int .i64 x.sum, .int .i64 x.mn, .int .i64 x.mx, .slice ae (List.length (en2 x.ents)) ce, .slice ac (List.length (ch4 x.chs)) cc, .slice ak (List.length (i64s x.keys)) ck, .slice ab (List.length (by8 x.bytes)) cb] 45 :: Sh 5 1 (by8 x.bytes) ab cb :: Sh 40 2 (en2 x.ents) ae ce :: Sh 63 4 (ch4 x.chs) ac cc :: Sh 2 1 (i64s x.keys) ak ck :: L) w := hS
    refine WL.nil ?_
    refine ⟨by exact ⟨RQ.pure rfl rfl rfl rfl, RQ.load rfl rfl rfl rfl (hS.ld 1 rfl rfl)⟩, ?_⟩
    refine WQ.nil ?_
    intro m6
    replace hS := hS.drewN m6; generalize hwm6 : World.drewN _ _ = w at *; clear hwm6
    replace hS := (hS.at_ 0 rfl).share
    replace hS : St g (Sh 5 1 (by8 Y4) a4 c4 :: cel b1 #[.int .i64 x.err, .int .u64 x.handle, .int .i64 x.value, .bool x.found, .int .i64 x.n, .int .i64 x.ekey, .int .i64 x.eval, .int .i64 x.count, .int .i64 x.sum, .int .i64 x.mn, .int .i64 x.mx, .slice ae (List.length (en2 x.ents)) ce, .slice ac (List.length (ch4 x.chs)) cc, .slice ak (List.length (i64s x.keys)) ck, .slice ab (List.length (by8 x.bytes)) cb] 45 :: Sh 5 1 (by8 x.bytes) ab cb :: Sh 40 2 (en2 x.ents) ae ce :: Sh 63 4 (ch4 x.chs) ac cc :: Sh 2 1 (i64s x.keys) ak ck :: L) w := hS
    refine WL.call rfl rfl (rz_spec (xs := Y4) (a := a4) (c := c4) (n := x.n) (hx := (by first | omega | (simp <;> omega))) (hn := (by assumption)) (hS := hS)) rfl ?_
    generalize hY5 : Y4 ++ eZ x.n = Y5
    rintro _ w ⟨a5, c5, rfl, hS⟩
    have hY5f0 : (List.length Y5) ≤ (List.length Y4) + 10 := by rw [← hY5, List.length_append]; exact Nat.add_le_add_left (eZ_len (by assumption)) _
    replace hS : St g (Own 5 1 (by8 Y5) a5 c5 :: cel b1 #[.int .i64 x.err, .int .u64 x.handle, .int .i64 x.value, .bool x.found, .int .i64 x.n, .int .i64 x.ekey, .int .i64 x.eval, .int .i64 x.count, .int .i64 x.sum, .int .i64 x.mn, .int .i64 x.mx, .slice ae (List.length (en2 x.ents)) ce, .slice ac (List.length (ch4 x.chs)) cc, .slice ak (List.length (i64s x.keys)) ck, .slice ab (List.length (by8 x.bytes)) cb] 45 :: Sh 5 1 (by8 x.bytes) ab cb :: Sh 40 2 (en2 x.ents) ae ce :: Sh 63 4 (ch4 x.chs) ac cc :: Sh 2 1 (i64s x.keys) ak ck :: L) w := hS
    refine WL.nil ?_
    refine ⟨by exact trivial, ?_⟩
    refine WQ.r 1 rfl ?_
    refine WQ.nil ?_
    intro m7
    replace hS := hS.drewN m7; generalize hwm7 : World.drewN _ _ = w at *; clear hwm7
    as_aux_lemma =>
      refine WC.seq ?_
      refine WC.plan [([0, 1, 5, 2, 6, 3, 7], some (4, [5, 6, 7])), ([], some (8, [])), ([9], none)] (by kernel_rfl) (by kernel_rfl) ?_
      refine WQ.run 7 [.int .i64 x.ekey, .int .i64 x.eval] rfl (by exact ⟨hS.ld 1 rfl rfl, hS.ld 1 rfl rfl⟩) ?_
      refine WQ.nil ?_
      intro m8
      replace hS := hS.drewN m8; generalize hwm8 : World.drewN _ _ = w at *; clear hwm8
      replace hS := (hS.at_ 0 rfl).share
      replace hS : St g (Sh 5 1 (by8 Y5) a5 c5 :: cel b1 #[.int .i64 x.err, .int .u64 x.handle, .int .i64 x.value, .bool x.found, .int .i64 x.n, .int .i64 x.ekey, .int .i64 x.eval, .int .i64 x.count, .int .i64 x.sum, .int .i64 x.mn, .int .i64 x.mx, .slice ae (List.length (en2 x.ents)) ce, .slice ac (List.length (ch4 x.chs)) cc, .slice ak (List.length (i64s x.keys)) ck, .slice ab (List.length (by8 x.bytes)) cb] 45 :: Sh 5 1 (by8 x.bytes) ab cb :: Sh 40 2 (en2 x.ents) ae ce :: Sh 63 4 (ch4 x.chs) ac cc :: Sh 2 1 (i64s x.keys) ak ck :: L) w := hS
      refine WL.call rfl rfl (rz_spec (xs := Y5) (a := a5) (c := c5) (n := x.ekey) (hx := (by first | omega | (simp <;> omega))) (hn := (by assumption)) (hS := hS)) rfl ?_
      generalize hY6 : Y5 ++ eZ x.ekey = Y6
      rintro _ w ⟨a6, c6, rfl, hS⟩
      have hY6f0 : (List.length Y6) ≤ (List.length Y5) + 10 := by rw [← hY6, List.length_append]; exact Nat.add_le_add_left (eZ_len (by assumption)) _
      replace hS : St g (Own 5 1 (by8 Y6) a6 c6 :: cel b1 #[.int .i64 x.err, .int .u64 x.handle, .int .i64 x.value, .bool x.found, .int .i64 x.n, .int .i64 x.ekey, .int .i64 x.eval, .int .i64 x.count, .int .i64 x.sum, .int .i64 x.mn, .int .i64 x.mx, .slice ae (List.length (en2 x.ents)) ce, .slice ac (List.length (ch4 x.chs)) cc, .slice ak (List.length (i64s x.keys)) ck, .slice ab (List.length (by8 x.bytes)) cb] 45 :: Sh 5 1 (by8 x.bytes) ab cb :: Sh 40 2 (en2 x.ents) ae ce :: Sh 63 4 (ch4 x.chs) ac cc :: Sh 2 1 (i64s x.keys) ak ck :: L) w := hS
      refine WL.nil ?_
      refine ⟨by exact ⟨RQ.pure rfl rfl rfl rfl, RQ.pure rfl rfl rfl rfl, RQ.load rfl rfl rfl rfl (hS.ld 1 rfl rfl)⟩, ?_⟩
      refine WQ.nil ?_
      intro m9
      replace hS := hS.drewN m9; generalize hwm9 : World.drewN _ _ = w at *; clear hwm9
      replace hS := (hS.at_ 0 rfl).share
      replace hS : St g (Sh 5 1 (by8 Y6) a6 c6 :: cel b1 #[.int .i64 x.err, .int .u64 x.handle, .int .i64 x.value, .bool x.found, .int .i64 x.n, .int .i64 x.ekey, .int .i64 x.eval, .int .i64 x.count, .int .i64 x.sum, .int .i64 x.mn, .int .i64 x.mx, .slice ae (List.length (en2 x.ents)) ce, .slice ac (List.length (ch4 x.chs)) cc, .slice ak (List.length (i64s x.keys)) ck, .slice ab (List.length (by8 x.bytes)) cb] 45 :: Sh 5 1 (by8 x.bytes) ab cb :: Sh 40 2 (en2 x.ents) ae ce :: Sh 63 4 (ch4 x.chs) ac cc :: Sh 2 1 (i64s x.keys) ak ck :: L) w := hS
      refine WL.call rfl rfl (rz_spec (xs := Y6) (a := a6) (c := c6) (n := x.eval) (hx := (by first | omega | (simp <;> omega))) (hn := (by assumption)) (hS := hS)) rfl ?_
      generalize hY7 : Y6 ++ eZ x.eval = Y7
      rintro _ w ⟨a7, c7, rfl, hS⟩
      have hY7f0 : (List.length Y7) ≤ (List.length Y6) + 10 := by rw [← hY7, List.length_append]; exact Nat.add_le_add_left (eZ_len (by assumption)) _
      replace hS : St g (Own 5 1 (by8 Y7) a7 c7 :: cel b1 #[.int .i64 x.err, .int .u64 x.handle, .int .i64 x.value, .bool x.found, .int .i64 x.n, .int .i64 x.ekey, .int .i64 x.eval, .int .i64 x.count, .int .i64 x.sum, .int .i64 x.mn, .int .i64 x.mx, .slice ae (List.length (en2 x.ents)) ce, .slice ac (List.length (ch4 x.chs)) cc, .slice ak (List.length (i64s x.keys)) ck, .slice ab (List.length (by8 x.bytes)) cb] 45 :: Sh 5 1 (by8 x.bytes) ab cb :: Sh 40 2 (en2 x.ents) ae ce :: Sh 63 4 (ch4 x.chs) ac cc :: Sh 2 1 (i64s x.keys) ak ck :: L) w := hS
      refine WL.nil ?_
      refine ⟨by exact trivial, ?_⟩
      refine WQ.r 1 rfl ?_
      refine WQ.nil ?_
      intro m10
      replace hS := hS.drewN m10; generalize hwm10 : World.drewN _ _ = w at *; clear hwm10
      as_aux_lemma =>
        refine WC.seq ?_
        refine WC.region ?_
        refine WL.r 1 rfl ?_
        refine WL.ldC rfl rfl [.int .i64 x.count, .int .i64 x.sum, .int .i64 x.mn, .int .i64 x.mx] ag_42 rfl (hS.part 1 rfl rfl) ?_
        refine WL.new rfl rfl zv_42 hS (fun b2 w hS => ?_)
        refine WL.stF rfl rfl rfl 0 hS rfl rfl rfl rfl rfl ag_42 (fun w hS => ?_)
        replace hS : St g (cel b2 #[.int .i64 x.count, .int .i64 x.sum, .int .i64 x.mn, .int .i64 x.mx] 42 :: Own 5 1 (by8 Y7) a7 c7 :: cel b1 #[.int .i64 x.err, .int .u64 x.handle, .int .i64 x.value, .bool x.found, .int .i64 x.n, .int .i64 x.ekey, .int .i64 x.eval, .int .i64 x.count, .int .i64 x.sum, .int .i64 x.mn, .int .i64 x.mx, .slice ae (List.length (en2 x.ents)) ce, .slice ac (List.length (ch4 x.chs)) cc, .slice ak (List.length (i64s x.keys)) ck, .slice ab (List.length (by8 x.bytes)) cb] 45 :: Sh 5 1 (by8 x.bytes) ab cb :: Sh 40 2 (en2 x.ents) ae ce :: Sh 63 4 (ch4 x.chs) ac cc :: Sh 2 1 (i64s x.keys) ak ck :: L) w := hS
        refine WL.nil ?_
        refine WC.seq ?_
        refine WC.plan [([0, 1, 4, 7, 10, 2, 5, 8, 11], some (3, [4, 5, 7, 8, 10, 11])), ([], some (6, [7, 8, 10, 11])), ([], some (9, [10, 11])), ([], some (12, [])), ([13], none)] (by kernel_rfl) (by kernel_rfl) ?_
        refine WQ.run 9 [.int .i64 x.count, .int .i64 x.sum, .int .i64 x.mn, .int .i64 x.mx] rfl (by exact ⟨hS.ld 0 rfl rfl, hS.ld 0 rfl rfl, hS.ld 0 rfl rfl, hS.ld 0 rfl rfl⟩) ?_
        refine WQ.nil ?_
        intro m11
        replace hS := hS.drewN m11; generalize hwm11 : World.drewN _ _ = w at *; clear hwm11
        replace hS := (hS.at_ 1 rfl).share
        replace hS : St g (Sh 5 1 (by8 Y7) a7 c7 :: cel b2 #[.int .i64 x.count, .int .i64 x.sum, .int .i64 x.mn, .int .i64 x.mx] 42 :: cel b1 #[.int .i64 x.err, .int .u64 x.handle, .int .i64 x.value, .bool x.found, .int .i64 x.n, .int .i64 x.ekey, .int .i64 x.eval, .int .i64 x.count, .int .i64 x.sum, .int .i64 x.mn, .int .i64 x.mx, .slice ae (List.length (en2 x.ents)) ce, .slice ac (List.length (ch4 x.chs)) cc, .slice ak (List.length (i64s x.keys)) ck, .slice ab (List.length (by8 x.bytes)) cb] 45 :: Sh 5 1 (by8 x.bytes) ab cb :: Sh 40 2 (en2 x.ents) ae ce :: Sh 63 4 (ch4 x.chs) ac cc :: Sh 2 1 (i64s x.keys) ak ck :: L) w := hS
        refine WL.call rfl rfl (rz_spec (xs := Y7) (a := a7) (c := c7) (n := x.count) (hx := (by first | omega | (simp <;> omega))) (hn := (by assumption)) (hS := hS)) rfl ?_
        generalize hY8 : Y7 ++ eZ x.count = Y8
        rintro _ w ⟨a8, c8, rfl, hS⟩
        have hY8f0 : (List.length Y8) ≤ (List.length Y7) + 10 := by rw [← hY8, List.length_append]; exact Nat.add_le_add_left (eZ_len (by assumption)) _
        replace hS : St g (Own 5 1 (by8 Y8) a8 c8 :: cel b2 #[.int .i64 x.count, .int .i64 x.sum, .int .i64 x.mn, .int .i64 x.mx] 42 :: cel b1 #[.int .i64 x.err, .int .u64 x.handle, .int .i64 x.value, .bool x.found, .int .i64 x.n, .int .i64 x.ekey, .int .i64 x.eval, .int .i64 x.count, .int .i64 x.sum, .int .i64 x.mn, .int .i64 x.mx, .slice ae (List.length (en2 x.ents)) ce, .slice ac (List.length (ch4 x.chs)) cc, .slice ak (List.length (i64s x.keys)) ck, .slice ab (List.length (by8 x.bytes)) cb] 45 :: Sh 5 1 (by8 x.bytes) ab cb :: Sh 40 2 (en2 x.ents) ae ce :: Sh 63 4 (ch4 x.chs) ac cc :: Sh 2 1 (i64s x.keys) ak ck :: L) w := hS
        refine WL.nil ?_
        refine ⟨by exact ⟨RQ.pure rfl rfl rfl rfl, RQ.load rfl rfl rfl rfl (hS.ld 1 rfl rfl), RQ.pure rfl rfl rfl rfl, RQ.load rfl rfl rfl rfl (hS.ld 1 rfl rfl), RQ.pure rfl rfl rfl rfl, RQ.load rfl rfl rfl rfl (hS.ld 1 rfl rfl)⟩, ?_⟩
        refine WQ.nil ?_
        intro m12
        replace hS := hS.drewN m12; generalize hwm12 : World.drewN _ _ = w at *; clear hwm12
        replace hS := (hS.at_ 0 rfl).share
        replace hS : St g (Sh 5 1 (by8 Y8) a8 c8 :: cel b2 #[.int .i64 x.count, .int .i64 x.sum, .int .i64 x.mn, .int .i64 x.mx] 42 :: cel b1 #[.int .i64 x.err, .int .u64 x.handle, .int .i64 x.value, .bool x.found, .int .i64 x.n, .int .i64 x.ekey, .int .i64 x.eval, .int .i64 x.count, .int .i64 x.sum, .int .i64 x.mn, .int .i64 x.mx, .slice ae (List.length (en2 x.ents)) ce, .slice ac (List.length (ch4 x.chs)) cc, .slice ak (List.length (i64s x.keys)) ck, .slice ab (List.length (by8 x.bytes)) cb] 45 :: Sh 5 1 (by8 x.bytes) ab cb :: Sh 40 2 (en2 x.ents) ae ce :: Sh 63 4 (ch4 x.chs) ac cc :: Sh 2 1 (i64s x.keys) ak ck :: L) w := hS
        refine WL.call rfl rfl (rz_spec (xs := Y8) (a := a8) (c := c8) (n := x.sum) (hx := (by first | omega | (simp <;> omega))) (hn := (by assumption)) (hS := hS)) rfl ?_
        generalize hY9 : Y8 ++ eZ x.sum = Y9
        rintro _ w ⟨a9, c9, rfl, hS⟩
        have hY9f0 : (List.length Y9) ≤ (List.length Y8) + 10 := by rw [← hY9, List.length_append]; exact Nat.add_le_add_left (eZ_len (by assumption)) _
        replace hS : St g (Own 5 1 (by8 Y9) a9 c9 :: cel b2 #[.int .i64 x.count, .int .i64 x.sum, .int .i64 x.mn, .int .i64 x.mx] 42 :: cel b1 #[.int .i64 x.err, .int .u64 x.handle, .int .i64 x.value, .bool x.found, .int .i64 x.n, .int .i64 x.ekey, .int .i64 x.eval, .int .i64 x.count, .int .i64 x.sum, .int .i64 x.mn, .int .i64 x.mx, .slice ae (List.length (en2 x.ents)) ce, .slice ac (List.length (ch4 x.chs)) cc, .slice ak (List.length (i64s x.keys)) ck, .slice ab (List.length (by8 x.bytes)) cb] 45 :: Sh 5 1 (by8 x.bytes) ab cb :: Sh 40 2 (en2 x.ents) ae ce :: Sh 63 4 (ch4 x.chs) ac cc :: Sh 2 1 (i64s x.keys) ak ck :: L) w := hS
        refine WL.nil ?_
        refine ⟨by exact ⟨RQ.pure rfl rfl rfl rfl, RQ.load rfl rfl rfl rfl (hS.ld 1 rfl rfl), RQ.pure rfl rfl rfl rfl, RQ.load rfl rfl rfl rfl (hS.ld 1 rfl rfl)⟩, ?_⟩
        refine WQ.nil ?_
        intro m13
        replace hS := hS.drewN m13; generalize hwm13 : World.drewN _ _ = w at *; clear hwm13
        replace hS := (hS.at_ 0 rfl).share
        replace hS : St g (Sh 5 1 (by8 Y9) a9 c9 :: cel b2 #[.int .i64 x.count, .int .i64 x.sum, .int .i64 x.mn, .int .i64 x.mx] 42 :: cel b1 #[.int .i64 x.err, .int .u64 x.handle, .int .i64 x.value, .bool x.found, .int .i64 x.n, .int .i64 x.ekey, .int .i64 x.eval, .int .i64 x.count, .int .i64 x.sum, .int .i64 x.mn, .int .i64 x.mx, .slice ae (List.length (en2 x.ents)) ce, .slice ac (List.length (ch4 x.chs)) cc, .slice ak (List.length (i64s x.keys)) ck, .slice ab (List.length (by8 x.bytes)) cb] 45 :: Sh 5 1 (by8 x.bytes) ab cb :: Sh 40 2 (en2 x.ents) ae ce :: Sh 63 4 (ch4 x.chs) ac cc :: Sh 2 1 (i64s x.keys) ak ck :: L) w := hS
        refine WL.call rfl rfl (rz_spec (xs := Y9) (a := a9) (c := c9) (n := x.mn) (hx := (by first | omega | (simp <;> omega))) (hn := (by assumption)) (hS := hS)) rfl ?_
        generalize hY10 : Y9 ++ eZ x.mn = Y10
        rintro _ w ⟨a10, c10, rfl, hS⟩
        have hY10f0 : (List.length Y10) ≤ (List.length Y9) + 10 := by rw [← hY10, List.length_append]; exact Nat.add_le_add_left (eZ_len (by assumption)) _
        replace hS : St g (Own 5 1 (by8 Y10) a10 c10 :: cel b2 #[.int .i64 x.count, .int .i64 x.sum, .int .i64 x.mn, .int .i64 x.mx] 42 :: cel b1 #[.int .i64 x.err, .int .u64 x.handle, .int .i64 x.value, .bool x.found, .int .i64 x.n, .int .i64 x.ekey, .int .i64 x.eval, .int .i64 x.count, .int .i64 x.sum, .int .i64 x.mn, .int .i64 x.mx, .slice ae (List.length (en2 x.ents)) ce, .slice ac (List.length (ch4 x.chs)) cc, .slice ak (List.length (i64s x.keys)) ck, .slice ab (List.length (by8 x.bytes)) cb] 45 :: Sh 5 1 (by8 x.bytes) ab cb :: Sh 40 2 (en2 x.ents) ae ce :: Sh 63 4 (ch4 x.chs) ac cc :: Sh 2 1 (i64s x.keys) ak ck :: L) w := hS
        refine WL.nil ?_
        refine ⟨by exact ⟨RQ.pure rfl rfl rfl rfl, RQ.load rfl rfl rfl rfl (hS.ld 1 rfl rfl)⟩, ?_⟩
        refine WQ.nil ?_
        intro m14
        replace hS := hS.drewN m14; generalize hwm14 : World.drewN _ _ = w at *; clear hwm14
        replace hS := (hS.at_ 0 rfl).share
        replace hS : St g (Sh 5 1 (by8 Y10) a10 c10 :: cel b2 #[.int .i64 x.count, .int .i64 x.sum, .int .i64 x.mn, .int .i64 x.mx] 42 :: cel b1 #[.int .i64 x.err, .int .u64 x.handle, .int .i64 x.value, .bool x.found, .int .i64 x.n, .int .i64 x.ekey, .int .i64 x.eval, .int .i64 x.count, .int .i64 x.sum, .int .i64 x.mn, .int .i64 x.mx, .slice ae (List.length (en2 x.ents)) ce, .slice ac (List.length (ch4 x.chs)) cc, .slice ak (List.length (i64s x.keys)) ck, .slice ab (List.length (by8 x.bytes)) cb] 45 :: Sh 5 1 (by8 x.bytes) ab cb :: Sh 40 2 (en2 x.ents) ae ce :: Sh 63 4 (ch4 x.chs) ac cc :: Sh 2 1 (i64s x.keys) ak ck :: L) w := hS
        refine WL.call rfl rfl (rz_spec (xs := Y10) (a := a10) (c := c10) (n := x.mx) (hx := (by first | omega | (simp <;> omega))) (hn := (by assumption)) (hS := hS)) rfl ?_
        generalize hY11 : Y10 ++ eZ x.mx = Y11
        rintro _ w ⟨a11, c11, rfl, hS⟩
        have hY11f0 : (List.length Y11) ≤ (List.length Y10) + 10 := by rw [← hY11, List.length_append]; exact Nat.add_le_add_left (eZ_len (by assumption)) _
        replace hS : St g (Own 5 1 (by8 Y11) a11 c11 :: cel b2 #[.int .i64 x.count, .int .i64 x.sum, .int .i64 x.mn, .int .i64 x.mx] 42 :: cel b1 #[.int .i64 x.err, .int .u64 x.handle, .int .i64 x.value, .bool x.found, .int .i64 x.n, .int .i64 x.ekey, .int .i64 x.eval, .int .i64 x.count, .int .i64 x.sum, .int .i64 x.mn, .int .i64 x.mx, .slice ae (List.length (en2 x.ents)) ce, .slice ac (List.length (ch4 x.chs)) cc, .slice ak (List.length (i64s x.keys)) ck, .slice ab (List.length (by8 x.bytes)) cb] 45 :: Sh 5 1 (by8 x.bytes) ab cb :: Sh 40 2 (en2 x.ents) ae ce :: Sh 63 4 (ch4 x.chs) ac cc :: Sh 2 1 (i64s x.keys) ak ck :: L) w := hS
        refine WL.nil ?_
        refine ⟨by exact trivial, ?_⟩
        refine WQ.r 1 rfl ?_
        refine WQ.nil ?_
        intro m15
        replace hS := hS.drewN m15; generalize hwm15 : World.drewN _ _ = w at *; clear hwm15
        as_aux_lemma =>
          refine WC.seq ?_
          refine WC.plan [([0, 1, 4, 2, 5], some (3, [4, 5])), ([], some (6, [])), ([7], none)] (by kernel_rfl) (by kernel_rfl) ?_
          refine WQ.run 5 [.slice ae (List.length (en2 x.ents)) ce, .slice ac (List.length (ch4 x.chs)) cc] rfl (by exact ⟨hS.ld 2 rfl rfl, hS.ld 2 rfl rfl⟩) ?_
          refine WQ.nil ?_
          intro m16
          replace hS := hS.drewN m16; generalize hwm16 : World.drewN _ _ = w at *; clear hwm16
          replace hS := (hS.at_ 0 rfl).share
          replace hS : St g (Sh 5 1 (by8 Y11) a11 c11 :: cel b2 #[.int .i64 x.count, .int .i64 x.sum, .int .i64 x.mn, .int .i64 x.mx] 42 :: cel b1 #[.int .i64 x.err, .int .u64 x.handle, .int .i64 x.value, .bool x.found, .int .i64 x.n, .int .i64 x.ekey, .int .i64 x.eval, .int .i64 x.count, .int .i64 x.sum, .int .i64 x.mn, .int .i64 x.mx, .slice ae (List.length (en2 x.ents)) ce, .slice ac (List.length (ch4 x.chs)) cc, .slice ak (List.length (i64s x.keys)) ck, .slice ab (List.length (by8 x.bytes)) cb] 45 :: Sh 5 1 (by8 x.bytes) ab cb :: Sh 40 2 (en2 x.ents) ae ce :: Sh 63 4 (ch4 x.chs) ac cc :: Sh 2 1 (i64s x.keys) ak ck :: L) w := hS
          refine WL.call rfl rfl (rentries_spec (xs := Y11) (a := a11) (c := c11) (l := x.ents) (la := ae) (lc := ce) (hx := (by first | omega | (simp <;> omega))) (hl := (by omega)) (hx2 := (by first | omega | (simp <;> omega))) (hw := (by assumption)) (hS := (hS.sel 7 [0, 3, 0, 0, 0, 0, 0] rfl))) rfl ?_
          generalize hY12 : Y11 ++ eEnts x.ents = Y12
          rintro _ w ⟨a12, c12, rfl, hS⟩
          have hY12f0 : (List.length Y12) ≤ (List.length Y11) + (10 + 20 * (List.length x.ents)) := by rw [← hY12, List.length_append]; exact Nat.add_le_add_left (eEnts_len (by assumption) (by omega)) _
          replace hS : St g (Own 5 1 (by8 Y12) a12 c12 :: Sh 40 2 (en2 x.ents) ae ce :: cel b2 #[.int .i64 x.count, .int .i64 x.sum, .int .i64 x.mn, .int .i64 x.mx] 42 :: cel b1 #[.int .i64 x.err, .int .u64 x.handle, .int .i64 x.value, .bool x.found, .int .i64 x.n, .int .i64 x.ekey, .int .i64 x.eval, .int .i64 x.count, .int .i64 x.sum, .int .i64 x.mn, .int .i64 x.mx, .slice ae (List.length (en2 x.ents)) ce, .slice ac (List.length (ch4 x.chs)) cc, .slice ak (List.length (i64s x.keys)) ck, .slice ab (List.length (by8 x.bytes)) cb] 45 :: Sh 5 1 (by8 x.bytes) ab cb :: Sh 63 4 (ch4 x.chs) ac cc :: Sh 2 1 (i64s x.keys) ak ck :: L) w := hS
          refine WL.nil ?_
          refine ⟨by exact ⟨RQ.pure rfl rfl rfl rfl, RQ.load rfl rfl rfl rfl (hS.ld 3 rfl rfl)⟩, ?_⟩
          refine WQ.nil ?_
          intro m17
          replace hS := hS.drewN m17; generalize hwm17 : World.drewN _ _ = w at *; clear hwm17
          replace hS := (hS.at_ 0 rfl).share
          replace hS : St g (Sh 5 1 (by8 Y12) a12 c12 :: Sh 40 2 (en2 x.ents) ae ce :: cel b2 #[.int .i64 x.count, .int .i64 x.sum, .int .i64 x.mn, .int .i64 x.mx] 42 :: cel b1 #[.int .i64 x.err, .int .u64 x.handle, .int .i64 x.value, .bool x.found, .int .i64 x.n, .int .i64 x.ekey, .int .i64 x.eval, .int .i64 x.count, .int .i64 x.sum, .int .i64 x.mn, .int .i64 x.mx, .slice ae (List.length (en2 x.ents)) ce, .slice ac (List.length (ch4 x.chs)) cc, .slice ak (List.length (i64s x.keys)) ck, .slice ab (List.length (by8 x.bytes)) cb] 45 :: Sh 5 1 (by8 x.bytes) ab cb :: Sh 63 4 (ch4 x.chs) ac cc :: Sh 2 1 (i64s x.keys) ak ck :: L) w := hS
          refine WL.call rfl rfl (rchanges_spec (xs := Y12) (a := a12) (c := c12) (l := x.chs) (la := ac) (lc := cc) (hx := (by first | omega | (simp <;> omega))) (hl := (by omega)) (hx2 := (by first | omega | (simp <;> omega))) (hw := (by assumption)) (hS := (hS.sel 7 [0, 4, 0, 0, 0, 0, 0] rfl))) rfl ?_
          generalize hY13 : Y12 ++ eChs x.chs = Y13
          rintro _ w ⟨a13, c13, rfl, hS⟩
          have hY13f0 : (List.length Y13) ≤ (List.length Y12) + (10 + 31 * (List.length x.chs)) := by rw [← hY13, List.length_append]; exact Nat.add_le_add_left (eChs_len (by assumption) (by omega)) _
          replace hS : St g (Own 5 1 (by8 Y13) a13 c13 :: Sh 63 4 (ch4 x.chs) ac cc :: Sh 40 2 (en2 x.ents) ae ce :: cel b2 #[.int .i64 x.count, .int .i64 x.sum, .int .i64 x.mn, .int .i64 x.mx] 42 :: cel b1 #[.int .i64 x.err, .int .u64 x.handle, .int .i64 x.value, .bool x.found, .int .i64 x.n, .int .i64 x.ekey, .int .i64 x.eval, .int .i64 x.count, .int .i64 x.sum, .int .i64 x.mn, .int .i64 x.mx, .slice ae (List.length (en2 x.ents)) ce, .slice ac (List.length (ch4 x.chs)) cc, .slice ak (List.length (i64s x.keys)) ck, .slice ab (List.length (by8 x.bytes)) cb] 45 :: Sh 5 1 (by8 x.bytes) ab cb :: Sh 2 1 (i64s x.keys) ak ck :: L) w := hS
          refine WL.nil ?_
          refine ⟨by exact trivial, ?_⟩
          refine WQ.r 1 rfl ?_
          refine WQ.nil ?_
          intro m18
          replace hS := hS.drewN m18; generalize hwm18 : World.drewN _ _ = w at *; clear hwm18
          as_aux_lemma =>
            refine WC.seq ?_
            refine WC.region ?_
            refine WL.run 5 [.slice ak (List.length (i64s x.keys)) ck] rfl (by exact hS.ld 4 rfl rfl) ?_
            refine WL.nw 58 rfl (wu64 (by omega)) ?_
            replace hS := (hS.at_ 0 rfl).share
            replace hS : St g (Sh 5 1 (by8 Y13) a13 c13 :: Sh 63 4 (ch4 x.chs) ac cc :: Sh 40 2 (en2 x.ents) ae ce :: cel b2 #[.int .i64 x.count, .int .i64 x.sum, .int .i64 x.mn, .int .i64 x.mx] 42 :: cel b1 #[.int .i64 x.err, .int .u64 x.handle, .int .i64 x.value, .bool x.found, .int .i64 x.n, .int .i64 x.ekey, .int .i64 x.eval, .int .i64 x.count, .int .i64 x.sum, .int .i64 x.mn, .int .i64 x.mx, .slice ae (List.length (en2 x.ents)) ce, .slice ac (List.length (ch4 x.chs)) cc, .slice ak (List.length (i64s x.keys)) ck, .slice ab (List.length (by8 x.bytes)) cb] 45 :: Sh 5 1 (by8 x.bytes) ab cb :: Sh 2 1 (i64s x.keys) ak ck :: L) w := hS
            refine WL.call rfl rfl (ru_spec (xs := Y13) (a := a13) (c := c13) (n := (List.length (i64s x.keys) : Int)) (hx := (by first | omega | (simp <;> omega))) (hn := (by omega)) (hS := hS)) rfl ?_
            generalize hY14 : Y13 ++ eU (List.length (i64s x.keys) : Int) = Y14
            rintro _ w ⟨a14, c14, rfl, hS⟩
            have hY14f0 : (List.length Y14) ≤ (List.length Y13) + 10 := by rw [← hY14, List.length_append]; exact Nat.add_le_add_left (eU_len (by omega)) _
            replace hS : St g (Own 5 1 (by8 Y14) a14 c14 :: Sh 63 4 (ch4 x.chs) ac cc :: Sh 40 2 (en2 x.ents) ae ce :: cel b2 #[.int .i64 x.count, .int .i64 x.sum, .int .i64 x.mn, .int .i64 x.mx] 42 :: cel b1 #[.int .i64 x.err, .int .u64 x.handle, .int .i64 x.value, .bool x.found, .int .i64 x.n, .int .i64 x.ekey, .int .i64 x.eval, .int .i64 x.count, .int .i64 x.sum, .int .i64 x.mn, .int .i64 x.mx, .slice ae (List.length (en2 x.ents)) ce, .slice ac (List.length (ch4 x.chs)) cc, .slice ak (List.length (i64s x.keys)) ck, .slice ab (List.length (by8 x.bytes)) cb] 45 :: Sh 5 1 (by8 x.bytes) ab cb :: Sh 2 1 (i64s x.keys) ak ck :: L) w := hS
            refine WL.r 1 rfl ?_
            refine WL.nil ?_
            refine WC.seq ?_
            refine WC.seq ?_
            refine WC.region ?_
            refine WL.r 1 rfl ?_
            refine WL.nil ?_
            refine WC.block ?_
            refine WC.loop [1, 2, 3, 5] (fun kM vs w => ∃ (k : Nat) (ys : List Int) (a3 : Option Addr) (c3 : Nat), vs = [.pointer (some ⟨b1, 0, none⟩), .slice none 0 0, .slice a3 (List.length (by8 ys)) c3, .int .i64 (k : Int)] ∧ St g (Own 5 1 (by8 ys) a3 c3 :: Sh 63 4 (ch4 x.chs) ac cc :: Sh 40 2 (en2 x.ents) ae ce :: cel b2 #[.int .i64 x.count, .int .i64 x.sum, .int .i64 x.mn, .int .i64 x.mx] 42 :: cel b1 #[.int .i64 x.err, .int .u64 x.handle, .int .i64 x.value, .bool x.found, .int .i64 x.n, .int .i64 x.ekey, .int .i64 x.eval, .int .i64 x.count, .int .i64 x.sum, .int .i64 x.mn, .int .i64 x.mx, .slice ae (List.length (en2 x.ents)) ce, .slice ac (List.length (ch4 x.chs)) cc, .slice ak (List.length (i64s x.keys)) ck, .slice ab (List.length (by8 x.bytes)) cb] 45 :: Sh 5 1 (by8 x.bytes) ab cb :: Sh 2 1 (i64s x.keys) ak ck :: L) w ∧ (k ≤ x.keys.length) ∧ (ys = Y14 ++ (x.keys.take k).flatMap eZ) ∧ (ys.length ≤ Y14.length + 10 * k) ∧ (x.keys.length - k) = kM) ((List.length x.keys) - 0) ⟨0, Y14, _, _, rfl, hS, (Nat.zero_le _), (by simp), (by omega), rfl⟩ ?_
            clear hS; rintro _ _ w j ⟨k, ys, a3, c3, rfl, hS, hk, hys, hyl, rfl⟩
            refine WC.seq ?_
            refine WC.seq ?_
            refine WC.region ?_
            refine WL.run 5 [.slice ak (List.length (i64s x.keys)) ck] rfl (by exact hS.ld 4 rfl rfl) ?_
            refine WL.nil ?_
            as_aux_lemma =>
              refine WC.ifP rfl (fun cd1 => ?_) (fun cd1 => ?_)
              · refine WC.skip ?_
                refine WC.seq ?_
                refine WC.block ?_
                refine WC.region ?_
                refine WL.run 4 [.slice ak (List.length (i64s x.keys)) ck] rfl (by exact hS.ld 4 rfl rfl) ?_
                obtain ⟨z, hx2⟩ : ∃ z, x.keys[k]? = some z := ⟨_, List.getElem?_eq_getElem (by omega)⟩; have hz := w14 z (List.mem_of_getElem? hx2)
                refine WL.ix rfl rfl (i := (k : Int)) (k) el_43 rfl rfl (by omega) (len_of (i64s_at hx2)) (hS.rdS 6 rfl (i64s_at hx2)).1 ?_
                refine WL.run 1 [.int .i64 z] rfl (by exact (hS.rdS 6 rfl (i64s_at hx2)).2 0 _ rfl) ?_
                replace hS := (hS.at_ 0 rfl).share
                replace hS : St g (Sh 5 1 (by8 ys) a3 c3 :: Sh 63 4 (ch4 x.chs) ac cc :: Sh 40 2 (en2 x.ents) ae ce :: cel b2 #[.int .i64 x.count, .int .i64 x.sum, .int .i64 x.mn, .int .i64 x.mx] 42 :: cel b1 #[.int .i64 x.err, .int .u64 x.handle, .int .i64 x.value, .bool x.found, .int .i64 x.n, .int .i64 x.ekey, .int .i64 x.eval, .int .i64 x.count, .int .i64 x.sum, .int .i64 x.mn, .int .i64 x.mx, .slice ae (List.length (en2 x.ents)) ce, .slice ac (List.length (ch4 x.chs)) cc, .slice ak (List.length (i64s x.keys)) ck, .slice ab (List.length (by8 x.bytes)) cb] 45 :: Sh 5 1 (by8 x.bytes) ab cb :: Sh 2 1 (i64s x.keys) ak ck :: L) w := hS
                refine WL.call rfl rfl (rz_spec (xs := ys) (a := a3) (c := c3) (n := z) (hx := (by first | omega | (simp <;> omega))) (hn := (by assumption)) (hS := hS)) rfl ?_
                generalize hY15 : ys ++ eZ z = Y15
                rintro _ w ⟨a15, c15, rfl, hS⟩
                have hY15f0 : (List.length Y15) ≤ (List.length ys) + 10 := by rw [← hY15, List.length_append]; exact Nat.add_le_add_left (eZ_len (by assumption)) _
                replace hS : St g (Own 5 1 (by8 Y15) a15 c15 :: Sh 63 4 (ch4 x.chs) ac cc :: Sh 40 2 (en2 x.ents) ae ce :: cel b2 #[.int .i64 x.count, .int .i64 x.sum, .int .i64 x.mn, .int .i64 x.mx] 42 :: cel b1 #[.int .i64 x.err, .int .u64 x.handle, .int .i64 x.value, .bool x.found, .int .i64 x.n, .int .i64 x.ekey, .int .i64 x.eval, .int .i64 x.count, .int .i64 x.sum, .int .i64 x.mn, .int .i64 x.mx, .slice ae (List.length (en2 x.ents)) ce, .slice ac (List.length (ch4 x.chs)) cc, .slice ak (List.length (i64s x.keys)) ck, .slice ab (List.length (by8 x.bytes)) cb] 45 :: Sh 5 1 (by8 x.bytes) ab cb :: Sh 2 1 (i64s x.keys) ak ck :: L) w := hS
                refine WL.r 1 rfl ?_
                refine WL.nil ?_
                refine WC.region ?_
                refine WL.r 2 rfl ?_
                refine WL.nw 66 rfl (w64 (by omega)) ?_
                refine WL.r 1 rfl ?_
                refine WL.nil ?_
                exact ⟨_, by omega, k + 1, Y15, _, _, rfl, hS, (by omega), (by rw [fm_take eZ hx2, ← hY15, hys]; simp only [List.append_assoc]), (by omega), rfl⟩
              · refine WC.exit ?_
                refine WC.seq ?_
                refine WC.region ?_
                refine WL.run 3 [.slice ab (List.length (by8 x.bytes)) cb] rfl (by exact hS.ld 4 rfl rfl) ?_
                replace hS := (hS.at_ 0 rfl).share
                replace hS : St g (Sh 5 1 (by8 ys) a3 c3 :: Sh 63 4 (ch4 x.chs) ac cc :: Sh 40 2 (en2 x.ents) ae ce :: cel b2 #[.int .i64 x.count, .int .i64 x.sum, .int .i64 x.mn, .int .i64 x.mx] 42 :: cel b1 #[.int .i64 x.err, .int .u64 x.handle, .int .i64 x.value, .bool x.found, .int .i64 x.n, .int .i64 x.ekey, .int .i64 x.eval, .int .i64 x.count, .int .i64 x.sum, .int .i64 x.mn, .int .i64 x.mx, .slice ae (List.length (en2 x.ents)) ce, .slice ac (List.length (ch4 x.chs)) cc, .slice ak (List.length (i64s x.keys)) ck, .slice ab (List.length (by8 x.bytes)) cb] 45 :: Sh 5 1 (by8 x.bytes) ab cb :: Sh 2 1 (i64s x.keys) ak ck :: L) w := hS
                refine WL.call rfl rfl (rtext_spec (xs := ys) (a := a3) (c := c3) (l := x.bytes) (la := ab) (lc := cb) (hx := (by first | omega | (simp <;> omega))) (hl := (by omega)) (hS := (hS.sel 7 [0, 4, 0, 0, 0, 0, 0] rfl))) rfl ?_
                generalize hY15 : ys ++ eBytes x.bytes = Y15
                rintro _ w ⟨a15, c15, rfl, hS⟩
                have hY15f0 : (List.length Y15) ≤ (List.length ys) + (10 + (List.length x.bytes)) := by rw [← hY15, List.length_append]; exact Nat.add_le_add_left (eBytes_len (by omega)) _
                replace hS : St g (Own 5 1 (by8 Y15) a15 c15 :: Sh 5 1 (by8 x.bytes) ab cb :: Sh 63 4 (ch4 x.chs) ac cc :: Sh 40 2 (en2 x.ents) ae ce :: cel b2 #[.int .i64 x.count, .int .i64 x.sum, .int .i64 x.mn, .int .i64 x.mx] 42 :: cel b1 #[.int .i64 x.err, .int .u64 x.handle, .int .i64 x.value, .bool x.found, .int .i64 x.n, .int .i64 x.ekey, .int .i64 x.eval, .int .i64 x.count, .int .i64 x.sum, .int .i64 x.mn, .int .i64 x.mx, .slice ae (List.length (en2 x.ents)) ce, .slice ac (List.length (ch4 x.chs)) cc, .slice ak (List.length (i64s x.keys)) ck, .slice ab (List.length (by8 x.bytes)) cb] 45 :: Sh 2 1 (i64s x.keys) ak ck :: L) w := hS
                refine WL.r 1 rfl ?_
                refine WL.nil ?_
                refine WC.ret ?_
                refine ⟨[.slice a15 (List.length (by8 Y15)) c15], rfl, ?_⟩
                replace hS := (hS.sel 7 [0, 0, 1, 0, 2] rfl)
                have hy : Y15 = eAn x := by
                  rw [← hY15, hys, fm_all eZ (by omega), ← hY14, ← hY13, ← hY12, ← hY11, ← hY10, ← hY9, ← hY8, ← hY7, ← hY6, ← hY5, ← hY4, ← hY3, ← hY2, ← hY1, eAn]; simp only [List.nil_append, List.append_assoc, i64s_len]
                rw [← hy]; exact ⟨_, _, rfl, hS⟩
end Go.Proofs.Ytofnoopjlmdelaa
