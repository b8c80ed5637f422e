/-
  The writer of operations: one field; what clear leaves; join.
  Conditions: sizes below a bound that the laws meet.
-/
import Derived.Test.YtofnoopjlmdelaaWr
import Derived.Test.YtofnoopjlmdelaaFld
namespace Go.Proofs.Ytofnoopjlmdelaa
open Go Go.V




theorem wfield_spec {g w : World} {L : List HP} (q : Nat) (xs : List Int) (a : Option Addr) (c : Nat) (x : OpM) (ab ae ac : Option Addr) (cb ce cc : Nat) (f : Int) (hx : xs.length ≤ 1000000) (hx3 : xs.length ≤ 500000) (hw : OpW x) (hl : OpL x) (hS : St g (cel q #[.slice a (List.length (by8 xs)) c] 68 :: Own 5 1 (by8 xs) a c :: Sh 5 1 (by8 x.bytes) ab cb :: Sh 40 2 (en2 x.ents) ae ce :: Sh 63 4 (ch4 x.chs) ac cc :: L) w) :
    Sp Try.prog 32 [.pointer (some ⟨q, 0, none⟩), .agg #[.int .i64 x.code, .int .u64 x.a, .int .u64 x.b, .int .i64 x.key, .int .i64 x.val, .int .i64 x.lo, .int .i64 x.hi, .int .i64 x.n, .bool x.flag, .string x.name, .slice ab (List.length (by8 x.bytes)) cb, .slice ae (List.length (en2 x.ents)) ce, .slice ac (List.length (ch4 x.chs)) cc], .int .i32 f] w (fun v w' => ∃ (a2 : Option Addr) (c2 : Nat), v = .tuple #[] ∧ St g (cel q #[.slice a2 (List.length (by8 (xs ++ eField f x))) c2] 68 :: Own 5 1 (by8 (xs ++ eField f x)) a2 c2 :: Sh 5 1 (by8 x.bytes) ab cb :: Sh 40 2 (en2 x.ents) ae ce :: Sh 63 4 (ch4 x.chs) ac cc :: L) w') := by
  refine Sp.enter Try.func32 rfl (by kernel_rfl) (by kernel_rfl) ?_
  have _ := hx3
  have _ := hx
  refine WC.seq ?_
  refine WC.region ?_
  refine WL.box rfl rfl #[.int .i64 x.code, .int .u64 x.a, .int .u64 x.b, .int .i64 x.key, .int .i64 x.val, .int .i64 x.lo, .int .i64 x.hi, .int .i64 x.n, .bool x.flag, .string x.name, .slice ab (List.length (by8 x.bytes)) cb, .slice ae (List.length (en2 x.ents)) ce, .slice ac (List.length (ch4 x.chs)) cc] hS rfl rfl (fun b1 w hS => ?_)
  refine WL.nil ?_
  refine WC.seq ?_
  refine WC.region ?_
  have hwa := hw.a; have hwb := hw.b; have hwk := hw.key; have hwv := hw.val; have hwl := hw.lo; have hwh := hw.hi; have hwe := hw.ents; have hwc := hw.chs
  have hsb := sb_len x.name; have hln := hl.n; have hls := hl.name; have hlb := hl.bytes; have hle := hl.ents; have hlc := hl.chs
  refine WL.r 1 rfl ?_
  refine WL.nil ?_
  refine WC.block ?_
  refine WC.seq ?_
  refine WC.region ?_
  refine WL.r 2 rfl ?_
  refine WL.nil ?_
  refine WC.ifP rfl (fun cd1 => ?_) (fun cd1 => ?_)
  · refine WC.region ?_
    refine WL.run 3 [.int .u64 x.a] rfl (by exact hS.ld 0 rfl rfl) ?_
    refine WL.call rfl rfl (wvarint_spec (q := q) (xs := xs) (a := a) (c := c) (u := x.a) (hx := (by first | omega | (simp <;> omega))) (hu := (by omega)) (hS := (hS.sel 6 [1, 1, 0, 0, 0, 0] rfl))) rfl ?_
    generalize hY1 : xs ++ eU x.a = Y1
    rintro _ w ⟨a1, c1, rfl, hS⟩
    have hY1f0 : (List.length Y1) ≤ (List.length xs) + 10 := by rw [← hY1, List.length_append]; exact Nat.add_le_add_left (eU_len (by omega)) _
    replace hS : St g (cel q #[.slice a1 (List.length (by8 Y1)) c1] 68 :: Own 5 1 (by8 Y1) a1 c1 :: cel b1 #[.int .i64 x.code, .int .u64 x.a, .int .u64 x.b, .int .i64 x.key, .int .i64 x.val, .int .i64 x.lo, .int .i64 x.hi, .int .i64 x.n, .bool x.flag, .string x.name, .slice ab (List.length (by8 x.bytes)) cb, .slice ae (List.length (en2 x.ents)) ce, .slice ac (List.length (ch4 x.chs)) cc] 27 :: Sh 5 1 (by8 x.bytes) ab cb :: Sh 40 2 (en2 x.ents) ae ce :: Sh 63 4 (ch4 x.chs) ac cc :: L) w := hS
    refine WL.nil ?_
    refine ⟨[], trivial, ?_⟩
    replace hS := (hS.sel 6 [0, 0, 1, 1, 1] rfl)
    subst_vars; rw [eField_A]; exact ⟨_, _, rfl, hS⟩
  · refine WC.seq ?_
    refine WC.region ?_
    refine WL.r 2 rfl ?_
    refine WL.nil ?_
    refine WC.ifP rfl (fun cd2 => ?_) (fun cd2 => ?_)
    · refine WC.region ?_
      refine WL.run 3 [.int .u64 x.b] rfl (by exact hS.ld 0 rfl rfl) ?_
      refine WL.call rfl rfl (wvarint_spec (q := q) (xs := xs) (a := a) (c := c) (u := x.b) (hx := (by first | omega | (simp <;> omega))) (hu := (by omega)) (hS := (hS.sel 6 [1, 1, 0, 0, 0, 0] rfl))) rfl ?_
      generalize hY1 : xs ++ eU x.b = Y1
      rintro _ w ⟨a1, c1, rfl, hS⟩
      have hY1f0 : (List.length Y1) ≤ (List.length xs) + 10 := by rw [← hY1, List.length_append]; exact Nat.add_le_add_left (eU_len (by omega)) _
      replace hS : St g (cel q #[.slice a1 (List.length (by8 Y1)) c1] 68 :: Own 5 1 (by8 Y1) a1 c1 :: cel b1 #[.int .i64 x.code, .int .u64 x.a, .int .u64 x.b, .int .i64 x.key, .int .i64 x.val, .int .i64 x.lo, .int .i64 x.hi, .int .i64 x.n, .bool x.flag, .string x.name, .slice ab (List.length (by8 x.bytes)) cb, .slice ae (List.length (en2 x.ents)) ce, .slice ac (List.length (ch4 x.chs)) cc] 27 :: Sh 5 1 (by8 x.bytes) ab cb :: Sh 40 2 (en2 x.ents) ae ce :: Sh 63 4 (ch4 x.chs) ac cc :: L) w := hS
      refine WL.nil ?_
      refine ⟨[], trivial, ?_⟩
      replace hS := (hS.sel 6 [0, 0, 1, 1, 1] rfl)
      subst_vars; rw [eField_B]; exact ⟨_, _, rfl, hS⟩
    · refine WC.seq ?_
      refine WC.region ?_
      refine WL.r 2 rfl ?_
      refine WL.nil ?_
      as_aux_lemma =>
        refine WC.ifP rfl (fun cd3 => ?_) (fun cd3 => ?_)
        · refine WC.region ?_
          refine WL.run 3 [.int .i64 x.key] rfl (by exact hS.ld 0 rfl rfl) ?_
          refine WL.call rfl rfl (wsigned_spec (q := q) (xs := xs) (a := a) (c := c) (n := x.key) (hx := (by first | omega | (simp <;> omega))) (hn := (by assumption)) (hS := (hS.sel 6 [1, 1, 0, 0, 0, 0] rfl))) rfl ?_
          generalize hY1 : xs ++ eZ x.key = Y1
          rintro _ w ⟨a1, c1, rfl, hS⟩
          have hY1f0 : (List.length Y1) ≤ (List.length xs) + 10 := by rw [← hY1, List.length_append]; exact Nat.add_le_add_left (eZ_len (by assumption)) _
          replace hS : St g (cel q #[.slice a1 (List.length (by8 Y1)) c1] 68 :: Own 5 1 (by8 Y1) a1 c1 :: cel b1 #[.int .i64 x.code, .int .u64 x.a, .int .u64 x.b, .int .i64 x.key, .int .i64 x.val, .int .i64 x.lo, .int .i64 x.hi, .int .i64 x.n, .bool x.flag, .string x.name, .slice ab (List.length (by8 x.bytes)) cb, .slice ae (List.length (en2 x.ents)) ce, .slice ac (List.length (ch4 x.chs)) cc] 27 :: Sh 5 1 (by8 x.bytes) ab cb :: Sh 40 2 (en2 x.ents) ae ce :: Sh 63 4 (ch4 x.chs) ac cc :: L) w := hS
          refine WL.nil ?_
          refine ⟨[], trivial, ?_⟩
          replace hS := (hS.sel 6 [0, 0, 1, 1, 1] rfl)
          subst_vars; rw [eField_K]; exact ⟨_, _, rfl, hS⟩
        · refine WC.seq ?_
          refine WC.region ?_
          refine WL.r 2 rfl ?_
          refine WL.nil ?_
          refine WC.ifP rfl (fun cd4 => ?_) (fun cd4 => ?_)
          · refine WC.region ?_
            refine WL.run 3 [.int .i64 x.val] rfl (by exact hS.ld 0 rfl rfl) ?_
            refine WL.call rfl rfl (wsigned_spec (q := q) (xs := xs) (a := a) (c := c) (n := x.val) (hx := (by first | omega | (simp <;> omega))) (hn := (by assumption)) (hS := (hS.sel 6 [1, 1, 0, 0, 0, 0] rfl))) rfl ?_
            generalize hY1 : xs ++ eZ x.val = Y1
            rintro _ w ⟨a1, c1, rfl, hS⟩
            have hY1f0 : (List.length Y1) ≤ (List.length xs) + 10 := by rw [← hY1, List.length_append]; exact Nat.add_le_add_left (eZ_len (by assumption)) _
            replace hS : St g (cel q #[.slice a1 (List.length (by8 Y1)) c1] 68 :: Own 5 1 (by8 Y1) a1 c1 :: cel b1 #[.int .i64 x.code, .int .u64 x.a, .int .u64 x.b, .int .i64 x.key, .int .i64 x.val, .int .i64 x.lo, .int .i64 x.hi, .int .i64 x.n, .bool x.flag, .string x.name, .slice ab (List.length (by8 x.bytes)) cb, .slice ae (List.length (en2 x.ents)) ce, .slice ac (List.length (ch4 x.chs)) cc] 27 :: Sh 5 1 (by8 x.bytes) ab cb :: Sh 40 2 (en2 x.ents) ae ce :: Sh 63 4 (ch4 x.chs) ac cc :: L) w := hS
            refine WL.nil ?_
            refine ⟨[], trivial, ?_⟩
            replace hS := (hS.sel 6 [0, 0, 1, 1, 1] rfl)
            subst_vars; rw [eField_V]; exact ⟨_, _, rfl, hS⟩
          · refine WC.seq ?_
            refine WC.region ?_
            refine WL.r 2 rfl ?_
            refine WL.nil ?_
            refine WC.ifP rfl (fun cd5 => ?_) (fun cd5 => ?_)
            · refine WC.region ?_
              refine WL.run 3 [.int .i64 x.lo] rfl (by exact hS.ld 0 rfl rfl) ?_
              refine WL.call rfl rfl (wsigned_spec (q := q) (xs := xs) (a := a) (c := c) (n := x.lo) (hx := (by first | omega | (simp <;> omega))) (hn := (by assumption)) (hS := (hS.sel 6 [1, 1, 0, 0, 0, 0] rfl))) rfl ?_
              generalize hY1 : xs ++ eZ x.lo = Y1
              rintro _ w ⟨a1, c1, rfl, hS⟩
              have hY1f0 : (List.length Y1) ≤ (List.length xs) + 10 := by rw [← hY1, List.length_append]; exact Nat.add_le_add_left (eZ_len (by assumption)) _
              replace hS : St g (cel q #[.slice a1 (List.length (by8 Y1)) c1] 68 :: Own 5 1 (by8 Y1) a1 c1 :: cel b1 #[.int .i64 x.code, .int .u64 x.a, .int .u64 x.b, .int .i64 x.key, .int .i64 x.val, .int .i64 x.lo, .int .i64 x.hi, .int .i64 x.n, .bool x.flag, .string x.name, .slice ab (List.length (by8 x.bytes)) cb, .slice ae (List.length (en2 x.ents)) ce, .slice ac (List.length (ch4 x.chs)) cc] 27 :: Sh 5 1 (by8 x.bytes) ab cb :: Sh 40 2 (en2 x.ents) ae ce :: Sh 63 4 (ch4 x.chs) ac cc :: L) w := hS
              refine WL.nil ?_
              refine ⟨[], trivial, ?_⟩
              replace hS := (hS.sel 6 [0, 0, 1, 1, 1] rfl)
              subst_vars; rw [eField_L]; exact ⟨_, _, rfl, hS⟩
            · refine WC.seq ?_
              refine WC.region ?_
              refine WL.r 2 rfl ?_
              refine WL.nil ?_
              refine WC.ifP rfl (fun cd6 => ?_) (fun cd6 => ?_)
              · refine WC.region ?_
                refine WL.run 3 [.int .i64 x.hi] rfl (by exact hS.ld 0 rfl rfl) ?_
                refine WL.call rfl rfl (wsigned_spec (q := q) (xs := xs) (a := a) (c := c) (n := x.hi) (hx := (by first | omega | (simp <;> omega))) (hn := (by assumption)) (hS := (hS.sel 6 [1, 1, 0, 0, 0, 0] rfl))) rfl ?_
                generalize hY1 : xs ++ eZ x.hi = Y1
                rintro _ w ⟨a1, c1, rfl, hS⟩
                have hY1f0 : (List.length Y1) ≤ (List.length xs) + 10 := by rw [← hY1, List.length_append]; exact Nat.add_le_add_left (eZ_len (by assumption)) _
                replace hS : St g (cel q #[.slice a1 (List.length (by8 Y1)) c1] 68 :: Own 5 1 (by8 Y1) a1 c1 :: cel b1 #[.int .i64 x.code, .int .u64 x.a, .int .u64 x.b, .int .i64 x.key, .int .i64 x.val, .int .i64 x.lo, .int .i64 x.hi, .int .i64 x.n, .bool x.flag, .string x.name, .slice ab (List.length (by8 x.bytes)) cb, .slice ae (List.length (en2 x.ents)) ce, .slice ac (List.length (ch4 x.chs)) cc] 27 :: Sh 5 1 (by8 x.bytes) ab cb :: Sh 40 2 (en2 x.ents) ae ce :: Sh 63 4 (ch4 x.chs) ac cc :: L) w := hS
                refine WL.nil ?_
                refine ⟨[], trivial, ?_⟩
                replace hS := (hS.sel 6 [0, 0, 1, 1, 1] rfl)
                subst_vars; rw [eField_H]; exact ⟨_, _, rfl, hS⟩
              · refine WC.seq ?_
                refine WC.region ?_
                refine WL.r 2 rfl ?_
                refine WL.nil ?_
                refine WC.ifP rfl (fun cd7 => ?_) (fun cd7 => ?_)
                · refine WC.region ?_
                  refine WL.run 4 [.int .i64 x.n] rfl (by exact hS.ld 0 rfl rfl) ?_
                  refine WL.nw 48 rfl (wu64 (by omega)) ?_
                  refine WL.call rfl rfl (wvarint_spec (q := q) (xs := xs) (a := a) (c := c) (u := x.n) (hx := (by first | omega | (simp <;> omega))) (hu := (by omega)) (hS := (hS.sel 6 [1, 1, 0, 0, 0, 0] rfl))) rfl ?_
                  generalize hY1 : xs ++ eU x.n = Y1
                  rintro _ w ⟨a1, c1, rfl, hS⟩
                  have hY1f0 : (List.length Y1) ≤ (List.length xs) + 10 := by rw [← hY1, List.length_append]; exact Nat.add_le_add_left (eU_len (by omega)) _
                  replace hS : St g (cel q #[.slice a1 (List.length (by8 Y1)) c1] 68 :: Own 5 1 (by8 Y1) a1 c1 :: cel b1 #[.int .i64 x.code, .int .u64 x.a, .int .u64 x.b, .int .i64 x.key, .int .i64 x.val, .int .i64 x.lo, .int .i64 x.hi, .int .i64 x.n, .bool x.flag, .string x.name, .slice ab (List.length (by8 x.bytes)) cb, .slice ae (List.length (en2 x.ents)) ce, .slice ac (List.length (ch4 x.chs)) cc] 27 :: Sh 5 1 (by8 x.bytes) ab cb :: Sh 40 2 (en2 x.ents) ae ce :: Sh 63 4 (ch4 x.chs) ac cc :: L) w := hS
                  refine WL.nil ?_
                  refine ⟨[], trivial, ?_⟩
                  replace hS := (hS.sel 6 [0, 0, 1, 1, 1] rfl)
                  subst_vars; rw [eField_N]; exact ⟨_, _, rfl, hS⟩
                · refine WC.seq ?_
                  refine WC.region ?_
                  refine WL.r 2 rfl ?_
                  refine WL.nil ?_
                  as_aux_lemma =>
                    refine WC.ifP rfl (fun cd8 => ?_) (fun cd8 => ?_)
                    · refine WC.region ?_
                      refine WL.run 3 [.bool x.flag] rfl (by exact hS.ld 0 rfl rfl) ?_
                      refine WL.call rfl rfl (wbool_spec (q := q) (xs := xs) (a := a) (c := c) (x := x.flag) (hx := (by first | omega | (simp <;> omega))) (hS := (hS.sel 6 [1, 1, 0, 0, 0, 0] rfl))) rfl ?_
                      generalize hY1 : xs ++ eF x.flag = Y1
                      rintro _ w ⟨a1, c1, rfl, hS⟩
                      have hY1f0 : (List.length Y1) = (List.length xs) + 1 := by rw [← hY1]; simp [eF]
                      replace hS : St g (cel q #[.slice a1 (List.length (by8 Y1)) c1] 68 :: Own 5 1 (by8 Y1) a1 c1 :: cel b1 #[.int .i64 x.code, .int .u64 x.a, .int .u64 x.b, .int .i64 x.key, .int .i64 x.val, .int .i64 x.lo, .int .i64 x.hi, .int .i64 x.n, .bool x.flag, .string x.name, .slice ab (List.length (by8 x.bytes)) cb, .slice ae (List.length (en2 x.ents)) ce, .slice ac (List.length (ch4 x.chs)) cc] 27 :: Sh 5 1 (by8 x.bytes) ab cb :: Sh 40 2 (en2 x.ents) ae ce :: Sh 63 4 (ch4 x.chs) ac cc :: L) w := hS
                      refine WL.nil ?_
                      refine ⟨[], trivial, ?_⟩
                      replace hS := (hS.sel 6 [0, 0, 1, 1, 1] rfl)
                      subst_vars; rw [eField_F]; exact ⟨_, _, rfl, hS⟩
                    · refine WC.seq ?_
                      refine WC.region ?_
                      refine WL.r 2 rfl ?_
                      refine WL.nil ?_
                      refine WC.ifP rfl (fun cd9 => ?_) (fun cd9 => ?_)
                      · refine WC.region ?_
                        refine WL.run 3 [.string x.name] rfl (by exact hS.ld 0 rfl rfl) ?_
                        refine WL.toB rfl rfl Try.underlying9 Try.underlying23 Try.underlying5 hS rfl (fun a1 c1 w hS => ?_)
                        refine WL.reb 61 (.slice a1 (by8 (sb x.name)).length c1) (congrArg (fun m => Value.slice a1 m c1) (by8sb_len x.name).symm) ?_
                        replace hS : St g (Sh 5 1 (by8 (sb x.name)) a1 c1 :: cel b1 #[.int .i64 x.code, .int .u64 x.a, .int .u64 x.b, .int .i64 x.key, .int .i64 x.val, .int .i64 x.lo, .int .i64 x.hi, .int .i64 x.n, .bool x.flag, .string x.name, .slice ab (List.length (by8 x.bytes)) cb, .slice ae (List.length (en2 x.ents)) ce, .slice ac (List.length (ch4 x.chs)) cc] 27 :: cel q #[.slice a (List.length (by8 xs)) c] 68 :: Own 5 1 (by8 xs) a c :: Sh 5 1 (by8 x.bytes) ab cb :: Sh 40 2 (en2 x.ents) ae ce :: Sh 63 4 (ch4 x.chs) ac cc :: L) w := hS
                        refine WL.call rfl rfl (wbytes_spec (q := q) (xs := xs) (a := a) (c := c) (l := sb x.name) (la := a1) (lc := c1) (hx := (by first | omega | (simp <;> omega))) (hl := (by omega)) (hS := (hS.sel 7 [2, 2, 0, 0, 0, 0, 0] rfl))) rfl ?_
                        generalize hY1 : xs ++ eBytes (sb x.name) = Y1
                        rintro _ w ⟨a2, c2, rfl, hS⟩
                        have hY1f0 : (List.length Y1) ≤ (List.length xs) + (10 + (List.length (sb x.name))) := by rw [← hY1, List.length_append]; exact Nat.add_le_add_left (eBytes_len (by omega)) _
                        replace hS : St g (cel q #[.slice a2 (List.length (by8 Y1)) c2] 68 :: Own 5 1 (by8 Y1) a2 c2 :: Sh 5 1 (by8 (sb x.name)) a1 c1 :: cel b1 #[.int .i64 x.code, .int .u64 x.a, .int .u64 x.b, .int .i64 x.key, .int .i64 x.val, .int .i64 x.lo, .int .i64 x.hi, .int .i64 x.n, .bool x.flag, .string x.name, .slice ab (List.length (by8 x.bytes)) cb, .slice ae (List.length (en2 x.ents)) ce, .slice ac (List.length (ch4 x.chs)) cc] 27 :: Sh 5 1 (by8 x.bytes) ab cb :: Sh 40 2 (en2 x.ents) ae ce :: Sh 63 4 (ch4 x.chs) ac cc :: L) w := hS
                        refine WL.nil ?_
                        refine ⟨[], trivial, ?_⟩
                        replace hS := (hS.sel 7 [0, 0, 2, 2, 2] rfl)
                        subst_vars; rw [eField_S]; exact ⟨_, _, rfl, hS⟩
                      · refine WC.seq ?_
                        refine WC.region ?_
                        refine WL.r 2 rfl ?_
                        refine WL.nil ?_
                        refine WC.ifP rfl (fun cd10 => ?_) (fun cd10 => ?_)
                        · refine WC.region ?_
                          refine WL.run 3 [.slice ab (List.length (by8 x.bytes)) cb] rfl (by exact hS.ld 0 rfl rfl) ?_
                          refine WL.call rfl rfl (wbytes_spec (q := q) (xs := xs) (a := a) (c := c) (l := x.bytes) (la := ab) (lc := cb) (hx := (by first | omega | (simp <;> omega))) (hl := (by omega)) (hS := (hS.sel 6 [1, 1, 1, 0, 0, 0] rfl))) rfl ?_
                          generalize hY1 : xs ++ eBytes x.bytes = Y1
                          rintro _ w ⟨a1, c1, rfl, hS⟩
                          have hY1f0 : (List.length Y1) ≤ (List.length xs) + (10 + (List.length x.bytes)) := by rw [← hY1, List.length_append]; exact Nat.add_le_add_left (eBytes_len (by omega)) _
                          replace hS : St g (cel q #[.slice a1 (List.length (by8 Y1)) c1] 68 :: Own 5 1 (by8 Y1) a1 c1 :: Sh 5 1 (by8 x.bytes) ab cb :: cel b1 #[.int .i64 x.code, .int .u64 x.a, .int .u64 x.b, .int .i64 x.key, .int .i64 x.val, .int .i64 x.lo, .int .i64 x.hi, .int .i64 x.n, .bool x.flag, .string x.name, .slice ab (List.length (by8 x.bytes)) cb, .slice ae (List.length (en2 x.ents)) ce, .slice ac (List.length (ch4 x.chs)) cc] 27 :: Sh 40 2 (en2 x.ents) ae ce :: Sh 63 4 (ch4 x.chs) ac cc :: L) w := hS
                          refine WL.nil ?_
                          refine ⟨[], trivial, ?_⟩
                          replace hS := (hS.sel 6 [0, 0, 0, 1, 1] rfl)
                          subst_vars; rw [eField_Y]; exact ⟨_, _, rfl, hS⟩
                        · refine WC.seq ?_
                          refine WC.region ?_
                          refine WL.r 2 rfl ?_
                          refine WL.nil ?_
                          refine WC.ifP rfl (fun cd11 => ?_) (fun cd11 => ?_)
                          · refine WC.region ?_
                            refine WL.run 3 [.slice ae (List.length (en2 x.ents)) ce] rfl (by exact hS.ld 0 rfl rfl) ?_
                            refine WL.call rfl rfl (wentries_spec (q := q) (xs := xs) (a := a) (c := c) (l := x.ents) (la := ae) (lc := ce) (hx := (by first | omega | (simp <;> omega))) (hl := (by omega)) (hx2 := (by first | omega | (simp <;> omega))) (hw := (by assumption)) (hS := (hS.sel 6 [1, 1, 2, 0, 0, 0] rfl))) rfl ?_
                            generalize hY1 : xs ++ eEnts x.ents = Y1
                            rintro _ w ⟨a1, c1, rfl, hS⟩
                            have hY1f0 : (List.length Y1) ≤ (List.length xs) + (10 + 20 * (List.length x.ents)) := by rw [← hY1, List.length_append]; exact Nat.add_le_add_left (eEnts_len (by assumption) (by omega)) _
                            replace hS : St g (cel q #[.slice a1 (List.length (by8 Y1)) c1] 68 :: Own 5 1 (by8 Y1) a1 c1 :: Sh 40 2 (en2 x.ents) ae ce :: cel b1 #[.int .i64 x.code, .int .u64 x.a, .int .u64 x.b, .int .i64 x.key, .int .i64 x.val, .int .i64 x.lo, .int .i64 x.hi, .int .i64 x.n, .bool x.flag, .string x.name, .slice ab (List.length (by8 x.bytes)) cb, .slice ae (List.length (en2 x.ents)) ce, .slice ac (List.length (ch4 x.chs)) cc] 27 :: Sh 5 1 (by8 x.bytes) ab cb :: Sh 63 4 (ch4 x.chs) ac cc :: L) w := hS
                            refine WL.nil ?_
                            refine ⟨[], trivial, ?_⟩
                            replace hS := (hS.sel 6 [0, 0, 2, 0, 1] rfl)
                            subst_vars; rw [eField_E]; exact ⟨_, _, rfl, hS⟩
                          · refine WC.seq ?_
                            refine WC.region ?_
                            refine WL.r 2 rfl ?_
                            refine WL.nil ?_
                            refine WC.ifP rfl (fun cd12 => ?_) (fun cd12 => ?_)
                            · refine WC.region ?_
                              refine WL.run 3 [.slice ac (List.length (ch4 x.chs)) cc] rfl (by exact hS.ld 0 rfl rfl) ?_
                              refine WL.call rfl rfl (wchanges_spec (q := q) (xs := xs) (a := a) (c := c) (l := x.chs) (la := ac) (lc := cc) (hx := (by first | omega | (simp <;> omega))) (hl := (by omega)) (hx2 := (by first | omega | (simp <;> omega))) (hw := (by assumption)) (hS := (hS.sel 6 [1, 1, 3, 0, 0, 0] rfl))) rfl ?_
                              generalize hY1 : xs ++ eChs x.chs = Y1
                              rintro _ w ⟨a1, c1, rfl, hS⟩
                              have hY1f0 : (List.length Y1) ≤ (List.length xs) + (10 + 31 * (List.length x.chs)) := by rw [← hY1, List.length_append]; exact Nat.add_le_add_left (eChs_len (by assumption) (by omega)) _
                              replace hS : St g (cel q #[.slice a1 (List.length (by8 Y1)) c1] 68 :: Own 5 1 (by8 Y1) a1 c1 :: Sh 63 4 (ch4 x.chs) ac cc :: cel b1 #[.int .i64 x.code, .int .u64 x.a, .int .u64 x.b, .int .i64 x.key, .int .i64 x.val, .int .i64 x.lo, .int .i64 x.hi, .int .i64 x.n, .bool x.flag, .string x.name, .slice ab (List.length (by8 x.bytes)) cb, .slice ae (List.length (en2 x.ents)) ce, .slice ac (List.length (ch4 x.chs)) cc] 27 :: Sh 5 1 (by8 x.bytes) ab cb :: Sh 40 2 (en2 x.ents) ae ce :: L) w := hS
                              refine WL.nil ?_
                              refine ⟨[], trivial, ?_⟩
                              replace hS := (hS.sel 6 [0, 0, 2, 2, 0] rfl)
                              subst_vars; rw [eField_C]; exact ⟨_, _, rfl, hS⟩
                            · refine WC.skip ?_
                              refine ⟨[], trivial, ?_⟩
                              replace hS := (hS.sel 6 [1, 1, 1, 1, 1] rfl)
                              rw [eField_no (by unfold Ltr; omega), List.append_nil]; exact ⟨_, _, rfl, hS⟩

theorem clear_spec {g w : World} {L : List HP} (y : ZM) (ab ae ac : Option Addr) (cb ce cc : Nat) (f : Int) (hS : St g (L) w) :
    Sp Try.prog 34 [.agg #[.int .i64 y.code, .int .u64 y.a, .int .u64 y.b, .int .i64 y.key, .int .i64 y.val, .int .i64 y.lo, .int .i64 y.hi, .int .i64 y.n, .bool y.flag, .string y.name, .slice ab y.lb cb, .slice ae y.le ce, .slice ac y.lc cc], .int .i32 f] w (fun v w' => ∃ (ab2 ae2 ac2 : Option Addr) (cb2 ce2 cc2 : Nat), v = .agg #[.int .i64 (clrZ f y).code, .int .u64 (clrZ f y).a, .int .u64 (clrZ f y).b, .int .i64 (clrZ f y).key, .int .i64 (clrZ f y).val, .int .i64 (clrZ f y).lo, .int .i64 (clrZ f y).hi, .int .i64 (clrZ f y).n, .bool (clrZ f y).flag, .string (clrZ f y).name, .slice ab2 (clrZ f y).lb cb2, .slice ae2 (clrZ f y).le ce2, .slice ac2 (clrZ f y).lc cc2] ∧ St g (L) w') := by
  refine Sp.enter Try.func34 rfl (by kernel_rfl) (by kernel_rfl) ?_
  refine WC.seq ?_
  refine WC.region ?_
  refine WL.box rfl rfl #[.int .i64 y.code, .int .u64 y.a, .int .u64 y.b, .int .i64 y.key, .int .i64 y.val, .int .i64 y.lo, .int .i64 y.hi, .int .i64 y.n, .bool y.flag, .string y.name, .slice ab y.lb cb, .slice ae y.le ce, .slice ac y.lc cc] hS rfl rfl (fun b1 w hS => ?_)
  refine WL.new rfl rfl zv_27 hS (fun b2 w hS => ?_)
  refine WL.nil ?_
  refine WC.seq ?_
  refine WC.seq ?_
  refine WC.region ?_
  refine WL.r 1 rfl ?_
  refine WL.nil ?_
  refine WC.block ?_
  refine WC.seq ?_
  refine WC.region ?_
  refine WL.r 2 rfl ?_
  refine WL.nil ?_
  refine WC.ifP rfl (fun cd1 => ?_) (fun cd1 => ?_)
  · refine WC.region ?_
    refine WL.r 1 rfl ?_
    refine WL.st rfl rfl rfl 1 hS rfl rfl rfl rfl rfl rfl (fun w hS => ?_)
    replace hS : St g (cel b2 #[.int .i64 0, .int .u64 0, .int .u64 0, .int .i64 0, .int .i64 0, .int .i64 0, .int .i64 0, .int .i64 0, .bool false, .string ⟨#[]⟩, .slice none 0 0, .slice none 0 0, .slice none 0 0] 27 :: cel b1 #[.int .i64 y.code, .int .u64 0, .int .u64 y.b, .int .i64 y.key, .int .i64 y.val, .int .i64 y.lo, .int .i64 y.hi, .int .i64 y.n, .bool y.flag, .string y.name, .slice ab y.lb cb, .slice ae y.le ce, .slice ac y.lc cc] 27 :: L) w := hS
    refine WL.nil ?_
    refine WC.seq ?_
    refine WC.region ?_
    refine WL.ldF rfl rfl 1 hS rfl rfl ag_27 ?_
    refine WL.stF rfl rfl rfl 0 hS rfl rfl rfl rfl rfl ag_27 (fun w hS => ?_)
    replace hS : St g (cel b2 #[.int .i64 y.code, .int .u64 0, .int .u64 y.b, .int .i64 y.key, .int .i64 y.val, .int .i64 y.lo, .int .i64 y.hi, .int .i64 y.n, .bool y.flag, .string y.name, .slice ab y.lb cb, .slice ae y.le ce, .slice ac y.lc cc] 27 :: cel b1 #[.int .i64 y.code, .int .u64 0, .int .u64 y.b, .int .i64 y.key, .int .i64 y.val, .int .i64 y.lo, .int .i64 y.hi, .int .i64 y.n, .bool y.flag, .string y.name, .slice ab y.lb cb, .slice ae y.le ce, .slice ac y.lc cc] 27 :: L) w := hS
    refine WL.nil ?_
    as_aux_lemma =>
      refine WC.ret ?_
      refine ⟨[.agg #[.int .i64 y.code, .int .u64 0, .int .u64 y.b, .int .i64 y.key, .int .i64 y.val, .int .i64 y.lo, .int .i64 y.hi, .int .i64 y.n, .bool y.flag, .string y.name, .slice ab y.lb cb, .slice ae y.le ce, .slice ac y.lc cc]], ⟨⟨_, rfl, hS.lvF 0 rfl ag_27⟩, trivial⟩, ?_⟩
      replace hS := (hS.sel 2 [] rfl)
      subst cd1; rw [clrZ_A]; exact ⟨_, _, _, _, _, _, rfl, hS⟩
  · refine WC.seq ?_
    refine WC.region ?_
    refine WL.r 2 rfl ?_
    refine WL.nil ?_
    refine WC.ifP rfl (fun cd2 => ?_) (fun cd2 => ?_)
    · refine WC.region ?_
      refine WL.r 1 rfl ?_
      refine WL.st rfl rfl rfl 1 hS rfl rfl rfl rfl rfl rfl (fun w hS => ?_)
      replace hS : St g (cel b2 #[.int .i64 0, .int .u64 0, .int .u64 0, .int .i64 0, .int .i64 0, .int .i64 0, .int .i64 0, .int .i64 0, .bool false, .string ⟨#[]⟩, .slice none 0 0, .slice none 0 0, .slice none 0 0] 27 :: cel b1 #[.int .i64 y.code, .int .u64 y.a, .int .u64 0, .int .i64 y.key, .int .i64 y.val, .int .i64 y.lo, .int .i64 y.hi, .int .i64 y.n, .bool y.flag, .string y.name, .slice ab y.lb cb, .slice ae y.le ce, .slice ac y.lc cc] 27 :: L) w := hS
      refine WL.nil ?_
      as_aux_lemma =>
        refine WC.seq ?_
        refine WC.region ?_
        refine WL.ldF rfl rfl 1 hS rfl rfl ag_27 ?_
        refine WL.stF rfl rfl rfl 0 hS rfl rfl rfl rfl rfl ag_27 (fun w hS => ?_)
        replace hS : St g (cel b2 #[.int .i64 y.code, .int .u64 y.a, .int .u64 0, .int .i64 y.key, .int .i64 y.val, .int .i64 y.lo, .int .i64 y.hi, .int .i64 y.n, .bool y.flag, .string y.name, .slice ab y.lb cb, .slice ae y.le ce, .slice ac y.lc cc] 27 :: cel b1 #[.int .i64 y.code, .int .u64 y.a, .int .u64 0, .int .i64 y.key, .int .i64 y.val, .int .i64 y.lo, .int .i64 y.hi, .int .i64 y.n, .bool y.flag, .string y.name, .slice ab y.lb cb, .slice ae y.le ce, .slice ac y.lc cc] 27 :: L) w := hS
        refine WL.nil ?_
        refine WC.ret ?_
        refine ⟨[.agg #[.int .i64 y.code, .int .u64 y.a, .int .u64 0, .int .i64 y.key, .int .i64 y.val, .int .i64 y.lo, .int .i64 y.hi, .int .i64 y.n, .bool y.flag, .string y.name, .slice ab y.lb cb, .slice ae y.le ce, .slice ac y.lc cc]], ⟨⟨_, rfl, hS.lvF 0 rfl ag_27⟩, trivial⟩, ?_⟩
        replace hS := (hS.sel 2 [] rfl)
        subst cd2; rw [clrZ_B]; exact ⟨_, _, _, _, _, _, rfl, hS⟩
    · refine WC.seq ?_
      refine WC.region ?_
      refine WL.r 2 rfl ?_
      refine WL.nil ?_
      as_aux_lemma =>
        refine WC.ifP rfl (fun cd3 => ?_) (fun cd3 => ?_)
        · refine WC.region ?_
          refine WL.r 1 rfl ?_
          refine WL.st rfl rfl rfl 1 hS rfl rfl rfl rfl rfl rfl (fun w hS => ?_)
          replace hS : St g (cel b2 #[.int .i64 0, .int .u64 0, .int .u64 0, .int .i64 0, .int .i64 0, .int .i64 0, .int .i64 0, .int .i64 0, .bool false, .string ⟨#[]⟩, .slice none 0 0, .slice none 0 0, .slice none 0 0] 27 :: cel b1 #[.int .i64 y.code, .int .u64 y.a, .int .u64 y.b, .int .i64 0, .int .i64 y.val, .int .i64 y.lo, .int .i64 y.hi, .int .i64 y.n, .bool y.flag, .string y.name, .slice ab y.lb cb, .slice ae y.le ce, .slice ac y.lc cc] 27 :: L) w := hS
          refine WL.nil ?_
          refine WC.seq ?_
          refine WC.region ?_
          refine WL.ldF rfl rfl 1 hS rfl rfl ag_27 ?_
          refine WL.stF rfl rfl rfl 0 hS rfl rfl rfl rfl rfl ag_27 (fun w hS => ?_)
          replace hS : St g (cel b2 #[.int .i64 y.code, .int .u64 y.a, .int .u64 y.b, .int .i64 0, .int .i64 y.val, .int .i64 y.lo, .int .i64 y.hi, .int .i64 y.n, .bool y.flag, .string y.name, .slice ab y.lb cb, .slice ae y.le ce, .slice ac y.lc cc] 27 :: cel b1 #[.int .i64 y.code, .int .u64 y.a, .int .u64 y.b, .int .i64 0, .int .i64 y.val, .int .i64 y.lo, .int .i64 y.hi, .int .i64 y.n, .bool y.flag, .string y.name, .slice ab y.lb cb, .slice ae y.le ce, .slice ac y.lc cc] 27 :: L) w := hS
          refine WL.nil ?_
          refine WC.ret ?_
          refine ⟨[.agg #[.int .i64 y.code, .int .u64 y.a, .int .u64 y.b, .int .i64 0, .int .i64 y.val, .int .i64 y.lo, .int .i64 y.hi, .int .i64 y.n, .bool y.flag, .string y.name, .slice ab y.lb cb, .slice ae y.le ce, .slice ac y.lc cc]], ⟨⟨_, rfl, hS.lvF 0 rfl ag_27⟩, trivial⟩, ?_⟩
          replace hS := (hS.sel 2 [] rfl)
          subst cd3; rw [clrZ_K]; exact ⟨_, _, _, _, _, _, rfl, hS⟩
        · refine WC.seq ?_
          refine WC.region ?_
          refine WL.r 2 rfl ?_
          refine WL.nil ?_
          refine WC.ifP rfl (fun cd4 => ?_) (fun cd4 => ?_)
          · refine WC.region ?_
            refine WL.r 1 rfl ?_
            refine WL.st rfl rfl rfl 1 hS rfl rfl rfl rfl rfl rfl (fun w hS => ?_)
            replace hS : St g (cel b2 #[.int .i64 0, .int .u64 0, .int .u64 0, .int .i64 0, .int .i64 0, .int .i64 0, .int .i64 0, .int .i64 0, .bool false, .string ⟨#[]⟩, .slice none 0 0, .slice none 0 0, .slice none 0 0] 27 :: cel b1 #[.int .i64 y.code, .int .u64 y.a, .int .u64 y.b, .int .i64 y.key, .int .i64 0, .int .i64 y.lo, .int .i64 y.hi, .int .i64 y.n, .bool y.flag, .string y.name, .slice ab y.lb cb, .slice ae y.le ce, .slice ac y.lc cc] 27 :: L) w := hS
            refine WL.nil ?_
            refine WC.seq ?_
            refine WC.region ?_
            refine WL.ldF rfl rfl 1 hS rfl rfl ag_27 ?_
            refine WL.stF rfl rfl rfl 0 hS rfl rfl rfl rfl rfl ag_27 (fun w hS => ?_)
            replace hS : St g (cel b2 #[.int .i64 y.code, .int .u64 y.a, .int .u64 y.b, .int .i64 y.key, .int .i64 0, .int .i64 y.lo, .int .i64 y.hi, .int .i64 y.n, .bool y.flag, .string y.name, .slice ab y.lb cb, .slice ae y.le ce, .slice ac y.lc cc] 27 :: cel b1 #[.int .i64 y.code, .int .u64 y.a, .int .u64 y.b, .int .i64 y.key, .int .i64 0, .int .i64 y.lo, .int .i64 y.hi, .int .i64 y.n, .bool y.flag, .string y.name, .slice ab y.lb cb, .slice ae y.le ce, .slice ac y.lc cc] 27 :: L) w := hS
            refine WL.nil ?_
            refine WC.ret ?_
            refine ⟨[.agg #[.int .i64 y.code, .int .u64 y.a, .int .u64 y.b, .int .i64 y.key, .int .i64 0, .int .i64 y.lo, .int .i64 y.hi, .int .i64 y.n, .bool y.flag, .string y.name, .slice ab y.lb cb, .slice ae y.le ce, .slice ac y.lc cc]], ⟨⟨_, rfl, hS.lvF 0 rfl ag_27⟩, trivial⟩, ?_⟩
            replace hS := (hS.sel 2 [] rfl)
            subst cd4; rw [clrZ_V]; exact ⟨_, _, _, _, _, _, rfl, hS⟩
          · refine WC.seq ?_
            refine WC.region ?_
            refine WL.r 2 rfl ?_
            refine WL.nil ?_
            refine WC.ifP rfl (fun cd5 => ?_) (fun cd5 => ?_)
            · refine WC.region ?_
              refine WL.r 1 rfl ?_
              refine WL.st rfl rfl rfl 1 hS rfl rfl rfl rfl rfl rfl (fun w hS => ?_)
              replace hS : St g (cel b2 #[.int .i64 0, .int .u64 0, .int .u64 0, .int .i64 0, .int .i64 0, .int .i64 0, .int .i64 0, .int .i64 0, .bool false, .string ⟨#[]⟩, .slice none 0 0, .slice none 0 0, .slice none 0 0] 27 :: cel b1 #[.int .i64 y.code, .int .u64 y.a, .int .u64 y.b, .int .i64 y.key, .int .i64 y.val, .int .i64 0, .int .i64 y.hi, .int .i64 y.n, .bool y.flag, .string y.name, .slice ab y.lb cb, .slice ae y.le ce, .slice ac y.lc cc] 27 :: L) w := hS
              refine WL.nil ?_
              refine WC.seq ?_
              refine WC.region ?_
              refine WL.ldF rfl rfl 1 hS rfl rfl ag_27 ?_
              refine WL.stF rfl rfl rfl 0 hS rfl rfl rfl rfl rfl ag_27 (fun w hS => ?_)
              replace hS : St g (cel b2 #[.int .i64 y.code, .int .u64 y.a, .int .u64 y.b, .int .i64 y.key, .int .i64 y.val, .int .i64 0, .int .i64 y.hi, .int .i64 y.n, .bool y.flag, .string y.name, .slice ab y.lb cb, .slice ae y.le ce, .slice ac y.lc cc] 27 :: cel b1 #[.int .i64 y.code, .int .u64 y.a, .int .u64 y.b, .int .i64 y.key, .int .i64 y.val, .int .i64 0, .int .i64 y.hi, .int .i64 y.n, .bool y.flag, .string y.name, .slice ab y.lb cb, .slice ae y.le ce, .slice ac y.lc cc] 27 :: L) w := hS
              refine WL.nil ?_
              refine WC.ret ?_
              refine ⟨[.agg #[.int .i64 y.code, .int .u64 y.a, .int .u64 y.b, .int .i64 y.key, .int .i64 y.val, .int .i64 0, .int .i64 y.hi, .int .i64 y.n, .bool y.flag, .string y.name, .slice ab y.lb cb, .slice ae y.le ce, .slice ac y.lc cc]], ⟨⟨_, rfl, hS.lvF 0 rfl ag_27⟩, trivial⟩, ?_⟩
              replace hS := (hS.sel 2 [] rfl)
              subst cd5; rw [clrZ_L]; exact ⟨_, _, _, _, _, _, rfl, hS⟩
            · refine WC.seq ?_
              refine WC.region ?_
              refine WL.r 2 rfl ?_
              refine WL.nil ?_
              refine WC.ifP rfl (fun cd6 => ?_) (fun cd6 => ?_)
              · refine WC.region ?_
                refine WL.r 1 rfl ?_
                refine WL.st rfl rfl rfl 1 hS rfl rfl rfl rfl rfl rfl (fun w hS => ?_)
                replace hS : St g (cel b2 #[.int .i64 0, .int .u64 0, .int .u64 0, .int .i64 0, .int .i64 0, .int .i64 0, .int .i64 0, .int .i64 0, .bool false, .string ⟨#[]⟩, .slice none 0 0, .slice none 0 0, .slice none 0 0] 27 :: cel b1 #[.int .i64 y.code, .int .u64 y.a, .int .u64 y.b, .int .i64 y.key, .int .i64 y.val, .int .i64 y.lo, .int .i64 0, .int .i64 y.n, .bool y.flag, .string y.name, .slice ab y.lb cb, .slice ae y.le ce, .slice ac y.lc cc] 27 :: L) w := hS
                refine WL.nil ?_
                refine WC.seq ?_
                refine WC.region ?_
                refine WL.ldF rfl rfl 1 hS rfl rfl ag_27 ?_
                refine WL.stF rfl rfl rfl 0 hS rfl rfl rfl rfl rfl ag_27 (fun w hS => ?_)
                replace hS : St g (cel b2 #[.int .i64 y.code, .int .u64 y.a, .int .u64 y.b, .int .i64 y.key, .int .i64 y.val, .int .i64 y.lo, .int .i64 0, .int .i64 y.n, .bool y.flag, .string y.name, .slice ab y.lb cb, .slice ae y.le ce, .slice ac y.lc cc] 27 :: cel b1 #[.int .i64 y.code, .int .u64 y.a, .int .u64 y.b, .int .i64 y.key, .int .i64 y.val, .int .i64 y.lo, .int .i64 0, .int .i64 y.n, .bool y.flag, .string y.name, .slice ab y.lb cb, .slice ae y.le ce, .slice ac y.lc cc] 27 :: L) w := hS
                refine WL.nil ?_
                as_aux_lemma =>
                  refine WC.ret ?_
                  refine ⟨[.agg #[.int .i64 y.code, .int .u64 y.a, .int .u64 y.b, .int .i64 y.key, .int .i64 y.val, .int .i64 y.lo, .int .i64 0, .int .i64 y.n, .bool y.flag, .string y.name, .slice ab y.lb cb, .slice ae y.le ce, .slice ac y.lc cc]], ⟨⟨_, rfl, hS.lvF 0 rfl ag_27⟩, trivial⟩, ?_⟩
                  replace hS := (hS.sel 2 [] rfl)
                  subst cd6; rw [clrZ_H]; exact ⟨_, _, _, _, _, _, rfl, hS⟩
              · refine WC.seq ?_
                refine WC.region ?_
                refine WL.r 2 rfl ?_
                refine WL.nil ?_
                refine WC.ifP rfl (fun cd7 => ?_) (fun cd7 => ?_)
                · refine WC.region ?_
                  refine WL.r 1 rfl ?_
                  refine WL.st rfl rfl rfl 1 hS rfl rfl rfl rfl rfl rfl (fun w hS => ?_)
                  replace hS : St g (cel b2 #[.int .i64 0, .int .u64 0, .int .u64 0, .int .i64 0, .int .i64 0, .int .i64 0, .int .i64 0, .int .i64 0, .bool false, .string ⟨#[]⟩, .slice none 0 0, .slice none 0 0, .slice none 0 0] 27 :: cel b1 #[.int .i64 y.code, .int .u64 y.a, .int .u64 y.b, .int .i64 y.key, .int .i64 y.val, .int .i64 y.lo, .int .i64 y.hi, .int .i64 0, .bool y.flag, .string y.name, .slice ab y.lb cb, .slice ae y.le ce, .slice ac y.lc cc] 27 :: L) w := hS
                  refine WL.nil ?_
                  as_aux_lemma =>
                    refine WC.seq ?_
                    refine WC.region ?_
                    refine WL.ldF rfl rfl 1 hS rfl rfl ag_27 ?_
                    refine WL.stF rfl rfl rfl 0 hS rfl rfl rfl rfl rfl ag_27 (fun w hS => ?_)
                    replace hS : St g (cel b2 #[.int .i64 y.code, .int .u64 y.a, .int .u64 y.b, .int .i64 y.key, .int .i64 y.val, .int .i64 y.lo, .int .i64 y.hi, .int .i64 0, .bool y.flag, .string y.name, .slice ab y.lb cb, .slice ae y.le ce, .slice ac y.lc cc] 27 :: cel b1 #[.int .i64 y.code, .int .u64 y.a, .int .u64 y.b, .int .i64 y.key, .int .i64 y.val, .int .i64 y.lo, .int .i64 y.hi, .int .i64 0, .bool y.flag, .string y.name, .slice ab y.lb cb, .slice ae y.le ce, .slice ac y.lc cc] 27 :: L) w := hS
                    refine WL.nil ?_
                    refine WC.ret ?_
                    refine ⟨[.agg #[.int .i64 y.code, .int .u64 y.a, .int .u64 y.b, .int .i64 y.key, .int .i64 y.val, .int .i64 y.lo, .int .i64 y.hi, .int .i64 0, .bool y.flag, .string y.name, .slice ab y.lb cb, .slice ae y.le ce, .slice ac y.lc cc]], ⟨⟨_, rfl, hS.lvF 0 rfl ag_27⟩, trivial⟩, ?_⟩
                    replace hS := (hS.sel 2 [] rfl)
                    subst cd7; rw [clrZ_N]; exact ⟨_, _, _, _, _, _, rfl, hS⟩
                · refine WC.seq ?_
                  refine WC.region ?_
                  refine WL.r 2 rfl ?_
                  refine WL.nil ?_
                  as_aux_lemma =>
                    refine WC.ifP rfl (fun cd8 => ?_) (fun cd8 => ?_)
                    · refine WC.region ?_
                      refine WL.r 1 rfl ?_
                      refine WL.st rfl rfl rfl 1 hS rfl rfl rfl rfl rfl rfl (fun w hS => ?_)
                      replace hS : St g (cel b2 #[.int .i64 0, .int .u64 0, .int .u64 0, .int .i64 0, .int .i64 0, .int .i64 0, .int .i64 0, .int .i64 0, .bool false, .string ⟨#[]⟩, .slice none 0 0, .slice none 0 0, .slice none 0 0] 27 :: cel b1 #[.int .i64 y.code, .int .u64 y.a, .int .u64 y.b, .int .i64 y.key, .int .i64 y.val, .int .i64 y.lo, .int .i64 y.hi, .int .i64 y.n, .bool false, .string y.name, .slice ab y.lb cb, .slice ae y.le ce, .slice ac y.lc cc] 27 :: L) w := hS
                      refine WL.nil ?_
                      refine WC.seq ?_
                      refine WC.region ?_
                      refine WL.ldF rfl rfl 1 hS rfl rfl ag_27 ?_
                      refine WL.stF rfl rfl rfl 0 hS rfl rfl rfl rfl rfl ag_27 (fun w hS => ?_)
                      replace hS : St g (cel b2 #[.int .i64 y.code, .int .u64 y.a, .int .u64 y.b, .int .i64 y.key, .int .i64 y.val, .int .i64 y.lo, .int .i64 y.hi, .int .i64 y.n, .bool false, .string y.name, .slice ab y.lb cb, .slice ae y.le ce, .slice ac y.lc cc] 27 :: cel b1 #[.int .i64 y.code, .int .u64 y.a, .int .u64 y.b, .int .i64 y.key, .int .i64 y.val, .int .i64 y.lo, .int .i64 y.hi, .int .i64 y.n, .bool false, .string y.name, .slice ab y.lb cb, .slice ae y.le ce, .slice ac y.lc cc] 27 :: L) w := hS
                      refine WL.nil ?_
                      refine WC.ret ?_
                      refine ⟨[.agg #[.int .i64 y.code, .int .u64 y.a, .int .u64 y.b, .int .i64 y.key, .int .i64 y.val, .int .i64 y.lo, .int .i64 y.hi, .int .i64 y.n, .bool false, .string y.name, .slice ab y.lb cb, .slice ae y.le ce, .slice ac y.lc cc]], ⟨⟨_, rfl, hS.lvF 0 rfl ag_27⟩, trivial⟩, ?_⟩
                      replace hS := (hS.sel 2 [] rfl)
                      subst cd8; rw [clrZ_F]; exact ⟨_, _, _, _, _, _, rfl, hS⟩
                    · refine WC.seq ?_
                      refine WC.region ?_
                      refine WL.r 2 rfl ?_
                      refine WL.nil ?_
                      refine WC.ifP rfl (fun cd9 => ?_) (fun cd9 => ?_)
                      · refine WC.region ?_
                        refine WL.r 1 rfl ?_
                        refine WL.st rfl rfl rfl 1 hS rfl rfl rfl rfl rfl rfl (fun w hS => ?_)
                        replace hS : St g (cel b2 #[.int .i64 0, .int .u64 0, .int .u64 0, .int .i64 0, .int .i64 0, .int .i64 0, .int .i64 0, .int .i64 0, .bool false, .string ⟨#[]⟩, .slice none 0 0, .slice none 0 0, .slice none 0 0] 27 :: cel b1 #[.int .i64 y.code, .int .u64 y.a, .int .u64 y.b, .int .i64 y.key, .int .i64 y.val, .int .i64 y.lo, .int .i64 y.hi, .int .i64 y.n, .bool y.flag, .string ⟨#[]⟩, .slice ab y.lb cb, .slice ae y.le ce, .slice ac y.lc cc] 27 :: L) w := hS
                        refine WL.nil ?_
                        refine WC.seq ?_
                        refine WC.region ?_
                        refine WL.ldF rfl rfl 1 hS rfl rfl ag_27 ?_
                        refine WL.stF rfl rfl rfl 0 hS rfl rfl rfl rfl rfl ag_27 (fun w hS => ?_)
                        replace hS : St g (cel b2 #[.int .i64 y.code, .int .u64 y.a, .int .u64 y.b, .int .i64 y.key, .int .i64 y.val, .int .i64 y.lo, .int .i64 y.hi, .int .i64 y.n, .bool y.flag, .string ⟨#[]⟩, .slice ab y.lb cb, .slice ae y.le ce, .slice ac y.lc cc] 27 :: cel b1 #[.int .i64 y.code, .int .u64 y.a, .int .u64 y.b, .int .i64 y.key, .int .i64 y.val, .int .i64 y.lo, .int .i64 y.hi, .int .i64 y.n, .bool y.flag, .string ⟨#[]⟩, .slice ab y.lb cb, .slice ae y.le ce, .slice ac y.lc cc] 27 :: L) w := hS
                        refine WL.nil ?_
                        refine WC.ret ?_
                        refine ⟨[.agg #[.int .i64 y.code, .int .u64 y.a, .int .u64 y.b, .int .i64 y.key, .int .i64 y.val, .int .i64 y.lo, .int .i64 y.hi, .int .i64 y.n, .bool y.flag, .string ⟨#[]⟩, .slice ab y.lb cb, .slice ae y.le ce, .slice ac y.lc cc]], ⟨⟨_, rfl, hS.lvF 0 rfl ag_27⟩, trivial⟩, ?_⟩
                        replace hS := (hS.sel 2 [] rfl)
                        subst cd9; rw [clrZ_S]; exact ⟨_, _, _, _, _, _, rfl, hS⟩
                      · refine WC.seq ?_
                        refine WC.region ?_
                        refine WL.r 2 rfl ?_
                        refine WL.nil ?_
                        refine WC.ifP rfl (fun cd10 => ?_) (fun cd10 => ?_)
                        · refine WC.region ?_
                          refine WL.r 1 rfl ?_
                          refine WL.st rfl rfl rfl 1 hS rfl rfl rfl rfl rfl rfl (fun w hS => ?_)
                          replace hS : St g (cel b2 #[.int .i64 0, .int .u64 0, .int .u64 0, .int .i64 0, .int .i64 0, .int .i64 0, .int .i64 0, .int .i64 0, .bool false, .string ⟨#[]⟩, .slice none 0 0, .slice none 0 0, .slice none 0 0] 27 :: cel b1 #[.int .i64 y.code, .int .u64 y.a, .int .u64 y.b, .int .i64 y.key, .int .i64 y.val, .int .i64 y.lo, .int .i64 y.hi, .int .i64 y.n, .bool y.flag, .string y.name, .slice none 0 0, .slice ae y.le ce, .slice ac y.lc cc] 27 :: L) w := hS
                          refine WL.nil ?_
                          refine WC.seq ?_
                          refine WC.region ?_
                          refine WL.ldF rfl rfl 1 hS rfl rfl ag_27 ?_
                          refine WL.stF rfl rfl rfl 0 hS rfl rfl rfl rfl rfl ag_27 (fun w hS => ?_)
                          replace hS : St g (cel b2 #[.int .i64 y.code, .int .u64 y.a, .int .u64 y.b, .int .i64 y.key, .int .i64 y.val, .int .i64 y.lo, .int .i64 y.hi, .int .i64 y.n, .bool y.flag, .string y.name, .slice none 0 0, .slice ae y.le ce, .slice ac y.lc cc] 27 :: cel b1 #[.int .i64 y.code, .int .u64 y.a, .int .u64 y.b, .int .i64 y.key, .int .i64 y.val, .int .i64 y.lo, .int .i64 y.hi, .int .i64 y.n, .bool y.flag, .string y.name, .slice none 0 0, .slice ae y.le ce, .slice ac y.lc cc] 27 :: L) w := hS
                          refine WL.nil ?_
                          refine WC.ret ?_
                          refine ⟨[.agg #[.int .i64 y.code, .int .u64 y.a, .int .u64 y.b, .int .i64 y.key, .int .i64 y.val, .int .i64 y.lo, .int .i64 y.hi, .int .i64 y.n, .bool y.flag, .string y.name, .slice none 0 0, .slice ae y.le ce, .slice ac y.lc cc]], ⟨⟨_, rfl, hS.lvF 0 rfl ag_27⟩, trivial⟩, ?_⟩
                          replace hS := (hS.sel 2 [] rfl)
                          subst cd10; rw [clrZ_Y]; exact ⟨_, _, _, _, _, _, rfl, hS⟩
                        · refine WC.seq ?_
                          refine WC.region ?_
                          refine WL.r 2 rfl ?_
                          refine WL.nil ?_
                          refine WC.ifP rfl (fun cd11 => ?_) (fun cd11 => ?_)
                          · refine WC.region ?_
                            refine WL.r 1 rfl ?_
                            refine WL.st rfl rfl rfl 1 hS rfl rfl rfl rfl rfl rfl (fun w hS => ?_)
                            replace hS : St g (cel b2 #[.int .i64 0, .int .u64 0, .int .u64 0, .int .i64 0, .int .i64 0, .int .i64 0, .int .i64 0, .int .i64 0, .bool false, .string ⟨#[]⟩, .slice none 0 0, .slice none 0 0, .slice none 0 0] 27 :: cel b1 #[.int .i64 y.code, .int .u64 y.a, .int .u64 y.b, .int .i64 y.key, .int .i64 y.val, .int .i64 y.lo, .int .i64 y.hi, .int .i64 y.n, .bool y.flag, .string y.name, .slice ab y.lb cb, .slice none 0 0, .slice ac y.lc cc] 27 :: L) w := hS
                            refine WL.nil ?_
                            refine WC.seq ?_
                            refine WC.region ?_
                            refine WL.ldF rfl rfl 1 hS rfl rfl ag_27 ?_
                            refine WL.stF rfl rfl rfl 0 hS rfl rfl rfl rfl rfl ag_27 (fun w hS => ?_)
                            replace hS : St g (cel b2 #[.int .i64 y.code, .int .u64 y.a, .int .u64 y.b, .int .i64 y.key, .int .i64 y.val, .int .i64 y.lo, .int .i64 y.hi, .int .i64 y.n, .bool y.flag, .string y.name, .slice ab y.lb cb, .slice none 0 0, .slice ac y.lc cc] 27 :: cel b1 #[.int .i64 y.code, .int .u64 y.a, .int .u64 y.b, .int .i64 y.key, .int .i64 y.val, .int .i64 y.lo, .int .i64 y.hi, .int .i64 y.n, .bool y.flag, .string y.name, .slice ab y.lb cb, .slice none 0 0, .slice ac y.lc cc] 27 :: L) w := hS
                            refine WL.nil ?_
                            as_aux_lemma =>
                              refine WC.ret ?_
                              refine ⟨[.agg #[.int .i64 y.code, .int .u64 y.a, .int .u64 y.b, .int .i64 y.key, .int .i64 y.val, .int .i64 y.lo, .int .i64 y.hi, .int .i64 y.n, .bool y.flag, .string y.name, .slice ab y.lb cb, .slice none 0 0, .slice ac y.lc cc]], ⟨⟨_, rfl, hS.lvF 0 rfl ag_27⟩, trivial⟩, ?_⟩
                              replace hS := (hS.sel 2 [] rfl)
                              subst cd11; rw [clrZ_E]; exact ⟨_, _, _, _, _, _, rfl, hS⟩
                          · refine WC.seq ?_
                            refine WC.region ?_
                            refine WL.r 2 rfl ?_
                            refine WL.nil ?_
                            refine WC.ifP rfl (fun cd12 => ?_) (fun cd12 => ?_)
                            · refine WC.region ?_
                              refine WL.r 1 rfl ?_
                              refine WL.st rfl rfl rfl 1 hS rfl rfl rfl rfl rfl rfl (fun w hS => ?_)
                              replace hS : St g (cel b2 #[.int .i64 0, .int .u64 0, .int .u64 0, .int .i64 0, .int .i64 0, .int .i64 0, .int .i64 0, .int .i64 0, .bool false, .string ⟨#[]⟩, .slice none 0 0, .slice none 0 0, .slice none 0 0] 27 :: cel b1 #[.int .i64 y.code, .int .u64 y.a, .int .u64 y.b, .int .i64 y.key, .int .i64 y.val, .int .i64 y.lo, .int .i64 y.hi, .int .i64 y.n, .bool y.flag, .string y.name, .slice ab y.lb cb, .slice ae y.le ce, .slice none 0 0] 27 :: L) w := hS
                              refine WL.nil ?_
                              as_aux_lemma =>
                                refine WC.seq ?_
                                refine WC.region ?_
                                refine WL.ldF rfl rfl 1 hS rfl rfl ag_27 ?_
                                refine WL.stF rfl rfl rfl 0 hS rfl rfl rfl rfl rfl ag_27 (fun w hS => ?_)
                                replace hS : St g (cel b2 #[.int .i64 y.code, .int .u64 y.a, .int .u64 y.b, .int .i64 y.key, .int .i64 y.val, .int .i64 y.lo, .int .i64 y.hi, .int .i64 y.n, .bool y.flag, .string y.name, .slice ab y.lb cb, .slice ae y.le ce, .slice none 0 0] 27 :: cel b1 #[.int .i64 y.code, .int .u64 y.a, .int .u64 y.b, .int .i64 y.key, .int .i64 y.val, .int .i64 y.lo, .int .i64 y.hi, .int .i64 y.n, .bool y.flag, .string y.name, .slice ab y.lb cb, .slice ae y.le ce, .slice none 0 0] 27 :: L) w := hS
                                refine WL.nil ?_
                                refine WC.ret ?_
                                refine ⟨[.agg #[.int .i64 y.code, .int .u64 y.a, .int .u64 y.b, .int .i64 y.key, .int .i64 y.val, .int .i64 y.lo, .int .i64 y.hi, .int .i64 y.n, .bool y.flag, .string y.name, .slice ab y.lb cb, .slice ae y.le ce, .slice none 0 0]], ⟨⟨_, rfl, hS.lvF 0 rfl ag_27⟩, trivial⟩, ?_⟩
                                replace hS := (hS.sel 2 [] rfl)
                                subst cd12; rw [clrZ_C]; exact ⟨_, _, _, _, _, _, rfl, hS⟩
                            · refine WC.skip ?_
                              refine WC.seq ?_
                              refine WC.region ?_
                              refine WL.ldF rfl rfl 1 hS rfl rfl ag_27 ?_
                              refine WL.stF rfl rfl rfl 0 hS rfl rfl rfl rfl rfl ag_27 (fun w hS => ?_)
                              replace hS : St g (cel b2 #[.int .i64 y.code, .int .u64 y.a, .int .u64 y.b, .int .i64 y.key, .int .i64 y.val, .int .i64 y.lo, .int .i64 y.hi, .int .i64 y.n, .bool y.flag, .string y.name, .slice ab y.lb cb, .slice ae y.le ce, .slice ac y.lc cc] 27 :: cel b1 #[.int .i64 y.code, .int .u64 y.a, .int .u64 y.b, .int .i64 y.key, .int .i64 y.val, .int .i64 y.lo, .int .i64 y.hi, .int .i64 y.n, .bool y.flag, .string y.name, .slice ab y.lb cb, .slice ae y.le ce, .slice ac y.lc cc] 27 :: L) w := hS
                              refine WL.nil ?_
                              as_aux_lemma =>
                                refine WC.ret ?_
                                refine ⟨[.agg #[.int .i64 y.code, .int .u64 y.a, .int .u64 y.b, .int .i64 y.key, .int .i64 y.val, .int .i64 y.lo, .int .i64 y.hi, .int .i64 y.n, .bool y.flag, .string y.name, .slice ab y.lb cb, .slice ae y.le ce, .slice ac y.lc cc]], ⟨⟨_, rfl, hS.lvF 0 rfl ag_27⟩, trivial⟩, ?_⟩
                                replace hS := (hS.sel 2 [] rfl)
                                rw [clrZ_no (by unfold Ltr; omega)]; exact ⟨_, _, _, _, _, _, rfl, hS⟩

theorem join_spec {g w : World} {L : List HP} (xs ys : List Int) (a b : Option Addr) (c d : Nat) (hx : xs.length + ys.length ≤ 1000000) (hS : St g (Sh 5 1 (by8 xs) a c :: Sh 5 1 (by8 ys) b d :: L) w) :
    Sp Try.prog 33 [.slice a (List.length (by8 xs)) c, .slice b (List.length (by8 ys)) d] w (fun v w' => ∃ (a2 : Option Addr) (c2 : Nat), v = .slice a2 (List.length (by8 (xs ++ ys))) c2 ∧ St g (Own 5 1 (by8 (xs ++ ys)) a2 c2 :: Sh 5 1 (by8 xs) a c :: Sh 5 1 (by8 ys) b d :: L) w') := by
  refine Sp.enter Try.func33 rfl (by kernel_rfl) (by kernel_rfl) ?_
  have _ := hx
  refine WC.seq ?_
  refine WC.region ?_
  refine WL.r 1 rfl ?_
  refine WL.nil ?_
  refine WC.seq ?_
  refine WC.region ?_
  have h1 := by8_len xs; have h2 := by8_len ys
  refine WL.r 5 rfl ?_
  refine WL.nw 9 rfl (w64 (by omega)) ?_
  refine WL.make rfl rfl (v := 0) (v' := (List.length (by8 xs) : Int) + (List.length (by8 ys) : Int)) (0) (xs.length + ys.length) el_23 hS rfl (by omega) rfl (by omega) (by omega) (Rm.of (by omega) (by decide)) (fun b1 w hS => ?_)
  replace hS : St g (Own 5 1 [] (some ⟨b1, 0, none⟩) ((List.length xs) + (List.length ys)) :: Sh 5 1 (by8 xs) a c :: Sh 5 1 (by8 ys) b d :: L) w := hS
  refine WL.r 1 rfl ?_
  refine WL.app rfl rfl 0 (by8 xs) el_23 hS rfl (hS.srcS 1 rfl) (List.nil_append _) (Rm.of (by first | omega | (simp <;> omega)) (by decide)) rfl rfl (fun a1 c1 w hS => ?_)
  replace hS : St g (Own 5 1 (by8 xs) a1 c1 :: Sh 5 1 (by8 xs) a c :: Sh 5 1 (by8 ys) b d :: L) w := hS
  refine WL.r 1 rfl ?_
  refine WL.app rfl rfl 0 (by8 (xs ++ ys)) el_23 hS rfl (hS.srcS 2 rfl) (by8_app _ _).symm (Rm.of (by first | omega | (simp <;> omega)) (by decide)) rfl rfl (fun a2 c2 w hS => ?_)
  replace hS : St g (Own 5 1 (by8 (xs ++ ys)) a2 c2 :: Sh 5 1 (by8 xs) a c :: Sh 5 1 (by8 ys) b d :: L) w := hS
  refine WL.r 1 rfl ?_
  refine WL.nil ?_
  refine WC.ret ?_
  refine ⟨[.slice a2 (List.length (by8 (xs ++ ys))) c2], rfl, ?_⟩
  exact ⟨_, _, rfl, hS⟩
end Go.Proofs.Ytofnoopjlmdelaa
