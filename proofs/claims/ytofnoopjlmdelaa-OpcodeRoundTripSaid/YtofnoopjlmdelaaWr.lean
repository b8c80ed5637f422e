/-
  The writer of encodings.
  Conditions: sizes below a bound that the laws meet.
-/
import Derived.Test.YtofnoopjlmdelaaTypes
import Derived.Test.YtofnoopjlmdelaaOpx
import Derived.Test.YtofnoopjlmdelaaWord
namespace Go.Proofs.Ytofnoopjlmdelaa
open Go Go.V


theorem wbyte_spec {g w : World} {L : List HP} (q : Nat) (xs : List Int) (a : Option Addr) (c : Nat) (x : Int) (hx : xs.length ≤ 1000000) (hS : St g (cel q #[.slice a (List.length (by8 xs)) c] 68 :: Own 5 1 (by8 xs) a c :: L) w) :
    Sp Try.prog 78 [.pointer (some ⟨q, 0, none⟩), .int .u8 x] w (fun v w' => ∃ (a2 : Option Addr) (c2 : Nat), v = .tuple #[] ∧ St g (cel q #[.slice a2 (List.length (by8 (xs ++ [x]))) c2] 68 :: Own 5 1 (by8 (xs ++ [x])) a2 c2 :: L) w') := by
  refine Sp.enter Try.func78 rfl (by kernel_rfl) (by kernel_rfl) ?_
  have _ := hx
  refine WC.region ?_
  refine WL.run 6 [.slice a (List.length (by8 xs)) c] rfl (by exact hS.ld 0 rfl rfl) ?_
  refine WL.lit rfl rfl (by8 [x]) el_23 hS (by exact ⟨rfl, rfl⟩) (by8_ok _) rfl (by decide) (fun b1 w hS => ?_)
  refine WL.app rfl rfl 2 (by8 (xs ++ [x])) el_23 hS rfl (hS.srcO 0 rfl) (by8_app _ _).symm (Rm.of (by first | omega | (simp <;> omega)) (by decide)) rfl rfl (fun a1 c1 w hS => ?_)
  replace hS : St g (Own 5 1 (by8 [x]) (some ⟨b1, 0, none⟩) (List.length (by8 [x])) :: cel q #[.slice a (List.length (by8 xs)) c] 68 :: Own 5 1 (by8 (xs ++ [x])) a1 c1 :: L) w := hS
  refine WL.r 2 rfl ?_
  refine WL.st rfl rfl rfl 1 hS rfl rfl rfl rfl rfl rfl (fun w hS => ?_)
  replace hS : St g (Own 5 1 (by8 [x]) (some ⟨b1, 0, none⟩) (List.length (by8 [x])) :: cel q #[.slice a1 (List.length (by8 (xs ++ [x]))) c1] 68 :: Own 5 1 (by8 (xs ++ [x])) a1 c1 :: L) w := hS
  refine WL.nil ?_
  refine ⟨[], trivial, ?_⟩
  replace hS := (hS.sel 3 [1, 1] rfl)
  exact ⟨_, _, rfl, hS⟩

theorem wvarint_spec {g w : World} {L : List HP} (q : Nat) (xs : List Int) (a : Option Addr) (c : Nat) (u : Int) (hx : xs.length ≤ 1000000) (hu : 0 ≤ u ∧ u ≤ 18446744073709551615) (hS : St g (cel q #[.slice a (List.length (by8 xs)) c] 68 :: Own 5 1 (by8 xs) a c :: L) w) :
    Sp Try.prog 62 [.pointer (some ⟨q, 0, none⟩), .int .u64 u] w (fun v w' => ∃ (a2 : Option Addr) (c2 : Nat), v = .tuple #[] ∧ St g (cel q #[.slice a2 (List.length (by8 (xs ++ eU u))) c2] 68 :: Own 5 1 (by8 (xs ++ eU u)) a2 c2 :: L) w') := by
  refine Sp.enter Try.func62 rfl (by kernel_rfl) (by kernel_rfl) ?_
  have _ := hu
  have _ := hx
  refine WC.plan [([0, 1, 5, 2, 3, 4], some (6, [0, 1, 2, 3, 4])), ([], some (7, [0])), ([8, 9], some (10, []))] (by kernel_rfl) (by kernel_rfl) ?_
  obtain ⟨k, rfl⟩ : ∃ k : Nat, u = k := ⟨u.toNat, by omega⟩; have hl := varint_len 10 k (by omega) (by omega)
  refine WQ.run 6 [.slice a (List.length (by8 xs)) c] rfl (by exact hS.ld 0 rfl rfl) ?_
  refine WQ.nil ?_
  intro m1
  replace hS := hS.drewN m1; generalize hwm1 : World.drewN _ _ = w at *; clear hwm1
  refine WL.call rfl rfl (appendUvarint (u := k) (hu := (by omega)) (hS := hS)) rfl ?_
  rintro _ w ⟨a1, c1, rfl, hS⟩
  replace hS : St g (Own 5 1 (by8 (varint k)) a1 c1 :: cel q #[.slice a (List.length (by8 xs)) c] 68 :: Own 5 1 (by8 xs) a c :: L) w := hS
  refine WL.nil ?_
  refine ⟨by exact ⟨RQ.pure rfl rfl rfl rfl, RQ.pure rfl rfl rfl rfl, RQ.pure rfl rfl rfl rfl, RQ.pure rfl rfl rfl rfl, RQ.load rfl rfl rfl rfl (hS.ld 1 rfl rfl)⟩, ?_⟩
  refine WQ.nil ?_
  intro m2
  replace hS := hS.drewN m2; generalize hwm2 : World.drewN _ _ = w at *; clear hwm2
  refine WL.app rfl rfl 2 (by8 (xs ++ (varint k))) el_23 hS rfl (hS.srcO 0 rfl) (by8_app _ _).symm (Rm.of (by first | omega | (simp <;> omega)) (by decide)) rfl rfl (fun a2 c2 w hS => ?_)
  replace hS : St g (Own 5 1 (by8 (varint k)) a1 c1 :: cel q #[.slice a (List.length (by8 xs)) c] 68 :: Own 5 1 (by8 (xs ++ (varint k))) a2 c2 :: L) w := hS
  refine WL.nil ?_
  refine ⟨by exact RQ.pure rfl rfl rfl rfl, ?_⟩
  refine WQ.r 2 rfl ?_
  refine WQ.nil ?_
  intro m3
  replace hS := hS.drewN m3; generalize hwm3 : World.drewN _ _ = w at *; clear hwm3
  refine WL.st rfl rfl rfl 1 hS rfl rfl rfl rfl rfl rfl (fun w hS => ?_)
  replace hS : St g (Own 5 1 (by8 (varint k)) a1 c1 :: cel q #[.slice a2 (List.length (by8 (xs ++ (varint k)))) c2] 68 :: Own 5 1 (by8 (xs ++ (varint k))) a2 c2 :: L) w := hS
  refine WL.nil ?_
  refine ⟨by exact trivial, ?_⟩
  intro m4
  replace hS := hS.drewN m4; generalize hwm4 : World.drewN _ _ = w at *; clear hwm4
  refine ⟨[], trivial, ?_⟩
  replace hS := (hS.sel 3 [1, 1] rfl)
  exact ⟨_, _, rfl, hS⟩

theorem wsigned_spec {g w : World} {L : List HP} (q : Nat) (xs : List Int) (a : Option Addr) (c : Nat) (n : Int) (hx : xs.length ≤ 1000000) (hn : I64 n) (hS : St g (cel q #[.slice a (List.length (by8 xs)) c] 68 :: Own 5 1 (by8 xs) a c :: L) w) :
    Sp Try.prog 63 [.pointer (some ⟨q, 0, none⟩), .int .i64 n] w (fun v w' => ∃ (a2 : Option Addr) (c2 : Nat), v = .tuple #[] ∧ St g (cel q #[.slice a2 (List.length (by8 (xs ++ eZ n))) c2] 68 :: Own 5 1 (by8 (xs ++ eZ n)) a2 c2 :: L) w') := by
  refine Sp.enter Try.func63 rfl (by kernel_rfl) (by kernel_rfl) ?_
  have _ := hx
  refine WC.region ?_
  have hz := zz_b hn
  refine WL.r 2 rfl ?_
  refine WL.call rfl rfl (zigzag (n := n) (hn := hn) (hS := hS)) rfl ?_
  rintro _ w ⟨rfl, hS⟩
  replace hS : St g (cel q #[.slice a (List.length (by8 xs)) c] 68 :: Own 5 1 (by8 xs) a c :: L) w := hS
  refine WL.call rfl rfl (wvarint_spec (q := q) (xs := xs) (a := a) (c := c) (u := zz n) (hx := (by first | omega | (simp <;> omega))) (hu := (by omega)) (hS := hS)) rfl ?_
  generalize hY1 : xs ++ eU (zz n) = Y1
  rintro _ w ⟨a1, c1, rfl, hS⟩
  have hY1f0 : (List.length Y1) ≤ (List.length xs) + 10 := by rw [← hY1, List.length_append]; exact Nat.add_le_add_left (eU_len (by omega)) _
  replace hS : St g (cel q #[.slice a1 (List.length (by8 Y1)) c1] 68 :: Own 5 1 (by8 Y1) a1 c1 :: L) w := hS
  refine WL.nil ?_
  refine ⟨[], trivial, ?_⟩
  subst hY1; exact ⟨_, _, rfl, hS⟩

theorem wbool_spec {g w : World} {L : List HP} (q : Nat) (xs : List Int) (a : Option Addr) (c : Nat) (x : Bool) (hx : xs.length ≤ 1000000) (hS : St g (cel q #[.slice a (List.length (by8 xs)) c] 68 :: Own 5 1 (by8 xs) a c :: L) w) :
    Sp Try.prog 64 [.pointer (some ⟨q, 0, none⟩), .bool x] w (fun v w' => ∃ (a2 : Option Addr) (c2 : Nat), v = .tuple #[] ∧ St g (cel q #[.slice a2 (List.length (by8 (xs ++ eF x))) c2] 68 :: Own 5 1 (by8 (xs ++ eF x)) a2 c2 :: L) w') := by
  refine Sp.enter Try.func64 rfl (by kernel_rfl) (by kernel_rfl) ?_
  have _ := hx
  refine WC.seq ?_
  refine WC.region ?_
  refine WL.r 1 rfl ?_
  refine WL.nil ?_
  refine WC.if_ rfl (fun cd1 => ?_) (fun cd1 => ?_)
  · refine WC.region ?_
    refine WL.r 1 rfl ?_
    refine WL.call rfl rfl (wbyte_spec (q := q) (xs := xs) (a := a) (c := c) (x := 1) (hx := (by first | omega | (simp <;> omega))) (hS := hS)) rfl ?_
    generalize hY1 : xs ++ [1] = Y1
    rintro _ w ⟨a1, c1, rfl, hS⟩
    have hY1f0 : (List.length Y1) = (List.length xs) + 1 := by rw [← hY1]; simp
    replace hS : St g (cel q #[.slice a1 (List.length (by8 Y1)) c1] 68 :: Own 5 1 (by8 Y1) a1 c1 :: L) w := hS
    refine WL.nil ?_
    refine ⟨[], trivial, ?_⟩
    subst hY1; rw [eF, if_pos cd1]; exact ⟨_, _, rfl, hS⟩
  · refine WC.region ?_
    refine WL.r 1 rfl ?_
    refine WL.call rfl rfl (wbyte_spec (q := q) (xs := xs) (a := a) (c := c) (x := 0) (hx := (by first | omega | (simp <;> omega))) (hS := hS)) rfl ?_
    generalize hY1 : xs ++ [0] = Y1
    rintro _ w ⟨a1, c1, rfl, hS⟩
    have hY1f0 : (List.length Y1) = (List.length xs) + 1 := by rw [← hY1]; simp
    replace hS : St g (cel q #[.slice a1 (List.length (by8 Y1)) c1] 68 :: Own 5 1 (by8 Y1) a1 c1 :: L) w := hS
    refine WL.nil ?_
    refine ⟨[], trivial, ?_⟩
    subst hY1; rw [eF, if_neg (by simp [cd1])]; exact ⟨_, _, rfl, hS⟩

theorem wbytes_spec {g w : World} {L : List HP} (q : Nat) (xs : List Int) (a : Option Addr) (c : Nat) (l : List Int) (la : Option Addr) (lc : Nat) (hx : xs.length ≤ 1000000) (hl : l.length ≤ 1000000) (hS : St g (cel q #[.slice a (List.length (by8 xs)) c] 68 :: Own 5 1 (by8 xs) a c :: Sh 5 1 (by8 l) la lc :: L) w) :
    Sp Try.prog 67 [.pointer (some ⟨q, 0, none⟩), .slice la (List.length (by8 l)) lc] w (fun v w' => ∃ (a2 : Option Addr) (c2 : Nat), v = .tuple #[] ∧ St g (cel q #[.slice a2 (List.length (by8 (xs ++ eBytes l))) c2] 68 :: Own 5 1 (by8 (xs ++ eBytes l)) a2 c2 :: Sh 5 1 (by8 l) la lc :: L) w') := by
  refine Sp.enter Try.func67 rfl (by kernel_rfl) (by kernel_rfl) ?_
  have _ := hl
  have _ := hx
  refine WC.seq ?_
  refine WC.region ?_
  have hl8 := by8_len l
  refine WL.r 4 rfl ?_
  refine WL.nw 7 rfl (wu64 (by omega)) ?_
  refine WL.call rfl rfl (wvarint_spec (q := q) (xs := xs) (a := a) (c := c) (u := (List.length (by8 l) : Int)) (hx := (by first | omega | (simp <;> omega))) (hu := (by omega)) (hS := hS)) rfl ?_
  generalize hY1 : xs ++ eU (List.length (by8 l) : Int) = Y1
  rintro _ w ⟨a1, c1, rfl, hS⟩
  have hY1f0 : (List.length Y1) ≤ (List.length xs) + 10 := by rw [← hY1, List.length_append]; exact Nat.add_le_add_left (eU_len (by omega)) _
  replace hS : St g (cel q #[.slice a1 (List.length (by8 Y1)) c1] 68 :: Own 5 1 (by8 Y1) a1 c1 :: Sh 5 1 (by8 l) la lc :: L) w := hS
  refine WL.nil ?_
  refine WC.region ?_
  refine WL.run 6 [.slice a1 (List.length (by8 Y1)) c1] rfl (by exact hS.ld 0 rfl rfl) ?_
  refine WL.app rfl rfl 1 (by8 (Y1 ++ l)) el_23 hS rfl (hS.srcS 2 rfl) (by8_app _ _).symm (Rm.of (by first | omega | (simp <;> omega)) (by decide)) rfl rfl (fun a2 c2 w hS => ?_)
  replace hS : St g (cel q #[.slice a1 (List.length (by8 Y1)) c1] 68 :: Own 5 1 (by8 (Y1 ++ l)) a2 c2 :: Sh 5 1 (by8 l) la lc :: L) w := hS
  refine WL.r 2 rfl ?_
  refine WL.st rfl rfl rfl 0 hS rfl rfl rfl rfl rfl rfl (fun w hS => ?_)
  replace hS : St g (cel q #[.slice a2 (List.length (by8 (Y1 ++ l))) c2] 68 :: Own 5 1 (by8 (Y1 ++ l)) a2 c2 :: Sh 5 1 (by8 l) la lc :: L) w := hS
  refine WL.nil ?_
  refine ⟨[], trivial, ?_⟩
  subst hY1; rw [hl8] at hS; rw [eBytes, ← List.append_assoc]; exact ⟨_, _, rfl, hS⟩

theorem wentries_spec {g w : World} {L : List HP} (q : Nat) (xs : List Int) (a : Option Addr) (c : Nat) (l : List (Int × Int)) (la : Option Addr) (lc : Nat) (hx : xs.length ≤ 1000000) (hl : l.length ≤ 10000) (hx2 : xs.length + 31 * l.length ≤ 900000) (hw : En64 l) (hS : St g (cel q #[.slice a (List.length (by8 xs)) c] 68 :: Own 5 1 (by8 xs) a c :: Sh 40 2 (en2 l) la lc :: L) w) :
    Sp Try.prog 65 [.pointer (some ⟨q, 0, none⟩), .slice la (List.length (en2 l)) lc] w (fun v w' => ∃ (a2 : Option Addr) (c2 : Nat), v = .tuple #[] ∧ St g (cel q #[.slice a2 (List.length (by8 (xs ++ eEnts l))) c2] 68 :: Own 5 1 (by8 (xs ++ eEnts l)) a2 c2 :: Sh 40 2 (en2 l) la lc :: L) w') := by
  refine Sp.enter Try.func65 rfl (by kernel_rfl) (by kernel_rfl) ?_
  have _ := hl
  have _ := hx
  refine WC.seq ?_
  refine WC.region ?_
  have hl2 := en2_len l
  refine WL.r 4 rfl ?_
  refine WL.nw 9 rfl (wu64 (by omega)) ?_
  refine WL.call rfl rfl (wvarint_spec (q := q) (xs := xs) (a := a) (c := c) (u := (List.length (en2 l) : Int)) (hx := (by first | omega | (simp <;> omega))) (hu := (by omega)) (hS := hS)) rfl ?_
  generalize hY1 : xs ++ eU (List.length (en2 l) : Int) = Y1
  rintro _ w ⟨a1, c1, rfl, hS⟩
  have hY1f0 : (List.length Y1) ≤ (List.length xs) + 10 := by rw [← hY1, List.length_append]; exact Nat.add_le_add_left (eU_len (by omega)) _
  replace hS : St g (cel q #[.slice a1 (List.length (by8 Y1)) c1] 68 :: Own 5 1 (by8 Y1) a1 c1 :: Sh 40 2 (en2 l) la lc :: L) w := hS
  refine WL.nil ?_
  refine WC.seq ?_
  refine WC.region ?_
  refine WL.r 3 rfl ?_
  refine WL.nil ?_
  refine WC.block ?_
  refine WC.loop [0, 11, 12, 13] (fun kM vs w => ∃ (k : Nat) (ys : List Int) (a3 : Option Addr) (c3 : Nat), vs = [.pointer (some ⟨q, 0, none⟩), .slice la (List.length (en2 l)) lc, .int .i64 (List.length (en2 l) : Int), .int .i64 (k : Int)] ∧ St g (cel q #[.slice a3 (List.length (by8 ys)) c3] 68 :: Own 5 1 (by8 ys) a3 c3 :: Sh 40 2 (en2 l) la lc :: L) w ∧ (k ≤ l.length) ∧ (ys = xs ++ (eU l.length ++ (l.take k).flatMap eEn)) ∧ (ys.length ≤ xs.length + 10 + 20 * k) ∧ (l.length - k) = kM) ((List.length l) - 0) ⟨0, Y1, _, _, rfl, hS, (Nat.zero_le _), (by rw [← hY1, hl2]; simp), (by omega), rfl⟩ ?_
  clear hS; rintro _ _ w j ⟨k, ys, a3, c3, rfl, hS, hk, hys, hyl, rfl⟩
  refine WC.seq ?_
  refine WC.region ?_
  refine WL.r 1 rfl ?_
  refine WL.nil ?_
  refine WC.seq ?_
  refine WC.ifP rfl (fun cd1 => ?_) (fun cd1 => ?_)
  · refine WC.skip ?_
    as_aux_lemma =>
      refine WC.seq ?_
      refine WC.block ?_
      refine WC.seq ?_
      refine WC.region ?_
      obtain ⟨x, hx2⟩ : ∃ x, l[k]? = some x := ⟨_, List.getElem?_eq_getElem (by omega)⟩; have hxw := hw x (List.mem_of_getElem? hx2); obtain ⟨hw1, hw2⟩ := hxw
      refine WL.ix rfl rfl (i := (k : Int)) (k) el_24 rfl rfl (by omega) (len_of (en2_at hx2)) (hS.rdS 2 rfl (en2_at hx2)).1 ?_
      refine WL.ldC rfl rfl [.int .i64 x.1, .int .i64 x.2] ag_40 rfl (hS.rdS 2 rfl (en2_at hx2)).2 ?_
      refine WL.new rfl rfl zv_40 hS (fun b1 w hS => ?_)
      refine WL.stF rfl rfl rfl 0 hS rfl rfl rfl rfl rfl ag_40 (fun w hS => ?_)
      replace hS : St g (cel b1 #[.int .i64 x.1, .int .i64 x.2] 40 :: cel q #[.slice a3 (List.length (by8 ys)) c3] 68 :: Own 5 1 (by8 ys) a3 c3 :: Sh 40 2 (en2 l) la lc :: L) w := hS
      refine WL.nil ?_
      refine WC.seq ?_
      refine WC.region ?_
      refine WL.run 3 [.int .i64 x.1] rfl (by exact hS.ld 0 rfl rfl) ?_
      refine WL.call rfl rfl (wsigned_spec (q := q) (xs := ys) (a := a3) (c := c3) (n := x.1) (hx := (by first | omega | (simp <;> omega))) (hn := (by assumption)) (hS := (hS.sel 4 [1, 1, 0, 0] rfl))) rfl ?_
      generalize hY2 : ys ++ eZ x.1 = Y2
      rintro _ w ⟨a2, c2, rfl, hS⟩
      have hY2f0 : (List.length Y2) ≤ (List.length ys) + 10 := by rw [← hY2, List.length_append]; exact Nat.add_le_add_left (eZ_len (by assumption)) _
      replace hS : St g (cel q #[.slice a2 (List.length (by8 Y2)) c2] 68 :: Own 5 1 (by8 Y2) a2 c2 :: cel b1 #[.int .i64 x.1, .int .i64 x.2] 40 :: Sh 40 2 (en2 l) la lc :: L) w := hS
      refine WL.nil ?_
      refine WC.region ?_
      refine WL.run 3 [.int .i64 x.2] rfl (by exact hS.ld 2 rfl rfl) ?_
      refine WL.call rfl rfl (wsigned_spec (q := q) (xs := Y2) (a := a2) (c := c2) (n := x.2) (hx := (by first | omega | (simp <;> omega))) (hn := (by assumption)) (hS := hS)) rfl ?_
      generalize hY3 : Y2 ++ eZ x.2 = Y3
      rintro _ w ⟨a3, c3, rfl, hS⟩
      have hY3f0 : (List.length Y3) ≤ (List.length Y2) + 10 := by rw [← hY3, List.length_append]; exact Nat.add_le_add_left (eZ_len (by assumption)) _
      replace hS : St g (cel q #[.slice a3 (List.length (by8 Y3)) c3] 68 :: Own 5 1 (by8 Y3) a3 c3 :: cel b1 #[.int .i64 x.1, .int .i64 x.2] 40 :: Sh 40 2 (en2 l) la lc :: L) w := hS
      refine WL.nil ?_
      as_aux_lemma =>
        refine WC.region ?_
        refine WL.r 1 rfl ?_
        refine WL.nw 25 rfl (w64 (by omega)) ?_
        refine WL.r 1 rfl ?_
        refine WL.nil ?_
        exact ⟨_, by omega, k + 1, Y3, _, _, rfl, (hS.sel 4 [0, 0, 1] rfl), (by omega), (by rw [fm_take eEn hx2, eEn, ← hY3, ← hY2, hys]; simp only [List.append_assoc]), (by omega), rfl⟩
  · refine WC.exit ?_
    refine ⟨[], trivial, ?_⟩
    have h9 : ys = xs ++ eEnts l := by rw [hys, fm_all eEn (by omega), eEnts]; rfl
    rw [← h9]; exact ⟨_, _, rfl, hS⟩

theorem wchanges_spec {g w : World} {L : List HP} (q : Nat) (xs : List Int) (a : Option Addr) (c : Nat) (l : List (Int × Int × Int × Int)) (la : Option Addr) (lc : Nat) (hx : xs.length ≤ 1000000) (hl : l.length ≤ 10000) (hx2 : xs.length + 31 * l.length ≤ 900000) (hw : Ch64 l) (hS : St g (cel q #[.slice a (List.length (by8 xs)) c] 68 :: Own 5 1 (by8 xs) a c :: Sh 63 4 (ch4 l) la lc :: L) w) :
    Sp Try.prog 66 [.pointer (some ⟨q, 0, none⟩), .slice la (List.length (ch4 l)) lc] w (fun v w' => ∃ (a2 : Option Addr) (c2 : Nat), v = .tuple #[] ∧ St g (cel q #[.slice a2 (List.length (by8 (xs ++ eChs l))) c2] 68 :: Own 5 1 (by8 (xs ++ eChs l)) a2 c2 :: Sh 63 4 (ch4 l) la lc :: L) w') := by
  refine Sp.enter Try.func66 rfl (by kernel_rfl) (by kernel_rfl) ?_
  have _ := hl
  have _ := hx
  refine WC.seq ?_
  refine WC.region ?_
  have hl2 := ch4_len l
  refine WL.r 4 rfl ?_
  refine WL.nw 9 rfl (wu64 (by omega)) ?_
  refine WL.call rfl rfl (wvarint_spec (q := q) (xs := xs) (a := a) (c := c) (u := (List.length (ch4 l) : Int)) (hx := (by first | omega | (simp <;> omega))) (hu := (by omega)) (hS := hS)) rfl ?_
  generalize hY1 : xs ++ eU (List.length (ch4 l) : Int) = Y1
  rintro _ w ⟨a1, c1, rfl, hS⟩
  have hY1f0 : (List.length Y1) ≤ (List.length xs) + 10 := by rw [← hY1, List.length_append]; exact Nat.add_le_add_left (eU_len (by omega)) _
  replace hS : St g (cel q #[.slice a1 (List.length (by8 Y1)) c1] 68 :: Own 5 1 (by8 Y1) a1 c1 :: Sh 63 4 (ch4 l) la lc :: L) w := hS
  refine WL.nil ?_
  refine WC.seq ?_
  refine WC.region ?_
  refine WL.r 3 rfl ?_
  refine WL.nil ?_
  refine WC.block ?_
  refine WC.loop [0, 11, 12, 13] (fun kM vs w => ∃ (k : Nat) (ys : List Int) (a3 : Option Addr) (c3 : Nat), vs = [.pointer (some ⟨q, 0, none⟩), .slice la (List.length (ch4 l)) lc, .int .i64 (List.length (ch4 l) : Int), .int .i64 (k : Int)] ∧ St g (cel q #[.slice a3 (List.length (by8 ys)) c3] 68 :: Own 5 1 (by8 ys) a3 c3 :: Sh 63 4 (ch4 l) la lc :: L) w ∧ (k ≤ l.length) ∧ (ys = xs ++ (eU l.length ++ (l.take k).flatMap eCh)) ∧ (ys.length ≤ xs.length + 10 + 31 * k) ∧ (l.length - k) = kM) ((List.length l) - 0) ⟨0, Y1, _, _, rfl, hS, (Nat.zero_le _), (by rw [← hY1, hl2]; simp), (by omega), rfl⟩ ?_
  clear hS; rintro _ _ w j ⟨k, ys, a3, c3, rfl, hS, hk, hys, hyl, rfl⟩
  refine WC.seq ?_
  refine WC.region ?_
  refine WL.r 1 rfl ?_
  refine WL.nil ?_
  refine WC.seq ?_
  refine WC.ifP rfl (fun cd1 => ?_) (fun cd1 => ?_)
  · refine WC.skip ?_
    as_aux_lemma =>
      refine WC.seq ?_
      refine WC.block ?_
      refine WC.seq ?_
      refine WC.region ?_
      obtain ⟨x, hx2⟩ : ∃ x, l[k]? = some x := ⟨_, List.getElem?_eq_getElem (by omega)⟩; have hxw := hw x (List.mem_of_getElem? hx2); obtain ⟨hw1, hw2, hw3, hw4⟩ := hxw
      refine WL.ix rfl rfl (i := (k : Int)) (k) el_25 rfl rfl (by omega) (len_of (ch4_at hx2)) (hS.rdS 2 rfl (ch4_at hx2)).1 ?_
      refine WL.ldC rfl rfl [.int .i64 x.1, .int .i64 x.2.1, .int .i64 x.2.2.1, .int .i64 x.2.2.2] ag_63 rfl (hS.rdS 2 rfl (ch4_at hx2)).2 ?_
      refine WL.new rfl rfl zv_63 hS (fun b1 w hS => ?_)
      refine WL.stF rfl rfl rfl 0 hS rfl rfl rfl rfl rfl ag_63 (fun w hS => ?_)
      replace hS : St g (cel b1 #[.int .i64 x.1, .int .i64 x.2.1, .int .i64 x.2.2.1, .int .i64 x.2.2.2] 63 :: cel q #[.slice a3 (List.length (by8 ys)) c3] 68 :: Own 5 1 (by8 ys) a3 c3 :: Sh 63 4 (ch4 l) la lc :: L) w := hS
      refine WL.nil ?_
      refine WC.seq ?_
      refine WC.region ?_
      refine WL.run 4 [.int .i64 x.1] rfl (by exact hS.ld 0 rfl rfl) ?_
      refine WL.reb 20 (.int .u8 (x.1 % 256)) (congrArg (Value.int .u8) (by rfl)) ?_
      refine WL.call rfl rfl (wbyte_spec (q := q) (xs := ys) (a := a3) (c := c3) (x := x.1 % 256) (hx := (by first | omega | (simp <;> omega))) (hS := (hS.sel 4 [1, 1, 0, 0] rfl))) rfl ?_
      generalize hY2 : ys ++ [x.1 % 256] = Y2
      rintro _ w ⟨a2, c2, rfl, hS⟩
      have hY2f0 : (List.length Y2) = (List.length ys) + 1 := by rw [← hY2]; simp
      replace hS : St g (cel q #[.slice a2 (List.length (by8 Y2)) c2] 68 :: Own 5 1 (by8 Y2) a2 c2 :: cel b1 #[.int .i64 x.1, .int .i64 x.2.1, .int .i64 x.2.2.1, .int .i64 x.2.2.2] 63 :: Sh 63 4 (ch4 l) la lc :: L) w := hS
      refine WL.nil ?_
      refine WC.seq ?_
      refine WC.region ?_
      refine WL.run 3 [.int .i64 x.2.1] rfl (by exact hS.ld 2 rfl rfl) ?_
      refine WL.call rfl rfl (wsigned_spec (q := q) (xs := Y2) (a := a2) (c := c2) (n := x.2.1) (hx := (by first | omega | (simp <;> omega))) (hn := (by assumption)) (hS := hS)) rfl ?_
      generalize hY3 : Y2 ++ eZ x.2.1 = Y3
      rintro _ w ⟨a3, c3, rfl, hS⟩
      have hY3f0 : (List.length Y3) ≤ (List.length Y2) + 10 := by rw [← hY3, List.length_append]; exact Nat.add_le_add_left (eZ_len (by assumption)) _
      replace hS : St g (cel q #[.slice a3 (List.length (by8 Y3)) c3] 68 :: Own 5 1 (by8 Y3) a3 c3 :: cel b1 #[.int .i64 x.1, .int .i64 x.2.1, .int .i64 x.2.2.1, .int .i64 x.2.2.2] 63 :: Sh 63 4 (ch4 l) la lc :: L) w := hS
      refine WL.nil ?_
      as_aux_lemma =>
        refine WC.seq ?_
        refine WC.region ?_
        refine WL.run 3 [.int .i64 x.2.2.1] rfl (by exact hS.ld 2 rfl rfl) ?_
        refine WL.call rfl rfl (wsigned_spec (q := q) (xs := Y3) (a := a3) (c := c3) (n := x.2.2.1) (hx := (by first | omega | (simp <;> omega))) (hn := (by assumption)) (hS := hS)) rfl ?_
        generalize hY4 : Y3 ++ eZ x.2.2.1 = Y4
        rintro _ w ⟨a4, c4, rfl, hS⟩
        have hY4f0 : (List.length Y4) ≤ (List.length Y3) + 10 := by rw [← hY4, List.length_append]; exact Nat.add_le_add_left (eZ_len (by assumption)) _
        replace hS : St g (cel q #[.slice a4 (List.length (by8 Y4)) c4] 68 :: Own 5 1 (by8 Y4) a4 c4 :: cel b1 #[.int .i64 x.1, .int .i64 x.2.1, .int .i64 x.2.2.1, .int .i64 x.2.2.2] 63 :: Sh 63 4 (ch4 l) la lc :: L) w := hS
        refine WL.nil ?_
        refine WC.region ?_
        refine WL.run 3 [.int .i64 x.2.2.2] rfl (by exact hS.ld 2 rfl rfl) ?_
        refine WL.call rfl rfl (wsigned_spec (q := q) (xs := Y4) (a := a4) (c := c4) (n := x.2.2.2) (hx := (by first | omega | (simp <;> omega))) (hn := (by assumption)) (hS := hS)) rfl ?_
        generalize hY5 : Y4 ++ eZ x.2.2.2 = Y5
        rintro _ w ⟨a5, c5, rfl, hS⟩
        have hY5f0 : (List.length Y5) ≤ (List.length Y4) + 10 := by rw [← hY5, List.length_append]; exact Nat.add_le_add_left (eZ_len (by assumption)) _
        replace hS : St g (cel q #[.slice a5 (List.length (by8 Y5)) c5] 68 :: Own 5 1 (by8 Y5) a5 c5 :: cel b1 #[.int .i64 x.1, .int .i64 x.2.1, .int .i64 x.2.2.1, .int .i64 x.2.2.2] 63 :: Sh 63 4 (ch4 l) la lc :: L) w := hS
        refine WL.nil ?_
        refine WC.region ?_
        refine WL.r 1 rfl ?_
        refine WL.nw 34 rfl (w64 (by omega)) ?_
        refine WL.r 1 rfl ?_
        refine WL.nil ?_
        exact ⟨_, by omega, k + 1, Y5, _, _, rfl, (hS.sel 4 [0, 0, 1] rfl), (by omega), (by rw [fm_take eCh hx2, eCh, ← hY5, ← hY4, ← hY3, ← hY2, hys]; simp only [List.append_assoc, List.cons_append, List.nil_append]), (by omega), rfl⟩
  · refine WC.exit ?_
    refine ⟨[], trivial, ?_⟩
    have h9 : ys = xs ++ eChs l := by rw [hys, fm_all eCh (by omega), eChs]; rfl
    rw [← h9]; exact ⟨_, _, rfl, hS⟩
end Go.Proofs.Ytofnoopjlmdelaa
