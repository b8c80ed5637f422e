/-
  The reference's encodings.
  Conditions: sizes below a bound that the laws meet.
-/
import Derived.Test.YtofnoopjlmdelaaRf1
import Derived.Test.YtofnoopjlmdelaaFld
namespace Go.Proofs.Ytofnoopjlmdelaa
open Go Go.V


theorem ru_spec {g w : World} {L : List HP} (xs : List Int) (a : Option Addr) (c : Nat) (n : Int) (hx : xs.length ≤ 800000) (hn : 0 ≤ n ∧ n ≤ 18446744073709551615) (hS : St g (Sh 5 1 (by8 xs) a c :: L) w) :
    Sp Try.prog 35 [.slice a (List.length (by8 xs)) c, .int .u64 n] w (fun v w' => ∃ (a2 : Option Addr) (c2 : Nat), v = .slice a2 (List.length (by8 (xs ++ eU n))) c2 ∧ St g (Own 5 1 (by8 (xs ++ eU n)) a2 c2 :: L) w') := by
  refine Sp.enter Try.func35 rfl (by kernel_rfl) (by kernel_rfl) ?_
  have _ := hn
  have _ := hx
  refine WC.seq ?_
  refine WC.region ?_
  obtain ⟨k, rfl⟩ : ∃ k : Nat, n = k := ⟨n.toNat, by omega⟩; have hl := varint_len 10 k (by omega) (by omega)
  refine WL.r 1 rfl ?_
  refine WL.nil ?_
  refine WC.seq ?_
  refine WC.region ?_
  refine WL.r 2 rfl ?_
  refine WL.call rfl rfl (rvarint (u := k) (hu := (by omega)) (hS := hS)) rfl ?_
  rintro _ w ⟨a1, c1, rfl, hS⟩
  replace hS : St g (Own 5 1 (by8 (varint k)) a1 c1 :: Sh 5 1 (by8 xs) a c :: L) w := hS
  replace hS := (hS.at_ 0 rfl).share
  replace hS : St g (Sh 5 1 (by8 (varint k)) a1 c1 :: Sh 5 1 (by8 xs) a c :: L) w := hS
  refine WL.call rfl rfl (rjoin (xs := xs) (ys := varint k) (a := a) (b := a1) (c := c) (d := c1) (hx := (by omega)) (hS := (hS.sel 2 [1, 0] rfl))) rfl ?_
  rintro _ w ⟨a2, c2, rfl, hS⟩
  replace hS : St g (Own 5 1 (by8 (xs ++ (varint k))) a2 c2 :: Sh 5 1 (by8 xs) a c :: Sh 5 1 (by8 (varint k)) a1 c1 :: L) w := hS
  refine WL.r 1 rfl ?_
  refine WL.nil ?_
  refine WC.ret ?_
  refine ⟨[.slice a2 (List.length (by8 (xs ++ (varint k)))) c2], rfl, ?_⟩
  replace hS := (hS.sel 3 [0] rfl)
  exact ⟨_, _, rfl, hS⟩

theorem rz_spec {g w : World} {L : List HP} (xs : List Int) (a : Option Addr) (c : Nat) (n : Int) (hx : xs.length ≤ 800000) (hn : I64 n) (hS : St g (Sh 5 1 (by8 xs) a c :: L) w) :
    Sp Try.prog 36 [.slice a (List.length (by8 xs)) c, .int .i64 n] w (fun v w' => ∃ (a2 : Option Addr) (c2 : Nat), v = .slice a2 (List.length (by8 (xs ++ eZ n))) c2 ∧ St g (Own 5 1 (by8 (xs ++ eZ n)) a2 c2 :: L) w') := by
  refine Sp.enter Try.func36 rfl (by kernel_rfl) (by kernel_rfl) ?_
  have _ := hx
  refine WC.seq ?_
  refine WC.region ?_
  have hz := zz_b hn
  refine WL.r 1 rfl ?_
  refine WL.nil ?_
  refine WC.seq ?_
  refine WC.region ?_
  refine WL.r 2 rfl ?_
  refine WL.call rfl rfl (rzigzag (n := n) (hn := hn) (hS := hS)) rfl ?_
  rintro _ w ⟨rfl, hS⟩
  replace hS : St g (Sh 5 1 (by8 xs) a c :: L) w := hS
  refine WL.call rfl rfl (ru_spec (xs := xs) (a := a) (c := c) (n := zz n) (hx := (by first | omega | (simp <;> omega))) (hn := (by omega)) (hS := hS)) rfl ?_
  generalize hY1 : xs ++ eU (zz n) = Y1
  rintro _ w ⟨a1, c1, rfl, hS⟩
  have hY1f0 : (List.length Y1) ≤ (List.length xs) + 10 := by rw [← hY1, List.length_append]; exact Nat.add_le_add_left (eU_len (by omega)) _
  replace hS : St g (Own 5 1 (by8 Y1) a1 c1 :: L) w := hS
  refine WL.r 1 rfl ?_
  refine WL.nil ?_
  refine WC.ret ?_
  refine ⟨[.slice a1 (List.length (by8 Y1)) c1], rfl, ?_⟩
  subst hY1; exact ⟨_, _, rfl, hS⟩

theorem rflag_spec {g w : World} {L : List HP} (xs : List Int) (a : Option Addr) (c : Nat) (x : Bool) (hx : xs.length ≤ 800000) (hS : St g (Own 5 1 (by8 xs) a c :: L) w) :
    Sp Try.prog 37 [.slice a (List.length (by8 xs)) c, .bool x] w (fun v w' => ∃ (a2 : Option Addr) (c2 : Nat), v = .slice a2 (List.length (by8 (xs ++ eF x))) c2 ∧ St g (Own 5 1 (by8 (xs ++ eF x)) a2 c2 :: L) w') := by
  refine Sp.enter Try.func37 rfl (by kernel_rfl) (by kernel_rfl) ?_
  have _ := hx
  refine WC.seq ?_
  refine WC.region ?_
  refine WL.r 1 rfl ?_
  refine WL.nil ?_
  refine WC.seq ?_
  refine WC.seq ?_
  refine WC.region ?_
  refine WL.r 1 rfl ?_
  refine WL.nil ?_
  refine WC.if_ rfl (fun cd1 => ?_) (fun cd1 => ?_)
  · refine WC.seq ?_
    refine WC.region ?_
    refine WL.r 1 rfl ?_
    refine WL.lit rfl rfl (by8 [1]) el_23 hS (by exact ⟨rfl, rfl⟩) (by8_ok _) rfl (by decide) (fun b1 w hS => ?_)
    refine WL.app rfl rfl 1 (by8 (xs ++ [1])) el_23 hS rfl (hS.srcO 0 rfl) (by8_app _ _).symm (Rm.of (by first | omega | (simp <;> omega)) (by decide)) rfl rfl (fun a1 c1 w hS => ?_)
    replace hS : St g (Own 5 1 (by8 [1]) (some ⟨b1, 0, none⟩) (List.length (by8 [1])) :: Own 5 1 (by8 (xs ++ [1])) a1 c1 :: L) w := hS
    refine WL.r 1 rfl ?_
    refine WL.nil ?_
    refine WC.ret ?_
    refine ⟨[.slice a1 (List.length (by8 (xs ++ [1]))) c1], rfl, ?_⟩
    replace hS := (hS.sel 2 [1] rfl)
    rw [eF, if_pos cd1]; exact ⟨_, _, rfl, hS⟩
  · refine WC.skip ?_
    refine WC.seq ?_
    refine WC.region ?_
    refine WL.r 1 rfl ?_
    refine WL.lit rfl rfl (by8 [0]) el_23 hS (by exact ⟨rfl, rfl⟩) (by8_ok _) rfl (by decide) (fun b1 w hS => ?_)
    refine WL.app rfl rfl 1 (by8 (xs ++ [0])) el_23 hS rfl (hS.srcO 0 rfl) (by8_app _ _).symm (Rm.of (by first | omega | (simp <;> omega)) (by decide)) rfl rfl (fun a1 c1 w hS => ?_)
    replace hS : St g (Own 5 1 (by8 [0]) (some ⟨b1, 0, none⟩) (List.length (by8 [0])) :: Own 5 1 (by8 (xs ++ [0])) a1 c1 :: L) w := hS
    refine WL.r 1 rfl ?_
    refine WL.nil ?_
    refine WC.ret ?_
    refine ⟨[.slice a1 (List.length (by8 (xs ++ [0]))) c1], rfl, ?_⟩
    replace hS := (hS.sel 2 [1] rfl)
    rw [eF, if_neg (by simp [cd1])]; exact ⟨_, _, rfl, hS⟩

theorem rtext_spec {g w : World} {L : List HP} (xs : List Int) (a : Option Addr) (c : Nat) (l : List Int) (la : Option Addr) (lc : Nat) (hx : xs.length ≤ 800000) (hl : l.length ≤ 100000) (hS : St g (Sh 5 1 (by8 xs) a c :: Sh 5 1 (by8 l) la lc :: L) w) :
    Sp Try.prog 38 [.slice a (List.length (by8 xs)) c, .slice la (List.length (by8 l)) lc] w (fun v w' => ∃ (a2 : Option Addr) (c2 : Nat), v = .slice a2 (List.length (by8 (xs ++ eBytes l))) c2 ∧ St g (Own 5 1 (by8 (xs ++ eBytes l)) a2 c2 :: Sh 5 1 (by8 l) la lc :: L) w') := by
  refine Sp.enter Try.func38 rfl (by kernel_rfl) (by kernel_rfl) ?_
  have _ := hl
  have _ := hx
  refine WC.seq ?_
  refine WC.region ?_
  have hl8 := by8_len l
  refine WL.r 1 rfl ?_
  refine WL.nil ?_
  refine WC.seq ?_
  refine WC.region ?_
  refine WL.r 4 rfl ?_
  refine WL.nw 8 rfl (wu64 (by omega)) ?_
  refine WL.call rfl rfl (ru_spec (xs := xs) (a := a) (c := c) (n := (List.length (by8 l) : Int)) (hx := (by first | omega | (simp <;> omega))) (hn := (by omega)) (hS := hS)) rfl ?_
  generalize hY1 : xs ++ eU (List.length (by8 l) : Int) = Y1
  rintro _ w ⟨a1, c1, rfl, hS⟩
  have hY1f0 : (List.length Y1) ≤ (List.length xs) + 10 := by rw [← hY1, List.length_append]; exact Nat.add_le_add_left (eU_len (by omega)) _
  replace hS : St g (Own 5 1 (by8 Y1) a1 c1 :: Sh 5 1 (by8 l) la lc :: L) w := hS
  refine WL.r 1 rfl ?_
  replace hS := (hS.at_ 0 rfl).share
  replace hS : St g (Sh 5 1 (by8 Y1) a1 c1 :: Sh 5 1 (by8 l) la lc :: L) w := hS
  refine WL.call rfl rfl (rjoin (xs := Y1) (ys := l) (a := a1) (b := la) (c := c1) (d := lc) (hx := (by omega)) (hS := hS)) rfl ?_
  rintro _ w ⟨a2, c2, rfl, hS⟩
  replace hS : St g (Own 5 1 (by8 (Y1 ++ l)) a2 c2 :: Sh 5 1 (by8 Y1) a1 c1 :: Sh 5 1 (by8 l) la lc :: L) w := hS
  refine WL.r 1 rfl ?_
  refine WL.nil ?_
  refine WC.ret ?_
  refine ⟨[.slice a2 (List.length (by8 (Y1 ++ l))) c2], rfl, ?_⟩
  replace hS := (hS.sel 3 [0, 1] rfl)
  subst hY1; rw [hl8] at hS ⊢; rw [eBytes, ← List.append_assoc]; exact ⟨_, _, rfl, hS⟩

theorem rentries_spec {g w : World} {L : List HP} (xs : List Int) (a : Option Addr) (c : Nat) (l : List (Int × Int)) (la : Option Addr) (lc : Nat) (hx : xs.length ≤ 800000) (hl : l.length ≤ 10000) (hx2 : xs.length + 31 * l.length ≤ 700000) (hw : En64 l) (hS : St g (Sh 5 1 (by8 xs) a c :: Sh 40 2 (en2 l) la lc :: L) w) :
    Sp Try.prog 39 [.slice a (List.length (by8 xs)) c, .slice la (List.length (en2 l)) lc] w (fun v w' => ∃ (a2 : Option Addr) (c2 : Nat), v = .slice a2 (List.length (by8 (xs ++ eEnts l))) c2 ∧ St g (Own 5 1 (by8 (xs ++ eEnts l)) a2 c2 :: Sh 40 2 (en2 l) la lc :: L) w') := by
  refine Sp.enter Try.func39 rfl (by kernel_rfl) (by kernel_rfl) ?_
  have _ := hx2
  have _ := hl
  have _ := hx
  refine WC.seq ?_
  refine WC.region ?_
  refine WL.r 1 rfl ?_
  refine WL.nil ?_
  refine WC.seq ?_
  refine WC.region ?_
  have hl2 := en2_len l
  refine WL.r 4 rfl ?_
  refine WL.nw 9 rfl (wu64 (by omega)) ?_
  refine WL.call rfl rfl (ru_spec (xs := xs) (a := a) (c := c) (n := (List.length (en2 l) : Int)) (hx := (by first | omega | (simp <;> omega))) (hn := (by omega)) (hS := hS)) rfl ?_
  generalize hY1 : xs ++ eU (List.length (en2 l) : Int) = Y1
  rintro _ w ⟨a1, c1, rfl, hS⟩
  have hY1f0 : (List.length Y1) ≤ (List.length xs) + 10 := by rw [← hY1, List.length_append]; exact Nat.add_le_add_left (eU_len (by omega)) _
  replace hS : St g (Own 5 1 (by8 Y1) a1 c1 :: Sh 40 2 (en2 l) la lc :: L) w := hS
  refine WL.r 1 rfl ?_
  refine WL.nil ?_
  refine WC.seq ?_
  refine WC.seq ?_
  refine WC.region ?_
  refine WL.r 1 rfl ?_
  refine WL.nil ?_
  refine WC.block ?_
  refine WC.loop [0, 1, 4, 5] (fun kM vs w => ∃ (k : Nat) (ys : List Int) (a3 : Option Addr) (c3 : Nat), vs = [.slice a3 (List.length (by8 ys)) c3, .slice la (List.length (en2 l)) lc, .slice none 0 0, .int .i64 (k : Int)] ∧ St g (Own 5 1 (by8 ys) a3 c3 :: Sh 40 2 (en2 l) la lc :: L) w ∧ (k ≤ l.length) ∧ (ys = xs ++ (eU l.length ++ (l.take k).flatMap eEn)) ∧ (ys.length ≤ xs.length + 10 + 20 * k) ∧ (l.length - k) = kM) ((List.length l) - 0) ⟨0, Y1, _, _, rfl, hS, (Nat.zero_le _), (by rw [← hY1, hl2]; simp), (by omega), rfl⟩ ?_
  clear hS; rintro _ _ w j ⟨k, ys, a3, c3, rfl, hS, hk, hys, hyl, rfl⟩
  refine WC.seq ?_
  refine WC.seq ?_
  refine WC.region ?_
  refine WL.r 4 rfl ?_
  refine WL.nil ?_
  as_aux_lemma =>
    refine WC.ifP rfl (fun cd1 => ?_) (fun cd1 => ?_)
    · refine WC.skip ?_
      refine WC.seq ?_
      refine WC.block ?_
      refine WC.plan [([0, 1, 2, 7, 8, 3, 9, 4, 10, 5, 11], some (6, [7, 8, 9, 10, 11])), ([], some (12, [])), ([13], none)] (by kernel_rfl) (by kernel_rfl) ?_
      refine WQ.r 5 rfl ?_
      obtain ⟨x, hx3⟩ : ∃ x, l[k]? = some x := ⟨_, List.getElem?_eq_getElem (by omega)⟩; obtain ⟨hw1, hw2⟩ := hw x (List.mem_of_getElem? hx3)
      refine WQ.ix rfl rfl (i := (k : Int)) (k) el_24 rfl rfl (by omega) (len_of (en2_at hx3)) (hS.rdS 1 rfl (en2_at hx3)).1 ?_
      refine WQ.ix rfl rfl (i := (k : Int)) (k) el_24 rfl rfl (by omega) (len_of (en2_at hx3)) (hS.rdS 1 rfl (en2_at hx3)).1 ?_
      refine WQ.run 4 [.int .i64 x.1, .int .i64 x.2] rfl (by exact ⟨(hS.rdS 1 rfl (en2_at hx3)).2 0 _ rfl, (hS.rdS 1 rfl (en2_at hx3)).2 1 _ rfl⟩) ?_
      refine WQ.nil ?_
      intro m1
      replace hS := hS.drewN m1; generalize hwm1 : World.drewN _ _ = w at *; clear hwm1
      replace hS := (hS.at_ 0 rfl).share
      replace hS : St g (Sh 5 1 (by8 ys) a3 c3 :: Sh 40 2 (en2 l) la lc :: L) w := hS
      refine WL.call rfl rfl (rz_spec (xs := ys) (a := a3) (c := c3) (n := x.1) (hx := (by first | omega | (simp <;> omega))) (hn := (by assumption)) (hS := hS)) rfl ?_
      generalize hY2 : ys ++ eZ x.1 = Y2
      rintro _ w ⟨a2, c2, rfl, hS⟩
      have hY2f0 : (List.length Y2) ≤ (List.length ys) + 10 := by rw [← hY2, List.length_append]; exact Nat.add_le_add_left (eZ_len (by assumption)) _
      replace hS : St g (Own 5 1 (by8 Y2) a2 c2 :: Sh 40 2 (en2 l) la lc :: L) w := hS
      refine WL.nil ?_
      refine ⟨by exact ⟨RQ.pure rfl rfl rfl rfl, RQ.pure rfl rfl rfl rfl, RQ.ix rfl rfl (i := (k : Int)) (k) el_24 rfl rfl (by omega) (len_of (en2_at hx3)) (hS.rdS 1 rfl (en2_at hx3)).1 rfl rfl, RQ.pure rfl rfl rfl rfl, RQ.load rfl rfl rfl rfl ((hS.rdS 1 rfl (en2_at hx3)).2 1 _ rfl)⟩, ?_⟩
      refine WQ.nil ?_
      intro m2
      replace hS := hS.drewN m2; generalize hwm2 : World.drewN _ _ = w at *; clear hwm2
      replace hS := (hS.at_ 0 rfl).share
      replace hS : St g (Sh 5 1 (by8 Y2) a2 c2 :: Sh 40 2 (en2 l) la lc :: L) w := hS
      refine WL.call rfl rfl (rz_spec (xs := Y2) (a := a2) (c := c2) (n := x.2) (hx := (by first | omega | (simp <;> omega))) (hn := (by assumption)) (hS := hS)) rfl ?_
      generalize hY3 : Y2 ++ eZ x.2 = Y3
      rintro _ w ⟨a3, c3, rfl, hS⟩
      have hY3f0 : (List.length Y3) ≤ (List.length Y2) + 10 := by rw [← hY3, List.length_append]; exact Nat.add_le_add_left (eZ_len (by assumption)) _
      replace hS : St g (Own 5 1 (by8 Y3) a3 c3 :: Sh 40 2 (en2 l) la lc :: L) w := hS
      refine WL.nil ?_
      refine ⟨by exact trivial, ?_⟩
      refine WQ.r 1 rfl ?_
      refine WQ.nil ?_
      intro m3
      replace hS := hS.drewN m3; generalize hwm3 : World.drewN _ _ = w at *; clear hwm3
      as_aux_lemma =>
        refine WC.region ?_
        refine WL.r 2 rfl ?_
        refine WL.nw 16 rfl (w64 (by omega)) ?_
        refine WL.r 1 rfl ?_
        refine WL.nil ?_
        exact ⟨_, by omega, k + 1, Y3, _, _, rfl, hS, (by omega), (by rw [fm_take eEn hx3, eEn, ← hY3, ← hY2, hys]; simp only [List.append_assoc]), (by omega), rfl⟩
    · refine WC.exit ?_
      refine WC.seq ?_
      refine WC.region ?_
      refine WL.r 2 rfl ?_
      refine WL.nil ?_
      refine WC.ret ?_
      refine ⟨[.slice a3 (List.length (by8 ys)) c3], rfl, ?_⟩
      have h9 : ys = xs ++ eEnts l := by rw [hys, fm_all eEn (by omega), eEnts]; rfl
      rw [← h9]; exact ⟨_, _, rfl, hS⟩

theorem rchanges_spec {g w : World} {L : List HP} (xs : List Int) (a : Option Addr) (c : Nat) (l : List (Int × Int × Int × Int)) (la : Option Addr) (lc : Nat) (hx : xs.length ≤ 800000) (hl : l.length ≤ 10000) (hx2 : xs.length + 31 * l.length ≤ 700000) (hw : Ch64 l) (hS : St g (Sh 5 1 (by8 xs) a c :: Sh 63 4 (ch4 l) la lc :: L) w) :
    Sp Try.prog 40 [.slice a (List.length (by8 xs)) c, .slice la (List.length (ch4 l)) lc] w (fun v w' => ∃ (a2 : Option Addr) (c2 : Nat), v = .slice a2 (List.length (by8 (xs ++ eChs l))) c2 ∧ St g (Own 5 1 (by8 (xs ++ eChs l)) a2 c2 :: Sh 63 4 (ch4 l) la lc :: L) w') := by
  refine Sp.enter Try.func40 rfl (by kernel_rfl) (by kernel_rfl) ?_
  have _ := hx2
  have _ := hl
  have _ := hx
  refine WC.seq ?_
  refine WC.region ?_
  refine WL.r 1 rfl ?_
  refine WL.nil ?_
  refine WC.seq ?_
  refine WC.region ?_
  have hl2 := ch4_len l
  refine WL.r 4 rfl ?_
  refine WL.nw 9 rfl (wu64 (by omega)) ?_
  refine WL.call rfl rfl (ru_spec (xs := xs) (a := a) (c := c) (n := (List.length (ch4 l) : Int)) (hx := (by first | omega | (simp <;> omega))) (hn := (by omega)) (hS := hS)) rfl ?_
  generalize hY1 : xs ++ eU (List.length (ch4 l) : Int) = Y1
  rintro _ w ⟨a1, c1, rfl, hS⟩
  have hY1f0 : (List.length Y1) ≤ (List.length xs) + 10 := by rw [← hY1, List.length_append]; exact Nat.add_le_add_left (eU_len (by omega)) _
  replace hS : St g (Own 5 1 (by8 Y1) a1 c1 :: Sh 63 4 (ch4 l) la lc :: L) w := hS
  refine WL.r 1 rfl ?_
  refine WL.nil ?_
  refine WC.seq ?_
  refine WC.seq ?_
  refine WC.region ?_
  refine WL.r 1 rfl ?_
  refine WL.nil ?_
  refine WC.block ?_
  refine WC.loop [0, 1, 4, 5] (fun kM vs w => ∃ (k : Nat) (ys : List Int) (a3 : Option Addr) (c3 : Nat), vs = [.slice a3 (List.length (by8 ys)) c3, .slice la (List.length (ch4 l)) lc, .slice none 0 0, .int .i64 (k : Int)] ∧ St g (Own 5 1 (by8 ys) a3 c3 :: Sh 63 4 (ch4 l) la lc :: L) w ∧ (k ≤ l.length) ∧ (ys = xs ++ (eU l.length ++ (l.take k).flatMap eCh)) ∧ (ys.length ≤ xs.length + 10 + 31 * k) ∧ (l.length - k) = kM) ((List.length l) - 0) ⟨0, Y1, _, _, rfl, hS, (Nat.zero_le _), (by rw [← hY1, hl2]; simp), (by omega), rfl⟩ ?_
  clear hS; rintro _ _ w j ⟨k, ys, a3, c3, rfl, hS, hk, hys, hyl, rfl⟩
  refine WC.seq ?_
  refine WC.seq ?_
  refine WC.region ?_
  refine WL.r 4 rfl ?_
  refine WL.nil ?_
  as_aux_lemma =>
    refine WC.ifP rfl (fun cd1 => ?_) (fun cd1 => ?_)
    · refine WC.skip ?_
      refine WC.seq ?_
      refine WC.block ?_
      refine WC.seq ?_
      refine WC.region ?_
      refine WL.r 3 rfl ?_
      obtain ⟨x, hx3⟩ : ∃ x, l[k]? = some x := ⟨_, List.getElem?_eq_getElem (by omega)⟩; obtain ⟨hw1, hw2, hw3, hw4⟩ := hw x (List.mem_of_getElem? hx3)
      refine WL.ix rfl rfl (i := (k : Int)) (k) el_25 rfl rfl (by omega) (len_of (ch4_at hx3)) (hS.rdS 1 rfl (ch4_at hx3)).1 ?_
      refine WL.run 3 [.int .i64 x.1] rfl (by exact (hS.rdS 1 rfl (ch4_at hx3)).2 0 _ rfl) ?_
      refine WL.reb 23 (.int .u8 (x.1 % 256)) (congrArg (Value.int .u8) (by rfl)) ?_
      refine WL.lit rfl rfl (by8 [x.1 % 256]) el_23 hS (by exact ⟨rfl, rfl⟩) (by8_ok _) rfl (by decide) (fun b1 w hS => ?_)
      refine WL.app rfl rfl 1 (by8 (ys ++ [x.1 % 256])) el_23 hS rfl (hS.srcO 0 rfl) (by8_app _ _).symm (Rm.of (by first | omega | (simp <;> omega)) (by decide)) rfl rfl (fun a2 c2 w hS => ?_)
      replace hS : St g (Own 5 1 (by8 [x.1 % 256]) (some ⟨b1, 0, none⟩) (List.length (by8 [x.1 % 256])) :: Own 5 1 (by8 (ys ++ [x.1 % 256])) a2 c2 :: Sh 63 4 (ch4 l) la lc :: L) w := hS
      refine WL.r 1 rfl ?_
      refine WL.nil ?_
      refine WC.plan [([0, 1, 2, 7, 8, 13, 14, 3, 9, 15, 4, 10, 16, 5, 11, 17], some (6, [7, 8, 9, 10, 11, 13, 14, 15, 16, 17])), ([], some (12, [13, 14, 15, 16, 17])), ([], some (18, [])), ([19], none)] (by kernel_rfl) (by kernel_rfl) ?_
      have hym : (ys ++ [x.1 % 256]).length = ys.length + 1 := by simp
      refine WQ.r 7 rfl ?_
      refine WQ.ix rfl rfl (i := (k : Int)) (k) el_25 rfl rfl (by omega) (len_of (ch4_at hx3)) (hS.rdS 2 rfl (ch4_at hx3)).1 ?_
      refine WQ.ix rfl rfl (i := (k : Int)) (k) el_25 rfl rfl (by omega) (len_of (ch4_at hx3)) (hS.rdS 2 rfl (ch4_at hx3)).1 ?_
      refine WQ.ix rfl rfl (i := (k : Int)) (k) el_25 rfl rfl (by omega) (len_of (ch4_at hx3)) (hS.rdS 2 rfl (ch4_at hx3)).1 ?_
      refine WQ.run 6 [.int .i64 x.2.1, .int .i64 x.2.2.1, .int .i64 x.2.2.2] rfl (by exact ⟨(hS.rdS 2 rfl (ch4_at hx3)).2 1 _ rfl, (hS.rdS 2 rfl (ch4_at hx3)).2 2 _ rfl, (hS.rdS 2 rfl (ch4_at hx3)).2 3 _ rfl⟩) ?_
      refine WQ.nil ?_
      intro m1
      replace hS := hS.drewN m1; generalize hwm1 : World.drewN _ _ = w at *; clear hwm1
      replace hS := (hS.at_ 1 rfl).share
      replace hS : St g (Sh 5 1 (by8 (ys ++ [x.1 % 256])) a2 c2 :: Own 5 1 (by8 [x.1 % 256]) (some ⟨b1, 0, none⟩) (List.length (by8 [x.1 % 256])) :: Sh 63 4 (ch4 l) la lc :: L) w := hS
      refine WL.call rfl rfl (rz_spec (xs := ys ++ [x.1 % 256]) (a := a2) (c := c2) (n := x.2.1) (hx := (by first | omega | (simp <;> omega))) (hn := (by assumption)) (hS := hS)) rfl ?_
      generalize hY2 : (ys ++ [x.1 % 256]) ++ eZ x.2.1 = Y2
      rintro _ w ⟨a3, c3, rfl, hS⟩
      have hY2f0 : (List.length Y2) ≤ (List.length (ys ++ [x.1 % 256])) + 10 := by rw [← hY2, List.length_append]; exact Nat.add_le_add_left (eZ_len (by assumption)) _
      replace hS : St g (Own 5 1 (by8 Y2) a3 c3 :: Own 5 1 (by8 [x.1 % 256]) (some ⟨b1, 0, none⟩) (List.length (by8 [x.1 % 256])) :: Sh 63 4 (ch4 l) la lc :: L) w := hS
      refine WL.nil ?_
      refine ⟨by exact ⟨RQ.pure rfl rfl rfl rfl, RQ.pure rfl rfl rfl rfl, RQ.ix rfl rfl (i := (k : Int)) (k) el_25 rfl rfl (by omega) (len_of (ch4_at hx3)) (hS.rdS 2 rfl (ch4_at hx3)).1 rfl rfl, RQ.pure rfl rfl rfl rfl, RQ.load rfl rfl rfl rfl ((hS.rdS 2 rfl (ch4_at hx3)).2 2 _ rfl), RQ.pure rfl rfl rfl rfl, RQ.pure rfl rfl rfl rfl, RQ.ix rfl rfl (i := (k : Int)) (k) el_25 rfl rfl (by omega) (len_of (ch4_at hx3)) (hS.rdS 2 rfl (ch4_at hx3)).1 rfl rfl, RQ.pure rfl rfl rfl rfl, RQ.load rfl rfl rfl rfl ((hS.rdS 2 rfl (ch4_at hx3)).2 3 _ rfl)⟩, ?_⟩
      refine WQ.nil ?_
      intro m2
      replace hS := hS.drewN m2; generalize hwm2 : World.drewN _ _ = w at *; clear hwm2
      replace hS := (hS.at_ 0 rfl).share
      replace hS : St g (Sh 5 1 (by8 Y2) a3 c3 :: Own 5 1 (by8 [x.1 % 256]) (some ⟨b1, 0, none⟩) (List.length (by8 [x.1 % 256])) :: Sh 63 4 (ch4 l) la lc :: L) w := hS
      refine WL.call rfl rfl (rz_spec (xs := Y2) (a := a3) (c := c3) (n := x.2.2.1) (hx := (by first | omega | (simp <;> omega))) (hn := (by assumption)) (hS := hS)) rfl ?_
      generalize hY3 : Y2 ++ eZ x.2.2.1 = Y3
      rintro _ w ⟨a4, c4, rfl, hS⟩
      have hY3f0 : (List.length Y3) ≤ (List.length Y2) + 10 := by rw [← hY3, List.length_append]; exact Nat.add_le_add_left (eZ_len (by assumption)) _
      replace hS : St g (Own 5 1 (by8 Y3) a4 c4 :: Own 5 1 (by8 [x.1 % 256]) (some ⟨b1, 0, none⟩) (List.length (by8 [x.1 % 256])) :: Sh 63 4 (ch4 l) la lc :: L) w := hS
      refine WL.nil ?_
      refine ⟨by exact ⟨RQ.pure rfl rfl rfl rfl, RQ.pure rfl rfl rfl rfl, RQ.ix rfl rfl (i := (k : Int)) (k) el_25 rfl rfl (by omega) (len_of (ch4_at hx3)) (hS.rdS 2 rfl (ch4_at hx3)).1 rfl rfl, RQ.pure rfl rfl rfl rfl, RQ.load rfl rfl rfl rfl ((hS.rdS 2 rfl (ch4_at hx3)).2 3 _ rfl)⟩, ?_⟩
      refine WQ.nil ?_
      intro m3
      replace hS := hS.drewN m3; generalize hwm3 : World.drewN _ _ = w at *; clear hwm3
      replace hS := (hS.at_ 0 rfl).share
      replace hS : St g (Sh 5 1 (by8 Y3) a4 c4 :: Own 5 1 (by8 [x.1 % 256]) (some ⟨b1, 0, none⟩) (List.length (by8 [x.1 % 256])) :: Sh 63 4 (ch4 l) la lc :: L) w := hS
      refine WL.call rfl rfl (rz_spec (xs := Y3) (a := a4) (c := c4) (n := x.2.2.2) (hx := (by first | omega | (simp <;> omega))) (hn := (by assumption)) (hS := hS)) rfl ?_
      generalize hY4 : Y3 ++ eZ x.2.2.2 = Y4
      rintro _ w ⟨a5, c5, rfl, hS⟩
      have hY4f0 : (List.length Y4) ≤ (List.length Y3) + 10 := by rw [← hY4, List.length_append]; exact Nat.add_le_add_left (eZ_len (by assumption)) _
      replace hS : St g (Own 5 1 (by8 Y4) a5 c5 :: Own 5 1 (by8 [x.1 % 256]) (some ⟨b1, 0, none⟩) (List.length (by8 [x.1 % 256])) :: Sh 63 4 (ch4 l) la lc :: L) w := hS
      refine WL.nil ?_
      refine ⟨by exact trivial, ?_⟩
      refine WQ.r 1 rfl ?_
      refine WQ.nil ?_
      intro m4
      replace hS := hS.drewN m4; generalize hwm4 : World.drewN _ _ = w at *; clear hwm4
      as_aux_lemma =>
        refine WC.region ?_
        refine WL.r 2 rfl ?_
        refine WL.nw 16 rfl (w64 (by omega)) ?_
        refine WL.r 1 rfl ?_
        refine WL.nil ?_
        exact ⟨_, by omega, k + 1, Y4, _, _, rfl, (hS.sel 3 [0, 1] rfl), (by omega), (by rw [fm_take eCh hx3, eCh, ← hY4, ← hY3, ← hY2, hys]; simp only [List.append_assoc, List.cons_append, List.nil_append]), (by omega), rfl⟩
    · refine WC.exit ?_
      refine WC.seq ?_
      refine WC.region ?_
      refine WL.r 2 rfl ?_
      refine WL.nil ?_
      refine WC.ret ?_
      refine ⟨[.slice a3 (List.length (by8 ys)) c3], rfl, ?_⟩
      have h9 : ys = xs ++ eChs l := by rw [hys, fm_all eCh (by omega), eChs]; rfl
      rw [← h9]; exact ⟨_, _, rfl, hS⟩
end Go.Proofs.Ytofnoopjlmdelaa
