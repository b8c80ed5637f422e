/-
  The reader of encodings: bytes, entries, changes.
  Conditions: sizes below a bound that the laws meet.
-/
import Derived.Test.YtofnoopjlmdelaaRd
namespace Go.Proofs.Ytofnoopjlmdelaa
open Go Go.V



theorem bytes_spec {g w : World} {L : List HP} (r c : Nat) (a : Option Addr) (bs : List Int) (p : Nat) (e : Int) (n : Int) (hp : p ≤ bs.length) (hl : bs.length ≤ 1000000000) (hb : B8 bs) (hn : 0 ≤ n ∧ n ≤ 1000000000) (hS : St g (cel r #[.slice a (List.length (by8 bs)) c, .int .i64 (p : Int), .int .i64 e] 78 :: Sh 5 1 (by8 bs) a c :: L) w) :
    Sp Try.prog 48 [.pointer (some ⟨r, 0, none⟩), .int .i64 n] w (fun v w' => ∃ (a2 : Option Addr) (c2 : Nat), v = .slice a2 (List.length (by8 (rBytes bs n.toNat p e).1)) c2 ∧ St g (cel r #[.slice a (List.length (by8 bs)) c, .int .i64 ((rBytes bs n.toNat p e).2.1 : Int), .int .i64 (rBytes bs n.toNat p e).2.2] 78 :: Sh 5 1 (by8 bs) a c :: Own 5 1 (by8 (rBytes bs n.toNat p e).1) a2 c2 :: L) w') := by
  refine Sp.enter Try.func48 rfl (by kernel_rfl) (by kernel_rfl) ?_
  have _ := hn
  have _ := hb
  have _ := hl
  have _ := hp
  refine WC.seq ?_
  refine WC.region ?_
  refine WL.r 1 rfl ?_
  refine WL.nil ?_
  refine WC.seq ?_
  refine WC.seq ?_
  refine WC.region ?_
  have hl8 := by8_len bs
  refine WL.r 2 rfl ?_
  refine WL.call rfl rfl (left_spec (r := r) (n := List.length (by8 bs)) (c := c) (a := a) (p := p) (e := e) (h1 := (by simp only [by8_len]; assumption)) (h2 := (by simp only [by8_len]; assumption)) (hS := hS)) rfl ?_
  rintro _ w ⟨rfl, hS⟩
  replace hS : St g (cel r #[.slice a (List.length (by8 bs)) c, .int .i64 (p : Int), .int .i64 e] 78 :: Sh 5 1 (by8 bs) a c :: L) w := hS
  refine WL.r 1 rfl ?_
  refine WL.nil ?_
  refine WC.ifP rfl (fun cd1 => ?_) (fun cd1 => ?_)
  · refine WC.region ?_
    refine WL.r 1 rfl ?_
    refine WL.call rfl rfl (fail_spec (r := r) (n := List.length (by8 bs)) (c := c) (a := a) (p := (p : Int)) (e := e) (e2 := 12)  (hS := hS)) rfl ?_
    rintro _ w ⟨rfl, hS⟩
    replace hS : St g (cel r #[.slice a (List.length (by8 bs)) c, .int .i64 (p : Int), .int .i64 (fl e 12)] 78 :: Sh 5 1 (by8 bs) a c :: L) w := hS
    refine WL.nil ?_
    refine WC.seq ?_
    refine WC.seq ?_
    refine WC.region ?_
    refine WL.run 5 [.int .i64 (fl e 12)] rfl (by exact hS.ld 0 rfl rfl) ?_
    refine WL.rG 4 rfl (fun j => ?_)
    refine WL.prop 20 rfl (bor (dd _) (dd _)) ?_
    refine WL.nil ?_
    as_aux_lemma =>
      refine WC.ifT rfl (decide_eq_true (Or.inl (by unfold fl; split <;> omega))) ?_
      refine WC.seq ?_
      refine WC.region ?_
      refine WL.r 1 rfl ?_
      refine WL.nil ?_
      refine WC.ret ?_
      refine ⟨[.slice none 0 0], rfl, ?_⟩
      replace hS := hS.nil_ 5 1
      replace hS := (hS.sel 3 [1, 1, 0] rfl)
      have hr : rBytes bs n.toNat p e = ([], p, fl e 12) := by rw [rBytes, if_pos (by omega)]
      rw [hr]; exact ⟨_, _, rfl, hS⟩
  · refine WC.skip ?_
    refine WC.seq ?_
    refine WC.seq ?_
    refine WC.region ?_
    refine WL.run 5 [.int .i64 e] rfl (by exact hS.ld 0 rfl rfl) ?_
    refine WL.rG 4 rfl (fun j => ?_)
    refine WL.prop 20 rfl (bor (dd _) (dd _)) ?_
    refine WL.nil ?_
    refine WC.ifP rfl (fun cd2 => ?_) (fun cd2 => ?_)
    · refine WC.seq ?_
      refine WC.region ?_
      refine WL.r 1 rfl ?_
      refine WL.nil ?_
      as_aux_lemma =>
        refine WC.ret ?_
        refine ⟨[.slice none 0 0], rfl, ?_⟩
        replace hS := hS.nil_ 5 1
        replace hS := (hS.sel 3 [1, 1, 0] rfl)
        have hr : rBytes bs n.toNat p e = ([], p, e) := by rw [rBytes, if_neg (by omega), if_pos (by omega)]
        rw [hr]; exact ⟨_, _, rfl, hS⟩
    · refine WC.skip ?_
      as_aux_lemma =>
        refine WC.seq ?_
        refine WC.plan [([0, 4, 8, 12, 1, 5, 9, 2, 6, 10, 3, 7, 11, 13], some (14, [])), ([], some (15, [])), ([16], none)] (by kernel_rfl) (by kernel_rfl) ?_
        refine WQ.run 14 [.slice a (List.length (by8 bs)) c, .int .i64 (p : Int), .int .i64 (p : Int)] rfl (by exact ⟨hS.ld 0 rfl rfl, hS.ld 0 rfl rfl, hS.ld 0 rfl rfl⟩) ?_
        refine WQ.nw 34 rfl (w64 (by omega)) ?_
        refine WQ.nil ?_
        intro m1
        replace hS := hS.drewN m1; generalize hwm1 : World.drewN _ _ = w at *; clear hwm1
        refine WL.slLH rfl rfl (v := (p : Int)) (v' := (p : Int) + n) 1 (p) (p + n.toNat) (by8 ((bs.drop p).take n.toNat)) el_23 hS rfl rfl rfl (by omega) rfl (by omega) (by omega) (by omega) (by rw [by8_take, by8_drop, List.drop_take]; congr 2; omega) (fun a1 hS => ?_)
        replace hS : St g (Sh 5 1 (by8 ((bs.drop p).take n.toNat)) a1 (c - p) :: cel r #[.slice a (List.length (by8 bs)) c, .int .i64 (p : Int), .int .i64 e] 78 :: Sh 5 1 (by8 bs) a c :: L) w := hS
        refine WL.nil ?_
        refine ⟨by exact trivial, ?_⟩
        refine WQ.nil ?_
        intro m2
        replace hS := hS.drewN m2; generalize hwm2 : World.drewN _ _ = w at *; clear hwm2
        replace hS := hS.nil_ 5 1
        refine WL.app rfl rfl 0 (by8 ((bs.drop p).take n.toNat)) el_23 hS rfl (hS.srcS 1 rfl) (List.nil_append _) (Rm.of (by first | omega | (simp <;> omega)) (by decide)) rfl rfl (fun a2 c1 w hS => ?_)
        replace hS : St g (Own 5 1 (by8 ((bs.drop p).take n.toNat)) a2 c1 :: Sh 5 1 (by8 ((bs.drop p).take n.toNat)) a1 (c - p) :: cel r #[.slice a (List.length (by8 bs)) c, .int .i64 (p : Int), .int .i64 e] 78 :: Sh 5 1 (by8 bs) a c :: L) w := hS
        refine WL.nil ?_
        refine ⟨by exact trivial, ?_⟩
        refine WQ.r 1 rfl ?_
        refine WQ.nil ?_
        intro m3
        replace hS := hS.drewN m3; generalize hwm3 : World.drewN _ _ = w at *; clear hwm3
        refine WC.seq ?_
        refine WC.region ?_
        refine WL.run 6 [.int .i64 (p : Int)] rfl (by exact hS.ld 2 rfl rfl) ?_
        refine WL.nw 42 rfl (w64 (by omega)) ?_
        refine WL.r 2 rfl ?_
        refine WL.st rfl rfl rfl 2 hS rfl rfl rfl rfl rfl rfl (fun w hS => ?_)
        replace hS : St g (Own 5 1 (by8 ((bs.drop p).take n.toNat)) a2 c1 :: Sh 5 1 (by8 ((bs.drop p).take n.toNat)) a1 (c - p) :: cel r #[.slice a (List.length (by8 bs)) c, .int .i64 ((p : Int) + n), .int .i64 e] 78 :: Sh 5 1 (by8 bs) a c :: L) w := hS
        refine WL.nil ?_
        as_aux_lemma =>
          refine WC.seq ?_
          refine WC.region ?_
          refine WL.r 2 rfl ?_
          refine WL.nil ?_
          refine WC.ret ?_
          refine ⟨[.slice a2 (List.length (by8 ((bs.drop p).take n.toNat))) c1], rfl, ?_⟩
          replace hS := (hS.sel 4 [2, 2, 0] rfl)
          have hr : rBytes bs n.toNat p e = ((bs.drop p).take n.toNat, p + n.toNat, e) := by rw [rBytes, if_neg (by omega), if_neg (by omega)]
          rw [hr]; rw [show (p : Int) + n = ((p + n.toNat : Nat) : Int) by omega] at hS; exact ⟨_, _, rfl, hS⟩

theorem entries_spec {g w : World} {L : List HP} (r c : Nat) (a : Option Addr) (bs : List Int) (p : Nat) (e : Int) (n : Int) (hp : p ≤ bs.length) (hl : bs.length ≤ 1000000000) (hb : B8 bs) (hn : n ≤ 1000000000) (hS : St g (cel r #[.slice a (List.length (by8 bs)) c, .int .i64 (p : Int), .int .i64 e] 78 :: Sh 5 1 (by8 bs) a c :: L) w) :
    Sp Try.prog 45 [.pointer (some ⟨r, 0, none⟩), .int .i64 n] w (fun v w' => ∃ (a2 : Option Addr) (c2 : Nat), v = .slice a2 (List.length (en2 (rEnts bs n.toNat p e).1)) c2 ∧ St g (cel r #[.slice a (List.length (by8 bs)) c, .int .i64 ((rEnts bs n.toNat p e).2.1 : Int), .int .i64 (rEnts bs n.toNat p e).2.2] 78 :: Sh 5 1 (by8 bs) a c :: Own 40 2 (en2 (rEnts bs n.toNat p e).1) a2 c2 :: L) w') := by
  refine Sp.enter Try.func45 rfl (by kernel_rfl) (by kernel_rfl) ?_
  have _ := hn
  have _ := hb
  have _ := hl
  have _ := hp
  refine WC.seq ?_
  refine WC.region ?_
  refine WL.r 1 rfl ?_
  refine WL.nil ?_
  refine WC.seq ?_
  refine WC.region ?_
  refine WL.r 1 rfl ?_
  refine WL.nil ?_
  refine WC.seq ?_
  refine WC.seq ?_
  refine WC.region ?_
  refine WL.r 1 rfl ?_
  refine WL.nil ?_
  refine WC.block ?_
  replace hS := hS.nil_ 40 2
  refine WC.loop [0, 1, 4, 5, 6] (fun kM vs w => ∃ (k : Nat) (xs : List (Int × Int)) (q : Nat) (e2 : Int) (a2 : Option Addr) (c2 : Nat), vs = [.pointer (some ⟨r, 0, none⟩), .int .i64 n, .slice none 0 0, .slice a2 (List.length (en2 xs)) c2, .int .i64 (k : Int)] ∧ St g (Own 40 2 (en2 xs) a2 c2 :: cel r #[.slice a (List.length (by8 bs)) c, .int .i64 (q : Int), .int .i64 e2] 78 :: Sh 5 1 (by8 bs) a c :: L) w ∧ ((k : Int) ≤ n ∨ k = 0) ∧ (xs.length = k) ∧ (q ≤ bs.length) ∧ (rEnts bs n.toNat p e = (xs ++ (rEnts bs (n.toNat - k) q e2).1, (rEnts bs (n.toNat - k) q e2).2)) ∧ (n.toNat - k) = kM) (n.toNat - 0) ⟨0, [], p, e, none, 0, rfl, hS, (by omega), (rfl), (by assumption), (rfl), rfl⟩ ?_
  clear hS; rintro _ _ w j ⟨k, xs, q, e2, a2, c2, rfl, hS, hk, hx, hq, hr, rfl⟩
  refine WC.seq ?_
  refine WC.seq ?_
  refine WC.region ?_
  refine WL.r 3 rfl ?_
  refine WL.runG 7 [.int .i64 e2] rfl (by exact (fun _ => hS.ld 1 rfl rfl)) (fun j => ?_)
  refine WL.prop 17 rfl (band (dd _) (dd _)) ?_
  refine WL.nil ?_
  as_aux_lemma =>
    refine WC.ifP rfl (fun cd1 => ?_) (fun cd1 => ?_)
    · refine WC.skip ?_
      refine WC.seq ?_
      refine WC.block ?_
      refine WC.seq ?_
      refine WC.region ?_
      refine WL.r 1 rfl ?_
      refine WL.call rfl rfl (signed_spec (r := r) (c := c) (a := a) (bs := bs) (p := q) (e := e2) (hp := (by assumption)) (hl := (by assumption)) (hb := (by assumption)) (hS := (hS.sel 3 [1, 1, 0] rfl))) rfl ?_
      generalize hR1 : rZ bs q e2 = R1
      rintro _ w ⟨rfl, hS⟩
      have hR1f0 : R1.2.1 ≤ (List.length bs) := by rw [← hR1]; exact rZ_le (by assumption)
      replace hS : St g (cel r #[.slice a (List.length (by8 bs)) c, .int .i64 (R1.2.1 : Int), .int .i64 R1.2.2] 78 :: Sh 5 1 (by8 bs) a c :: Own 40 2 (en2 xs) a2 c2 :: L) w := hS
      refine WL.r 1 rfl ?_
      refine WL.nil ?_
      refine WC.region ?_
      refine WL.r 3 rfl ?_
      refine WL.call rfl rfl (signed_spec (r := r) (c := c) (a := a) (bs := bs) (p := R1.2.1) (e := R1.2.2) (hp := (by assumption)) (hl := (by assumption)) (hb := (by assumption)) (hS := hS)) rfl ?_
      generalize hR2 : rZ bs R1.2.1 R1.2.2 = R2
      rintro _ w ⟨rfl, hS⟩
      have hR2f0 : R2.2.1 ≤ (List.length bs) := by rw [← hR2]; exact rZ_le (by assumption)
      replace hS : St g (cel r #[.slice a (List.length (by8 bs)) c, .int .i64 (R2.2.1 : Int), .int .i64 R2.2.2] 78 :: Sh 5 1 (by8 bs) a c :: Own 40 2 (en2 xs) a2 c2 :: L) w := hS
      refine WL.build rfl rfl (cs := [.int .i64 R1.1, .int .i64 R2.1]) zv_40 rfl rfl ?_
      refine WL.lit rfl rfl (en2 [(R1.1, R2.1)]) el_24 hS (by exact ⟨rfl, rfl⟩) (en2_ok _) rfl (by decide) (fun b1 w hS => ?_)
      refine WL.app rfl rfl 3 (en2 (xs ++ [(R1.1, R2.1)])) el_24 hS rfl (hS.srcO 0 rfl) (en2_app _ _).symm (Rm.of (by first | omega | (simp <;> omega)) (by decide)) rfl rfl (fun a1 c1 w hS => ?_)
      replace hS : St g (Own 40 2 (en2 [(R1.1, R2.1)]) (some ⟨b1, 0, none⟩) (List.length (en2 [(R1.1, R2.1)])) :: cel r #[.slice a (List.length (by8 bs)) c, .int .i64 (R2.2.1 : Int), .int .i64 R2.2.2] 78 :: Sh 5 1 (by8 bs) a c :: Own 40 2 (en2 (xs ++ [(R1.1, R2.1)])) a1 c1 :: L) w := hS
      refine WL.r 1 rfl ?_
      refine WL.nil ?_
      as_aux_lemma =>
        refine WC.region ?_
        refine WL.r 2 rfl ?_
        refine WL.nw 19 rfl (w64 (by omega)) ?_
        refine WL.r 1 rfl ?_
        refine WL.nil ?_
        exact ⟨_, by omega, k + 1, xs ++ [(R1.1, R2.1)], R2.2.1, R2.2.2, _, _, rfl, (hS.sel 4 [3, 1, 1] rfl), (by omega), (by simp [hx]), (by assumption), (by rw [hr, show n.toNat - k = (n.toNat - (k + 1)) + 1 by omega, rEnts, if_neg (by simp [cd1.2])]; subst hR1 hR2; simp), rfl⟩
    · refine WC.exit ?_
      refine WC.seq ?_
      refine WC.region ?_
      refine WL.r 2 rfl ?_
      refine WL.nil ?_
      refine WC.ret ?_
      refine ⟨[.slice a2 (List.length (en2 xs)) c2], rfl, ?_⟩
      replace hS := (hS.sel 3 [1, 1, 0] rfl)
      have hr2 : rEnts bs n.toNat p e = (xs, q, e2) := by
        rw [hr]
        rcases Nat.eq_zero_or_pos (n.toNat - k) with h | h
        · rw [h]; simp [rEnts]
        · rw [rEnts_0 (by omega)]; simp
      rw [hr2]; exact ⟨_, _, rfl, hS⟩

theorem changes_spec {g w : World} {L : List HP} (r c : Nat) (a : Option Addr) (bs : List Int) (p : Nat) (e : Int) (n : Int) (hp : p ≤ bs.length) (hl : bs.length ≤ 1000000000) (hb : B8 bs) (hn : n ≤ 1000000000) (hS : St g (cel r #[.slice a (List.length (by8 bs)) c, .int .i64 (p : Int), .int .i64 e] 78 :: Sh 5 1 (by8 bs) a c :: L) w) :
    Sp Try.prog 47 [.pointer (some ⟨r, 0, none⟩), .int .i64 n] w (fun v w' => ∃ (a2 : Option Addr) (c2 : Nat), v = .slice a2 (List.length (ch4 (rChs bs n.toNat p e).1)) c2 ∧ St g (cel r #[.slice a (List.length (by8 bs)) c, .int .i64 ((rChs bs n.toNat p e).2.1 : Int), .int .i64 (rChs bs n.toNat p e).2.2] 78 :: Sh 5 1 (by8 bs) a c :: Own 63 4 (ch4 (rChs bs n.toNat p e).1) a2 c2 :: L) w') := by
  refine Sp.enter Try.func47 rfl (by kernel_rfl) (by kernel_rfl) ?_
  have _ := hn
  have _ := hb
  have _ := hl
  have _ := hp
  refine WC.seq ?_
  refine WC.region ?_
  refine WL.r 1 rfl ?_
  refine WL.nil ?_
  refine WC.seq ?_
  refine WC.region ?_
  refine WL.r 1 rfl ?_
  refine WL.nil ?_
  refine WC.seq ?_
  refine WC.seq ?_
  refine WC.region ?_
  refine WL.r 1 rfl ?_
  refine WL.nil ?_
  refine WC.block ?_
  replace hS := hS.nil_ 63 4
  refine WC.loop [0, 1, 4, 5, 6] (fun kM vs w => ∃ (k : Nat) (xs : List (Int × Int × Int × Int)) (q : Nat) (e2 : Int) (a2 : Option Addr) (c2 : Nat), vs = [.pointer (some ⟨r, 0, none⟩), .int .i64 n, .slice none 0 0, .slice a2 (List.length (ch4 xs)) c2, .int .i64 (k : Int)] ∧ St g (Own 63 4 (ch4 xs) a2 c2 :: cel r #[.slice a (List.length (by8 bs)) c, .int .i64 (q : Int), .int .i64 e2] 78 :: Sh 5 1 (by8 bs) a c :: L) w ∧ ((k : Int) ≤ n ∨ k = 0) ∧ (xs.length = k) ∧ (q ≤ bs.length) ∧ (rChs bs n.toNat p e = (xs ++ (rChs bs (n.toNat - k) q e2).1, (rChs bs (n.toNat - k) q e2).2)) ∧ (n.toNat - k) = kM) (n.toNat - 0) ⟨0, [], p, e, none, 0, rfl, hS, (by omega), (rfl), (by assumption), (rfl), rfl⟩ ?_
  clear hS; rintro _ _ w j ⟨k, xs, q, e2, a2, c2, rfl, hS, hk, hx, hq, hr, rfl⟩
  refine WC.seq ?_
  refine WC.seq ?_
  refine WC.region ?_
  refine WL.r 3 rfl ?_
  refine WL.runG 7 [.int .i64 e2] rfl (by exact (fun _ => hS.ld 1 rfl rfl)) (fun j => ?_)
  refine WL.prop 17 rfl (band (dd _) (dd _)) ?_
  refine WL.nil ?_
  as_aux_lemma =>
    refine WC.ifP rfl (fun cd1 => ?_) (fun cd1 => ?_)
    · refine WC.skip ?_
      refine WC.seq ?_
      refine WC.block ?_
      refine WC.seq ?_
      refine WC.region ?_
      refine WL.r 1 rfl ?_
      refine WL.call rfl rfl (byte_spec (r := r) (c := c) (a := a) (bs := bs) (p := q) (e := e2) (hp := (by assumption)) (hl := (by assumption)) (hb := (by assumption)) (hS := (hS.sel 3 [1, 1, 0] rfl))) rfl ?_
      generalize hR1 : rB bs q e2 = R1
      rintro _ w ⟨rfl, hS⟩
      have hR1f0 : R1.2.1 ≤ (List.length bs) := by rw [← hR1]; exact rB_le (by assumption)
      have hR1f1 : (0 ≤ R1.1) ∧ (R1.1 ≤ 255) := by rw [← hR1]; exact rB_b (by assumption)
      replace hS : St g (cel r #[.slice a (List.length (by8 bs)) c, .int .i64 (R1.2.1 : Int), .int .i64 R1.2.2] 78 :: Sh 5 1 (by8 bs) a c :: Own 63 4 (ch4 xs) a2 c2 :: L) w := hS
      refine WL.r 1 rfl ?_
      refine WL.nw 22 rfl (w64 (by omega)) ?_
      refine WL.build rfl rfl (cs := [.int .i64 R1.1, .int .i64 0, .int .i64 0, .int .i64 0]) zv_63 rfl rfl ?_
      refine WL.new rfl rfl zv_63 hS (fun b1 w hS => ?_)
      refine WL.stF rfl rfl rfl 0 hS rfl rfl rfl rfl rfl ag_63 (fun w hS => ?_)
      replace hS : St g (cel b1 #[.int .i64 R1.1, .int .i64 0, .int .i64 0, .int .i64 0] 63 :: cel r #[.slice a (List.length (by8 bs)) c, .int .i64 (R1.2.1 : Int), .int .i64 R1.2.2] 78 :: Sh 5 1 (by8 bs) a c :: Own 63 4 (ch4 xs) a2 c2 :: L) w := hS
      refine WL.nil ?_
      refine WC.seq ?_
      refine WC.region ?_
      refine WL.r 1 rfl ?_
      refine WL.call rfl rfl (signed_spec (r := r) (c := c) (a := a) (bs := bs) (p := R1.2.1) (e := R1.2.2) (hp := (by assumption)) (hl := (by assumption)) (hb := (by assumption)) (hS := (hS.sel 4 [1, 1, 0, 0] rfl))) rfl ?_
      generalize hR2 : rZ bs R1.2.1 R1.2.2 = R2
      rintro _ w ⟨rfl, hS⟩
      have hR2f0 : R2.2.1 ≤ (List.length bs) := by rw [← hR2]; exact rZ_le (by assumption)
      replace hS : St g (cel r #[.slice a (List.length (by8 bs)) c, .int .i64 (R2.2.1 : Int), .int .i64 R2.2.2] 78 :: Sh 5 1 (by8 bs) a c :: cel b1 #[.int .i64 R1.1, .int .i64 0, .int .i64 0, .int .i64 0] 63 :: Own 63 4 (ch4 xs) a2 c2 :: L) w := hS
      refine WL.r 1 rfl ?_
      refine WL.st rfl rfl rfl 2 hS rfl rfl rfl rfl rfl rfl (fun w hS => ?_)
      replace hS : St g (cel r #[.slice a (List.length (by8 bs)) c, .int .i64 (R2.2.1 : Int), .int .i64 R2.2.2] 78 :: Sh 5 1 (by8 bs) a c :: cel b1 #[.int .i64 R1.1, .int .i64 R2.1, .int .i64 0, .int .i64 0] 63 :: Own 63 4 (ch4 xs) a2 c2 :: L) w := hS
      refine WL.nil ?_
      as_aux_lemma =>
        refine WC.seq ?_
        refine WC.region ?_
        refine WL.r 1 rfl ?_
        refine WL.call rfl rfl (signed_spec (r := r) (c := c) (a := a) (bs := bs) (p := R2.2.1) (e := R2.2.2) (hp := (by assumption)) (hl := (by assumption)) (hb := (by assumption)) (hS := hS)) rfl ?_
        generalize hR3 : rZ bs R2.2.1 R2.2.2 = R3
        rintro _ w ⟨rfl, hS⟩
        have hR3f0 : R3.2.1 ≤ (List.length bs) := by rw [← hR3]; exact rZ_le (by assumption)
        replace hS : St g (cel r #[.slice a (List.length (by8 bs)) c, .int .i64 (R3.2.1 : Int), .int .i64 R3.2.2] 78 :: Sh 5 1 (by8 bs) a c :: cel b1 #[.int .i64 R1.1, .int .i64 R2.1, .int .i64 0, .int .i64 0] 63 :: Own 63 4 (ch4 xs) a2 c2 :: L) w := hS
        refine WL.r 1 rfl ?_
        refine WL.st rfl rfl rfl 2 hS rfl rfl rfl rfl rfl rfl (fun w hS => ?_)
        replace hS : St g (cel r #[.slice a (List.length (by8 bs)) c, .int .i64 (R3.2.1 : Int), .int .i64 R3.2.2] 78 :: Sh 5 1 (by8 bs) a c :: cel b1 #[.int .i64 R1.1, .int .i64 R2.1, .int .i64 R3.1, .int .i64 0] 63 :: Own 63 4 (ch4 xs) a2 c2 :: L) w := hS
        refine WL.nil ?_
        refine WC.seq ?_
        refine WC.region ?_
        refine WL.r 1 rfl ?_
        refine WL.call rfl rfl (signed_spec (r := r) (c := c) (a := a) (bs := bs) (p := R3.2.1) (e := R3.2.2) (hp := (by assumption)) (hl := (by assumption)) (hb := (by assumption)) (hS := hS)) rfl ?_
        generalize hR4 : rZ bs R3.2.1 R3.2.2 = R4
        rintro _ w ⟨rfl, hS⟩
        have hR4f0 : R4.2.1 ≤ (List.length bs) := by rw [← hR4]; exact rZ_le (by assumption)
        replace hS : St g (cel r #[.slice a (List.length (by8 bs)) c, .int .i64 (R4.2.1 : Int), .int .i64 R4.2.2] 78 :: Sh 5 1 (by8 bs) a c :: cel b1 #[.int .i64 R1.1, .int .i64 R2.1, .int .i64 R3.1, .int .i64 0] 63 :: Own 63 4 (ch4 xs) a2 c2 :: L) w := hS
        refine WL.r 1 rfl ?_
        refine WL.st rfl rfl rfl 2 hS rfl rfl rfl rfl rfl rfl (fun w hS => ?_)
        replace hS : St g (cel r #[.slice a (List.length (by8 bs)) c, .int .i64 (R4.2.1 : Int), .int .i64 R4.2.2] 78 :: Sh 5 1 (by8 bs) a c :: cel b1 #[.int .i64 R1.1, .int .i64 R2.1, .int .i64 R3.1, .int .i64 R4.1] 63 :: Own 63 4 (ch4 xs) a2 c2 :: L) w := hS
        refine WL.nil ?_
        refine WC.region ?_
        refine WL.r 1 rfl ?_
        refine WL.ldF rfl rfl 2 hS rfl rfl ag_63 ?_
        refine WL.lit rfl rfl (ch4 [(R1.1, R2.1, R3.1, R4.1)]) el_25 hS (by exact ⟨rfl, rfl⟩) (ch4_ok _) rfl (by decide) (fun b2 w hS => ?_)
        refine WL.app rfl rfl 4 (ch4 (xs ++ [(R1.1, R2.1, R3.1, R4.1)])) el_25 hS rfl (hS.srcO 0 rfl) (ch4_app _ _).symm (Rm.of (by first | omega | (simp <;> omega)) (by decide)) rfl rfl (fun a1 c1 w hS => ?_)
        replace hS : St g (Own 63 4 (ch4 [(R1.1, R2.1, R3.1, R4.1)]) (some ⟨b2, 0, none⟩) (List.length (ch4 [(R1.1, R2.1, R3.1, R4.1)])) :: cel r #[.slice a (List.length (by8 bs)) c, .int .i64 (R4.2.1 : Int), .int .i64 R4.2.2] 78 :: Sh 5 1 (by8 bs) a c :: cel b1 #[.int .i64 R1.1, .int .i64 R2.1, .int .i64 R3.1, .int .i64 R4.1] 63 :: Own 63 4 (ch4 (xs ++ [(R1.1, R2.1, R3.1, R4.1)])) a1 c1 :: L) w := hS
        refine WL.r 1 rfl ?_
        refine WL.nil ?_
        as_aux_lemma =>
          refine WC.region ?_
          refine WL.r 2 rfl ?_
          refine WL.nw 19 rfl (w64 (by omega)) ?_
          refine WL.r 1 rfl ?_
          refine WL.nil ?_
          exact ⟨_, by omega, k + 1, xs ++ [(R1.1, R2.1, R3.1, R4.1)], R4.2.1, R4.2.2, _, _, rfl, (hS.sel 5 [4, 1, 1] rfl), (by omega), (by simp [hx]), (by assumption), (by rw [hr, show n.toNat - k = (n.toNat - (k + 1)) + 1 by omega, rChs, if_neg (by simp [cd1.2])]; subst hR1 hR2 hR3 hR4; simp), rfl⟩
    · refine WC.exit ?_
      refine WC.seq ?_
      refine WC.region ?_
      refine WL.r 2 rfl ?_
      refine WL.nil ?_
      refine WC.ret ?_
      refine ⟨[.slice a2 (List.length (ch4 xs)) c2], rfl, ?_⟩
      replace hS := (hS.sel 3 [1, 1, 0] rfl)
      have hr2 : rChs bs n.toNat p e = (xs, q, e2) := by
        rw [hr]
        rcases Nat.eq_zero_or_pos (n.toNat - k) with h | h
        · rw [h]; simp [rChs]
        · rw [rChs_0 (by omega)]; simp
      rw [hr2]; exact ⟨_, _, rfl, hS⟩
end Go.Proofs.Ytofnoopjlmdelaa
