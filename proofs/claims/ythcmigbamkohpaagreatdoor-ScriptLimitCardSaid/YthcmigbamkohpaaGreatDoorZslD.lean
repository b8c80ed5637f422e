/-
  The row of ScriptLimit: for every input the law returns true, and the arguments read as before.
  Conditions: none.
-/
import Derived.Test.YthcmigbamkohpaaGreatDoorZslC
/-! ## Rd2 -/
namespace Go.Proofs.YthcmigbamkohpaaGreatDoor
open Go Go.V
set_option maxRecDepth 8192 in
theorem bytes_spec {g w : World} {L : List HP} (r c : Nat) (a : Option Addr) (bs : List Int) (p : Nat) (e : Int) (n : Int) (hp : p ≤ bs.length) (hl : bs.length ≤ 1000000000) (hb : B8 bs) (hn : 0 ≤ n ∧ n ≤ 1000000000) (hS : St g (cel r #[.slice a (List.length (by8 bs)) c, .int .i64 (p : Int), .int .i64 e] 64 :: Sh 5 1 (by8 bs) a c :: L) w) :
    Sp Tryz.prog 35 [.pointer (some ⟨r, 0, none⟩), .int .i64 n] w (fun v w' => ∃ (a2 : Option Addr) (c2 : Nat), v = .slice a2 (List.length (by8 (rBytes bs n.toNat p e).1)) c2 ∧ St g (cel r #[.slice a (List.length (by8 bs)) c, .int .i64 ((rBytes bs n.toNat p e).2.1 : Int), .int .i64 (rBytes bs n.toNat p e).2.2] 64 :: Sh 5 1 (by8 bs) a c :: Own 5 1 (by8 (rBytes bs n.toNat p e).1) a2 c2 :: L) w') := by
  refine Sp.enter Tryz.func35 rfl (by kernel_rfl) (by kernel_rfl) ?_
  have _ := hn
  have _ := hb
  have _ := hl
  have _ := hp
  refine WC.seq ?_
  refine WC.region ?_
  refine WL.r 1 rfl ?_
  refine WL.nil ?_
  refine WC.seq ?_
  refine WC.seq ?_
  refine WC.region ?_
  have hl8 := by8_len bs
  refine WL.r 2 rfl ?_
  refine WL.call rfl rfl (left_spec (r := r) (n := List.length (by8 bs)) (c := c) (a := a) (p := p) (e := e) (h1 := (by simp only [by8_len]; assumption)) (h2 := (by simp only [by8_len]; assumption)) (hS := hS)) rfl ?_
  clear hS; rintro _ w ⟨rfl, hS⟩
  replace hS : St g (cel r #[.slice a (List.length (by8 bs)) c, .int .i64 (p : Int), .int .i64 e] 64 :: Sh 5 1 (by8 bs) a c :: L) w := hS
  refine WL.r 1 rfl ?_
  refine WL.nil ?_
  refine WC.ifP rfl (fun cd1 => ?_) (fun cd1 => ?_)
  · refine WC.region ?_
    refine WL.r 1 rfl ?_
    refine WL.call rfl rfl (fail_spec (r := r) (n := List.length (by8 bs)) (c := c) (a := a) (p := (p : Int)) (e := e) (e2 := 12)  (hS := hS)) rfl ?_
    clear hS; rintro _ w ⟨rfl, hS⟩
    replace hS : St g (cel r #[.slice a (List.length (by8 bs)) c, .int .i64 (p : Int), .int .i64 (fl e 12)] 64 :: Sh 5 1 (by8 bs) a c :: L) w := hS
    refine WL.nil ?_
    refine WC.seq ?_
    refine WC.seq ?_
    refine WC.region ?_
    refine WL.run 5 [.int .i64 (fl e 12)] rfl (by exact hS.ld 0 rfl rfl) ?_
    refine WL.rG 4 rfl (fun j => ?_)
    refine WL.prop 20 rfl (bor (dd _) (dd _)) ?_
    refine WL.nil ?_
    as_aux_lemma =>
      refine WC.ifT rfl (decide_eq_true (Or.inl (by unfold fl; split <;> omega))) ?_
      refine WC.seq ?_
      refine WC.region ?_
      refine WL.r 1 rfl ?_
      refine WL.nil ?_
      refine WC.ret ?_
      refine ⟨[.slice none 0 0], rfl, ?_⟩
      replace hS := hS.nil_ 5 1
      replace hS := (hS.sel 3 [1, 1, 0] rfl)
      have hr : rBytes bs n.toNat p e = ([], p, fl e 12) := by rw [rBytes, if_pos (by omega)]
      rw [hr]; exact ⟨_, _, rfl, hS⟩
  · refine WC.skip ?_
    refine WC.seq ?_
    refine WC.seq ?_
    refine WC.region ?_
    refine WL.run 5 [.int .i64 e] rfl (by exact hS.ld 0 rfl rfl) ?_
    refine WL.rG 4 rfl (fun j => ?_)
    refine WL.prop 20 rfl (bor (dd _) (dd _)) ?_
    refine WL.nil ?_
    refine WC.ifP rfl (fun cd2 => ?_) (fun cd2 => ?_)
    · refine WC.seq ?_
      refine WC.region ?_
      refine WL.r 1 rfl ?_
      refine WL.nil ?_
      as_aux_lemma =>
        refine WC.ret ?_
        refine ⟨[.slice none 0 0], rfl, ?_⟩
        replace hS := hS.nil_ 5 1
        replace hS := (hS.sel 3 [1, 1, 0] rfl)
        have hr : rBytes bs n.toNat p e = ([], p, e) := by rw [rBytes, if_neg (by omega), if_pos (by omega)]
        rw [hr]; exact ⟨_, _, rfl, hS⟩
    · refine WC.skip ?_
      as_aux_lemma =>
        refine WC.seq ?_
        refine WC.plan [([0, 4, 8, 12, 1, 5, 9, 2, 6, 10, 3, 7, 11, 13], some (14, [])), ([], some (15, [])), ([16], none)] (by kernel_rfl) (by kernel_rfl) ?_
        refine WQ.run 14 [.slice a (List.length (by8 bs)) c, .int .i64 (p : Int), .int .i64 (p : Int)] rfl (by exact ⟨hS.ld 0 rfl rfl, hS.ld 0 rfl rfl, hS.ld 0 rfl rfl⟩) ?_
        refine WQ.nw 34 rfl (w64 (by omega)) ?_
        refine WQ.nil ?_
        intro m1
        replace hS := hS.drewN m1; generalize hwm1 : World.drewN _ _ = w at *; clear hwm1
        refine WL.slLH rfl rfl (v := (p : Int)) (v' := (p : Int) + n) 1 (p) (p + n.toNat) (by8 ((bs.drop p).take n.toNat)) el_24 hS rfl rfl rfl (by omega) rfl (by omega) (by omega) (by omega) (by rw [by8_take, by8_drop, List.drop_take]; congr 2; omega) (fun a1 hS => ?_)
        replace hS : St g (Sh 5 1 (by8 ((bs.drop p).take n.toNat)) a1 (c - p) :: cel r #[.slice a (List.length (by8 bs)) c, .int .i64 (p : Int), .int .i64 e] 64 :: Sh 5 1 (by8 bs) a c :: L) w := hS
        refine WL.nil ?_
        refine ⟨by exact trivial, ?_⟩
        refine WQ.nil ?_
        intro m2
        replace hS := hS.drewN m2; generalize hwm2 : World.drewN _ _ = w at *; clear hwm2
        replace hS := hS.nil_ 5 1
        refine WL.app rfl rfl 0 (by8 ((bs.drop p).take n.toNat)) el_24 hS rfl (hS.srcS 1 rfl) (List.nil_append _) (Rm.of (by first | omega | (simp <;> omega)) (by decide)) rfl rfl (fun a2 c1 w hS => ?_)
        replace hS : St g (Own 5 1 (by8 ((bs.drop p).take n.toNat)) a2 c1 :: Sh 5 1 (by8 ((bs.drop p).take n.toNat)) a1 (c - p) :: cel r #[.slice a (List.length (by8 bs)) c, .int .i64 (p : Int), .int .i64 e] 64 :: Sh 5 1 (by8 bs) a c :: L) w := hS
        refine WL.nil ?_
        refine ⟨by exact trivial, ?_⟩
        refine WQ.r 1 rfl ?_
        refine WQ.nil ?_
        intro m3
        replace hS := hS.drewN m3; generalize hwm3 : World.drewN _ _ = w at *; clear hwm3
        refine WC.seq ?_
        refine WC.region ?_
        refine WL.run 6 [.int .i64 (p : Int)] rfl (by exact hS.ld 2 rfl rfl) ?_
        refine WL.nw 42 rfl (w64 (by omega)) ?_
        refine WL.r 2 rfl ?_
        refine WL.st rfl rfl rfl 2 hS rfl rfl rfl rfl rfl rfl (fun w hS => ?_)
        replace hS : St g (Own 5 1 (by8 ((bs.drop p).take n.toNat)) a2 c1 :: Sh 5 1 (by8 ((bs.drop p).take n.toNat)) a1 (c - p) :: cel r #[.slice a (List.length (by8 bs)) c, .int .i64 ((p : Int) + n), .int .i64 e] 64 :: Sh 5 1 (by8 bs) a c :: L) w := hS
        refine WL.nil ?_
        as_aux_lemma =>
          refine WC.seq ?_
          refine WC.region ?_
          refine WL.r 2 rfl ?_
          refine WL.nil ?_
          refine WC.ret ?_
          refine ⟨[.slice a2 (List.length (by8 ((bs.drop p).take n.toNat))) c1], rfl, ?_⟩
          replace hS := (hS.sel 4 [2, 2, 0] rfl)
          have hr : rBytes bs n.toNat p e = ((bs.drop p).take n.toNat, p + n.toNat, e) := by rw [rBytes, if_neg (by omega), if_neg (by omega)]
          rw [hr]; rw [show (p : Int) + n = ((p + n.toNat : Nat) : Int) by omega] at hS; exact ⟨_, _, rfl, hS⟩
set_option maxRecDepth 8192 in
theorem entries_spec {g w : World} {L : List HP} (r c : Nat) (a : Option Addr) (bs : List Int) (p : Nat) (e : Int) (n : Int) (hp : p ≤ bs.length) (hl : bs.length ≤ 1000000000) (hb : B8 bs) (hn : n ≤ 1000000000) (hS : St g (cel r #[.slice a (List.length (by8 bs)) c, .int .i64 (p : Int), .int .i64 e] 64 :: Sh 5 1 (by8 bs) a c :: L) w) :
    Sp Tryz.prog 36 [.pointer (some ⟨r, 0, none⟩), .int .i64 n] w (fun v w' => ∃ (a2 : Option Addr) (c2 : Nat), v = .slice a2 (List.length (en2 (rEnts bs n.toNat p e).1)) c2 ∧ St g (cel r #[.slice a (List.length (by8 bs)) c, .int .i64 ((rEnts bs n.toNat p e).2.1 : Int), .int .i64 (rEnts bs n.toNat p e).2.2] 64 :: Sh 5 1 (by8 bs) a c :: Own 48 2 (en2 (rEnts bs n.toNat p e).1) a2 c2 :: L) w') := by
  refine Sp.enter Tryz.func36 rfl (by kernel_rfl) (by kernel_rfl) ?_
  have _ := hn
  have _ := hb
  have _ := hl
  have _ := hp
  refine WC.seq ?_
  refine WC.region ?_
  refine WL.r 1 rfl ?_
  refine WL.nil ?_
  refine WC.seq ?_
  refine WC.region ?_
  refine WL.r 1 rfl ?_
  refine WL.nil ?_
  refine WC.seq ?_
  refine WC.seq ?_
  refine WC.region ?_
  refine WL.r 1 rfl ?_
  refine WL.nil ?_
  refine WC.block ?_
  replace hS := hS.nil_ 48 2
  refine WC.loop [0, 1, 4, 5, 6] (fun kM vs w => ∃ (k : Nat) (xs : List (Int × Int)) (q : Nat) (e2 : Int) (a2 : Option Addr) (c2 : Nat), vs = [.pointer (some ⟨r, 0, none⟩), .int .i64 n, .slice none 0 0, .slice a2 (List.length (en2 xs)) c2, .int .i64 (k : Int)] ∧ St g (Own 48 2 (en2 xs) a2 c2 :: cel r #[.slice a (List.length (by8 bs)) c, .int .i64 (q : Int), .int .i64 e2] 64 :: Sh 5 1 (by8 bs) a c :: L) w ∧ ((k : Int) ≤ n ∨ k = 0) ∧ (xs.length = k) ∧ (q ≤ bs.length) ∧ (rEnts bs n.toNat p e = (xs ++ (rEnts bs (n.toNat - k) q e2).1, (rEnts bs (n.toNat - k) q e2).2)) ∧ (n.toNat - k) = kM) (n.toNat - 0) ⟨0, [], p, e, none, 0, rfl, hS, (by omega), (rfl), (by assumption), (rfl), rfl⟩ ?_
  clear hS; rintro _ _ w j ⟨k, xs, q, e2, a2, c2, rfl, hS, hk, hx, hq, hr, rfl⟩
  refine WC.seq ?_
  refine WC.seq ?_
  refine WC.region ?_
  refine WL.r 3 rfl ?_
  refine WL.runG 7 [.int .i64 e2] rfl (by exact (fun _ => hS.ld 1 rfl rfl)) (fun j => ?_)
  refine WL.prop 17 rfl (band (dd _) (dd _)) ?_
  refine WL.nil ?_
  as_aux_lemma =>
    refine WC.ifP rfl (fun cd1 => ?_) (fun cd1 => ?_)
    · refine WC.skip ?_
      refine WC.seq ?_
      refine WC.block ?_
      refine WC.seq ?_
      refine WC.region ?_
      refine WL.r 1 rfl ?_
      refine WL.call rfl rfl (signed_spec (r := r) (c := c) (a := a) (bs := bs) (p := q) (e := e2) (hp := (by assumption)) (hl := (by assumption)) (hb := (by assumption)) (hS := (hS.sel 3 [1, 1, 0] rfl))) rfl ?_
      generalize hR1 : rZ bs q e2 = R1
      clear hS; rintro _ w ⟨rfl, hS⟩
      have hR1f0 : R1.2.1 ≤ (List.length bs) := by rw [← hR1]; exact rZ_le (by assumption)
      replace hS : St g (cel r #[.slice a (List.length (by8 bs)) c, .int .i64 (R1.2.1 : Int), .int .i64 R1.2.2] 64 :: Sh 5 1 (by8 bs) a c :: Own 48 2 (en2 xs) a2 c2 :: L) w := hS
      refine WL.r 1 rfl ?_
      refine WL.nil ?_
      refine WC.region ?_
      refine WL.r 3 rfl ?_
      refine WL.call rfl rfl (signed_spec (r := r) (c := c) (a := a) (bs := bs) (p := R1.2.1) (e := R1.2.2) (hp := (by assumption)) (hl := (by assumption)) (hb := (by assumption)) (hS := hS)) rfl ?_
      generalize hR2 : rZ bs R1.2.1 R1.2.2 = R2
      clear hS; rintro _ w ⟨rfl, hS⟩
      have hR2f0 : R2.2.1 ≤ (List.length bs) := by rw [← hR2]; exact rZ_le (by assumption)
      replace hS : St g (cel r #[.slice a (List.length (by8 bs)) c, .int .i64 (R2.2.1 : Int), .int .i64 R2.2.2] 64 :: Sh 5 1 (by8 bs) a c :: Own 48 2 (en2 xs) a2 c2 :: L) w := hS
      refine WL.build rfl rfl (cs := [.int .i64 R1.1, .int .i64 R2.1]) zv_48 rfl rfl ?_
      refine WL.lit rfl rfl (en2 [(R1.1, R2.1)]) el_26 hS (by exact ⟨rfl, rfl⟩) (en2_ok _) rfl (by decide) (fun b1 w hS => ?_)
      refine WL.app rfl rfl 3 (en2 (xs ++ [(R1.1, R2.1)])) el_26 hS rfl (hS.srcO 0 rfl) (en2_app _ _).symm (Rm.of (by first | omega | (simp <;> omega)) (by decide)) rfl rfl (fun a1 c1 w hS => ?_)
      replace hS : St g (Own 48 2 (en2 [(R1.1, R2.1)]) (some ⟨b1, 0, none⟩) (List.length (en2 [(R1.1, R2.1)])) :: cel r #[.slice a (List.length (by8 bs)) c, .int .i64 (R2.2.1 : Int), .int .i64 R2.2.2] 64 :: Sh 5 1 (by8 bs) a c :: Own 48 2 (en2 (xs ++ [(R1.1, R2.1)])) a1 c1 :: L) w := hS
      refine WL.r 1 rfl ?_
      refine WL.nil ?_
      as_aux_lemma =>
        refine WC.region ?_
        refine WL.r 2 rfl ?_
        refine WL.nw 19 rfl (w64 (by omega)) ?_
        refine WL.r 1 rfl ?_
        refine WL.nil ?_
        exact ⟨_, by omega, k + 1, xs ++ [(R1.1, R2.1)], R2.2.1, R2.2.2, _, _, rfl, (hS.sel 4 [3, 1, 1] rfl), (by omega), (by simp [hx]), (by assumption), (by rw [hr, show n.toNat - k = (n.toNat - (k + 1)) + 1 by omega, rEnts, if_neg (by simp [cd1.2])]; subst hR1 hR2; simp), rfl⟩
    · refine WC.exit ?_
      refine WC.seq ?_
      refine WC.region ?_
      refine WL.r 2 rfl ?_
      refine WL.nil ?_
      refine WC.ret ?_
      refine ⟨[.slice a2 (List.length (en2 xs)) c2], rfl, ?_⟩
      replace hS := (hS.sel 3 [1, 1, 0] rfl)
      have hr2 : rEnts bs n.toNat p e = (xs, q, e2) := by
        rw [hr]
        rcases Nat.eq_zero_or_pos (n.toNat - k) with h | h
        · rw [h]; simp [rEnts]
        · rw [rEnts_0 (by omega)]; simp
      rw [hr2]; exact ⟨_, _, rfl, hS⟩
set_option maxRecDepth 8192 in
theorem changes_spec {g w : World} {L : List HP} (r c : Nat) (a : Option Addr) (bs : List Int) (p : Nat) (e : Int) (n : Int) (hp : p ≤ bs.length) (hl : bs.length ≤ 1000000000) (hb : B8 bs) (hn : n ≤ 1000000000) (hS : St g (cel r #[.slice a (List.length (by8 bs)) c, .int .i64 (p : Int), .int .i64 e] 64 :: Sh 5 1 (by8 bs) a c :: L) w) :
    Sp Tryz.prog 38 [.pointer (some ⟨r, 0, none⟩), .int .i64 n] w (fun v w' => ∃ (a2 : Option Addr) (c2 : Nat), v = .slice a2 (List.length (ch4 (rChs bs n.toNat p e).1)) c2 ∧ St g (cel r #[.slice a (List.length (by8 bs)) c, .int .i64 ((rChs bs n.toNat p e).2.1 : Int), .int .i64 (rChs bs n.toNat p e).2.2] 64 :: Sh 5 1 (by8 bs) a c :: Own 77 4 (ch4 (rChs bs n.toNat p e).1) a2 c2 :: L) w') := by
  refine Sp.enter Tryz.func38 rfl (by kernel_rfl) (by kernel_rfl) ?_
  have _ := hn
  have _ := hb
  have _ := hl
  have _ := hp
  refine WC.seq ?_
  refine WC.region ?_
  refine WL.r 1 rfl ?_
  refine WL.nil ?_
  refine WC.seq ?_
  refine WC.region ?_
  refine WL.r 1 rfl ?_
  refine WL.nil ?_
  refine WC.seq ?_
  refine WC.seq ?_
  refine WC.region ?_
  refine WL.r 1 rfl ?_
  refine WL.nil ?_
  refine WC.block ?_
  replace hS := hS.nil_ 77 4
  refine WC.loop [0, 1, 4, 5, 6] (fun kM vs w => ∃ (k : Nat) (xs : List (Int × Int × Int × Int)) (q : Nat) (e2 : Int) (a2 : Option Addr) (c2 : Nat), vs = [.pointer (some ⟨r, 0, none⟩), .int .i64 n, .slice none 0 0, .slice a2 (List.length (ch4 xs)) c2, .int .i64 (k : Int)] ∧ St g (Own 77 4 (ch4 xs) a2 c2 :: cel r #[.slice a (List.length (by8 bs)) c, .int .i64 (q : Int), .int .i64 e2] 64 :: Sh 5 1 (by8 bs) a c :: L) w ∧ ((k : Int) ≤ n ∨ k = 0) ∧ (xs.length = k) ∧ (q ≤ bs.length) ∧ (rChs bs n.toNat p e = (xs ++ (rChs bs (n.toNat - k) q e2).1, (rChs bs (n.toNat - k) q e2).2)) ∧ (n.toNat - k) = kM) (n.toNat - 0) ⟨0, [], p, e, none, 0, rfl, hS, (by omega), (rfl), (by assumption), (rfl), rfl⟩ ?_
  clear hS; rintro _ _ w j ⟨k, xs, q, e2, a2, c2, rfl, hS, hk, hx, hq, hr, rfl⟩
  refine WC.seq ?_
  refine WC.seq ?_
  refine WC.region ?_
  refine WL.r 3 rfl ?_
  refine WL.runG 7 [.int .i64 e2] rfl (by exact (fun _ => hS.ld 1 rfl rfl)) (fun j => ?_)
  refine WL.prop 17 rfl (band (dd _) (dd _)) ?_
  refine WL.nil ?_
  as_aux_lemma =>
    refine WC.ifP rfl (fun cd1 => ?_) (fun cd1 => ?_)
    · refine WC.skip ?_
      refine WC.seq ?_
      refine WC.block ?_
      refine WC.seq ?_
      refine WC.region ?_
      refine WL.r 1 rfl ?_
      refine WL.call rfl rfl (byte_spec (r := r) (c := c) (a := a) (bs := bs) (p := q) (e := e2) (hp := (by assumption)) (hl := (by assumption)) (hb := (by assumption)) (hS := (hS.sel 3 [1, 1, 0] rfl))) rfl ?_
      generalize hR1 : rB bs q e2 = R1
      clear hS; rintro _ w ⟨rfl, hS⟩
      have hR1f0 : R1.2.1 ≤ (List.length bs) := by rw [← hR1]; exact rB_le (by assumption)
      have hR1f1 : (0 ≤ R1.1) ∧ (R1.1 ≤ 255) := by rw [← hR1]; exact rB_b (by assumption)
      replace hS : St g (cel r #[.slice a (List.length (by8 bs)) c, .int .i64 (R1.2.1 : Int), .int .i64 R1.2.2] 64 :: Sh 5 1 (by8 bs) a c :: Own 77 4 (ch4 xs) a2 c2 :: L) w := hS
      refine WL.r 1 rfl ?_
      refine WL.nw 22 rfl (w64 (by omega)) ?_
      refine WL.build rfl rfl (cs := [.int .i64 R1.1, .int .i64 0, .int .i64 0, .int .i64 0]) zv_77 rfl rfl ?_
      refine WL.new rfl rfl zv_77 hS (fun b1 w hS => ?_)
      refine WL.stF rfl rfl rfl 0 hS rfl rfl rfl rfl rfl ag_77 (fun w hS => ?_)
      replace hS : St g (cel b1 #[.int .i64 R1.1, .int .i64 0, .int .i64 0, .int .i64 0] 77 :: cel r #[.slice a (List.length (by8 bs)) c, .int .i64 (R1.2.1 : Int), .int .i64 R1.2.2] 64 :: Sh 5 1 (by8 bs) a c :: Own 77 4 (ch4 xs) a2 c2 :: L) w := hS
      refine WL.nil ?_
      refine WC.seq ?_
      refine WC.region ?_
      refine WL.r 1 rfl ?_
      refine WL.call rfl rfl (signed_spec (r := r) (c := c) (a := a) (bs := bs) (p := R1.2.1) (e := R1.2.2) (hp := (by assumption)) (hl := (by assumption)) (hb := (by assumption)) (hS := (hS.sel 3 [1, 1, 0] rfl))) rfl ?_
      generalize hR2 : rZ bs R1.2.1 R1.2.2 = R2
      clear hS; rintro _ w ⟨rfl, hS⟩
      have hR2f0 : R2.2.1 ≤ (List.length bs) := by rw [← hR2]; exact rZ_le (by assumption)
      replace hS : St g (cel r #[.slice a (List.length (by8 bs)) c, .int .i64 (R2.2.1 : Int), .int .i64 R2.2.2] 64 :: Sh 5 1 (by8 bs) a c :: cel b1 #[.int .i64 R1.1, .int .i64 0, .int .i64 0, .int .i64 0] 77 :: Own 77 4 (ch4 xs) a2 c2 :: L) w := hS
      refine WL.r 1 rfl ?_
      refine WL.st rfl rfl rfl 2 hS rfl rfl rfl rfl rfl rfl (fun w hS => ?_)
      replace hS : St g (cel r #[.slice a (List.length (by8 bs)) c, .int .i64 (R2.2.1 : Int), .int .i64 R2.2.2] 64 :: Sh 5 1 (by8 bs) a c :: cel b1 #[.int .i64 R1.1, .int .i64 R2.1, .int .i64 0, .int .i64 0] 77 :: Own 77 4 (ch4 xs) a2 c2 :: L) w := hS
      refine WL.nil ?_
      as_aux_lemma =>
        refine WC.seq ?_
        refine WC.region ?_
        refine WL.r 1 rfl ?_
        refine WL.call rfl rfl (signed_spec (r := r) (c := c) (a := a) (bs := bs) (p := R2.2.1) (e := R2.2.2) (hp := (by assumption)) (hl := (by assumption)) (hb := (by assumption)) (hS := hS)) rfl ?_
        generalize hR3 : rZ bs R2.2.1 R2.2.2 = R3
        clear hS; rintro _ w ⟨rfl, hS⟩
        have hR3f0 : R3.2.1 ≤ (List.length bs) := by rw [← hR3]; exact rZ_le (by assumption)
        replace hS : St g (cel r #[.slice a (List.length (by8 bs)) c, .int .i64 (R3.2.1 : Int), .int .i64 R3.2.2] 64 :: Sh 5 1 (by8 bs) a c :: cel b1 #[.int .i64 R1.1, .int .i64 R2.1, .int .i64 0, .int .i64 0] 77 :: Own 77 4 (ch4 xs) a2 c2 :: L) w := hS
        refine WL.r 1 rfl ?_
        refine WL.st rfl rfl rfl 2 hS rfl rfl rfl rfl rfl rfl (fun w hS => ?_)
        replace hS : St g (cel r #[.slice a (List.length (by8 bs)) c, .int .i64 (R3.2.1 : Int), .int .i64 R3.2.2] 64 :: Sh 5 1 (by8 bs) a c :: cel b1 #[.int .i64 R1.1, .int .i64 R2.1, .int .i64 R3.1, .int .i64 0] 77 :: Own 77 4 (ch4 xs) a2 c2 :: L) w := hS
        refine WL.nil ?_
        refine WC.seq ?_
        refine WC.region ?_
        refine WL.r 1 rfl ?_
        refine WL.call rfl rfl (signed_spec (r := r) (c := c) (a := a) (bs := bs) (p := R3.2.1) (e := R3.2.2) (hp := (by assumption)) (hl := (by assumption)) (hb := (by assumption)) (hS := hS)) rfl ?_
        generalize hR4 : rZ bs R3.2.1 R3.2.2 = R4
        clear hS; rintro _ w ⟨rfl, hS⟩
        have hR4f0 : R4.2.1 ≤ (List.length bs) := by rw [← hR4]; exact rZ_le (by assumption)
        replace hS : St g (cel r #[.slice a (List.length (by8 bs)) c, .int .i64 (R4.2.1 : Int), .int .i64 R4.2.2] 64 :: Sh 5 1 (by8 bs) a c :: cel b1 #[.int .i64 R1.1, .int .i64 R2.1, .int .i64 R3.1, .int .i64 0] 77 :: Own 77 4 (ch4 xs) a2 c2 :: L) w := hS
        refine WL.r 1 rfl ?_
        refine WL.st rfl rfl rfl 2 hS rfl rfl rfl rfl rfl rfl (fun w hS => ?_)
        replace hS : St g (cel r #[.slice a (List.length (by8 bs)) c, .int .i64 (R4.2.1 : Int), .int .i64 R4.2.2] 64 :: Sh 5 1 (by8 bs) a c :: cel b1 #[.int .i64 R1.1, .int .i64 R2.1, .int .i64 R3.1, .int .i64 R4.1] 77 :: Own 77 4 (ch4 xs) a2 c2 :: L) w := hS
        refine WL.nil ?_
        refine WC.region ?_
        refine WL.r 1 rfl ?_
        refine WL.ldF rfl rfl 2 hS rfl rfl ag_77 ?_
        refine WL.lit rfl rfl (ch4 [(R1.1, R2.1, R3.1, R4.1)]) el_27 hS (by exact ⟨rfl, rfl⟩) (ch4_ok _) rfl (by decide) (fun b2 w hS => ?_)
        refine WL.app rfl rfl 4 (ch4 (xs ++ [(R1.1, R2.1, R3.1, R4.1)])) el_27 hS rfl (hS.srcO 0 rfl) (ch4_app _ _).symm (Rm.of (by first | omega | (simp <;> omega)) (by decide)) rfl rfl (fun a1 c1 w hS => ?_)
        replace hS : St g (Own 77 4 (ch4 [(R1.1, R2.1, R3.1, R4.1)]) (some ⟨b2, 0, none⟩) (List.length (ch4 [(R1.1, R2.1, R3.1, R4.1)])) :: cel r #[.slice a (List.length (by8 bs)) c, .int .i64 (R4.2.1 : Int), .int .i64 R4.2.2] 64 :: Sh 5 1 (by8 bs) a c :: cel b1 #[.int .i64 R1.1, .int .i64 R2.1, .int .i64 R3.1, .int .i64 R4.1] 77 :: Own 77 4 (ch4 (xs ++ [(R1.1, R2.1, R3.1, R4.1)])) a1 c1 :: L) w := hS
        refine WL.r 1 rfl ?_
        refine WL.nil ?_
        as_aux_lemma =>
          refine WC.region ?_
          refine WL.r 2 rfl ?_
          refine WL.nw 19 rfl (w64 (by omega)) ?_
          refine WL.r 1 rfl ?_
          refine WL.nil ?_
          exact ⟨_, by omega, k + 1, xs ++ [(R1.1, R2.1, R3.1, R4.1)], R4.2.1, R4.2.2, _, _, rfl, (hS.sel 5 [4, 1, 1] rfl), (by omega), (by simp [hx]), (by assumption), (by rw [hr, show n.toNat - k = (n.toNat - (k + 1)) + 1 by omega, rChs, if_neg (by simp [cd1.2])]; subst hR1 hR2 hR3 hR4; simp), rfl⟩
    · refine WC.exit ?_
      refine WC.seq ?_
      refine WC.region ?_
      refine WL.r 2 rfl ?_
      refine WL.nil ?_
      refine WC.ret ?_
      refine ⟨[.slice a2 (List.length (ch4 xs)) c2], rfl, ?_⟩
      replace hS := (hS.sel 3 [1, 1, 0] rfl)
      have hr2 : rChs bs n.toNat p e = (xs, q, e2) := by
        rw [hr]
        rcases Nat.eq_zero_or_pos (n.toNat - k) with h | h
        · rw [h]; simp [rChs]
        · rw [rChs_0 (by omega)]; simp
      rw [hr2]; exact ⟨_, _, rfl, hS⟩
end Go.Proofs.YthcmigbamkohpaaGreatDoor
/-! ## Nxa -/
namespace Go.Proofs.YthcmigbamkohpaaGreatDoor
open Go Go.V
set_option maxRecDepth 8192 in
theorem nextAnswer_spec {g w : World} {L : List HP} (a : Option Addr) (c : Nat) (bs : List Int) (p : Int) (hl : bs.length ≤ 1000000000) (hb : B8 bs) (hS : St g (Sh 5 1 (by8 bs) a c :: L) w) :
    Sp Tryz.prog 22 [.slice a (List.length (by8 bs)) c, .int .i64 p] w (fun v w' => ∃ (ab ae ac ak : Option Addr) (cb ce cc ck : Nat), v = .tuple #[.agg #[.int .i64 (rNxa bs p).1.err, .int .u64 (rNxa bs p).1.handle, .int .i64 (rNxa bs p).1.value, .bool (rNxa bs p).1.found, .int .i64 (rNxa bs p).1.n, .int .i64 (rNxa bs p).1.ekey, .int .i64 (rNxa bs p).1.eval, .int .i64 (rNxa bs p).1.count, .int .i64 (rNxa bs p).1.sum, .int .i64 (rNxa bs p).1.mn, .int .i64 (rNxa bs p).1.mx, .slice ae (List.length (en2 (rNxa bs p).1.ents)) ce, .slice ac (List.length (ch4 (rNxa bs p).1.chs)) cc, .slice ak (List.length (i64s (rNxa bs p).1.keys)) ck, .slice ab (List.length (by8 (rNxa bs p).1.bytes)) cb], .int .i64 (rNxa bs p).2.1, .int .i64 (rNxa bs p).2.2] ∧ St g (Sh 5 1 (by8 bs) a c :: Own 5 1 (by8 (rNxa bs p).1.bytes) ab cb :: Own 48 2 (en2 (rNxa bs p).1.ents) ae ce :: Own 77 4 (ch4 (rNxa bs p).1.chs) ac cc :: Own 2 1 (i64s (rNxa bs p).1.keys) ak ck :: L) w') := by
  refine Sp.enter Tryz.func22 rfl (by kernel_rfl) (by kernel_rfl) ?_
  have _ := hb
  have _ := hl
  refine WC.seq ?_
  refine WC.region ?_
  refine WL.new rfl rfl zv_53 hS (fun b1 w hS => ?_)
  refine WL.r 2 rfl ?_
  refine WL.nil ?_
  refine WC.seq ?_
  refine WC.seq ?_
  refine WC.region ?_
  refine WL.r 2 rfl ?_
  refine WL.rG 6 rfl (fun j => ?_)
  refine WL.prop 17 rfl (bor (dd _) (dd _)) ?_
  refine WL.nil ?_
  refine WC.ifP rfl (fun cd1 => ?_) (fun cd1 => ?_)
  · refine WC.seq ?_
    refine WC.region ?_
    have hl8 := by8_len bs
    refine WL.build rfl rfl (cs := [.int .i64 0, .int .u64 0, .int .i64 0, .bool false, .int .i64 0, .int .i64 0, .int .i64 0, .int .i64 0, .int .i64 0, .int .i64 0, .int .i64 0, .slice none 0 0, .slice none 0 0, .slice none 0 0, .slice none 0 0]) zv_53 rfl rfl ?_
    refine WL.stF rfl rfl rfl 0 hS rfl rfl rfl rfl rfl ag_53 (fun w hS => ?_)
    replace hS : St g (cel b1 #[.int .i64 0, .int .u64 0, .int .i64 0, .bool false, .int .i64 0, .int .i64 0, .int .i64 0, .int .i64 0, .int .i64 0, .int .i64 0, .int .i64 0, .slice none 0 0, .slice none 0 0, .slice none 0 0, .slice none 0 0] 53 :: Sh 5 1 (by8 bs) a c :: L) w := hS
    refine WL.r 2 rfl ?_
    refine WL.nil ?_
    refine WC.ret ?_
    refine ⟨[.agg #[.int .i64 0, .int .u64 0, .int .i64 0, .bool false, .int .i64 0, .int .i64 0, .int .i64 0, .int .i64 0, .int .i64 0, .int .i64 0, .int .i64 0, .slice none 0 0, .slice none 0 0, .slice none 0 0, .slice none 0 0], .int .i64 0, .int .i64 1], ⟨⟨_, rfl, hS.lvF 0 rfl ag_53⟩, rfl, rfl⟩, ?_⟩
    replace hS := hS.nil_ 5 1
    replace hS := hS.nil_ 48 2
    replace hS := hS.nil_ 77 4
    replace hS := hS.nil_ 2 1
    replace hS := (hS.sel 6 [5, 3, 2, 1, 0] rfl)
    rw [by8_len] at cd1; rw [rNxa, if_pos cd1]; exact ⟨_, _, _, _, _, _, _, _, rfl, hS⟩
  · refine WC.skip ?_
    refine WC.seq ?_
    refine WC.region ?_
    obtain ⟨q0, rfl⟩ : ∃ q : Nat, p = q := ⟨p.toNat, by omega⟩; have hl8 := by8_len bs; have hp : q0 ≤ bs.length := by omega
    refine WL.r 2 rfl ?_
    refine WL.build rfl rfl (cs := [.slice a (List.length (by8 bs)) c, .int .i64 (q0 : Int), .int .i64 0]) zv_64 rfl rfl ?_
    refine WL.box rfl rfl #[.slice a (List.length (by8 bs)) c, .int .i64 (q0 : Int), .int .i64 0] hS rfl rfl (fun b2 w hS => ?_)
    refine WL.r 1 rfl ?_
    refine WL.nil ?_
    refine WC.seq ?_
    refine WC.region ?_
    refine WL.r 1 rfl ?_
    refine WL.call rfl rfl (limited_spec (r := b2) (c := c) (a := a) (bs := bs) (p := q0) (e := 0) (lim := 255) (hp := (by assumption)) (hl := (by assumption)) (hb := (by assumption)) (hlim := (by omega)) (hS := (hS.sel 3 [0, 1, 0] rfl))) rfl ?_
    generalize hR1 : rLim bs 255 q0 0 = R1
    clear hS; rintro _ w ⟨rfl, hS⟩
    have hR1f0 : R1.2.1 ≤ (List.length bs) := by rw [← hR1]; exact rLim_le (by assumption)
    have hR1f1 : (0 ≤ R1.1) ∧ (R1.1 ≤ 255) := by rw [← hR1]; exact rLim_b (by assumption) (by omega)
    replace hS : St g (cel b2 #[.slice a (List.length (by8 bs)) c, .int .i64 (R1.2.1 : Int), .int .i64 R1.2.2] 64 :: Sh 5 1 (by8 bs) a c :: cel b1 #[.int .i64 0, .int .u64 0, .int .i64 0, .bool false, .int .i64 0, .int .i64 0, .int .i64 0, .int .i64 0, .int .i64 0, .int .i64 0, .int .i64 0, .slice none 0 0, .slice none 0 0, .slice none 0 0, .slice none 0 0] 53 :: L) w := hS
    refine WL.build rfl rfl (cs := [.int .i64 R1.1, .int .u64 0, .int .i64 0, .bool false, .int .i64 0, .int .i64 0, .int .i64 0, .int .i64 0, .int .i64 0, .int .i64 0, .int .i64 0, .slice none 0 0, .slice none 0 0, .slice none 0 0, .slice none 0 0]) zv_53 rfl rfl ?_
    refine WL.new rfl rfl zv_53 hS (fun b3 w hS => ?_)
    refine WL.stF rfl rfl rfl 0 hS rfl rfl rfl rfl rfl ag_53 (fun w hS => ?_)
    replace hS : St g (cel b3 #[.int .i64 R1.1, .int .u64 0, .int .i64 0, .bool false, .int .i64 0, .int .i64 0, .int .i64 0, .int .i64 0, .int .i64 0, .int .i64 0, .int .i64 0, .slice none 0 0, .slice none 0 0, .slice none 0 0, .slice none 0 0] 53 :: cel b2 #[.slice a (List.length (by8 bs)) c, .int .i64 (R1.2.1 : Int), .int .i64 R1.2.2] 64 :: Sh 5 1 (by8 bs) a c :: cel b1 #[.int .i64 0, .int .u64 0, .int .i64 0, .bool false, .int .i64 0, .int .i64 0, .int .i64 0, .int .i64 0, .int .i64 0, .int .i64 0, .int .i64 0, .slice none 0 0, .slice none 0 0, .slice none 0 0, .slice none 0 0] 53 :: L) w := hS
    refine WL.nil ?_
    as_aux_lemma =>
      refine WC.seq ?_
      refine WC.region ?_
      refine WL.r 1 rfl ?_
      refine WL.call rfl rfl (varint_spec (r := b2) (c := c) (a := a) (bs := bs) (p := R1.2.1) (e := R1.2.2) (hp := (by assumption)) (hl := (by assumption)) (hb := (by assumption)) (hS := (hS.sel 3 [1, 1, 0] rfl))) rfl ?_
      generalize hR2 : rU bs R1.2.1 R1.2.2 = R2
      clear hS; rintro _ w ⟨rfl, hS⟩
      have hR2f0 : R2.2.1 ≤ (List.length bs) := by rw [← hR2]; exact rU_le (by assumption)
      replace hS : St g (cel b2 #[.slice a (List.length (by8 bs)) c, .int .i64 (R2.2.1 : Int), .int .i64 R2.2.2] 64 :: Sh 5 1 (by8 bs) a c :: cel b3 #[.int .i64 R1.1, .int .u64 0, .int .i64 0, .bool false, .int .i64 0, .int .i64 0, .int .i64 0, .int .i64 0, .int .i64 0, .int .i64 0, .int .i64 0, .slice none 0 0, .slice none 0 0, .slice none 0 0, .slice none 0 0] 53 :: cel b1 #[.int .i64 0, .int .u64 0, .int .i64 0, .bool false, .int .i64 0, .int .i64 0, .int .i64 0, .int .i64 0, .int .i64 0, .int .i64 0, .int .i64 0, .slice none 0 0, .slice none 0 0, .slice none 0 0, .slice none 0 0] 53 :: L) w := hS
      refine WL.r 1 rfl ?_
      refine WL.st rfl rfl rfl 2 hS rfl rfl rfl rfl rfl rfl (fun w hS => ?_)
      replace hS : St g (cel b2 #[.slice a (List.length (by8 bs)) c, .int .i64 (R2.2.1 : Int), .int .i64 R2.2.2] 64 :: Sh 5 1 (by8 bs) a c :: cel b3 #[.int .i64 R1.1, .int .u64 R2.1, .int .i64 0, .bool false, .int .i64 0, .int .i64 0, .int .i64 0, .int .i64 0, .int .i64 0, .int .i64 0, .int .i64 0, .slice none 0 0, .slice none 0 0, .slice none 0 0, .slice none 0 0] 53 :: cel b1 #[.int .i64 0, .int .u64 0, .int .i64 0, .bool false, .int .i64 0, .int .i64 0, .int .i64 0, .int .i64 0, .int .i64 0, .int .i64 0, .int .i64 0, .slice none 0 0, .slice none 0 0, .slice none 0 0, .slice none 0 0] 53 :: L) w := hS
      refine WL.nil ?_
      refine WC.seq ?_
      refine WC.region ?_
      refine WL.r 1 rfl ?_
      refine WL.call rfl rfl (signed_spec (r := b2) (c := c) (a := a) (bs := bs) (p := R2.2.1) (e := R2.2.2) (hp := (by assumption)) (hl := (by assumption)) (hb := (by assumption)) (hS := hS)) rfl ?_
      generalize hR3 : rZ bs R2.2.1 R2.2.2 = R3
      clear hS; rintro _ w ⟨rfl, hS⟩
      have hR3f0 : R3.2.1 ≤ (List.length bs) := by rw [← hR3]; exact rZ_le (by assumption)
      replace hS : St g (cel b2 #[.slice a (List.length (by8 bs)) c, .int .i64 (R3.2.1 : Int), .int .i64 R3.2.2] 64 :: Sh 5 1 (by8 bs) a c :: cel b3 #[.int .i64 R1.1, .int .u64 R2.1, .int .i64 0, .bool false, .int .i64 0, .int .i64 0, .int .i64 0, .int .i64 0, .int .i64 0, .int .i64 0, .int .i64 0, .slice none 0 0, .slice none 0 0, .slice none 0 0, .slice none 0 0] 53 :: cel b1 #[.int .i64 0, .int .u64 0, .int .i64 0, .bool false, .int .i64 0, .int .i64 0, .int .i64 0, .int .i64 0, .int .i64 0, .int .i64 0, .int .i64 0, .slice none 0 0, .slice none 0 0, .slice none 0 0, .slice none 0 0] 53 :: L) w := hS
      refine WL.r 1 rfl ?_
      refine WL.st rfl rfl rfl 2 hS rfl rfl rfl rfl rfl rfl (fun w hS => ?_)
      replace hS : St g (cel b2 #[.slice a (List.length (by8 bs)) c, .int .i64 (R3.2.1 : Int), .int .i64 R3.2.2] 64 :: Sh 5 1 (by8 bs) a c :: cel b3 #[.int .i64 R1.1, .int .u64 R2.1, .int .i64 R3.1, .bool false, .int .i64 0, .int .i64 0, .int .i64 0, .int .i64 0, .int .i64 0, .int .i64 0, .int .i64 0, .slice none 0 0, .slice none 0 0, .slice none 0 0, .slice none 0 0] 53 :: cel b1 #[.int .i64 0, .int .u64 0, .int .i64 0, .bool false, .int .i64 0, .int .i64 0, .int .i64 0, .int .i64 0, .int .i64 0, .int .i64 0, .int .i64 0, .slice none 0 0, .slice none 0 0, .slice none 0 0, .slice none 0 0] 53 :: L) w := hS
      refine WL.nil ?_
      refine WC.seq ?_
      refine WC.region ?_
      refine WL.r 1 rfl ?_
      refine WL.call rfl rfl (bool_spec (r := b2) (c := c) (a := a) (bs := bs) (p := R3.2.1) (e := R3.2.2) (hp := (by assumption)) (hl := (by assumption)) (hb := (by assumption)) (hS := hS)) rfl ?_
      generalize hR4 : rBool bs R3.2.1 R3.2.2 = R4
      clear hS; rintro _ w ⟨rfl, hS⟩
      have hR4f0 : R4.2.1 ≤ (List.length bs) := by rw [← hR4]; exact rBool_le (by assumption)
      replace hS : St g (cel b2 #[.slice a (List.length (by8 bs)) c, .int .i64 (R4.2.1 : Int), .int .i64 R4.2.2] 64 :: Sh 5 1 (by8 bs) a c :: cel b3 #[.int .i64 R1.1, .int .u64 R2.1, .int .i64 R3.1, .bool false, .int .i64 0, .int .i64 0, .int .i64 0, .int .i64 0, .int .i64 0, .int .i64 0, .int .i64 0, .slice none 0 0, .slice none 0 0, .slice none 0 0, .slice none 0 0] 53 :: cel b1 #[.int .i64 0, .int .u64 0, .int .i64 0, .bool false, .int .i64 0, .int .i64 0, .int .i64 0, .int .i64 0, .int .i64 0, .int .i64 0, .int .i64 0, .slice none 0 0, .slice none 0 0, .slice none 0 0, .slice none 0 0] 53 :: L) w := hS
      refine WL.r 1 rfl ?_
      refine WL.st rfl rfl rfl 2 hS rfl rfl rfl rfl rfl rfl (fun w hS => ?_)
      replace hS : St g (cel b2 #[.slice a (List.length (by8 bs)) c, .int .i64 (R4.2.1 : Int), .int .i64 R4.2.2] 64 :: Sh 5 1 (by8 bs) a c :: cel b3 #[.int .i64 R1.1, .int .u64 R2.1, .int .i64 R3.1, .bool R4.1, .int .i64 0, .int .i64 0, .int .i64 0, .int .i64 0, .int .i64 0, .int .i64 0, .int .i64 0, .slice none 0 0, .slice none 0 0, .slice none 0 0, .slice none 0 0] 53 :: cel b1 #[.int .i64 0, .int .u64 0, .int .i64 0, .bool false, .int .i64 0, .int .i64 0, .int .i64 0, .int .i64 0, .int .i64 0, .int .i64 0, .int .i64 0, .slice none 0 0, .slice none 0 0, .slice none 0 0, .slice none 0 0] 53 :: L) w := hS
      refine WL.nil ?_
      as_aux_lemma =>
        refine WC.seq ?_
        refine WC.region ?_
        refine WL.r 1 rfl ?_
        refine WL.call rfl rfl (signed_spec (r := b2) (c := c) (a := a) (bs := bs) (p := R4.2.1) (e := R4.2.2) (hp := (by assumption)) (hl := (by assumption)) (hb := (by assumption)) (hS := hS)) rfl ?_
        generalize hR5 : rZ bs R4.2.1 R4.2.2 = R5
        clear hS; rintro _ w ⟨rfl, hS⟩
        have hR5f0 : R5.2.1 ≤ (List.length bs) := by rw [← hR5]; exact rZ_le (by assumption)
        replace hS : St g (cel b2 #[.slice a (List.length (by8 bs)) c, .int .i64 (R5.2.1 : Int), .int .i64 R5.2.2] 64 :: Sh 5 1 (by8 bs) a c :: cel b3 #[.int .i64 R1.1, .int .u64 R2.1, .int .i64 R3.1, .bool R4.1, .int .i64 0, .int .i64 0, .int .i64 0, .int .i64 0, .int .i64 0, .int .i64 0, .int .i64 0, .slice none 0 0, .slice none 0 0, .slice none 0 0, .slice none 0 0] 53 :: cel b1 #[.int .i64 0, .int .u64 0, .int .i64 0, .bool false, .int .i64 0, .int .i64 0, .int .i64 0, .int .i64 0, .int .i64 0, .int .i64 0, .int .i64 0, .slice none 0 0, .slice none 0 0, .slice none 0 0, .slice none 0 0] 53 :: L) w := hS
        refine WL.r 1 rfl ?_
        refine WL.st rfl rfl rfl 2 hS rfl rfl rfl rfl rfl rfl (fun w hS => ?_)
        replace hS : St g (cel b2 #[.slice a (List.length (by8 bs)) c, .int .i64 (R5.2.1 : Int), .int .i64 R5.2.2] 64 :: Sh 5 1 (by8 bs) a c :: cel b3 #[.int .i64 R1.1, .int .u64 R2.1, .int .i64 R3.1, .bool R4.1, .int .i64 R5.1, .int .i64 0, .int .i64 0, .int .i64 0, .int .i64 0, .int .i64 0, .int .i64 0, .slice none 0 0, .slice none 0 0, .slice none 0 0, .slice none 0 0] 53 :: cel b1 #[.int .i64 0, .int .u64 0, .int .i64 0, .bool false, .int .i64 0, .int .i64 0, .int .i64 0, .int .i64 0, .int .i64 0, .int .i64 0, .int .i64 0, .slice none 0 0, .slice none 0 0, .slice none 0 0, .slice none 0 0] 53 :: L) w := hS
        refine WL.nil ?_
        refine WC.seq ?_
        refine WC.region ?_
        refine WL.r 1 rfl ?_
        refine WL.call rfl rfl (signed_spec (r := b2) (c := c) (a := a) (bs := bs) (p := R5.2.1) (e := R5.2.2) (hp := (by assumption)) (hl := (by assumption)) (hb := (by assumption)) (hS := hS)) rfl ?_
        generalize hR6 : rZ bs R5.2.1 R5.2.2 = R6
        clear hS; rintro _ w ⟨rfl, hS⟩
        have hR6f0 : R6.2.1 ≤ (List.length bs) := by rw [← hR6]; exact rZ_le (by assumption)
        replace hS : St g (cel b2 #[.slice a (List.length (by8 bs)) c, .int .i64 (R6.2.1 : Int), .int .i64 R6.2.2] 64 :: Sh 5 1 (by8 bs) a c :: cel b3 #[.int .i64 R1.1, .int .u64 R2.1, .int .i64 R3.1, .bool R4.1, .int .i64 R5.1, .int .i64 0, .int .i64 0, .int .i64 0, .int .i64 0, .int .i64 0, .int .i64 0, .slice none 0 0, .slice none 0 0, .slice none 0 0, .slice none 0 0] 53 :: cel b1 #[.int .i64 0, .int .u64 0, .int .i64 0, .bool false, .int .i64 0, .int .i64 0, .int .i64 0, .int .i64 0, .int .i64 0, .int .i64 0, .int .i64 0, .slice none 0 0, .slice none 0 0, .slice none 0 0, .slice none 0 0] 53 :: L) w := hS
        refine WL.r 2 rfl ?_
        refine WL.st rfl rfl rfl 2 hS rfl rfl rfl rfl rfl rfl (fun w hS => ?_)
        replace hS : St g (cel b2 #[.slice a (List.length (by8 bs)) c, .int .i64 (R6.2.1 : Int), .int .i64 R6.2.2] 64 :: Sh 5 1 (by8 bs) a c :: cel b3 #[.int .i64 R1.1, .int .u64 R2.1, .int .i64 R3.1, .bool R4.1, .int .i64 R5.1, .int .i64 R6.1, .int .i64 0, .int .i64 0, .int .i64 0, .int .i64 0, .int .i64 0, .slice none 0 0, .slice none 0 0, .slice none 0 0, .slice none 0 0] 53 :: cel b1 #[.int .i64 0, .int .u64 0, .int .i64 0, .bool false, .int .i64 0, .int .i64 0, .int .i64 0, .int .i64 0, .int .i64 0, .int .i64 0, .int .i64 0, .slice none 0 0, .slice none 0 0, .slice none 0 0, .slice none 0 0] 53 :: L) w := hS
        refine WL.nil ?_
        refine WC.seq ?_
        refine WC.region ?_
        refine WL.r 1 rfl ?_
        refine WL.call rfl rfl (signed_spec (r := b2) (c := c) (a := a) (bs := bs) (p := R6.2.1) (e := R6.2.2) (hp := (by assumption)) (hl := (by assumption)) (hb := (by assumption)) (hS := hS)) rfl ?_
        generalize hR7 : rZ bs R6.2.1 R6.2.2 = R7
        clear hS; rintro _ w ⟨rfl, hS⟩
        have hR7f0 : R7.2.1 ≤ (List.length bs) := by rw [← hR7]; exact rZ_le (by assumption)
        replace hS : St g (cel b2 #[.slice a (List.length (by8 bs)) c, .int .i64 (R7.2.1 : Int), .int .i64 R7.2.2] 64 :: Sh 5 1 (by8 bs) a c :: cel b3 #[.int .i64 R1.1, .int .u64 R2.1, .int .i64 R3.1, .bool R4.1, .int .i64 R5.1, .int .i64 R6.1, .int .i64 0, .int .i64 0, .int .i64 0, .int .i64 0, .int .i64 0, .slice none 0 0, .slice none 0 0, .slice none 0 0, .slice none 0 0] 53 :: cel b1 #[.int .i64 0, .int .u64 0, .int .i64 0, .bool false, .int .i64 0, .int .i64 0, .int .i64 0, .int .i64 0, .int .i64 0, .int .i64 0, .int .i64 0, .slice none 0 0, .slice none 0 0, .slice none 0 0, .slice none 0 0] 53 :: L) w := hS
        refine WL.r 2 rfl ?_
        refine WL.st rfl rfl rfl 2 hS rfl rfl rfl rfl rfl rfl (fun w hS => ?_)
        replace hS : St g (cel b2 #[.slice a (List.length (by8 bs)) c, .int .i64 (R7.2.1 : Int), .int .i64 R7.2.2] 64 :: Sh 5 1 (by8 bs) a c :: cel b3 #[.int .i64 R1.1, .int .u64 R2.1, .int .i64 R3.1, .bool R4.1, .int .i64 R5.1, .int .i64 R6.1, .int .i64 R7.1, .int .i64 0, .int .i64 0, .int .i64 0, .int .i64 0, .slice none 0 0, .slice none 0 0, .slice none 0 0, .slice none 0 0] 53 :: cel b1 #[.int .i64 0, .int .u64 0, .int .i64 0, .bool false, .int .i64 0, .int .i64 0, .int .i64 0, .int .i64 0, .int .i64 0, .int .i64 0, .int .i64 0, .slice none 0 0, .slice none 0 0, .slice none 0 0, .slice none 0 0] 53 :: L) w := hS
        refine WL.nil ?_
        as_aux_lemma =>
          refine WC.seq ?_
          refine WC.region ?_
          refine WL.r 1 rfl ?_
          refine WL.call rfl rfl (signed_spec (r := b2) (c := c) (a := a) (bs := bs) (p := R7.2.1) (e := R7.2.2) (hp := (by assumption)) (hl := (by assumption)) (hb := (by assumption)) (hS := hS)) rfl ?_
          generalize hR8 : rZ bs R7.2.1 R7.2.2 = R8
          clear hS; rintro _ w ⟨rfl, hS⟩
          have hR8f0 : R8.2.1 ≤ (List.length bs) := by rw [← hR8]; exact rZ_le (by assumption)
          replace hS : St g (cel b2 #[.slice a (List.length (by8 bs)) c, .int .i64 (R8.2.1 : Int), .int .i64 R8.2.2] 64 :: Sh 5 1 (by8 bs) a c :: cel b3 #[.int .i64 R1.1, .int .u64 R2.1, .int .i64 R3.1, .bool R4.1, .int .i64 R5.1, .int .i64 R6.1, .int .i64 R7.1, .int .i64 0, .int .i64 0, .int .i64 0, .int .i64 0, .slice none 0 0, .slice none 0 0, .slice none 0 0, .slice none 0 0] 53 :: cel b1 #[.int .i64 0, .int .u64 0, .int .i64 0, .bool false, .int .i64 0, .int .i64 0, .int .i64 0, .int .i64 0, .int .i64 0, .int .i64 0, .int .i64 0, .slice none 0 0, .slice none 0 0, .slice none 0 0, .slice none 0 0] 53 :: L) w := hS
          refine WL.r 2 rfl ?_
          refine WL.st rfl rfl rfl 2 hS rfl rfl rfl rfl rfl rfl (fun w hS => ?_)
          replace hS : St g (cel b2 #[.slice a (List.length (by8 bs)) c, .int .i64 (R8.2.1 : Int), .int .i64 R8.2.2] 64 :: Sh 5 1 (by8 bs) a c :: cel b3 #[.int .i64 R1.1, .int .u64 R2.1, .int .i64 R3.1, .bool R4.1, .int .i64 R5.1, .int .i64 R6.1, .int .i64 R7.1, .int .i64 R8.1, .int .i64 0, .int .i64 0, .int .i64 0, .slice none 0 0, .slice none 0 0, .slice none 0 0, .slice none 0 0] 53 :: cel b1 #[.int .i64 0, .int .u64 0, .int .i64 0, .bool false, .int .i64 0, .int .i64 0, .int .i64 0, .int .i64 0, .int .i64 0, .int .i64 0, .int .i64 0, .slice none 0 0, .slice none 0 0, .slice none 0 0, .slice none 0 0] 53 :: L) w := hS
          refine WL.nil ?_
          refine WC.seq ?_
          refine WC.region ?_
          refine WL.r 1 rfl ?_
          refine WL.call rfl rfl (signed_spec (r := b2) (c := c) (a := a) (bs := bs) (p := R8.2.1) (e := R8.2.2) (hp := (by assumption)) (hl := (by assumption)) (hb := (by assumption)) (hS := hS)) rfl ?_
          generalize hR9 : rZ bs R8.2.1 R8.2.2 = R9
          clear hS; rintro _ w ⟨rfl, hS⟩
          have hR9f0 : R9.2.1 ≤ (List.length bs) := by rw [← hR9]; exact rZ_le (by assumption)
          replace hS : St g (cel b2 #[.slice a (List.length (by8 bs)) c, .int .i64 (R9.2.1 : Int), .int .i64 R9.2.2] 64 :: Sh 5 1 (by8 bs) a c :: cel b3 #[.int .i64 R1.1, .int .u64 R2.1, .int .i64 R3.1, .bool R4.1, .int .i64 R5.1, .int .i64 R6.1, .int .i64 R7.1, .int .i64 R8.1, .int .i64 0, .int .i64 0, .int .i64 0, .slice none 0 0, .slice none 0 0, .slice none 0 0, .slice none 0 0] 53 :: cel b1 #[.int .i64 0, .int .u64 0, .int .i64 0, .bool false, .int .i64 0, .int .i64 0, .int .i64 0, .int .i64 0, .int .i64 0, .int .i64 0, .int .i64 0, .slice none 0 0, .slice none 0 0, .slice none 0 0, .slice none 0 0] 53 :: L) w := hS
          refine WL.r 2 rfl ?_
          refine WL.st rfl rfl rfl 2 hS rfl rfl rfl rfl rfl rfl (fun w hS => ?_)
          replace hS : St g (cel b2 #[.slice a (List.length (by8 bs)) c, .int .i64 (R9.2.1 : Int), .int .i64 R9.2.2] 64 :: Sh 5 1 (by8 bs) a c :: cel b3 #[.int .i64 R1.1, .int .u64 R2.1, .int .i64 R3.1, .bool R4.1, .int .i64 R5.1, .int .i64 R6.1, .int .i64 R7.1, .int .i64 R8.1, .int .i64 R9.1, .int .i64 0, .int .i64 0, .slice none 0 0, .slice none 0 0, .slice none 0 0, .slice none 0 0] 53 :: cel b1 #[.int .i64 0, .int .u64 0, .int .i64 0, .bool false, .int .i64 0, .int .i64 0, .int .i64 0, .int .i64 0, .int .i64 0, .int .i64 0, .int .i64 0, .slice none 0 0, .slice none 0 0, .slice none 0 0, .slice none 0 0] 53 :: L) w := hS
          refine WL.nil ?_
          refine WC.seq ?_
          refine WC.region ?_
          refine WL.r 1 rfl ?_
          refine WL.call rfl rfl (signed_spec (r := b2) (c := c) (a := a) (bs := bs) (p := R9.2.1) (e := R9.2.2) (hp := (by assumption)) (hl := (by assumption)) (hb := (by assumption)) (hS := hS)) rfl ?_
          generalize hR10 : rZ bs R9.2.1 R9.2.2 = R10
          clear hS; rintro _ w ⟨rfl, hS⟩
          have hR10f0 : R10.2.1 ≤ (List.length bs) := by rw [← hR10]; exact rZ_le (by assumption)
          replace hS : St g (cel b2 #[.slice a (List.length (by8 bs)) c, .int .i64 (R10.2.1 : Int), .int .i64 R10.2.2] 64 :: Sh 5 1 (by8 bs) a c :: cel b3 #[.int .i64 R1.1, .int .u64 R2.1, .int .i64 R3.1, .bool R4.1, .int .i64 R5.1, .int .i64 R6.1, .int .i64 R7.1, .int .i64 R8.1, .int .i64 R9.1, .int .i64 0, .int .i64 0, .slice none 0 0, .slice none 0 0, .slice none 0 0, .slice none 0 0] 53 :: cel b1 #[.int .i64 0, .int .u64 0, .int .i64 0, .bool false, .int .i64 0, .int .i64 0, .int .i64 0, .int .i64 0, .int .i64 0, .int .i64 0, .int .i64 0, .slice none 0 0, .slice none 0 0, .slice none 0 0, .slice none 0 0] 53 :: L) w := hS
          refine WL.r 2 rfl ?_
          refine WL.st rfl rfl rfl 2 hS rfl rfl rfl rfl rfl rfl (fun w hS => ?_)
          replace hS : St g (cel b2 #[.slice a (List.length (by8 bs)) c, .int .i64 (R10.2.1 : Int), .int .i64 R10.2.2] 64 :: Sh 5 1 (by8 bs) a c :: cel b3 #[.int .i64 R1.1, .int .u64 R2.1, .int .i64 R3.1, .bool R4.1, .int .i64 R5.1, .int .i64 R6.1, .int .i64 R7.1, .int .i64 R8.1, .int .i64 R9.1, .int .i64 R10.1, .int .i64 0, .slice none 0 0, .slice none 0 0, .slice none 0 0, .slice none 0 0] 53 :: cel b1 #[.int .i64 0, .int .u64 0, .int .i64 0, .bool false, .int .i64 0, .int .i64 0, .int .i64 0, .int .i64 0, .int .i64 0, .int .i64 0, .int .i64 0, .slice none 0 0, .slice none 0 0, .slice none 0 0, .slice none 0 0] 53 :: L) w := hS
          refine WL.nil ?_
          as_aux_lemma =>
            refine WC.seq ?_
            refine WC.region ?_
            refine WL.r 1 rfl ?_
            refine WL.call rfl rfl (signed_spec (r := b2) (c := c) (a := a) (bs := bs) (p := R10.2.1) (e := R10.2.2) (hp := (by assumption)) (hl := (by assumption)) (hb := (by assumption)) (hS := hS)) rfl ?_
            generalize hR11 : rZ bs R10.2.1 R10.2.2 = R11
            clear hS; rintro _ w ⟨rfl, hS⟩
            have hR11f0 : R11.2.1 ≤ (List.length bs) := by rw [← hR11]; exact rZ_le (by assumption)
            replace hS : St g (cel b2 #[.slice a (List.length (by8 bs)) c, .int .i64 (R11.2.1 : Int), .int .i64 R11.2.2] 64 :: Sh 5 1 (by8 bs) a c :: cel b3 #[.int .i64 R1.1, .int .u64 R2.1, .int .i64 R3.1, .bool R4.1, .int .i64 R5.1, .int .i64 R6.1, .int .i64 R7.1, .int .i64 R8.1, .int .i64 R9.1, .int .i64 R10.1, .int .i64 0, .slice none 0 0, .slice none 0 0, .slice none 0 0, .slice none 0 0] 53 :: cel b1 #[.int .i64 0, .int .u64 0, .int .i64 0, .bool false, .int .i64 0, .int .i64 0, .int .i64 0, .int .i64 0, .int .i64 0, .int .i64 0, .int .i64 0, .slice none 0 0, .slice none 0 0, .slice none 0 0, .slice none 0 0] 53 :: L) w := hS
            refine WL.r 2 rfl ?_
            refine WL.st rfl rfl rfl 2 hS rfl rfl rfl rfl rfl rfl (fun w hS => ?_)
            replace hS : St g (cel b2 #[.slice a (List.length (by8 bs)) c, .int .i64 (R11.2.1 : Int), .int .i64 R11.2.2] 64 :: Sh 5 1 (by8 bs) a c :: cel b3 #[.int .i64 R1.1, .int .u64 R2.1, .int .i64 R3.1, .bool R4.1, .int .i64 R5.1, .int .i64 R6.1, .int .i64 R7.1, .int .i64 R8.1, .int .i64 R9.1, .int .i64 R10.1, .int .i64 R11.1, .slice none 0 0, .slice none 0 0, .slice none 0 0, .slice none 0 0] 53 :: cel b1 #[.int .i64 0, .int .u64 0, .int .i64 0, .bool false, .int .i64 0, .int .i64 0, .int .i64 0, .int .i64 0, .int .i64 0, .int .i64 0, .int .i64 0, .slice none 0 0, .slice none 0 0, .slice none 0 0, .slice none 0 0] 53 :: L) w := hS
            refine WL.nil ?_
            refine WC.seq ?_
            refine WC.region ?_
            refine WL.r 2 rfl ?_
            refine WL.call rfl rfl (counted_spec (r := b2) (c := c) (a := a) (bs := bs) (p := R11.2.1) (e := R11.2.2) (hp := (by assumption)) (hl := (by assumption)) (hb := (by assumption)) (hS := hS)) rfl ?_
            generalize hR12 : rCnt bs R11.2.1 R11.2.2 = R12
            clear hS; rintro _ w ⟨rfl, hS⟩
            have hR12f0 : R12.2.1 ≤ (List.length bs) := by rw [← hR12]; exact rCnt_le (by assumption)
            have hR12f1 : (0 ≤ R12.1) ∧ (R12.1 + (R12.2.1 : Int) ≤ (List.length bs)) := by rw [← hR12]; exact rCnt_b (by assumption) (by assumption)
            replace hS : St g (cel b2 #[.slice a (List.length (by8 bs)) c, .int .i64 (R12.2.1 : Int), .int .i64 R12.2.2] 64 :: Sh 5 1 (by8 bs) a c :: cel b3 #[.int .i64 R1.1, .int .u64 R2.1, .int .i64 R3.1, .bool R4.1, .int .i64 R5.1, .int .i64 R6.1, .int .i64 R7.1, .int .i64 R8.1, .int .i64 R9.1, .int .i64 R10.1, .int .i64 R11.1, .slice none 0 0, .slice none 0 0, .slice none 0 0, .slice none 0 0] 53 :: cel b1 #[.int .i64 0, .int .u64 0, .int .i64 0, .bool false, .int .i64 0, .int .i64 0, .int .i64 0, .int .i64 0, .int .i64 0, .int .i64 0, .int .i64 0, .slice none 0 0, .slice none 0 0, .slice none 0 0, .slice none 0 0] 53 :: L) w := hS
            refine WL.call rfl rfl (entries_spec (r := b2) (c := c) (a := a) (bs := bs) (p := R12.2.1) (e := R12.2.2) (n := R12.1) (hp := (by assumption)) (hl := (by assumption)) (hb := (by assumption)) (hn := (by omega)) (hS := hS)) rfl ?_
            generalize hR13 : rEnts bs R12.1.toNat R12.2.1 R12.2.2 = R13
            clear hS; rintro _ w ⟨a1, c1, rfl, hS⟩
            have hR13f0 : R13.2.1 ≤ (List.length bs) := by rw [← hR13]; exact rEnts_le (by assumption)
            have hR13f1 : (List.length R13.1) ≤ R12.1.toNat := by rw [← hR13]; exact (rEnts_p _ _ _ (by assumption)).2
            replace hS : St g (cel b2 #[.slice a (List.length (by8 bs)) c, .int .i64 (R13.2.1 : Int), .int .i64 R13.2.2] 64 :: Sh 5 1 (by8 bs) a c :: Own 48 2 (en2 R13.1) a1 c1 :: cel b3 #[.int .i64 R1.1, .int .u64 R2.1, .int .i64 R3.1, .bool R4.1, .int .i64 R5.1, .int .i64 R6.1, .int .i64 R7.1, .int .i64 R8.1, .int .i64 R9.1, .int .i64 R10.1, .int .i64 R11.1, .slice none 0 0, .slice none 0 0, .slice none 0 0, .slice none 0 0] 53 :: cel b1 #[.int .i64 0, .int .u64 0, .int .i64 0, .bool false, .int .i64 0, .int .i64 0, .int .i64 0, .int .i64 0, .int .i64 0, .int .i64 0, .int .i64 0, .slice none 0 0, .slice none 0 0, .slice none 0 0, .slice none 0 0] 53 :: L) w := hS
            refine WL.r 1 rfl ?_
            refine WL.st rfl rfl rfl 3 hS rfl rfl rfl rfl rfl rfl (fun w hS => ?_)
            replace hS : St g (cel b2 #[.slice a (List.length (by8 bs)) c, .int .i64 (R13.2.1 : Int), .int .i64 R13.2.2] 64 :: Sh 5 1 (by8 bs) a c :: Own 48 2 (en2 R13.1) a1 c1 :: cel b3 #[.int .i64 R1.1, .int .u64 R2.1, .int .i64 R3.1, .bool R4.1, .int .i64 R5.1, .int .i64 R6.1, .int .i64 R7.1, .int .i64 R8.1, .int .i64 R9.1, .int .i64 R10.1, .int .i64 R11.1, .slice a1 (List.length (en2 R13.1)) c1, .slice none 0 0, .slice none 0 0, .slice none 0 0] 53 :: cel b1 #[.int .i64 0, .int .u64 0, .int .i64 0, .bool false, .int .i64 0, .int .i64 0, .int .i64 0, .int .i64 0, .int .i64 0, .int .i64 0, .int .i64 0, .slice none 0 0, .slice none 0 0, .slice none 0 0, .slice none 0 0] 53 :: L) w := hS
            refine WL.nil ?_
            as_aux_lemma =>
              refine WC.seq ?_
              refine WC.region ?_
              refine WL.r 2 rfl ?_
              refine WL.call rfl rfl (counted_spec (r := b2) (c := c) (a := a) (bs := bs) (p := R13.2.1) (e := R13.2.2) (hp := (by assumption)) (hl := (by assumption)) (hb := (by assumption)) (hS := hS)) rfl ?_
              generalize hR14 : rCnt bs R13.2.1 R13.2.2 = R14
              clear hS; rintro _ w ⟨rfl, hS⟩
              have hR14f0 : R14.2.1 ≤ (List.length bs) := by rw [← hR14]; exact rCnt_le (by assumption)
              have hR14f1 : (0 ≤ R14.1) ∧ (R14.1 + (R14.2.1 : Int) ≤ (List.length bs)) := by rw [← hR14]; exact rCnt_b (by assumption) (by assumption)
              replace hS : St g (cel b2 #[.slice a (List.length (by8 bs)) c, .int .i64 (R14.2.1 : Int), .int .i64 R14.2.2] 64 :: Sh 5 1 (by8 bs) a c :: Own 48 2 (en2 R13.1) a1 c1 :: cel b3 #[.int .i64 R1.1, .int .u64 R2.1, .int .i64 R3.1, .bool R4.1, .int .i64 R5.1, .int .i64 R6.1, .int .i64 R7.1, .int .i64 R8.1, .int .i64 R9.1, .int .i64 R10.1, .int .i64 R11.1, .slice a1 (List.length (en2 R13.1)) c1, .slice none 0 0, .slice none 0 0, .slice none 0 0] 53 :: cel b1 #[.int .i64 0, .int .u64 0, .int .i64 0, .bool false, .int .i64 0, .int .i64 0, .int .i64 0, .int .i64 0, .int .i64 0, .int .i64 0, .int .i64 0, .slice none 0 0, .slice none 0 0, .slice none 0 0, .slice none 0 0] 53 :: L) w := hS
              refine WL.call rfl rfl (changes_spec (r := b2) (c := c) (a := a) (bs := bs) (p := R14.2.1) (e := R14.2.2) (n := R14.1) (hp := (by assumption)) (hl := (by assumption)) (hb := (by assumption)) (hn := (by omega)) (hS := hS)) rfl ?_
              generalize hR15 : rChs bs R14.1.toNat R14.2.1 R14.2.2 = R15
              clear hS; rintro _ w ⟨a2, c2, rfl, hS⟩
              have hR15f0 : R15.2.1 ≤ (List.length bs) := by rw [← hR15]; exact rChs_le (by assumption)
              have hR15f1 : (List.length R15.1) ≤ R14.1.toNat := by rw [← hR15]; exact (rChs_p _ _ _ (by assumption)).2
              replace hS : St g (cel b2 #[.slice a (List.length (by8 bs)) c, .int .i64 (R15.2.1 : Int), .int .i64 R15.2.2] 64 :: Sh 5 1 (by8 bs) a c :: Own 77 4 (ch4 R15.1) a2 c2 :: Own 48 2 (en2 R13.1) a1 c1 :: cel b3 #[.int .i64 R1.1, .int .u64 R2.1, .int .i64 R3.1, .bool R4.1, .int .i64 R5.1, .int .i64 R6.1, .int .i64 R7.1, .int .i64 R8.1, .int .i64 R9.1, .int .i64 R10.1, .int .i64 R11.1, .slice a1 (List.length (en2 R13.1)) c1, .slice none 0 0, .slice none 0 0, .slice none 0 0] 53 :: cel b1 #[.int .i64 0, .int .u64 0, .int .i64 0, .bool false, .int .i64 0, .int .i64 0, .int .i64 0, .int .i64 0, .int .i64 0, .int .i64 0, .int .i64 0, .slice none 0 0, .slice none 0 0, .slice none 0 0, .slice none 0 0] 53 :: L) w := hS
              refine WL.r 1 rfl ?_
              refine WL.st rfl rfl rfl 4 hS rfl rfl rfl rfl rfl rfl (fun w hS => ?_)
              replace hS : St g (cel b2 #[.slice a (List.length (by8 bs)) c, .int .i64 (R15.2.1 : Int), .int .i64 R15.2.2] 64 :: Sh 5 1 (by8 bs) a c :: Own 77 4 (ch4 R15.1) a2 c2 :: Own 48 2 (en2 R13.1) a1 c1 :: cel b3 #[.int .i64 R1.1, .int .u64 R2.1, .int .i64 R3.1, .bool R4.1, .int .i64 R5.1, .int .i64 R6.1, .int .i64 R7.1, .int .i64 R8.1, .int .i64 R9.1, .int .i64 R10.1, .int .i64 R11.1, .slice a1 (List.length (en2 R13.1)) c1, .slice a2 (List.length (ch4 R15.1)) c2, .slice none 0 0, .slice none 0 0] 53 :: cel b1 #[.int .i64 0, .int .u64 0, .int .i64 0, .bool false, .int .i64 0, .int .i64 0, .int .i64 0, .int .i64 0, .int .i64 0, .int .i64 0, .int .i64 0, .slice none 0 0, .slice none 0 0, .slice none 0 0, .slice none 0 0] 53 :: L) w := hS
              refine WL.nil ?_
              refine WC.seq ?_
              refine WC.seq ?_
              refine WC.region ?_
              refine WL.r 1 rfl ?_
              refine WL.call rfl rfl (counted_spec (r := b2) (c := c) (a := a) (bs := bs) (p := R15.2.1) (e := R15.2.2) (hp := (by assumption)) (hl := (by assumption)) (hb := (by assumption)) (hS := hS)) rfl ?_
              generalize hR16 : rCnt bs R15.2.1 R15.2.2 = R16
              clear hS; rintro _ w ⟨rfl, hS⟩
              have hR16f0 : R16.2.1 ≤ (List.length bs) := by rw [← hR16]; exact rCnt_le (by assumption)
              have hR16f1 : (0 ≤ R16.1) ∧ (R16.1 + (R16.2.1 : Int) ≤ (List.length bs)) := by rw [← hR16]; exact rCnt_b (by assumption) (by assumption)
              replace hS : St g (cel b2 #[.slice a (List.length (by8 bs)) c, .int .i64 (R16.2.1 : Int), .int .i64 R16.2.2] 64 :: Sh 5 1 (by8 bs) a c :: Own 77 4 (ch4 R15.1) a2 c2 :: Own 48 2 (en2 R13.1) a1 c1 :: cel b3 #[.int .i64 R1.1, .int .u64 R2.1, .int .i64 R3.1, .bool R4.1, .int .i64 R5.1, .int .i64 R6.1, .int .i64 R7.1, .int .i64 R8.1, .int .i64 R9.1, .int .i64 R10.1, .int .i64 R11.1, .slice a1 (List.length (en2 R13.1)) c1, .slice a2 (List.length (ch4 R15.1)) c2, .slice none 0 0, .slice none 0 0] 53 :: cel b1 #[.int .i64 0, .int .u64 0, .int .i64 0, .bool false, .int .i64 0, .int .i64 0, .int .i64 0, .int .i64 0, .int .i64 0, .int .i64 0, .int .i64 0, .slice none 0 0, .slice none 0 0, .slice none 0 0, .slice none 0 0] 53 :: L) w := hS
              refine WL.r 1 rfl ?_
              refine WL.nil ?_
              as_aux_lemma =>
                refine WC.block ?_
                replace hS := hS.nil_ 2 1
                refine WC.loop [4, 5, 6, 7, 8, 9] (fun kM vs w => ∃ (n : Int) (ks : List Int) (q : Nat) (e : Int) (ak : Option Addr) (ck : Nat), vs = [.pointer (some ⟨b1, 0, none⟩), .int .i64 0, .int .i64 0, .pointer (some ⟨b2, 0, none⟩), .pointer (some ⟨b3, 0, none⟩), .int .i64 n] ∧ St g (Own 2 1 (i64s ks) ak ck :: cel b2 #[.slice a (List.length (by8 bs)) c, .int .i64 (q : Int), .int .i64 e] 64 :: Sh 5 1 (by8 bs) a c :: Own 77 4 (ch4 R15.1) a2 c2 :: Own 48 2 (en2 R13.1) a1 c1 :: cel b3 #[.int .i64 R1.1, .int .u64 R2.1, .int .i64 R3.1, .bool R4.1, .int .i64 R5.1, .int .i64 R6.1, .int .i64 R7.1, .int .i64 R8.1, .int .i64 R9.1, .int .i64 R10.1, .int .i64 R11.1, .slice a1 (List.length (en2 R13.1)) c1, .slice a2 (List.length (ch4 R15.1)) c2, .slice ak (List.length (i64s ks)) ck, .slice none 0 0] 53 :: cel b1 #[.int .i64 0, .int .u64 0, .int .i64 0, .bool false, .int .i64 0, .int .i64 0, .int .i64 0, .int .i64 0, .int .i64 0, .int .i64 0, .int .i64 0, .slice none 0 0, .slice none 0 0, .slice none 0 0, .slice none 0 0] 53 :: L) w ∧ (0 ≤ n ∧ n + ks.length = R16.1) ∧ (q ≤ bs.length) ∧ (rInts bs R16.1.toNat R16.2.1 R16.2.2 = (ks ++ (rInts bs n.toNat q e).1, (rInts bs n.toNat q e).2)) ∧ (n.toNat) = kM) (R16.1.toNat) ⟨R16.1, [], _, _, none, 0, rfl, hS, (by simp; omega), (by assumption), (rfl), rfl⟩ ?_
                clear hS; rintro _ _ w j ⟨n, ks, q, e, ak, ck, rfl, hS, hk, hq, hr, rfl⟩
                refine WC.seq ?_
                refine WC.seq ?_
                refine WC.region ?_
                refine WL.r 2 rfl ?_
                refine WL.runG 7 [.int .i64 e] rfl (by exact (fun _ => hS.ld 1 rfl rfl)) (fun j => ?_)
                refine WL.prop 82 rfl (band (dd _) (dd _)) ?_
                refine WL.nil ?_
                refine WC.ifP rfl (fun cd2 => ?_) (fun cd2 => ?_)
                · refine WC.skip ?_
                  refine WC.seq ?_
                  refine WC.block ?_
                  refine WC.plan [([0, 2, 1], some (3, [0, 1])), ([], some (4, [0, 1])), ([], some (5, [])), ([6], some (7, []))] (by kernel_rfl) (by kernel_rfl) ?_
                  refine WQ.run 3 [.slice ak (List.length (i64s ks)) ck] rfl (by exact hS.ld 5 rfl rfl) ?_
                  refine WQ.nil ?_
                  intro m1
                  replace hS := hS.drewN m1; generalize hwm1 : World.drewN _ _ = w at *; clear hwm1
                  refine WL.call rfl rfl (signed_spec (r := b2) (c := c) (a := a) (bs := bs) (p := q) (e := e) (hp := (by assumption)) (hl := (by assumption)) (hb := (by assumption)) (hS := (hS.sel 3 [1, 1, 0] rfl))) rfl ?_
                  generalize hR17 : rZ bs q e = R17
                  clear hS; rintro _ w ⟨rfl, hS⟩
                  have hR17f0 : R17.2.1 ≤ (List.length bs) := by rw [← hR17]; exact rZ_le (by assumption)
                  replace hS : St g (cel b2 #[.slice a (List.length (by8 bs)) c, .int .i64 (R17.2.1 : Int), .int .i64 R17.2.2] 64 :: Sh 5 1 (by8 bs) a c :: Own 2 1 (i64s ks) ak ck :: Own 77 4 (ch4 R15.1) a2 c2 :: Own 48 2 (en2 R13.1) a1 c1 :: cel b3 #[.int .i64 R1.1, .int .u64 R2.1, .int .i64 R3.1, .bool R4.1, .int .i64 R5.1, .int .i64 R6.1, .int .i64 R7.1, .int .i64 R8.1, .int .i64 R9.1, .int .i64 R10.1, .int .i64 R11.1, .slice a1 (List.length (en2 R13.1)) c1, .slice a2 (List.length (ch4 R15.1)) c2, .slice ak (List.length (i64s ks)) ck, .slice none 0 0] 53 :: cel b1 #[.int .i64 0, .int .u64 0, .int .i64 0, .bool false, .int .i64 0, .int .i64 0, .int .i64 0, .int .i64 0, .int .i64 0, .int .i64 0, .int .i64 0, .slice none 0 0, .slice none 0 0, .slice none 0 0, .slice none 0 0] 53 :: L) w := hS
                  refine WL.nil ?_
                  refine ⟨by exact ⟨RQ.pure rfl rfl rfl rfl, RQ.load rfl rfl rfl rfl (hS.ld 5 rfl rfl)⟩, ?_⟩
                  refine WQ.nil ?_
                  intro m2
                  replace hS := hS.drewN m2; generalize hwm2 : World.drewN _ _ = w at *; clear hwm2
                  refine WL.lit rfl rfl (i64s [R17.1]) el_51 hS (by exact ⟨rfl, rfl⟩) (i64s_ok _) rfl (by decide) (fun b4 w hS => ?_)
                  refine WL.nil ?_
                  refine ⟨by exact ⟨RQ.pure rfl rfl rfl rfl, RQ.load rfl rfl rfl rfl (hS.ld 6 rfl rfl)⟩, ?_⟩
                  refine WQ.nil ?_
                  intro m3
                  replace hS := hS.drewN m3; generalize hwm3 : World.drewN _ _ = w at *; clear hwm3
                  refine WL.app rfl rfl 3 (i64s (ks ++ [R17.1])) el_51 hS rfl (hS.srcO 0 rfl) (i64s_app _ _).symm (Rm.of (by first | omega | (simp <;> omega)) (by decide)) rfl rfl (fun a3 c3 w hS => ?_)
                  replace hS : St g (Own 2 1 (i64s [R17.1]) (some ⟨b4, 0, none⟩) (List.length (i64s [R17.1])) :: cel b2 #[.slice a (List.length (by8 bs)) c, .int .i64 (R17.2.1 : Int), .int .i64 R17.2.2] 64 :: Sh 5 1 (by8 bs) a c :: Own 2 1 (i64s (ks ++ [R17.1])) a3 c3 :: Own 77 4 (ch4 R15.1) a2 c2 :: Own 48 2 (en2 R13.1) a1 c1 :: cel b3 #[.int .i64 R1.1, .int .u64 R2.1, .int .i64 R3.1, .bool R4.1, .int .i64 R5.1, .int .i64 R6.1, .int .i64 R7.1, .int .i64 R8.1, .int .i64 R9.1, .int .i64 R10.1, .int .i64 R11.1, .slice a1 (List.length (en2 R13.1)) c1, .slice a2 (List.length (ch4 R15.1)) c2, .slice ak (List.length (i64s ks)) ck, .slice none 0 0] 53 :: cel b1 #[.int .i64 0, .int .u64 0, .int .i64 0, .bool false, .int .i64 0, .int .i64 0, .int .i64 0, .int .i64 0, .int .i64 0, .int .i64 0, .int .i64 0, .slice none 0 0, .slice none 0 0, .slice none 0 0, .slice none 0 0] 53 :: L) w := hS
                  refine WL.nil ?_
                  refine ⟨by exact trivial, ?_⟩
                  refine WQ.r 1 rfl ?_
                  refine WQ.nil ?_
                  intro m4
                  replace hS := hS.drewN m4; generalize hwm4 : World.drewN _ _ = w at *; clear hwm4
                  refine WL.st rfl rfl rfl 6 hS rfl rfl rfl rfl rfl rfl (fun w hS => ?_)
                  replace hS : St g (Own 2 1 (i64s [R17.1]) (some ⟨b4, 0, none⟩) (List.length (i64s [R17.1])) :: cel b2 #[.slice a (List.length (by8 bs)) c, .int .i64 (R17.2.1 : Int), .int .i64 R17.2.2] 64 :: Sh 5 1 (by8 bs) a c :: Own 2 1 (i64s (ks ++ [R17.1])) a3 c3 :: Own 77 4 (ch4 R15.1) a2 c2 :: Own 48 2 (en2 R13.1) a1 c1 :: cel b3 #[.int .i64 R1.1, .int .u64 R2.1, .int .i64 R3.1, .bool R4.1, .int .i64 R5.1, .int .i64 R6.1, .int .i64 R7.1, .int .i64 R8.1, .int .i64 R9.1, .int .i64 R10.1, .int .i64 R11.1, .slice a1 (List.length (en2 R13.1)) c1, .slice a2 (List.length (ch4 R15.1)) c2, .slice a3 (List.length (i64s (ks ++ [R17.1]))) c3, .slice none 0 0] 53 :: cel b1 #[.int .i64 0, .int .u64 0, .int .i64 0, .bool false, .int .i64 0, .int .i64 0, .int .i64 0, .int .i64 0, .int .i64 0, .int .i64 0, .int .i64 0, .slice none 0 0, .slice none 0 0, .slice none 0 0, .slice none 0 0] 53 :: L) w := hS
                  refine WL.nil ?_
                  refine ⟨by exact trivial, ?_⟩
                  intro m5
                  replace hS := hS.drewN m5; generalize hwm5 : World.drewN _ _ = w at *; clear hwm5
                  as_aux_lemma =>
                    refine WC.region ?_
                    refine WL.r 2 rfl ?_
                    refine WL.nw 84 rfl (w64 (by omega)) ?_
                    refine WL.r 1 rfl ?_
                    refine WL.nil ?_
                    exact ⟨_, by omega, n - 1, ks ++ [R17.1], R17.2.1, R17.2.2, _, _, rfl, (hS.sel 4 [3, 1, 1] rfl), (by simp; omega), (by assumption), (by rw [hr, show n.toNat = (n - 1).toNat + 1 by omega, rInts, if_neg (by simp [cd2.2])]; subst hR17; simp), rfl⟩
                · refine WC.exit ?_
                  refine WC.seq ?_
                  refine WC.region ?_
                  have hr2 : rInts bs R16.1.toNat R16.2.1 R16.2.2 = (ks, q, e) := by
                    rw [hr]
                    rcases Int.lt_or_le 0 n with h | h
                    · rw [rInts_0 (by omega)]; simp
                    · rw [show n.toNat = 0 by omega]; simp [rInts]
                  refine WL.r 2 rfl ?_
                  refine WL.call rfl rfl (counted_spec (r := b2) (c := c) (a := a) (bs := bs) (p := q) (e := e) (hp := (by assumption)) (hl := (by assumption)) (hb := (by assumption)) (hS := (hS.sel 3 [1, 1, 0] rfl))) rfl ?_
                  generalize hR17 : rCnt bs q e = R17
                  clear hS; rintro _ w ⟨rfl, hS⟩
                  have hR17f0 : R17.2.1 ≤ (List.length bs) := by rw [← hR17]; exact rCnt_le (by assumption)
                  have hR17f1 : (0 ≤ R17.1) ∧ (R17.1 + (R17.2.1 : Int) ≤ (List.length bs)) := by rw [← hR17]; exact rCnt_b (by assumption) (by assumption)
                  replace hS : St g (cel b2 #[.slice a (List.length (by8 bs)) c, .int .i64 (R17.2.1 : Int), .int .i64 R17.2.2] 64 :: Sh 5 1 (by8 bs) a c :: Own 2 1 (i64s ks) ak ck :: Own 77 4 (ch4 R15.1) a2 c2 :: Own 48 2 (en2 R13.1) a1 c1 :: cel b3 #[.int .i64 R1.1, .int .u64 R2.1, .int .i64 R3.1, .bool R4.1, .int .i64 R5.1, .int .i64 R6.1, .int .i64 R7.1, .int .i64 R8.1, .int .i64 R9.1, .int .i64 R10.1, .int .i64 R11.1, .slice a1 (List.length (en2 R13.1)) c1, .slice a2 (List.length (ch4 R15.1)) c2, .slice ak (List.length (i64s ks)) ck, .slice none 0 0] 53 :: cel b1 #[.int .i64 0, .int .u64 0, .int .i64 0, .bool false, .int .i64 0, .int .i64 0, .int .i64 0, .int .i64 0, .int .i64 0, .int .i64 0, .int .i64 0, .slice none 0 0, .slice none 0 0, .slice none 0 0, .slice none 0 0] 53 :: L) w := hS
                  refine WL.call rfl rfl (bytes_spec (r := b2) (c := c) (a := a) (bs := bs) (p := R17.2.1) (e := R17.2.2) (n := R17.1) (hp := (by assumption)) (hl := (by assumption)) (hb := (by assumption)) (hn := (by omega)) (hS := hS)) rfl ?_
                  generalize hR18 : rBytes bs R17.1.toNat R17.2.1 R17.2.2 = R18
                  clear hS; rintro _ w ⟨a3, c3, rfl, hS⟩
                  have hR18f0 : R18.2.1 ≤ (List.length bs) := by rw [← hR18]; exact rBytes_le (by assumption)
                  have hR18f1 : (List.length R18.1) ≤ (List.length bs) := by rw [← hR18]; exact rBytes_len
                  have hR18f2 : B8 R18.1 := by rw [← hR18]; exact rBytes_B8 (by assumption)
                  replace hS : St g (cel b2 #[.slice a (List.length (by8 bs)) c, .int .i64 (R18.2.1 : Int), .int .i64 R18.2.2] 64 :: Sh 5 1 (by8 bs) a c :: Own 5 1 (by8 R18.1) a3 c3 :: Own 2 1 (i64s ks) ak ck :: Own 77 4 (ch4 R15.1) a2 c2 :: Own 48 2 (en2 R13.1) a1 c1 :: cel b3 #[.int .i64 R1.1, .int .u64 R2.1, .int .i64 R3.1, .bool R4.1, .int .i64 R5.1, .int .i64 R6.1, .int .i64 R7.1, .int .i64 R8.1, .int .i64 R9.1, .int .i64 R10.1, .int .i64 R11.1, .slice a1 (List.length (en2 R13.1)) c1, .slice a2 (List.length (ch4 R15.1)) c2, .slice ak (List.length (i64s ks)) ck, .slice none 0 0] 53 :: cel b1 #[.int .i64 0, .int .u64 0, .int .i64 0, .bool false, .int .i64 0, .int .i64 0, .int .i64 0, .int .i64 0, .int .i64 0, .int .i64 0, .int .i64 0, .slice none 0 0, .slice none 0 0, .slice none 0 0, .slice none 0 0] 53 :: L) w := hS
                  refine WL.r 1 rfl ?_
                  refine WL.st rfl rfl rfl 6 hS rfl rfl rfl rfl rfl rfl (fun w hS => ?_)
                  replace hS : St g (cel b2 #[.slice a (List.length (by8 bs)) c, .int .i64 (R18.2.1 : Int), .int .i64 R18.2.2] 64 :: Sh 5 1 (by8 bs) a c :: Own 5 1 (by8 R18.1) a3 c3 :: Own 2 1 (i64s ks) ak ck :: Own 77 4 (ch4 R15.1) a2 c2 :: Own 48 2 (en2 R13.1) a1 c1 :: cel b3 #[.int .i64 R1.1, .int .u64 R2.1, .int .i64 R3.1, .bool R4.1, .int .i64 R5.1, .int .i64 R6.1, .int .i64 R7.1, .int .i64 R8.1, .int .i64 R9.1, .int .i64 R10.1, .int .i64 R11.1, .slice a1 (List.length (en2 R13.1)) c1, .slice a2 (List.length (ch4 R15.1)) c2, .slice ak (List.length (i64s ks)) ck, .slice a3 (List.length (by8 R18.1)) c3] 53 :: cel b1 #[.int .i64 0, .int .u64 0, .int .i64 0, .bool false, .int .i64 0, .int .i64 0, .int .i64 0, .int .i64 0, .int .i64 0, .int .i64 0, .int .i64 0, .slice none 0 0, .slice none 0 0, .slice none 0 0, .slice none 0 0] 53 :: L) w := hS
                  refine WL.nil ?_
                  as_aux_lemma =>
                    refine WC.seq ?_
                    refine WC.seq ?_
                    refine WC.region ?_
                    refine WL.run 5 [.int .i64 R18.2.2] rfl (by exact hS.ld 0 rfl rfl) ?_
                    refine WL.nil ?_
                    refine WC.ifP rfl (fun cd3 => ?_) (fun cd3 => ?_)
                    · refine WC.seq ?_
                      refine WC.plan [([1, 2, 3, 4], some (0, [1, 2, 3, 4])), ([], some (5, [1, 2, 3, 4])), ([6, 7], none)] (by kernel_rfl) (by kernel_rfl) ?_
                      refine WQ.run 4 [.int .i64 R18.2.2] rfl (by exact hS.ld 0 rfl rfl) ?_
                      refine WQ.nil ?_
                      intro m1
                      replace hS := hS.drewN m1; generalize hwm1 : World.drewN _ _ = w at *; clear hwm1
                      refine WL.build rfl rfl (cs := [.int .i64 0, .int .u64 0, .int .i64 0, .bool false, .int .i64 0, .int .i64 0, .int .i64 0, .int .i64 0, .int .i64 0, .int .i64 0, .int .i64 0, .slice none 0 0, .slice none 0 0, .slice none 0 0, .slice none 0 0]) zv_53 rfl rfl ?_
                      refine WL.nil ?_
                      refine ⟨by exact ⟨RQ.pure rfl rfl rfl rfl, RQ.pure rfl rfl rfl rfl, RQ.pure rfl rfl rfl rfl, RQ.load rfl rfl rfl rfl (hS.ld 0 rfl rfl)⟩, ?_⟩
                      refine WQ.nil ?_
                      intro m2
                      replace hS := hS.drewN m2; generalize hwm2 : World.drewN _ _ = w at *; clear hwm2
                      refine WL.stF rfl rfl rfl 7 hS rfl rfl rfl rfl rfl ag_53 (fun w hS => ?_)
                      replace hS : St g (cel b2 #[.slice a (List.length (by8 bs)) c, .int .i64 (R18.2.1 : Int), .int .i64 R18.2.2] 64 :: Sh 5 1 (by8 bs) a c :: Own 5 1 (by8 R18.1) a3 c3 :: Own 2 1 (i64s ks) ak ck :: Own 77 4 (ch4 R15.1) a2 c2 :: Own 48 2 (en2 R13.1) a1 c1 :: cel b3 #[.int .i64 R1.1, .int .u64 R2.1, .int .i64 R3.1, .bool R4.1, .int .i64 R5.1, .int .i64 R6.1, .int .i64 R7.1, .int .i64 R8.1, .int .i64 R9.1, .int .i64 R10.1, .int .i64 R11.1, .slice a1 (List.length (en2 R13.1)) c1, .slice a2 (List.length (ch4 R15.1)) c2, .slice ak (List.length (i64s ks)) ck, .slice a3 (List.length (by8 R18.1)) c3] 53 :: cel b1 #[.int .i64 0, .int .u64 0, .int .i64 0, .bool false, .int .i64 0, .int .i64 0, .int .i64 0, .int .i64 0, .int .i64 0, .int .i64 0, .int .i64 0, .slice none 0 0, .slice none 0 0, .slice none 0 0, .slice none 0 0] 53 :: L) w := hS
                      refine WL.nil ?_
                      refine ⟨by exact ⟨RQ.pure rfl rfl rfl rfl, RQ.pure rfl rfl rfl rfl, RQ.pure rfl rfl rfl rfl, RQ.load rfl rfl rfl rfl (hS.ld 0 rfl rfl)⟩, ?_⟩
                      refine WQ.r 2 rfl ?_
                      refine WQ.nil ?_
                      intro m3
                      replace hS := hS.drewN m3; generalize hwm3 : World.drewN _ _ = w at *; clear hwm3
                      as_aux_lemma =>
                        refine WC.ret ?_
                        refine ⟨[.agg #[.int .i64 0, .int .u64 0, .int .i64 0, .bool false, .int .i64 0, .int .i64 0, .int .i64 0, .int .i64 0, .int .i64 0, .int .i64 0, .int .i64 0, .slice none 0 0, .slice none 0 0, .slice none 0 0, .slice none 0 0], .int .i64 0, .int .i64 R18.2.2], ⟨⟨_, rfl, hS.lvF 7 rfl ag_53⟩, rfl, rfl⟩, ?_⟩
                        replace hS := hS.nil_ 5 1
                        replace hS := hS.nil_ 48 2
                        replace hS := hS.nil_ 77 4
                        replace hS := hS.nil_ 2 1
                        replace hS := (hS.sel 12 [5, 3, 2, 1, 0] rfl)
                        have hA : (rAns bs q0).2.2 = R18.2.2 := by rw [rAns, hR1, an1, hR2, an2, hR3, an3, hR4, an4, hR5, an5, hR6, an6, hR7, an7, hR8, an8, hR9, an9, hR10, an10, hR11, an11, hR12, an12, hR13, an13, hR14, an14, hR15, an15, hR16, an16, hr2, an17, hR17, an18, hR18, an19]
                        have hn : rNxa bs (q0 : Int) = (an0, 0, R18.2.2) := by rw [rNxa, if_neg (by omega)]; simp only [Int.toNat_natCast, hA]; rw [if_pos cd3]
                        rw [hn]; exact ⟨_, _, _, _, _, _, _, _, rfl, hS⟩
                    · refine WC.skip ?_
                      refine WC.seq ?_
                      refine WC.plan [([1, 2, 3, 4], some (0, [1, 2, 3, 4])), ([], some (5, [1, 2, 3, 4])), ([6, 7], none)] (by kernel_rfl) (by kernel_rfl) ?_
                      refine WQ.run 4 [.int .i64 (R18.2.1 : Int)] rfl (by exact hS.ld 0 rfl rfl) ?_
                      refine WQ.nil ?_
                      intro m1
                      replace hS := hS.drewN m1; generalize hwm1 : World.drewN _ _ = w at *; clear hwm1
                      refine WL.ldF rfl rfl 6 hS rfl rfl ag_53 ?_
                      refine WL.nil ?_
                      refine ⟨by exact ⟨RQ.pure rfl rfl rfl rfl, RQ.pure rfl rfl rfl rfl, RQ.pure rfl rfl rfl rfl, RQ.load rfl rfl rfl rfl (hS.ld 0 rfl rfl)⟩, ?_⟩
                      refine WQ.nil ?_
                      intro m2
                      replace hS := hS.drewN m2; generalize hwm2 : World.drewN _ _ = w at *; clear hwm2
                      refine WL.stF rfl rfl rfl 7 hS rfl rfl rfl rfl rfl ag_53 (fun w hS => ?_)
                      replace hS : St g (cel b2 #[.slice a (List.length (by8 bs)) c, .int .i64 (R18.2.1 : Int), .int .i64 R18.2.2] 64 :: Sh 5 1 (by8 bs) a c :: Own 5 1 (by8 R18.1) a3 c3 :: Own 2 1 (i64s ks) ak ck :: Own 77 4 (ch4 R15.1) a2 c2 :: Own 48 2 (en2 R13.1) a1 c1 :: cel b3 #[.int .i64 R1.1, .int .u64 R2.1, .int .i64 R3.1, .bool R4.1, .int .i64 R5.1, .int .i64 R6.1, .int .i64 R7.1, .int .i64 R8.1, .int .i64 R9.1, .int .i64 R10.1, .int .i64 R11.1, .slice a1 (List.length (en2 R13.1)) c1, .slice a2 (List.length (ch4 R15.1)) c2, .slice ak (List.length (i64s ks)) ck, .slice a3 (List.length (by8 R18.1)) c3] 53 :: cel b1 #[.int .i64 R1.1, .int .u64 R2.1, .int .i64 R3.1, .bool R4.1, .int .i64 R5.1, .int .i64 R6.1, .int .i64 R7.1, .int .i64 R8.1, .int .i64 R9.1, .int .i64 R10.1, .int .i64 R11.1, .slice a1 (List.length (en2 R13.1)) c1, .slice a2 (List.length (ch4 R15.1)) c2, .slice ak (List.length (i64s ks)) ck, .slice a3 (List.length (by8 R18.1)) c3] 53 :: L) w := hS
                      refine WL.nil ?_
                      refine ⟨by exact ⟨RQ.pure rfl rfl rfl rfl, RQ.pure rfl rfl rfl rfl, RQ.pure rfl rfl rfl rfl, RQ.load rfl rfl rfl rfl (hS.ld 0 rfl rfl)⟩, ?_⟩
                      refine WQ.r 2 rfl ?_
                      refine WQ.nil ?_
                      intro m3
                      replace hS := hS.drewN m3; generalize hwm3 : World.drewN _ _ = w at *; clear hwm3
                      as_aux_lemma =>
                        refine WC.ret ?_
                        refine ⟨[.agg #[.int .i64 R1.1, .int .u64 R2.1, .int .i64 R3.1, .bool R4.1, .int .i64 R5.1, .int .i64 R6.1, .int .i64 R7.1, .int .i64 R8.1, .int .i64 R9.1, .int .i64 R10.1, .int .i64 R11.1, .slice a1 (List.length (en2 R13.1)) c1, .slice a2 (List.length (ch4 R15.1)) c2, .slice ak (List.length (i64s ks)) ck, .slice a3 (List.length (by8 R18.1)) c3], .int .i64 (R18.2.1 : Int), .int .i64 0], ⟨⟨_, rfl, hS.lvF 7 rfl ag_53⟩, rfl, rfl⟩, ?_⟩
                        replace hS := (hS.sel 8 [1, 1, 3, 2, 1] rfl)
                        have hA : rAns bs q0 = ({ err := R1.1, handle := R2.1, value := R3.1, found := R4.1, n := R5.1, ekey := R6.1, eval := R7.1, count := R8.1, sum := R9.1, mn := R10.1, mx := R11.1, ents := R13.1, chs := R15.1, keys := ks, bytes := R18.1 }, R18.2) := by rw [rAns, hR1, an1, hR2, an2, hR3, an3, hR4, an4, hR5, an5, hR6, an6, hR7, an7, hR8, an8, hR9, an9, hR10, an10, hR11, an11, hR12, an12, hR13, an13, hR14, an14, hR15, an15, hR16, an16, hr2, an17, hR17, an18, hR18, an19]
                        have hn : rNxa bs (q0 : Int) = ({ err := R1.1, handle := R2.1, value := R3.1, found := R4.1, n := R5.1, ekey := R6.1, eval := R7.1, count := R8.1, sum := R9.1, mn := R10.1, mx := R11.1, ents := R13.1, chs := R15.1, keys := ks, bytes := R18.1 }, (R18.2.1 : Int), 0) := by rw [rNxa, if_neg (by omega)]; simp only [Int.toNat_natCast, hA]; rw [if_neg cd3]
                        rw [hn]; exact ⟨_, _, _, _, _, _, _, _, rfl, hS⟩
end Go.Proofs.YthcmigbamkohpaaGreatDoor
/-! ## Sc3 -/
namespace Go.Proofs.YthcmigbamkohpaaGreatDoor
open Go Go.V Go.RowKit Go.Maps
def crC : List Value := [.int .i64 1, .int .u64 0, .int .u64 0, .int .i64 0, .int .i64 0, .int .i64 0, .int .i64 0, .int .i64 0, .bool false, .string ⟨#[]⟩, .slice none 0 0, .slice none 0 0, .slice none 0 0]
def crCs (n : Nat) : List (List Value) := List.replicate n crC
theorem crCs_len (n : Nat) : (crCs n).length = n := List.length_replicate
theorem crCs_at {n k : Nat} (h : k < n) : (crCs n)[k]? = some crC := by
  unfold crCs; rw [List.getElem?_replicate, if_pos h]
theorem crCs_succ (n : Nat) : crCs n ++ [crC] = crCs (n + 1) := by
  unfold crCs; rw [List.replicate_succ']
def ones (n : Nat) : List Int := List.replicate n 1
theorem ones_len (n : Nat) : (ones n).length = n := List.length_replicate
theorem ones_at {n k : Nat} (h : k < n) : (ones n)[k]? = some 1 := by
  unfold ones; rw [List.getElem?_replicate, if_pos h]
theorem ones_succ (n : Nat) : ones n ++ [1] = ones (n + 1) := by
  unfold ones; rw [List.replicate_succ']
set_option maxRecDepth 8192 in
theorem left_1 {g w : World} {L : List HP} (r : Nat) (a : Option Addr) (c : Nat) (bs : List Int) (p : Nat) (hl : bs.length ≤ 1000000000) (hp : p ≤ bs.length) (hS : St g (cel r #[.slice a (List.length (by8 bs)) c, .int .i64 (p : Int), .int .i64 0] 64 :: L) w) :
    Sp Tryz.prog 30 [.pointer (some ⟨r, 0, none⟩)] w (fun v w' => v = .int .i64 ((List.length bs : Int) - p) ∧ St g (cel r #[.slice a (List.length (by8 bs)) c, .int .i64 (p : Int), .int .i64 0] 64 :: L) w') := by
  refine Sp.enter Tryz.func30 rfl (by kernel_rfl) (by kernel_rfl) ?_
  have _ := hp
  have _ := hl
  refine WC.seq ?_
  refine WC.region ?_
  have hl8 := by8_len bs
  refine WL.r 1 rfl ?_
  refine WL.nil ?_
  refine WC.seq ?_
  refine WC.plan [([0, 5, 1, 6, 2, 7, 3, 8, 4, 9, 10], none)] (by kernel_rfl) (by kernel_rfl) ?_
  refine WQ.run 10 [.slice a (List.length (by8 bs)) c, .int .i64 (p : Int)] rfl (by exact ⟨hS.ld 0 rfl rfl, hS.ld 0 rfl rfl⟩) ?_
  refine WQ.nw 12 rfl (w64 (by omega)) ?_
  refine WQ.r 1 rfl ?_
  refine WQ.nil ?_
  intro m1
  replace hS := hS.drewN m1; generalize hwm1 : World.drewN _ _ = w at *; clear hwm1
  refine WC.ret ?_
  refine ⟨[.int .i64 ((List.length (by8 bs) : Int) - (p : Int))], rfl, ?_⟩
  exact ⟨by rw [hl8]; rfl, hS⟩
set_option maxRecDepth 8192 in
theorem byte_1 {g w : World} {L : List HP} (r : Nat) (a : Option Addr) (c : Nat) (bs : List Int) (p : Nat) (hl : bs.length ≤ 1000000000) (hp : bs[p]? = some 1) (hS : St g (cel r #[.slice a (List.length (by8 bs)) c, .int .i64 (p : Int), .int .i64 0] 64 :: Sh 5 1 (by8 bs) a c :: L) w) :
    Sp Tryz.prog 16 [.pointer (some ⟨r, 0, none⟩)] w (fun v w' => v = .int .u8 1 ∧ St g (cel r #[.slice a (List.length (by8 bs)) c, .int .i64 ((p : Int) + 1), .int .i64 0] 64 :: Sh 5 1 (by8 bs) a c :: L) w') := by
  refine Sp.enter Tryz.func16 rfl (by kernel_rfl) (by kernel_rfl) ?_
  refine WC.seq ?_
  refine WC.region ?_
  have hl8 := by8_len bs; have hpl := (List.getElem?_eq_some_iff.1 hp).1
  refine WL.r 1 rfl ?_
  refine WL.nil ?_
  refine WC.seq ?_
  refine WC.seq ?_
  refine WC.region ?_
  refine WL.run 5 [.int .i64 0] rfl (by exact hS.ld 0 rfl rfl) ?_
  refine WL.nil ?_
  refine WC.ifF rfl (decide_eq_false ((by decide))) ?_
  refine WC.skip ?_
  refine WC.seq ?_
  refine WC.seq ?_
  refine WC.region ?_
  refine WL.r 1 rfl ?_
  refine WL.call rfl rfl (left_1 (r := r) (a := a) (c := c) (bs := bs) (p := p) (hl := hl) (hp := (by omega)) (hS := hS)) rfl ?_
  clear hS; rintro _ w ⟨rfl, hS⟩
  replace hS : St g (cel r #[.slice a (List.length (by8 bs)) c, .int .i64 (p : Int), .int .i64 0] 64 :: Sh 5 1 (by8 bs) a c :: L) w := hS
  refine WL.r 1 rfl ?_
  refine WL.nil ?_
  refine WC.ifF rfl (decide_eq_false ((by omega))) ?_
  refine WC.skip ?_
  refine WC.seq ?_
  refine WC.region ?_
  refine WL.run 5 [.int .i64 (p : Int)] rfl (by exact hS.ld 0 rfl rfl) ?_
  refine WL.nw 17 rfl (w64 (by omega)) ?_
  refine WL.r 2 rfl ?_
  refine WL.st rfl rfl rfl 0 hS rfl rfl rfl rfl rfl rfl (fun w hS => ?_)
  replace hS : St g (cel r #[.slice a (List.length (by8 bs)) c, .int .i64 ((p : Int) + 1), .int .i64 0] 64 :: Sh 5 1 (by8 bs) a c :: L) w := hS
  refine WL.nil ?_
  as_aux_lemma =>
    refine WC.seq ?_
    refine WC.plan [([0, 4, 1, 5, 2, 6, 3, 7, 8], some (9, [])), ([10, 11], none)] (by kernel_rfl) (by kernel_rfl) ?_
    refine WQ.run 9 [.slice a (List.length (by8 bs)) c, .int .i64 ((p : Int) + 1)] rfl (by exact ⟨hS.ld 0 rfl rfl, hS.ld 0 rfl rfl⟩) ?_
    refine WQ.nw 28 rfl (w64 (by omega)) ?_
    refine WQ.nil ?_
    intro m1
    replace hS := hS.drewN m1; generalize hwm1 : World.drewN _ _ = w at *; clear hwm1
    refine WL.ix rfl rfl (i := ((p : Int) + 1) - 1) (p) el_24 rfl rfl (by omega) (len_of (by8_at hp)) (hS.rdS 1 rfl (by8_at hp)).1 ?_
    refine WL.nil ?_
    refine ⟨by exact trivial, ?_⟩
    refine WQ.run 2 [.int .u8 1] rfl (by exact (hS.rdS 1 rfl (by8_at hp)).2 0 _ rfl) ?_
    refine WQ.nil ?_
    intro m2
    replace hS := hS.drewN m2; generalize hwm2 : World.drewN _ _ = w at *; clear hwm2
    refine WC.ret ?_
    refine ⟨[.int .u8 1], rfl, ?_⟩
    exact ⟨rfl, hS⟩
set_option maxRecDepth 8192 in
theorem next_1 {g w : World} {L : List HP} (a : Option Addr) (c : Nat) (bs : List Int) (p : Nat) (hl : bs.length ≤ 1000000000) (hp : bs[p]? = some 1) (hS : St g (Sh 5 1 (by8 bs) a c :: L) w) :
    Sp Tryz.prog 9 [.slice a (List.length (by8 bs)) c, .int .i64 (p : Int)] w (fun v w' => v = .tuple #[.agg #[.int .i64 1, .int .u64 0, .int .u64 0, .int .i64 0, .int .i64 0, .int .i64 0, .int .i64 0, .int .i64 0, .bool false, .string ⟨#[]⟩, .slice none 0 0, .slice none 0 0, .slice none 0 0], .int .i64 ((p : Int) + 1), .int .i64 0] ∧ St g (Sh 5 1 (by8 bs) a c :: L) w') := by
  refine Sp.enter Tryz.func9 rfl (by kernel_rfl) (by kernel_rfl) ?_
  refine WC.seq ?_
  refine WC.region ?_
  refine WL.new rfl rfl zv_29 hS (fun b1 w hS => ?_)
  refine WL.r 2 rfl ?_
  refine WL.nil ?_
  refine WC.seq ?_
  refine WC.seq ?_
  refine WC.region ?_
  have hl8 := by8_len bs; have hpl := (List.getElem?_eq_some_iff.1 hp).1
  refine WL.r 2 rfl ?_
  refine WL.rG 6 rfl (fun j => ?_)
  refine WL.prop 20 rfl (bor (dd _) (dd _)) ?_
  refine WL.nil ?_
  refine WC.ifF rfl (decide_eq_false ((by omega))) ?_
  refine WC.skip ?_
  refine WC.seq ?_
  refine WC.region ?_
  refine WL.r 2 rfl ?_
  refine WL.build rfl rfl (cs := [.slice a (List.length (by8 bs)) c, .int .i64 (p : Int), .int .i64 0]) zv_64 rfl rfl ?_
  refine WL.box rfl rfl #[.slice a (List.length (by8 bs)) c, .int .i64 (p : Int), .int .i64 0] hS rfl rfl (fun b2 w hS => ?_)
  refine WL.r 1 rfl ?_
  refine WL.nil ?_
  refine WC.seq ?_
  refine WC.region ?_
  refine WL.r 1 rfl ?_
  refine WL.call rfl rfl (byte_1 (r := b2) (a := a) (c := c) (bs := bs) (p := p) (hl := hl) (hp := hp) (hS := (hS.sel 3 [0, 1, 0] rfl))) rfl ?_
  clear hS; rintro _ w ⟨rfl, hS⟩
  replace hS : St g (cel b2 #[.slice a (List.length (by8 bs)) c, .int .i64 ((p : Int) + 1), .int .i64 0] 64 :: Sh 5 1 (by8 bs) a c :: cel b1 #[.int .i64 0, .int .u64 0, .int .u64 0, .int .i64 0, .int .i64 0, .int .i64 0, .int .i64 0, .int .i64 0, .bool false, .string ⟨#[]⟩, .slice none 0 0, .slice none 0 0, .slice none 0 0] 29 :: L) w := hS
  refine WL.r 1 rfl ?_
  refine WL.nw 28 rfl (w64 (by omega)) ?_
  refine WL.build rfl rfl (cs := [.int .i64 1, .int .u64 0, .int .u64 0, .int .i64 0, .int .i64 0, .int .i64 0, .int .i64 0, .int .i64 0, .bool false, .string ⟨#[]⟩, .slice none 0 0, .slice none 0 0, .slice none 0 0]) zv_29 rfl rfl ?_
  refine WL.new rfl rfl zv_29 hS (fun b3 w hS => ?_)
  refine WL.stF rfl rfl rfl 0 hS rfl rfl rfl rfl rfl ag_29 (fun w hS => ?_)
  replace hS : St g (cel b3 #[.int .i64 1, .int .u64 0, .int .u64 0, .int .i64 0, .int .i64 0, .int .i64 0, .int .i64 0, .int .i64 0, .bool false, .string ⟨#[]⟩, .slice none 0 0, .slice none 0 0, .slice none 0 0] 29 :: cel b2 #[.slice a (List.length (by8 bs)) c, .int .i64 ((p : Int) + 1), .int .i64 0] 64 :: Sh 5 1 (by8 bs) a c :: cel b1 #[.int .i64 0, .int .u64 0, .int .u64 0, .int .i64 0, .int .i64 0, .int .i64 0, .int .i64 0, .int .i64 0, .bool false, .string ⟨#[]⟩, .slice none 0 0, .slice none 0 0, .slice none 0 0] 29 :: L) w := hS
  refine WL.nil ?_
  as_aux_lemma =>
    refine WC.seq ?_
    refine WC.region ?_
    refine WL.run 2 [.int .i64 1] rfl (by exact hS.ld 0 rfl rfl) ?_
    refine WL.call rfl rfl (fields_1   (hS := hS)) rfl ?_
    clear hS; rintro _ w ⟨rfl, hS⟩
    replace hS : St g (cel b3 #[.int .i64 1, .int .u64 0, .int .u64 0, .int .i64 0, .int .i64 0, .int .i64 0, .int .i64 0, .int .i64 0, .bool false, .string ⟨#[]⟩, .slice none 0 0, .slice none 0 0, .slice none 0 0] 29 :: cel b2 #[.slice a (List.length (by8 bs)) c, .int .i64 ((p : Int) + 1), .int .i64 0] 64 :: Sh 5 1 (by8 bs) a c :: cel b1 #[.int .i64 0, .int .u64 0, .int .u64 0, .int .i64 0, .int .i64 0, .int .i64 0, .int .i64 0, .int .i64 0, .bool false, .string ⟨#[]⟩, .slice none 0 0, .slice none 0 0, .slice none 0 0] 29 :: L) w := hS
    refine WL.r 5 rfl ?_
    refine WL.nil ?_
    refine WC.seq ?_
    refine WC.seq ?_
    refine WC.region ?_
    refine WL.r 2 rfl ?_
    refine WL.nil ?_
    refine WC.ifF rfl rfl ?_
    refine WC.skip ?_
    refine WC.seq ?_
    refine WC.seq ?_
    refine WC.region ?_
    refine WL.r 1 rfl ?_
    refine WL.rng rfl rfl rfl hS rfl (fun b4 w hS => ?_)
    replace hS : St g (blk b4 (.stringIter (mkS []) 0) :: cel b3 #[.int .i64 1, .int .u64 0, .int .u64 0, .int .i64 0, .int .i64 0, .int .i64 0, .int .i64 0, .int .i64 0, .bool false, .string ⟨#[]⟩, .slice none 0 0, .slice none 0 0, .slice none 0 0] 29 :: cel b2 #[.slice a (List.length (by8 bs)) c, .int .i64 ((p : Int) + 1), .int .i64 0] 64 :: Sh 5 1 (by8 bs) a c :: cel b1 #[.int .i64 0, .int .u64 0, .int .u64 0, .int .i64 0, .int .i64 0, .int .i64 0, .int .i64 0, .int .i64 0, .bool false, .string ⟨#[]⟩, .slice none 0 0, .slice none 0 0, .slice none 0 0] 29 :: L) w := hS
    refine WL.nil ?_
    refine WC.block ?_
    refine WC.loop [4, 5, 6, 7, 8, 41] (fun kM vs w => vs = [.pointer (some ⟨b1, 0, none⟩), .int .i64 0, .int .i64 0, .pointer (some ⟨b2, 0, none⟩), .pointer (some ⟨b3, 0, none⟩), .pointer (some ⟨b4, 0, none⟩)] ∧ St g (blk b4 (.stringIter (mkS []) 0) :: cel b3 #[.int .i64 1, .int .u64 0, .int .u64 0, .int .i64 0, .int .i64 0, .int .i64 0, .int .i64 0, .int .i64 0, .bool false, .string ⟨#[]⟩, .slice none 0 0, .slice none 0 0, .slice none 0 0] 29 :: cel b2 #[.slice a (List.length (by8 bs)) c, .int .i64 ((p : Int) + 1), .int .i64 0] 64 :: Sh 5 1 (by8 bs) a c :: cel b1 #[.int .i64 0, .int .u64 0, .int .u64 0, .int .i64 0, .int .i64 0, .int .i64 0, .int .i64 0, .int .i64 0, .bool false, .string ⟨#[]⟩, .slice none 0 0, .slice none 0 0, .slice none 0 0] 29 :: L) w ∧ (0) = kM) (0) ⟨rfl, hS, rfl⟩ ?_
    clear hS; rintro _ _ w j ⟨rfl, hS, rfl⟩
    refine WC.seq ?_
    refine WC.region ?_
    refine WL.nx rfl rfl rfl rfl rfl rfl rfl 0 (by intro x hx; cases hx) hS rfl rfl (fun w hS => ?_)
    replace hS : St g (blk b4 (.stringIter (mkS []) (if (0 < 0) then (0 + 1) else 0)) :: cel b3 #[.int .i64 1, .int .u64 0, .int .u64 0, .int .i64 0, .int .i64 0, .int .i64 0, .int .i64 0, .int .i64 0, .bool false, .string ⟨#[]⟩, .slice none 0 0, .slice none 0 0, .slice none 0 0] 29 :: cel b2 #[.slice a (List.length (by8 bs)) c, .int .i64 ((p : Int) + 1), .int .i64 0] 64 :: Sh 5 1 (by8 bs) a c :: cel b1 #[.int .i64 0, .int .u64 0, .int .u64 0, .int .i64 0, .int .i64 0, .int .i64 0, .int .i64 0, .int .i64 0, .bool false, .string ⟨#[]⟩, .slice none 0 0, .slice none 0 0, .slice none 0 0] 29 :: L) w := hS
    refine WL.nil ?_
    as_aux_lemma =>
      refine WC.seq ?_
      refine WC.ifF rfl (decide_eq_false ((by decide))) ?_
      refine WC.exit ?_
      refine WC.seq ?_
      refine WC.seq ?_
      refine WC.region ?_
      refine WL.run 5 [.int .i64 0] rfl (by exact hS.ld 2 rfl rfl) ?_
      refine WL.nil ?_
      refine WC.ifF rfl (decide_eq_false ((by decide))) ?_
      refine WC.skip ?_
      refine WC.seq ?_
      refine WC.plan [([1, 2, 3, 4], some (0, [1, 2, 3, 4])), ([], some (5, [1, 2, 3, 4])), ([6, 7], none)] (by kernel_rfl) (by kernel_rfl) ?_
      refine WQ.run 4 [.int .i64 ((p : Int) + 1)] rfl (by exact hS.ld 2 rfl rfl) ?_
      refine WQ.nil ?_
      intro m1
      replace hS := hS.drewN m1; generalize hwm1 : World.drewN _ _ = w at *; clear hwm1
      refine WL.ldF rfl rfl 1 hS rfl rfl ag_29 ?_
      refine WL.nil ?_
      refine ⟨by exact ⟨RQ.pure rfl rfl rfl rfl, RQ.pure rfl rfl rfl rfl, RQ.pure rfl rfl rfl rfl, RQ.load rfl rfl rfl rfl (hS.ld 2 rfl rfl)⟩, ?_⟩
      refine WQ.nil ?_
      intro m2
      replace hS := hS.drewN m2; generalize hwm2 : World.drewN _ _ = w at *; clear hwm2
      refine WL.stF rfl rfl rfl 4 hS rfl rfl rfl rfl rfl ag_29 (fun w hS => ?_)
      replace hS : St g (blk b4 (.stringIter (mkS []) (if (0 < 0) then (0 + 1) else 0)) :: cel b3 #[.int .i64 1, .int .u64 0, .int .u64 0, .int .i64 0, .int .i64 0, .int .i64 0, .int .i64 0, .int .i64 0, .bool false, .string ⟨#[]⟩, .slice none 0 0, .slice none 0 0, .slice none 0 0] 29 :: cel b2 #[.slice a (List.length (by8 bs)) c, .int .i64 ((p : Int) + 1), .int .i64 0] 64 :: Sh 5 1 (by8 bs) a c :: cel b1 #[.int .i64 1, .int .u64 0, .int .u64 0, .int .i64 0, .int .i64 0, .int .i64 0, .int .i64 0, .int .i64 0, .bool false, .string ⟨#[]⟩, .slice none 0 0, .slice none 0 0, .slice none 0 0] 29 :: L) w := hS
      refine WL.nil ?_
      refine ⟨by exact ⟨RQ.pure rfl rfl rfl rfl, RQ.pure rfl rfl rfl rfl, RQ.pure rfl rfl rfl rfl, RQ.load rfl rfl rfl rfl (hS.ld 2 rfl rfl)⟩, ?_⟩
      refine WQ.r 2 rfl ?_
      refine WQ.nil ?_
      intro m3
      replace hS := hS.drewN m3; generalize hwm3 : World.drewN _ _ = w at *; clear hwm3
      as_aux_lemma =>
        refine WC.ret ?_
        refine ⟨[.agg #[.int .i64 1, .int .u64 0, .int .u64 0, .int .i64 0, .int .i64 0, .int .i64 0, .int .i64 0, .int .i64 0, .bool false, .string ⟨#[]⟩, .slice none 0 0, .slice none 0 0, .slice none 0 0], .int .i64 ((p : Int) + 1), .int .i64 0], ⟨⟨_, rfl, hS.lvF 4 rfl ag_29⟩, rfl, rfl⟩, ?_⟩
        replace hS := (hS.sel 5 [3] rfl)
        exact ⟨rfl, hS⟩
set_option maxRecDepth 8192 in
theorem append_1 {g w : World} {L : List HP} (hS : St g (L) w) :
    Sp Tryz.prog 8 [.slice none 0 0, .agg #[.int .i64 1, .int .u64 0, .int .u64 0, .int .i64 0, .int .i64 0, .int .i64 0, .int .i64 0, .int .i64 0, .bool false, .string ⟨#[]⟩, .slice none 0 0, .slice none 0 0, .slice none 0 0]] w (fun v w' => ∃ (a2 : Option Addr) (c2 : Nat), v = .tuple #[.slice a2 1 c2, .int .i64 0] ∧ St g (Own 5 1 (by8 [1]) a2 c2 :: L) w') := by
  refine Sp.enter Tryz.func8 rfl (by kernel_rfl) (by kernel_rfl) ?_
  refine WC.seq ?_
  refine WC.region ?_
  refine WL.box rfl rfl #[.int .i64 1, .int .u64 0, .int .u64 0, .int .i64 0, .int .i64 0, .int .i64 0, .int .i64 0, .int .i64 0, .bool false, .string ⟨#[]⟩, .slice none 0 0, .slice none 0 0, .slice none 0 0] hS rfl rfl (fun b1 w hS => ?_)
  refine WL.r 2 rfl ?_
  refine WL.nil ?_
  refine WC.seq ?_
  refine WC.seq ?_
  refine WC.region ?_
  refine WL.ldF rfl rfl 0 hS rfl rfl ag_29 ?_
  refine WL.call rfl rfl (valid_1   (hS := hS)) rfl ?_
  clear hS; rintro _ w ⟨rfl, hS⟩
  replace hS : St g (cel b1 #[.int .i64 1, .int .u64 0, .int .u64 0, .int .i64 0, .int .i64 0, .int .i64 0, .int .i64 0, .int .i64 0, .bool false, .string ⟨#[]⟩, .slice none 0 0, .slice none 0 0, .slice none 0 0] 29 :: L) w := hS
  refine WL.r 1 rfl ?_
  refine WL.nil ?_
  refine WC.ifF rfl rfl ?_
  refine WC.skip ?_
  refine WC.seq ?_
  refine WC.region ?_
  refine WL.run 3 [.int .i64 1] rfl (by exact hS.ld 0 rfl rfl) ?_
  refine WL.reb 16 (.int .u8 1) (congrArg (Value.int .u8) (by rfl)) ?_
  refine WL.lit rfl rfl (by8 [1]) el_24 hS (by exact ⟨rfl, rfl⟩) (by8_ok _) rfl (by decide) (fun b2 w hS => ?_)
  refine WL.build rfl rfl (cs := [.slice (some ⟨b2, 0, none⟩) (List.length (by8 [1])) (List.length (by8 [1]))]) zv_57 rfl rfl ?_
  refine WL.box rfl rfl #[.slice (some ⟨b2, 0, none⟩) (List.length (by8 [1])) (List.length (by8 [1]))] hS rfl rfl (fun b3 w hS => ?_)
  refine WL.r 1 rfl ?_
  refine WL.nil ?_
  as_aux_lemma =>
    refine WC.seq ?_
    refine WC.region ?_
    refine WL.run 2 [.int .i64 1] rfl (by exact hS.ld 2 rfl rfl) ?_
    refine WL.call rfl rfl (fields_1   (hS := hS)) rfl ?_
    clear hS; rintro _ w ⟨rfl, hS⟩
    replace hS : St g (cel b3 #[.slice (some ⟨b2, 0, none⟩) (List.length (by8 [1])) (List.length (by8 [1]))] 57 :: Own 5 1 (by8 [1]) (some ⟨b2, 0, none⟩) (List.length (by8 [1])) :: cel b1 #[.int .i64 1, .int .u64 0, .int .u64 0, .int .i64 0, .int .i64 0, .int .i64 0, .int .i64 0, .int .i64 0, .bool false, .string ⟨#[]⟩, .slice none 0 0, .slice none 0 0, .slice none 0 0] 29 :: L) w := hS
    refine WL.r 5 rfl ?_
    refine WL.nil ?_
    refine WC.seq ?_
    refine WC.seq ?_
    refine WC.region ?_
    refine WL.r 1 rfl ?_
    refine WL.rng rfl rfl rfl hS rfl (fun b4 w hS => ?_)
    replace hS : St g (blk b4 (.stringIter (mkS []) 0) :: cel b3 #[.slice (some ⟨b2, 0, none⟩) (List.length (by8 [1])) (List.length (by8 [1]))] 57 :: Own 5 1 (by8 [1]) (some ⟨b2, 0, none⟩) (List.length (by8 [1])) :: cel b1 #[.int .i64 1, .int .u64 0, .int .u64 0, .int .i64 0, .int .i64 0, .int .i64 0, .int .i64 0, .int .i64 0, .bool false, .string ⟨#[]⟩, .slice none 0 0, .slice none 0 0, .slice none 0 0] 29 :: L) w := hS
    refine WL.nil ?_
    refine WC.block ?_
    refine WC.loop [0, 3, 4, 5, 6, 27] (fun kM vs w => vs = [.slice none 0 0, .pointer (some ⟨b1, 0, none⟩), .slice none 0 0, .int .i64 0, .pointer (some ⟨b3, 0, none⟩), .pointer (some ⟨b4, 0, none⟩)] ∧ St g (blk b4 (.stringIter (mkS []) 0) :: cel b3 #[.slice (some ⟨b2, 0, none⟩) (List.length (by8 [1])) (List.length (by8 [1]))] 57 :: Own 5 1 (by8 [1]) (some ⟨b2, 0, none⟩) (List.length (by8 [1])) :: cel b1 #[.int .i64 1, .int .u64 0, .int .u64 0, .int .i64 0, .int .i64 0, .int .i64 0, .int .i64 0, .int .i64 0, .bool false, .string ⟨#[]⟩, .slice none 0 0, .slice none 0 0, .slice none 0 0] 29 :: L) w ∧ (0) = kM) (0) ⟨rfl, hS, rfl⟩ ?_
    clear hS; rintro _ _ w j ⟨rfl, hS, rfl⟩
    refine WC.seq ?_
    refine WC.region ?_
    refine WL.nx rfl rfl rfl rfl rfl rfl rfl 0 (by intro x hx; cases hx) hS rfl rfl (fun w hS => ?_)
    replace hS : St g (blk b4 (.stringIter (mkS []) (if (0 < 0) then (0 + 1) else 0)) :: cel b3 #[.slice (some ⟨b2, 0, none⟩) (List.length (by8 [1])) (List.length (by8 [1]))] 57 :: Own 5 1 (by8 [1]) (some ⟨b2, 0, none⟩) (List.length (by8 [1])) :: cel b1 #[.int .i64 1, .int .u64 0, .int .u64 0, .int .i64 0, .int .i64 0, .int .i64 0, .int .i64 0, .int .i64 0, .bool false, .string ⟨#[]⟩, .slice none 0 0, .slice none 0 0, .slice none 0 0] 29 :: L) w := hS
    refine WL.nil ?_
    refine WC.seq ?_
    refine WC.ifF rfl (decide_eq_false ((by decide))) ?_
    refine WC.exit ?_
    as_aux_lemma =>
      refine WC.seq ?_
      refine WC.region ?_
      replace hS : St g (Sh 5 1 (by8 []) none 0 :: blk b4 (.stringIter (mkS []) (if (0 < 0) then (0 + 1) else 0)) :: cel b3 #[.slice (some ⟨b2, 0, none⟩) (List.length (by8 [1])) (List.length (by8 [1]))] 57 :: Own 5 1 (by8 [1]) (some ⟨b2, 0, none⟩) (List.length (by8 [1])) :: cel b1 #[.int .i64 1, .int .u64 0, .int .u64 0, .int .i64 0, .int .i64 0, .int .i64 0, .int .i64 0, .int .i64 0, .bool false, .string ⟨#[]⟩, .slice none 0 0, .slice none 0 0, .slice none 0 0] 29 :: L) w := hS.nilS 5 1
      refine WL.run 5 [.slice (some ⟨b2, 0, none⟩) (List.length (by8 [1])) (List.length (by8 [1]))] rfl (by exact hS.ld 2 rfl rfl) ?_
      replace hS := (hS.at_ 3 rfl).share
      replace hS : St g (Sh 5 1 (by8 [1]) (some ⟨b2, 0, none⟩) (List.length (by8 [1])) :: Sh 5 1 (by8 []) none 0 :: blk b4 (.stringIter (mkS []) (if (0 < 0) then (0 + 1) else 0)) :: cel b3 #[.slice (some ⟨b2, 0, none⟩) (List.length (by8 [1])) (List.length (by8 [1]))] 57 :: cel b1 #[.int .i64 1, .int .u64 0, .int .u64 0, .int .i64 0, .int .i64 0, .int .i64 0, .int .i64 0, .int .i64 0, .bool false, .string ⟨#[]⟩, .slice none 0 0, .slice none 0 0, .slice none 0 0] 29 :: L) w := hS
      refine WL.call rfl rfl (join_spec (xs := []) (ys := [1]) (a := none) (b := some ⟨b2, 0, none⟩) (c := 0) (d := List.length (by8 [1])) (hx := (by decide)) (hS := (hS.sel 2 [1, 0] rfl))) rfl ?_
      clear hS; rintro _ w ⟨a1, c1, rfl, hS⟩
      replace hS : St g (Own 5 1 (by8 ([] ++ [1])) a1 c1 :: Sh 5 1 (by8 []) none 0 :: Sh 5 1 (by8 [1]) (some ⟨b2, 0, none⟩) (List.length (by8 [1])) :: blk b4 (.stringIter (mkS []) (if (0 < 0) then (0 + 1) else 0)) :: cel b3 #[.slice (some ⟨b2, 0, none⟩) (List.length (by8 [1])) (List.length (by8 [1]))] 57 :: cel b1 #[.int .i64 1, .int .u64 0, .int .u64 0, .int .i64 0, .int .i64 0, .int .i64 0, .int .i64 0, .int .i64 0, .bool false, .string ⟨#[]⟩, .slice none 0 0, .slice none 0 0, .slice none 0 0] 29 :: L) w := hS
      refine WL.r 2 rfl ?_
      refine WL.nil ?_
      refine WC.ret ?_
      refine ⟨[.slice a1 (List.length (by8 ([] ++ [1]))) c1, .int .i64 0], ⟨rfl, rfl⟩, ?_⟩
      replace hS := (hS.sel 6 [0] rfl)
      exact ⟨_, _, rfl, hS⟩
set_option maxRecDepth 8192 in
theorem dec_n {g w : World} {L : List HP} (a : Option Addr) (c : Nat) (n : Nat) (hn : n ≤ 70000) (hS : St g (Sh 5 1 (by8 (ones n)) a c :: L) w) :
    Sp Tryz.prog 6 [.slice a (List.length (by8 (ones n))) c] w (fun v w' => ∃ (a2 : Option Addr) (c2 : Nat), v = .tuple #[.slice a2 (List.length (crCs (min n 65536))) c2, .int .i64 ((min n 65536 : Nat) : Int), .int .i64 (if n ≤ 65536 then 0 else 2)] ∧ St g (Own 29 13 (crCs (min n 65536)) a2 c2 :: Sh 5 1 (by8 (ones n)) a c :: L) w') := by
  refine Sp.enter Tryz.func6 rfl (by kernel_rfl) (by kernel_rfl) ?_
  have _ := hn
  refine WC.seq ?_
  refine WC.region ?_
  refine WL.r 3 rfl ?_
  refine WL.nil ?_
  refine WC.seq ?_
  refine WC.region ?_
  have hl8 := by8_len (ones n); have hln := ones_len n
  refine WL.r 1 rfl ?_
  refine WL.nil ?_
  refine WC.seq ?_
  refine WC.region ?_
  refine WL.r 1 rfl ?_
  refine WL.nil ?_
  refine WC.seq ?_
  refine WC.block ?_
  replace hS := hS.nil_ 29 13
  refine WC.loop [0, 5, 6] (fun kM vs w => ∃ (k : Nat) (acc : List (List Value)) (u : Option Addr) (d : Nat), vs = [.slice a (List.length (by8 (ones n))) c, .slice u (List.length acc) d, .int .i64 (k : Int)] ∧ St g (Own 29 13 acc u d :: Sh 5 1 (by8 (ones n)) a c :: L) w ∧ (k ≤ n ∧ k ≤ 65536) ∧ (acc = crCs k) ∧ (n - k) = kM) (n - 0) ⟨0, [], none, 0, rfl, hS, (⟨Nat.zero_le _, Nat.zero_le _⟩), (rfl), rfl⟩ ?_
  clear hS; rintro _ _ w j ⟨k, acc, u, d, rfl, hS, hk, ha, rfl⟩
  refine WC.seq ?_
  refine WC.seq ?_
  refine WC.region ?_
  refine WL.r 4 rfl ?_
  refine WL.nil ?_
  refine WC.ifP rfl (fun cd1 => ?_) (fun cd1 => ?_)
  · refine WC.skip ?_
    as_aux_lemma =>
      refine WC.block ?_
      refine WC.seq ?_
      refine WC.seq ?_
      refine WC.region ?_
      have hol : acc.length = k := (by rw [ha]; exact crCs_len k)
      refine WL.r 3 rfl ?_
      refine WL.nil ?_
      refine WC.ifP rfl (fun cd2 => ?_) (fun cd2 => ?_)
      · refine WC.seq ?_
        refine WC.region ?_
        refine WL.r 5 rfl ?_
        refine WL.nil ?_
        refine WC.ret ?_
        refine ⟨[.slice u (List.length acc) d, .int .i64 (k : Int), .int .i64 2], ⟨rfl, rfl, rfl⟩, ?_⟩
        have hk9 : k = 65536 := (by omega); subst hk9; have e1 : min n 65536 = 65536 := (by omega); rw [ha] at hS ⊢; rw [e1, if_neg (by omega)]; exact ⟨_, _, rfl, hS⟩
      · refine WC.skip ?_
        refine WC.seq ?_
        refine WC.region ?_
        refine WL.r 2 rfl ?_
        refine WL.call rfl rfl (next_1 (a := a) (c := c) (bs := ones n) (p := k) (hl := (by omega)) (hp := ones_at (by omega)) (hS := (hS.sel 2 [1, 0] rfl))) rfl ?_
        clear hS; rintro _ w ⟨rfl, hS⟩
        replace hS : St g (Sh 5 1 (by8 (ones n)) a c :: Own 29 13 acc u d :: L) w := hS
        refine WL.r 4 rfl ?_
        refine WL.new rfl rfl zv_29 hS (fun b1 w hS => ?_)
        refine WL.stF rfl rfl rfl 0 hS rfl rfl rfl rfl rfl ag_29 (fun w hS => ?_)
        replace hS : St g (cel b1 #[.int .i64 1, .int .u64 0, .int .u64 0, .int .i64 0, .int .i64 0, .int .i64 0, .int .i64 0, .int .i64 0, .bool false, .string ⟨#[]⟩, .slice none 0 0, .slice none 0 0, .slice none 0 0] 29 :: Sh 5 1 (by8 (ones n)) a c :: Own 29 13 acc u d :: L) w := hS
        refine WL.r 2 rfl ?_
        refine WL.nil ?_
        refine WC.seq ?_
        refine WC.seq ?_
        refine WC.region ?_
        refine WL.r 2 rfl ?_
        refine WL.nil ?_
        as_aux_lemma =>
          refine WC.ifF rfl (decide_eq_false ((by decide))) ?_
          refine WC.skip ?_
          refine WC.seq ?_
          refine WC.region ?_
          refine WL.r 1 rfl ?_
          refine WL.ldF rfl rfl 0 hS rfl rfl ag_29 ?_
          refine WL.lit rfl rfl ([[.int .i64 1, .int .u64 0, .int .u64 0, .int .i64 0, .int .i64 0, .int .i64 0, .int .i64 0, .int .i64 0, .bool false, .string ⟨#[]⟩, .slice none 0 0, .slice none 0 0, .slice none 0 0]]) el_23 hS (by exact ⟨rfl, rfl⟩) (by simp [OkE, Value.oneCell']) rfl (by decide) (fun b2 w hS => ?_)
          refine WL.app rfl rfl 3 (acc ++ [[.int .i64 1, .int .u64 0, .int .u64 0, .int .i64 0, .int .i64 0, .int .i64 0, .int .i64 0, .int .i64 0, .bool false, .string ⟨#[]⟩, .slice none 0 0, .slice none 0 0, .slice none 0 0]]) el_23 hS rfl (hS.srcO 0 rfl) rfl (Rm.of (by first | omega | (simp <;> omega)) (by decide)) rfl rfl (fun a1 c1 w hS => ?_)
          replace hS : St g (Own 29 13 [[.int .i64 1, .int .u64 0, .int .u64 0, .int .i64 0, .int .i64 0, .int .i64 0, .int .i64 0, .int .i64 0, .bool false, .string ⟨#[]⟩, .slice none 0 0, .slice none 0 0, .slice none 0 0]] (some ⟨b2, 0, none⟩) 1 :: cel b1 #[.int .i64 1, .int .u64 0, .int .u64 0, .int .i64 0, .int .i64 0, .int .i64 0, .int .i64 0, .int .i64 0, .bool false, .string ⟨#[]⟩, .slice none 0 0, .slice none 0 0, .slice none 0 0] 29 :: Sh 5 1 (by8 (ones n)) a c :: Own 29 13 (acc ++ [[.int .i64 1, .int .u64 0, .int .u64 0, .int .i64 0, .int .i64 0, .int .i64 0, .int .i64 0, .int .i64 0, .bool false, .string ⟨#[]⟩, .slice none 0 0, .slice none 0 0, .slice none 0 0]]) a1 c1 :: L) w := hS
          refine WL.r 1 rfl ?_
          refine WL.nil ?_
          refine WC.region ?_
          refine WL.r 2 rfl ?_
          refine WL.nil ?_
          exact ⟨_, by omega, k + 1, acc ++ [crC], _, _, rfl, (hS.sel 4 [3, 2] rfl), (by omega), (by rw [ha, crCs_succ]), rfl⟩
  · refine WC.exit ?_
    as_aux_lemma =>
      refine WC.seq ?_
      refine WC.region ?_
      refine WL.r 5 rfl ?_
      refine WL.nil ?_
      refine WC.ret ?_
      refine ⟨[.slice u (List.length acc) d, .int .i64 (k : Int), .int .i64 0], ⟨rfl, rfl, rfl⟩, ?_⟩
      have hk9 : k = n := (by omega); subst hk9; have e1 : min k 65536 = k := (by omega); rw [ha] at hS ⊢; rw [e1, if_pos (by omega)]; exact ⟨_, _, rfl, hS⟩
set_option maxRecDepth 8192 in
theorem enc_n {g w : World} {L : List HP} (a : Option Addr) (c : Nat) (n : Nat) (hn : n ≤ 70000) (hS : St g (Sh 29 13 (crCs n) a c :: L) w) :
    Sp Tryz.prog 5 [.slice a (List.length (crCs n)) c] w (fun v w' => ∃ (a2 : Option Addr) (c2 : Nat) (m : Nat), v = .tuple #[.slice a2 m c2, .int .i64 (if n ≤ 65536 then 0 else 2)] ∧ St g (Sh 29 13 (crCs n) a c :: L) w' ∧ (m = if n ≤ 65536 then n else 0)) := by
  refine Sp.enter Tryz.func5 rfl (by kernel_rfl) (by kernel_rfl) ?_
  have _ := hn
  refine WC.seq ?_
  refine WC.region ?_
  refine WL.r 2 rfl ?_
  refine WL.nil ?_
  refine WC.seq ?_
  refine WC.region ?_
  have hol := crCs_len n
  refine WL.r 1 rfl ?_
  refine WL.nil ?_
  refine WC.seq ?_
  refine WC.seq ?_
  refine WC.region ?_
  refine WL.r 3 rfl ?_
  refine WL.nil ?_
  refine WC.block ?_
  replace hS := hS.nil_ 5 1
  refine WC.loop [0, 4, 9, 10, 11] (fun kM vs w => ∃ (k : Nat) (acc : List Int) (u : Option Addr) (d : Nat), vs = [.slice a (List.length (crCs n)) c, .slice u (List.length (by8 acc)) d, .slice a (List.length (crCs n)) c, .int .i64 (List.length (crCs n) : Int), .int .i64 (k : Int)] ∧ St g (Own 5 1 (by8 acc) u d :: Sh 29 13 (crCs n) a c :: L) w ∧ (k ≤ n) ∧ (acc = ones k) ∧ (n - k) = kM) (n - 0) ⟨0, [], none, 0, rfl, hS, (Nat.zero_le _), (rfl), rfl⟩ ?_
  clear hS; rintro _ _ w j ⟨k, acc, u, d, rfl, hS, hk, ha, rfl⟩
  refine WC.seq ?_
  refine WC.region ?_
  refine WL.r 1 rfl ?_
  refine WL.nil ?_
  refine WC.seq ?_
  refine WC.ifP rfl (fun cd1 => ?_) (fun cd1 => ?_)
  · refine WC.skip ?_
    as_aux_lemma =>
      refine WC.seq ?_
      refine WC.block ?_
      refine WC.seq ?_
      refine WC.region ?_
      have hob := by8_len acc; have hon : acc.length = k := (by rw [ha]; exact ones_len k)
      refine WL.ix rfl rfl (i := (k : Int)) (k) el_23 rfl rfl (by omega) (by omega) (hS.rdS 1 rfl (crCs_at (n := n) (k := k) (by omega))).1 ?_
      refine WL.ldC rfl rfl [.int .i64 1, .int .u64 0, .int .u64 0, .int .i64 0, .int .i64 0, .int .i64 0, .int .i64 0, .int .i64 0, .bool false, .string ⟨#[]⟩, .slice none 0 0, .slice none 0 0, .slice none 0 0] ag_29 rfl (hS.rdS 1 rfl (crCs_at (n := n) (k := k) (by omega))).2 ?_
      refine WL.new rfl rfl zv_29 hS (fun b1 w hS => ?_)
      refine WL.stF rfl rfl rfl 0 hS rfl rfl rfl rfl rfl ag_29 (fun w hS => ?_)
      replace hS : St g (cel b1 #[.int .i64 1, .int .u64 0, .int .u64 0, .int .i64 0, .int .i64 0, .int .i64 0, .int .i64 0, .int .i64 0, .bool false, .string ⟨#[]⟩, .slice none 0 0, .slice none 0 0, .slice none 0 0] 29 :: Own 5 1 (by8 acc) u d :: Sh 29 13 (crCs n) a c :: L) w := hS
      refine WL.nil ?_
      refine WC.seq ?_
      refine WC.region ?_
      refine WL.ldF rfl rfl 0 hS rfl rfl ag_29 ?_
      refine WL.call rfl rfl (append_1   (hS := hS)) rfl ?_
      clear hS; rintro _ w ⟨a1, c1, rfl, hS⟩
      replace hS : St g (Own 5 1 (by8 [1]) a1 c1 :: cel b1 #[.int .i64 1, .int .u64 0, .int .u64 0, .int .i64 0, .int .i64 0, .int .i64 0, .int .i64 0, .int .i64 0, .bool false, .string ⟨#[]⟩, .slice none 0 0, .slice none 0 0, .slice none 0 0] 29 :: Own 5 1 (by8 acc) u d :: Sh 29 13 (crCs n) a c :: L) w := hS
      refine WL.r 5 rfl ?_
      refine WL.nil ?_
      refine WC.seq ?_
      refine WC.seq ?_
      refine WC.region ?_
      refine WL.r 2 rfl ?_
      refine WL.nil ?_
      refine WC.ifF rfl (decide_eq_false ((by decide))) ?_
      refine WC.skip ?_
      as_aux_lemma =>
        refine WC.region ?_
        refine WL.r 2 rfl ?_
        refine WL.app rfl rfl 2 (by8 (acc ++ [1])) el_24 hS rfl (hS.srcO 0 rfl) (by8_app _ _).symm (Rm.of (by first | omega | (simp <;> omega)) (by decide)) rfl rfl (fun a2 c2 w hS => ?_)
        replace hS : St g (Own 5 1 (by8 [1]) a1 c1 :: cel b1 #[.int .i64 1, .int .u64 0, .int .u64 0, .int .i64 0, .int .i64 0, .int .i64 0, .int .i64 0, .int .i64 0, .bool false, .string ⟨#[]⟩, .slice none 0 0, .slice none 0 0, .slice none 0 0] 29 :: Own 5 1 (by8 (acc ++ [1])) a2 c2 :: Sh 29 13 (crCs n) a c :: L) w := hS
        refine WL.r 1 rfl ?_
        refine WL.nil ?_
        refine WC.region ?_
        refine WL.r 1 rfl ?_
        refine WL.nw 26 rfl (w64 (by omega)) ?_
        refine WL.r 1 rfl ?_
        refine WL.nil ?_
        exact ⟨_, by omega, k + 1, acc ++ [1], a2, c2, rfl, (hS.sel 2 [] rfl), (by omega), (by rw [ha]; exact ones_succ k), rfl⟩
  · refine WC.exit ?_
    as_aux_lemma =>
      refine WC.seq ?_
      refine WC.seq ?_
      refine WC.region ?_
      have hk9 : k = n := (by omega); have hob := by8_len acc; have hon : acc.length = k := (by rw [ha]; exact ones_len k)
      refine WL.r 3 rfl ?_
      refine WL.nil ?_
      refine WC.ifP rfl (fun cd2 => ?_) (fun cd2 => ?_)
      · refine WC.seq ?_
        refine WC.region ?_
        refine WL.r 2 rfl ?_
        refine WL.nil ?_
        refine WC.ret ?_
        refine ⟨[.slice none 0 0, .int .i64 2], ⟨rfl, rfl⟩, ?_⟩
        replace hS := (hS.sel 1 [] rfl)
        exact ⟨none, 0, 0, by rw [if_neg (by omega)]; rfl, hS, (if_neg (by omega)).symm⟩
      · refine WC.skip ?_
        refine WC.seq ?_
        refine WC.region ?_
        refine WL.r 3 rfl ?_
        refine WL.nil ?_
        refine WC.ret ?_
        refine ⟨[.slice u (List.length (by8 acc)) d, .int .i64 0], ⟨rfl, rfl⟩, ?_⟩
        replace hS := (hS.sel 1 [] rfl)
        exact ⟨u, d, n, by rw [if_pos (by omega), show (by8 acc).length = n by omega]; rfl, hS, (if_pos (by omega)).symm⟩
end Go.Proofs.YthcmigbamkohpaaGreatDoor
/-! ## Qop -/
namespace Go.V
open Go
def Sim {α : Type} (r q : α × Nat × Int) : Prop := q.2.2 = r.2.2 ∧ (r.2.2 = 0 → q = r)
section
variable {bs : List Int} {p : Nat} {e : Int}
theorem Sim.refl {α : Type} (r : α × Nat × Int) : Sim r r := ⟨rfl, fun _ => rfl⟩
end
end Go.V
/-! ## Sim -/
namespace Go.V
open Go
section
variable {bs : List Int} {p : Nat} {e : Int}
theorem fl_ne {e e2 : Int} (h : e ≠ 0) : fl e e2 = e := by rw [fl, if_neg h]
theorem rU_s (h : e ≠ 0) : rU bs p e = (0, p, e) := by rw [rU, if_pos h]
theorem rZ_s (h : e ≠ 0) : (rZ bs p e).2 = (p, e) := by rw [rZ, rU_s h]
theorem rBytes_s {n : Nat} (h : e ≠ 0) : (rBytes bs n p e).2.2 = e := by
  rw [rBytes]; split
  · exact fl_ne h
  · rw [if_pos (.inl h)]
theorem Sim.of {α : Type} {r q : α × Nat × Int} (h : q.2.2 = r.2.2) (h2 : r.2.2 = 0 → q = r) : Sim r q := ⟨h, h2⟩
theorem Sim.bind {α β : Type} {r q : α × Nat × Int} (h : Sim r q) {f g : α × Nat × Int → β × Nat × Int} (hf : ∀ z : α × Nat × Int, z.2.2 ≠ 0 → (f z).2.2 = z.2.2) (hg : ∀ z : α × Nat × Int, z.2.2 ≠ 0 → (g z).2.2 = z.2.2) (hs : r.2.2 = 0 → Sim (f r) (g r)) : Sim (f r) (g q) := by
  by_cases h0 : r.2.2 = 0
  · rw [h.2 h0]; exact hs h0
  · have h1 : q.2.2 ≠ 0 := by rw [h.1]; exact h0
    exact ⟨by rw [hg q h1, hf r h0, h.1], fun hh => absurd (by rw [← hf r h0]; exact hh) h0⟩
theorem Sim.map {α β : Type} {r q : α × Nat × Int} (h : Sim r q) (f : α → β) : Sim (f r.1, r.2) (f q.1, q.2) := ⟨h.1, fun hh => by rw [h.2 hh]⟩
end
end Go.V
/-! ## Vdm -/
namespace Go.V
open Go
def setF (f : Int) (x y : OpM) : OpM :=
  if f = 65 then { y with a := x.a }
  else if f = 66 then { y with b := x.b }
  else if f = 75 then { y with key := x.key }
  else if f = 86 then { y with val := x.val }
  else if f = 76 then { y with lo := x.lo }
  else if f = 72 then { y with hi := x.hi }
  else if f = 78 then { y with n := x.n }
  else if f = 70 then { y with flag := x.flag }
  else if f = 83 then { y with name := x.name }
  else if f = 89 then { y with bytes := x.bytes }
  else if f = 69 then { y with ents := x.ents }
  else if f = 67 then { y with chs := x.chs }
  else y
def setFs : List Int → OpM → OpM → OpM
  | [], _, y => y
  | f :: l, x, y => setFs l x (setF f x y)
def only (x : OpM) : OpM := setFs (fs x.code) x (op0 x.code)
def SelA {α : Type} (a2 : Option Addr) (c2 : Nat) (ms : List α) (a : Option Addr) (c : Nat) (ls : List α) : Prop := (a2 = a ∧ c2 = c ∧ ms = ls) ∨ (a2 = none ∧ c2 = 0 ∧ ms = [])
theorem SelA.same {α : Type} {a : Option Addr} {c : Nat} {ls : List α} : SelA a c ls a c ls := .inl ⟨rfl, rfl, rfl⟩
theorem SelA.nil {α : Type} {a : Option Addr} {c : Nat} {ls : List α} : SelA none 0 [] a c ls := .inr ⟨rfl, rfl, rfl⟩
theorem OpM.ext' {x y : OpM} (h : x.code = y.code ∧ x.a = y.a ∧ x.b = y.b ∧ x.key = y.key ∧ x.val = y.val ∧ x.lo = y.lo ∧ x.hi = y.hi ∧ x.n = y.n ∧ x.flag = y.flag ∧ x.name = y.name ∧ x.bytes = y.bytes ∧ x.ents = y.ents ∧ x.chs = y.chs) : x = y := by
  cases x; cases y; simp only [OpM.mk.injEq]; exact h
def smallOp (x : OpM) : Prop := x.name.size ≤ 300 ∧ x.bytes.length ≤ 300 ∧ x.ents.length ≤ 100 ∧ x.chs.length ≤ 100
instance (x : OpM) : Decidable (smallOp x) := by unfold smallOp; infer_instance
structure OpT (x : OpM) : Prop where
  w : OpW x
  code : I64 x.code
  n : I64 x.n
  by_ : B8 x.bytes
structure OpZ where
  m : OpM
  ab : Option Addr
  ae : Option Addr
  ac : Option Addr
  cb : Nat
  ce : Nat
  cc : Nat
def opC (z : OpZ) : List Value := [.int .i64 z.m.code, .int .u64 z.m.a, .int .u64 z.m.b, .int .i64 z.m.key, .int .i64 z.m.val, .int .i64 z.m.lo, .int .i64 z.m.hi, .int .i64 z.m.n, .bool z.m.flag, .string z.m.name, .slice z.ab (by8 z.m.bytes).length z.cb, .slice z.ae (en2 z.m.ents).length z.ce, .slice z.ac (ch4 z.m.chs).length z.cc]
def enOp (zs : List OpZ) : List (List Value) := zs.map opC
@[simp] theorem enOp_len (l : List OpZ) : (enOp l).length = l.length := by simp [enOp]
end Go.V
/-! ## Law -/
namespace Go.V
open Go
section
variable {bs : List Int} {p : Nat} {e : Int}
def Ch8 (l : List (Int × Int × Int × Int)) : Prop := ∀ c ∈ l, 0 ≤ c.1 ∧ c.1 ≤ 255
structure OpR (x : OpM) : Prop where
  t : OpT x
  l : OpL x
  k : Ch8 x.chs
end
theorem B8.app {l m : List Int} (h : B8 l) (k : B8 m) : B8 (l ++ m) := fun x hx => by
  rcases List.mem_append.1 hx with hx | hx
  · exact h x hx
  · exact k x hx
theorem B8.take {l : List Int} {k : Nat} (h : B8 l) : B8 (l.take k) := fun x hx => h x (List.mem_of_mem_take hx)
theorem B8.drop {l : List Int} {k : Nat} (h : B8 l) : B8 (l.drop k) := fun x hx => h x (List.mem_of_mem_drop hx)
theorem B8.one {c : Int} (h : 0 ≤ c ∧ c ≤ 255) : B8 [c] := fun x hx => by simp at hx; subst hx; exact h
theorem B8.nil : B8 [] := fun _ h => by cases h
theorem B8.cons {c : Int} {l : List Int} (h : 0 ≤ c ∧ c ≤ 255) (k : B8 l) : B8 (c :: l) := fun x hx => by
  rcases List.mem_cons.1 hx with rfl | hx
  · exact h
  · exact k x hx
theorem fm_B8 {α : Type} {f : α → List Int} {l : List α} (h : ∀ x ∈ l, B8 (f x)) : B8 (l.flatMap f) := fun x hx => by
  obtain ⟨y, hy, hx⟩ := List.mem_flatMap.1 hx
  exact h y hy x hx
theorem eU_B8 (u : Int) : B8 (eU u) := varint_B8 _
theorem eZ_B8 (n : Int) : B8 (eZ n) := varint_B8 _
theorem eBytes_B8 {l : List Int} (h : B8 l) : B8 (eBytes l) := (eU_B8 _).app h
theorem eEnts_B8 (l : List (Int × Int)) : B8 (eEnts l) := (eU_B8 _).app (fm_B8 fun _ _ => (eZ_B8 _).app (eZ_B8 _))
theorem mod_B8 (c : Int) : 0 ≤ c % 256 ∧ c % 256 ≤ 255 := by omega
theorem eChs_B8 (l : List (Int × Int × Int × Int)) : B8 (eChs l) := (eU_B8 _).app (fm_B8 fun _ _ => B8.cons (mod_B8 _) (((eZ_B8 _).app (eZ_B8 _)).app (eZ_B8 _)))
theorem eF_B8 (b : Bool) : B8 (eF b) := by cases b <;> exact B8.one (by decide)
end Go.V
/-! ## Rt -/
namespace Go.V
open Go
theorem uvGo_w : ∀ (w i : Nat) (u : Int) (rest : List Int), (w : Int) * 128 ^ i < 18446744073709551616 → (0 < i → 0 < w) → uvGo i u (varint w ++ rest) = (u + w * 128 ^ i, i + (varint w).length, 0) := by
  intro w
  induction w using Nat.strongRecOn with
  | _ w ih =>
    intro i u rest hw h0
    have p9 : ∀ j, 9 ≤ j → (9223372036854775808 : Int) ≤ 128 ^ j := fun j hj => by
      have h1 : (128 : Int) ^ j = 128 ^ 9 * 128 ^ (j - 9) := by rw [← Int.pow_add]; congr 1; omega
      have h2 : (1 : Int) ≤ 128 ^ (j - 9) := by have : (0 : Int) < 128 ^ (j - 9) := Int.pow_pos (by decide); omega
      rw [h1, p128_9]
      have := Int.mul_le_mul_of_nonneg_left h2 (show (0 : Int) ≤ 9223372036854775808 by decide)
      omega
    by_cases h : w < 128
    · rw [varint_lt h, List.singleton_append, uvGo_end ?_ (by omega)]
      · simp
      · rintro (⟨rfl, h1⟩ | ⟨h1, h2⟩)
        · have := p9 9 (by omega)
          have h3 := Int.mul_le_mul_of_nonneg_left this (show (0 : Int) ≤ (w : Int) by omega)
          omega
        · have := h0 h1; omega
    · have hi : i ≤ 8 := by
        rcases Nat.lt_or_ge i 9 with h1 | h1
        · omega
        · have h2 := p9 i h1
          have h3 := Int.mul_le_mul_of_nonneg_left h2 (show (0 : Int) ≤ (w : Int) by omega)
          omega
      rw [varint_ge h, List.cons_append, uvGo_go (by omega) (by omega)]
      have e1 : u + ((w : Int) % 128 + 128 - 128) * 128 ^ i + ((w / 128 : Nat) : Int) * 128 ^ (i + 1) = u + (w : Int) * 128 ^ i := by
        rw [p128]
        have h5 : (w : Int) = w % 128 + 128 * ((w / 128 : Nat) : Int) := by omega
        have h6 : ((w / 128 : Nat) : Int) * (128 * 128 ^ i) = 128 * ((w / 128 : Nat) : Int) * 128 ^ i := by rw [← Int.mul_assoc, Int.mul_comm ((w / 128 : Nat) : Int) 128]
        rw [h6]
        have h7 : (w : Int) * 128 ^ i = ((w : Int) % 128) * 128 ^ i + 128 * ((w / 128 : Nat) : Int) * 128 ^ i := by
          rw [← Int.add_mul, ← h5]
        rw [h7, show (w : Int) % 128 + 128 - 128 = (w : Int) % 128 by omega, Int.add_assoc]
      have e2 : ((w / 128 : Nat) : Int) * 128 ^ (i + 1) < 18446744073709551616 := by
        have hp : (0 : Int) < 128 ^ i := Int.pow_pos (by decide)
        have h7 : (128 : Int) * ((w / 128 : Nat) : Int) ≤ w := by omega
        have h8 := Int.mul_le_mul_of_nonneg_right h7 (Int.le_of_lt hp)
        rw [p128, ← Int.mul_assoc, Int.mul_comm ((w / 128 : Nat) : Int) 128]
        omega
      rw [ih (w / 128) (by omega) (i + 1) _ rest e2 (fun _ => by omega), e1]
      simp only [List.length_cons]
      congr 2; omega
theorem uv_w {u : Int} (h : 0 ≤ u ∧ u ≤ 18446744073709551615) (rest : List Int) : uv (eU u ++ rest) = (u, (eU u).length, 0) := by
  have h1 : ((u.toNat : Nat) : Int) = u := by omega
  have := uvGo_w u.toNat 0 0 rest (by rw [h1]; simp; omega) (by omega)
  rw [uv, eU, this, h1]; simp
theorem uvGo_t : ∀ (l : List Int) (i : Nat) (u v : Int) (m k : Nat), uvGo i u l = (v, m, 0) → (m ≤ i + k → uvGo i u (l.take k) = (v, m, 0)) ∧ (i + k < m → (uvGo i u (l.take k)).2.2 = 12)
  | [], _, _, _, _, _, h => by simp [uvGo] at h
  | c :: r, i, u, v, m, k, h => by
    by_cases hbad : (i = 9 ∧ 1 < c) ∨ (0 < i ∧ c = 0)
    · rw [uvGo_bad hbad] at h; simp at h
    · cases k with
      | zero =>
        have hm : i < m := (uvGo_len (c :: r) i u (by rw [h])).1 |> fun q => by rw [h] at q; exact q
        exact ⟨fun hk => by omega, fun _ => rfl⟩
      | succ k =>
        by_cases hlt : c < 128
        · rw [uvGo_end hbad hlt] at h
          simp only [Prod.mk.injEq] at h
          obtain ⟨rfl, rfl, _⟩ := h
          exact ⟨fun _ => by rw [List.take_succ_cons, uvGo_end hbad hlt], fun hk => by omega⟩
        · rw [uvGo_go hbad hlt] at h
          obtain ⟨h1, h2⟩ := uvGo_t r (i + 1) _ v m k h
          rw [List.take_succ_cons, uvGo_go hbad hlt]
          exact ⟨fun hk => h1 (by omega), fun hk => h2 (by omega)⟩
structure Seg (bs : List Int) (p q : Nat) (l : List Int) : Prop where
  lo : p ≤ q
  hi : q ≤ bs.length
  eq : (bs.take q).drop p = l
theorem Seg.app {bs : List Int} {p q r : Nat} {l m : List Int} (h : Seg bs p q l) (k : Seg bs q r m) : Seg bs p r (l ++ m) := by
  have := h.lo; have := h.hi; have := k.lo; have := k.hi
  refine ⟨by omega, by omega, ?_⟩
  rw [← h.eq, ← k.eq]
  have e1 : bs.take r = bs.take q ++ (bs.take r).drop q := by
    have : bs.take q = (bs.take r).take q := by rw [List.take_take]; congr 1; omega
    rw [this, List.take_append_drop]
  rw [e1, List.drop_append_of_le_length (by rw [List.length_take]; omega)]
  congr 1
  rw [← e1]
theorem Seg.nil {bs : List Int} {p : Nat} (h : p ≤ bs.length) : Seg bs p p [] := ⟨Nat.le_refl _, h, by rw [List.drop_eq_nil_of_le]; rw [List.length_take]; omega⟩
theorem Seg.of {bs : List Int} {p n : Nat} {l : List Int} (hp : p + n ≤ bs.length) (h : (bs.drop p).take n = l) : Seg bs p (p + n) l := ⟨by omega, hp, by rw [← h, List.drop_take]; congr 1; omega⟩
end Go.V
/-! ## Anm -/
namespace Go.V
open Go
theorem AnM.ext' {x y : AnM} (h : x.err = y.err ∧ x.handle = y.handle ∧ x.value = y.value ∧ x.found = y.found ∧ x.n = y.n ∧ x.ekey = y.ekey ∧ x.eval = y.eval ∧ x.count = y.count ∧ x.sum = y.sum ∧ x.mn = y.mn ∧ x.mx = y.mx ∧ x.ents = y.ents ∧ x.chs = y.chs ∧ x.keys = y.keys ∧ x.bytes = y.bytes) : x = y := by
  cases x; cases y; simp only [AnM.mk.injEq]; exact h
structure AnT (x : AnM) : Prop where
  err : I64 x.err
  handle : 0 ≤ x.handle ∧ x.handle ≤ 18446744073709551615
  value : I64 x.value
  n : I64 x.n
  ekey : I64 x.ekey
  eval : I64 x.eval
  count : I64 x.count
  sum : I64 x.sum
  mn : I64 x.mn
  mx : I64 x.mx
  ents : En64 x.ents
  chs : Ch64 x.chs
  keys : I64s x.keys
  by_ : B8 x.bytes
def bigAn (x : AnM) : Prop := 60 < x.ents.length ∨ 60 < x.chs.length ∨ 60 < x.keys.length ∨ 300 < x.bytes.length
instance (x : AnM) : Decidable (bigAn x) := by unfold bigAn; infer_instance
theorem AnT.w {x : AnM} (h : AnT x) (hb : ¬ bigAn x) : AnW x := by
  unfold bigAn at hb
  exact ⟨h.err, h.handle, h.value, h.n, h.ekey, h.eval, h.count, h.sum, h.mn, h.mx, h.ents, h.chs, h.keys, by omega, by omega, by omega, by omega⟩
section
variable {bs : List Int}
structure AnR (bs : List Int) (x : AnM) : Prop where
  ents : x.ents.length ≤ bs.length
  chs : x.chs.length ≤ bs.length
  keys : x.keys.length ≤ bs.length
  by_ : B8 x.bytes
end
theorem eAn_B8 {x : AnM} (h : B8 x.bytes) : B8 (eAn x) := by
  unfold eAn
  exact (((((((((((((((eU_B8 _).app (eU_B8 _)).app (eZ_B8 _)).app (eF_B8 _)).app (eZ_B8 _)).app (eZ_B8 _)).app (eZ_B8 _)).app (eZ_B8 _)).app (eZ_B8 _)).app (eZ_B8 _)).app (eZ_B8 _)).app (eEnts_B8 _)).app (eChs_B8 _)).app ((eU_B8 _).app (fm_B8 fun _ _ => eZ_B8 _))).app (eBytes_B8 h))
end Go.V
/-! ## Fwd -/
namespace Go.V
open Go
def Rdr {α : Type} (bs : List Int) (R : Nat → α × Nat × Int) (l : List Int) (x : α) : Prop :=
  ∀ p, p ≤ bs.length → (l <+: bs.drop p → R p = (x, p + l.length, 0)) ∧ (bs.drop p <+: l → bs.length - p < l.length → (R p).2.2 = 12)
section
variable {α β : Type} {bs : List Int}
theorem Rdr.congr {R Q : Nat → α × Nat × Int} {l : List Int} {x : α} (h : Rdr bs R l x) (e : ∀ p, Q p = R p) : Rdr bs Q l x := by rwa [show Q = R from funext e]
theorem pre_split {l m t : List Int} (h : l ++ m <+: t) : l <+: t ∧ m <+: t.drop l.length := by
  obtain ⟨r, rfl⟩ := h
  exact ⟨⟨m ++ r, by simp⟩, ⟨r, by simp⟩⟩
theorem pre_cut {l m t : List Int} (h : t <+: l ++ m) : (t <+: l ∧ t.length < l.length) ∨ (l <+: t ∧ t.drop l.length <+: m) := by
  obtain ⟨r, hr⟩ := h
  rcases List.append_eq_append_iff.1 hr with ⟨a, h1, h2⟩ | ⟨a, h1, h2⟩
  · by_cases ha : a = []
    · subst ha; refine .inr ⟨⟨[], by simpa using h1⟩, ?_⟩
      rw [show t.drop l.length = [] by rw [List.drop_eq_nil_of_le]; simp [h1]]; exact List.nil_prefix
    · refine .inl ⟨⟨a, h1.symm⟩, ?_⟩
      rw [h1, List.length_append]
      have : 0 < a.length := List.length_pos_iff.2 ha
      omega
  · refine .inr ⟨⟨a, h1.symm⟩, ?_⟩
    rw [h1, List.drop_left]; exact ⟨r, h2.symm⟩
theorem Rdr.bind {R1 : Nat → α × Nat × Int} {R2 : α → Nat → Int → β × Nat × Int} {l1 l2 : List Int} {x1 : α} {x2 : β} (h1 : Rdr bs R1 l1 x1) (h2 : Rdr bs (fun p => R2 x1 p 0) l2 x2) (hs : ∀ v p e, e ≠ 0 → (R2 v p e).2.2 = e) :
    Rdr bs (fun p => R2 (R1 p).1 (R1 p).2.1 (R1 p).2.2) (l1 ++ l2) x2 := fun p hp => by
  refine ⟨fun h => ?_, fun h hlt => ?_⟩
  · obtain ⟨a, b⟩ := pre_split h
    have hl := a.length_le
    rw [List.length_drop] at hl
    rw [List.drop_drop] at b
    simp only [(h1 p hp).1 a]
    have h9 := (h2 (p + l1.length) (by omega)).1 b
    simp only at h9
    rw [h9, List.length_append, Nat.add_assoc]
  · rcases pre_cut h with ⟨a, b⟩ | ⟨a, b⟩
    · rw [List.length_drop] at b
      have := (h1 p hp).2 a b
      rw [hs _ _ _ (by rw [this]; decide), this]
    · have hl := a.length_le
      rw [List.length_drop] at hl
      rw [List.drop_drop] at b
      simp only [(h1 p hp).1 a]
      rw [List.length_append] at hlt
      exact (h2 (p + l1.length) (by omega)).2 b (by omega)
theorem Rdr.map {R : Nat → α × Nat × Int} {l : List Int} {x : α} (g : α → β) (h : Rdr bs R l x) : Rdr bs (fun p => (g (R p).1, (R p).2)) l (g x) := fun p hp =>
  ⟨fun k => by simp only [(h p hp).1 k], fun k hk => (h p hp).2 k hk⟩
theorem Rdr.ret (x : α) : Rdr bs (fun p => (x, p, 0)) [] x := fun _ _ => ⟨fun _ => rfl, fun _ h => absurd h (Nat.not_lt_zero _)⟩
theorem rdr_U {u : Int} (h : 0 ≤ u ∧ u ≤ 18446744073709551615) : Rdr bs (fun p => rU bs p 0) (eU u) u := fun p _ => by
  refine ⟨fun ⟨r, hr⟩ => ?_, fun hpre hlt => ?_⟩
  · have := uv_w h r
    simp only [rU, ← hr, this]; simp
  · have h1 := uv_w h []
    rw [List.append_nil] at h1
    have h2 := (uvGo_t (eU u) 0 0 u _ (bs.drop p).length h1).2 (by rw [List.length_drop]; omega)
    have h3 : (eU u).take (bs.drop p).length = bs.drop p := by obtain ⟨r, hr⟩ := hpre; rw [← hr]; simp
    rw [h3] at h2
    have h4 : (uv (bs.drop p)).2.2 = 12 := h2
    simp only [rU, h4]; simp
theorem rdr_Z {n : Int} (h : I64 n) : Rdr bs (fun p => rZ bs p 0) (eZ n) n := by
  have := (rdr_U (bs := bs) (zz_b h)).map uz
  rw [uz_zz] at this
  exact this
theorem rdr_B {c : Int} : Rdr bs (fun p => rB bs p 0) [c] c := fun p _ => by
  refine ⟨fun ⟨r, hr⟩ => ?_, fun hpre hlt => ?_⟩
  · have : bs[p]? = some c := by rw [← List.head?_drop, ← hr]; rfl
    simp [rB, this]
  · have : bs[p]? = none := List.getElem?_eq_none (by simp at hlt; omega)
    simp [rB, this]
theorem rdr_Bool {b : Bool} : Rdr bs (fun p => rBool bs p 0) (eF b) b := by
  refine Rdr.congr (R := fun p => (fun v q e => ((decide (v = 1), q, if (1 : Int) < v then fl e 13 else e) : Bool × Nat × Int)) (rB bs p 0).1 (rB bs p 0).2.1 (rB bs p 0).2.2) ?_ (fun _ => rfl)
  have := Rdr.bind (R1 := fun p => rB bs p 0) (R2 := fun v q e => ((decide (v = 1), q, if (1 : Int) < v then fl e 13 else e) : Bool × Nat × Int)) (l1 := eF b) (l2 := []) (x1 := if b then 1 else 0) (x2 := b) rdr_B
    (by cases b <;> exact Rdr.ret _) (fun v p e he => by simp only; split <;> simp [fl, he])
  rwa [List.append_nil] at this
theorem rdr_Lim {u lim : Int} (h : 0 ≤ u ∧ u ≤ 18446744073709551615) (hl : u ≤ lim) : Rdr bs (fun p => rLim bs lim p 0) (eU u) u := fun p hp => by
  refine ⟨fun k => ?_, fun k hk => ?_⟩
  · simp only [rLim]
    have := (rdr_U h p hp).1 k
    simp only at this
    rw [this]; rw [if_neg (by simp only; omega)]
  · simp only [rLim]
    have := (rdr_U h p hp).2 k hk
    simp only at this
    split
    · simp [this, fl]
    · exact this
theorem Rdr.left {R1 : Nat → Int × Nat × Int} {R2 : Int → Nat → Int → β × Nat × Int} {l1 l2 : List Int} {x1 : Int} {x2 : β} (h1 : Rdr bs R1 l1 x1) (h2 : Rdr bs (fun p => R2 x1 p 0) l2 x2) (hs : ∀ v p e, e ≠ 0 → (R2 v p e).2.2 = e) (hn : x1 ≤ l2.length) :
    Rdr bs (fun p => R2 (rLeft bs (R1 p)).1 (rLeft bs (R1 p)).2.1 (rLeft bs (R1 p)).2.2) (l1 ++ l2) x2 := fun p hp => by
  refine ⟨fun h => ?_, fun h hlt => ?_⟩
  · obtain ⟨a, b⟩ := pre_split h
    have hl := a.length_le
    have hl2 := b.length_le
    rw [List.drop_drop] at b hl2
    rw [List.length_drop] at hl hl2
    simp only [(h1 p hp).1 a]
    have : rLeft bs (x1, p + l1.length, 0) = (x1, p + l1.length, 0) := by rw [rLeft, if_neg (by simp only; omega)]
    simp only [this]
    have h9 := (h2 (p + l1.length) (by omega)).1 b
    simp only at h9
    rw [h9, List.length_append, Nat.add_assoc]
  · rcases pre_cut h with ⟨a, b⟩ | ⟨a, b⟩
    · rw [List.length_drop] at b
      have h3 := (h1 p hp).2 a b
      have h4 : (rLeft bs (R1 p)).2.2 = 12 := by
        rw [rLeft]; split
        · simp [h3, fl]
        · exact h3
      rw [hs _ _ _ (by rw [h4]; decide), h4]
    · have hl := a.length_le
      rw [List.length_drop] at hl
      rw [List.drop_drop] at b
      simp only [(h1 p hp).1 a]
      rw [List.length_append] at hlt
      by_cases hc : (bs.length : Int) - ((p + l1.length : Nat) : Int) < x1
      · have : rLeft bs (x1, p + l1.length, 0) = (0, p + l1.length, 12) := by rw [rLeft, if_pos hc]; rfl
        simp only [this]; exact hs _ _ _ (by decide)
      · have : rLeft bs (x1, p + l1.length, 0) = (x1, p + l1.length, 0) := by rw [rLeft, if_neg hc]
        simp only [this]
        exact (h2 (p + l1.length) (by omega)).2 b (by omega)
theorem rdr_bytes {l : List Int} : Rdr bs (fun p => rBytes bs ((l.length : Int)).toNat p 0) l l := fun p hp => by
  rw [Int.toNat_natCast]
  refine ⟨fun h => ?_, fun _ hlt => ?_⟩
  · have hl := h.length_le
    rw [List.length_drop] at hl
    simp only [rBytes]
    rw [if_neg (by omega)]
    by_cases h0 : l.length = 0
    · rw [if_pos (.inr h0), List.length_eq_zero_iff.1 h0]; rfl
    · rw [if_neg (by simp [h0])]
      obtain ⟨r, hr⟩ := h
      rw [← hr, List.take_left]
  · simp only [rBytes]; rw [if_pos (by omega)]; rfl
theorem rdr_ents : ∀ (l : List (Int × Int)), En64 l → Rdr bs (fun p => rEnts bs l.length p 0) (l.flatMap eEn) l
  | [], _ => Rdr.ret []
  | x :: l, h => by
    have hx := h x (List.mem_cons_self ..)
    have ih := rdr_ents l (fun y hy => h y (List.mem_cons_of_mem _ hy))
    have h3 := Rdr.bind (R2 := fun v q e => ((((x.1, v) :: (rEnts bs l.length q e).1, (rEnts bs l.length q e).2)) : List (Int × Int) × Nat × Int)) (rdr_Z (bs := bs) hx.2) (ih.map (fun r => (x.1, x.2) :: r)) (fun v q e he => by simp only; rw [rEnts_0 he])
    have h4 := Rdr.bind (R2 := fun u q e => ((((u, (rZ bs q e).1) :: (rEnts bs l.length (rZ bs q e).2.1 (rZ bs q e).2.2).1, (rEnts bs l.length (rZ bs q e).2.1 (rZ bs q e).2.2).2)) : List (Int × Int) × Nat × Int)) (rdr_Z (bs := bs) hx.1) h3 (fun v q e he => by
      simp only; rw [rZ_s he]; rw [rEnts_0 he])
    rw [List.flatMap_cons, eEn, List.append_assoc]
    refine h4.congr fun p => ?_
    simp [rEnts]
theorem rdr_chs : ∀ (l : List (Int × Int × Int × Int)), Ch64 l → (∀ c ∈ l, 0 ≤ c.1 ∧ c.1 ≤ 255) → Rdr bs (fun p => rChs bs l.length p 0) (l.flatMap eCh) l
  | [], _, _ => Rdr.ret []
  | x :: l, h, hk => by
    have hx := h x (List.mem_cons_self ..)
    have h8 := hk x (List.mem_cons_self ..)
    have ih := rdr_chs l (fun y hy => h y (List.mem_cons_of_mem _ hy)) (fun y hy => hk y (List.mem_cons_of_mem _ hy))
    have h3 := Rdr.bind (R2 := fun v q e => ((((x.1, x.2.1, x.2.2.1, v) :: (rChs bs l.length q e).1, (rChs bs l.length q e).2)) : List (Int × Int × Int × Int) × Nat × Int)) (rdr_Z (bs := bs) hx.2.2.2) (ih.map (fun r => (x.1, x.2.1, x.2.2.1, x.2.2.2) :: r)) (fun v q e he => by simp only; rw [rChs_0 he])
    have h4 := Rdr.bind (R2 := fun u q e => ((((x.1, x.2.1, u, (rZ bs q e).1) :: (rChs bs l.length (rZ bs q e).2.1 (rZ bs q e).2.2).1, (rChs bs l.length (rZ bs q e).2.1 (rZ bs q e).2.2).2)) : List (Int × Int × Int × Int) × Nat × Int)) (rdr_Z (bs := bs) hx.2.2.1) h3 (fun v q e he => by
      simp only; rw [rZ_s he]; rw [rChs_0 he])
    have h5 := Rdr.bind (R2 := fun t q e => ((((x.1, t, (rZ bs q e).1, (rZ bs (rZ bs q e).2.1 (rZ bs q e).2.2).1) :: (rChs bs l.length (rZ bs (rZ bs q e).2.1 (rZ bs q e).2.2).2.1 (rZ bs (rZ bs q e).2.1 (rZ bs q e).2.2).2.2).1, (rChs bs l.length (rZ bs (rZ bs q e).2.1 (rZ bs q e).2.2).2.1 (rZ bs (rZ bs q e).2.1 (rZ bs q e).2.2).2.2).2)) : List (Int × Int × Int × Int) × Nat × Int)) (rdr_Z (bs := bs) hx.2.1) h4 (fun v q e he => by
      simp only; rw [rZ_s he]; simp only; rw [rZ_s he]; simp only; rw [rChs_0 he])
    have h6 := Rdr.bind (R2 := fun s q e => ((((s, (rZ bs q e).1, (rZ bs (rZ bs q e).2.1 (rZ bs q e).2.2).1, (rZ bs (rZ bs (rZ bs q e).2.1 (rZ bs q e).2.2).2.1 (rZ bs (rZ bs q e).2.1 (rZ bs q e).2.2).2.2).1) :: (rChs bs l.length (rZ bs (rZ bs (rZ bs q e).2.1 (rZ bs q e).2.2).2.1 (rZ bs (rZ bs q e).2.1 (rZ bs q e).2.2).2.2).2.1 (rZ bs (rZ bs (rZ bs q e).2.1 (rZ bs q e).2.2).2.1 (rZ bs (rZ bs q e).2.1 (rZ bs q e).2.2).2.2).2.2).1, (rChs bs l.length (rZ bs (rZ bs (rZ bs q e).2.1 (rZ bs q e).2.2).2.1 (rZ bs (rZ bs q e).2.1 (rZ bs q e).2.2).2.2).2.1 (rZ bs (rZ bs (rZ bs q e).2.1 (rZ bs q e).2.2).2.1 (rZ bs (rZ bs q e).2.1 (rZ bs q e).2.2).2.2).2.2).2)) : List (Int × Int × Int × Int) × Nat × Int)) (rdr_B (bs := bs) (c := x.1)) h5 (fun v q e he => by
      simp only; rw [rZ_s he]; simp only; rw [rZ_s he]; simp only; rw [rZ_s he]; simp only; rw [rChs_0 he])
    rw [List.flatMap_cons, eCh, show x.1 % 256 = x.1 by omega]
    simp only [List.append_assoc, List.cons_append]
    refine Rdr.congr (R := _) h6 fun p => ?_
    simp [rChs]
theorem rdr_ints : ∀ (l : List Int), I64s l → Rdr bs (fun p => rInts bs l.length p 0) (l.flatMap eZ) l
  | [], _ => Rdr.ret []
  | x :: l, h => by
    have hx := h x (List.mem_cons_self ..)
    have ih := rdr_ints l (fun y hy => h y (List.mem_cons_of_mem _ hy))
    have h3 := Rdr.bind (R2 := fun v q e => (((v :: (rInts bs l.length q e).1, (rInts bs l.length q e).2)) : List Int × Nat × Int)) (rdr_Z (bs := bs) hx) (ih.map (fun r => x :: r)) (fun v q e he => by simp only; rw [rInts_0 he])
    rw [List.flatMap_cons]
    refine h3.congr fun p => ?_
    simp [rInts]
theorem varint_pos (u : Nat) : 1 ≤ (varint u).length := by
  by_cases h : u < 128
  · rw [varint_lt h]; simp
  · rw [varint_ge h]; simp
theorem eEn_pos {x : Int × Int} : 1 ≤ (eEn x).length := by
  rw [eEn, List.length_append]; have := varint_pos (zz x.1).toNat; unfold eZ; omega
theorem fm_pos {γ : Type} {f : γ → List Int} : ∀ {l : List γ}, (∀ x ∈ l, 1 ≤ (f x).length) → l.length ≤ (l.flatMap f).length
  | [], _ => Nat.le_refl _
  | x :: l, h => by
    have h1 := h x (List.mem_cons_self ..)
    have h2 := fm_pos (f := f) (l := l) fun y hy => h y (List.mem_cons_of_mem _ hy)
    rw [List.flatMap_cons, List.length_append, List.length_cons]; omega
theorem rEnts_st {n : Nat} {p : Nat} {e : Int} (h : e ≠ 0) : (rEnts bs n p e).2.2 = e := by rw [rEnts_0 h]
theorem rChs_st {n : Nat} {p : Nat} {e : Int} (h : e ≠ 0) : (rChs bs n p e).2.2 = e := by rw [rChs_0 h]
theorem rInts_st {n : Nat} {p : Nat} {e : Int} (h : e ≠ 0) : (rInts bs n p e).2.2 = e := by rw [rInts_0 h]
section
variable {R1 : Nat → Int × Nat × Int}
theorem rdr_eEnts {l : List (Int × Int)} (h : En64 l) (h1 : Rdr bs R1 (eU l.length) l.length) : Rdr bs (fun p => rEnts bs (rLeft bs (R1 p)).1.toNat (rLeft bs (R1 p)).2.1 (rLeft bs (R1 p)).2.2) (eEnts l) l := by
  have h2 := rdr_ents (bs := bs) l h
  exact Rdr.left (R2 := fun v p e => rEnts bs v.toNat p e) h1 (by simp only [Int.toNat_natCast]; exact h2) (fun _ _ _ he => rEnts_st he) (Int.ofNat_le.2 (fm_pos (f := eEn) (l := l) fun x _ => eEn_pos))
theorem rdr_eChs {l : List (Int × Int × Int × Int)} (h : Ch64 l) (hk : ∀ c ∈ l, 0 ≤ c.1 ∧ c.1 ≤ 255) (h1 : Rdr bs R1 (eU l.length) l.length) : Rdr bs (fun p => rChs bs (rLeft bs (R1 p)).1.toNat (rLeft bs (R1 p)).2.1 (rLeft bs (R1 p)).2.2) (eChs l) l := by
  have h2 := rdr_chs (bs := bs) l h hk
  exact Rdr.left (R2 := fun v p e => rChs bs v.toNat p e) h1 (by simp only [Int.toNat_natCast]; exact h2) (fun _ _ _ he => rChs_st he) (Int.ofNat_le.2 (fm_pos (f := eCh) (l := l) fun x _ => (by rw [eCh, List.length_cons]; omega)))
theorem rdr_eInts {l : List Int} (h : I64s l) (h1 : Rdr bs R1 (eU l.length) l.length) : Rdr bs (fun p => rInts bs (rLeft bs (R1 p)).1.toNat (rLeft bs (R1 p)).2.1 (rLeft bs (R1 p)).2.2) (eU l.length ++ l.flatMap eZ) l := by
  have h2 := rdr_ints (bs := bs) l h
  exact Rdr.left (R2 := fun v p e => rInts bs v.toNat p e) h1 (by simp only [Int.toNat_natCast]; exact h2) (fun _ _ _ he => rInts_st he) (Int.ofNat_le.2 (fm_pos (f := eZ) (l := l) fun x _ => varint_pos _))
theorem rdr_lBytes {l : List Int} (h1 : Rdr bs R1 (eU l.length) l.length) : Rdr bs (fun p => rBytes bs (rLeft bs (R1 p)).1.toNat (rLeft bs (R1 p)).2.1 (rLeft bs (R1 p)).2.2) (eBytes l) l :=
  Rdr.left (R2 := fun v p e => rBytes bs v.toNat p e) h1 rdr_bytes (fun _ _ _ he => rBytes_s he) (Int.le_refl _)
end
theorem rdr_an {y : AnM} (hw : AnT y) (he : 0 ≤ y.err ∧ y.err ≤ 255) (hk : ∀ c ∈ y.chs, 0 ≤ c.1 ∧ c.1 ≤ 255) (h4 : y.ents.length ≤ 1000000) (h5 : y.chs.length ≤ 1000000) (h6 : y.keys.length ≤ 1000000) (h7 : y.bytes.length ≤ 1000000) {p : Nat} (hp : p ≤ bs.length) (h : eAn y <+: bs.drop p) : rAns bs p = (y, p + (eAn y).length, 0) := by
  unfold eAn at h ⊢
  rw [show y.err % 18446744073709551616 = y.err by omega] at h ⊢
  simp only [List.append_assoc] at h
  have stp : ∀ {l m : List Int} {q : Nat}, l ++ m <+: bs.drop q → l <+: bs.drop q ∧ m <+: bs.drop (q + l.length) := fun k => by
    have := pre_split k; rwa [List.drop_drop] at this
  have lele : ∀ {l : List Int} {q : Nat}, l <+: bs.drop q → q ≤ bs.length → q + l.length ≤ bs.length := fun k hq => by
    have := k.length_le; rw [List.length_drop] at this; omega
  obtain ⟨a1, h⟩ := stp h; have p1 := lele a1 hp; have r1 := (rdr_Lim (lim := 255) (by omega) he.2 _ hp).1 a1
  obtain ⟨a2, h⟩ := stp h; have p2 := lele a2 p1; have r2 := (rdr_U hw.handle _ p1).1 a2
  obtain ⟨a3, h⟩ := stp h; have p3 := lele a3 p2; have r3 := (rdr_Z hw.value _ p2).1 a3
  obtain ⟨a4, h⟩ := stp h; have p4 := lele a4 p3; have r4 := (rdr_Bool _ p3).1 a4
  obtain ⟨a5, h⟩ := stp h; have p5 := lele a5 p4; have r5 := (rdr_Z hw.n _ p4).1 a5
  obtain ⟨a6, h⟩ := stp h; have p6 := lele a6 p5; have r6 := (rdr_Z hw.ekey _ p5).1 a6
  obtain ⟨a7, h⟩ := stp h; have p7 := lele a7 p6; have r7 := (rdr_Z hw.eval _ p6).1 a7
  obtain ⟨a8, h⟩ := stp h; have p8 := lele a8 p7; have r8 := (rdr_Z hw.count _ p7).1 a8
  obtain ⟨a9, h⟩ := stp h; have p9 := lele a9 p8; have r9 := (rdr_Z hw.sum _ p8).1 a9
  obtain ⟨a10, h⟩ := stp h; have p10 := lele a10 p9; have r10 := (rdr_Z hw.mn _ p9).1 a10
  obtain ⟨a11, h⟩ := stp h; have p11 := lele a11 p10; have r11 := (rdr_Z hw.mx _ p10).1 a11
  obtain ⟨a13, h⟩ := stp h; have p13 := lele a13 p11; have r13 := (rdr_eEnts hw.ents (rdr_U (by omega)) _ p11).1 a13
  obtain ⟨a15, h⟩ := stp h; have p15 := lele a15 p13; have r15 := (rdr_eChs hw.chs hk (rdr_U (by omega)) _ p13).1 a15
  rw [← List.append_assoc (eU _)] at h
  obtain ⟨a17, a19⟩ := stp h; have p17 := lele a17 p15; have r17 := (rdr_eInts hw.keys (rdr_U (by omega)) _ p15).1 a17
  have r19 := (rdr_lBytes (rdr_U (by omega)) _ p17).1 a19
  simp only at r1 r2 r3 r4 r5 r6 r7 r8 r9 r10 r11 r13 r15 r17 r19
  simp only [rAns, r1, an1, r2, an2, r3, an3, r4, an4, r5, an5, r6, an6, r7, an7, r8, an8, r9, an9, r10, an10, r11, an11, an12, rCnt, r13, an13, an14, r15, an15, an16, r17, an17, an18, r19, an19]
  simp only [List.length_append, Prod.mk.injEq, and_true, true_and]
  omega
end
end Go.V
/-! ## Fwa -/
namespace Go.V
open Go
section
variable {bs : List Int}
theorem nxa_f2 {y : AnM} (hw : AnT y) (he : 0 ≤ y.err ∧ y.err ≤ 255) (hk : ∀ c ∈ y.chs, 0 ≤ c.1 ∧ c.1 ≤ 255) (h4 : y.ents.length ≤ 1000000) (h5 : y.chs.length ≤ 1000000) (h6 : y.keys.length ≤ 1000000) (h7 : y.bytes.length ≤ 1000000) {p : Nat} (hp : p ≤ bs.length) (h : eAn y <+: bs.drop p) : rNxa bs (p : Int) = (y, ((p + (eAn y).length : Nat) : Int), 0) := by
  have := rdr_an hw he hk h4 h5 h6 h7 hp h
  rw [rNxa, if_neg (by omega), Int.toNat_natCast, this]; rfl
end
end Go.V
/-! ## As -/
namespace Go.V
open Go Go.RowKit
structure AnS where
  x : AnM
  ab : Option Addr
  ae : Option Addr
  ac : Option Addr
  ak : Option Addr
  cb : Nat
  ce : Nat
  cc : Nat
  ck : Nat
def anC (z : AnS) : List Value := [.int .i64 z.x.err, .int .u64 z.x.handle, .int .i64 z.x.value, .bool z.x.found, .int .i64 z.x.n, .int .i64 z.x.ekey, .int .i64 z.x.eval, .int .i64 z.x.count, .int .i64 z.x.sum, .int .i64 z.x.mn, .int .i64 z.x.mx, .slice z.ae (en2 z.x.ents).length z.ce, .slice z.ac (ch4 z.x.chs).length z.cc, .slice z.ak (i64s z.x.keys).length z.ck, .slice z.ab (by8 z.x.bytes).length z.cb]
def anS (l : List AnS) : List (List Value) := l.map anC
@[simp] theorem anS_len (l : List AnS) : (anS l).length = l.length := by simp [anS]
theorem anS_at {l : List AnS} {k : Nat} {z : AnS} (h : l[k]? = some z) : (anS l)[k]? = some (anC z) := by simp [anS, h]
theorem anS_snoc (l : List AnS) (z : AnS) : anS l ++ [anC z] = anS (l ++ [z]) := by simp [anS]
def anF (z : AnS) : List HP := [Sh 5 1 (by8 z.x.bytes) z.ab z.cb, Sh 48 2 (en2 z.x.ents) z.ae z.ce, Sh 77 4 (ch4 z.x.chs) z.ac z.cc, Sh 2 1 (i64s z.x.keys) z.ak z.ck]
theorem anF_sh (z : AnS) : ∀ A ∈ anF z, Sht A := fun A hA => by
  simp only [anF, List.mem_cons, List.not_mem_nil, or_false] at hA
  rcases hA with rfl | rfl | rfl | rfl <;> exact Sht.sh
theorem snoc_as {ms : List AnS} {z : AnS} (y : AnS) (h : y ∈ ms ++ [z]) : y ∈ z :: ms := by
  rcases List.mem_append.1 h with h | h
  · exact List.mem_cons_of_mem _ h
  · rw [List.mem_singleton.1 h]; exact List.mem_cons_self ..
def trn (l : List AnM) : List Int := l.flatMap eAn
theorem trn_take {l : List AnM} {k : Nat} {x : AnM} (h : l[k]? = some x) : trn (l.take (k + 1)) = trn (l.take k) ++ eAn x := fm_take _ h
theorem trn_all {l : List AnM} {k : Nat} (h : l.length ≤ k) : trn (l.take k) = trn l := fm_all _ h
theorem eAn_len2 {x : AnM} (h : AnW x) : 2 ≤ (eAn x).length ∧ (eAn x).length ≤ 10000 := by
  have h0 := h.le; have h0' := h.lc; have h0'' := h.lk; have h0''' := h.lb
  have h1 := eU_len (u := x.err % 18446744073709551616) (by omega)
  have h2 := eU_len h.handle.2
  have h3 := eZ_len h.value
  have h5 := eZ_len h.n
  have h6 := eZ_len h.ekey
  have h7 := eZ_len h.eval
  have h8 := eZ_len h.count
  have h9 := eZ_len h.sum
  have h10 := eZ_len h.mn
  have h11 := eZ_len h.mx
  have h12 := eEnts_len h.ents (by omega)
  have h13 := eChs_len h.chs (by omega)
  have h14 := eU_len (u := (x.keys.length : Int)) (by omega)
  have h15 := eKeys_len h.keys
  have h16 := eBytes_len (l := x.bytes) (by omega)
  have h4 : (eF x.found).length = 1 := by simp [eF]
  have h17 : 1 ≤ (eU x.handle).length := varint_pos _
  unfold eAn
  simp only [List.length_append]
  omega
theorem trn_len {l : List AnM} (h : ∀ x ∈ l, AnW x) : (trn l).length ≤ 10000 * l.length := fm_len fun x hx => (eAn_len2 (h x hx)).2
theorem trn_B8 {l : List AnM} (h : ∀ x ∈ l, B8 x.bytes) : B8 (trn l) := fm_B8 fun x hx => eAn_B8 (h x hx)
theorem trn_at {l : List AnM} {k : Nat} {x : AnM} (h : l[k]? = some x) : ∃ r, trn l = trn (l.take k) ++ (eAn x ++ r) := by
  refine ⟨trn (l.drop (k + 1)), ?_⟩
  have h1 : l = l.take k ++ x :: l.drop (k + 1) := by
    have h2 := List.getElem?_eq_some_iff.1 h
    obtain ⟨hk, rfl⟩ := h2
    rw [← List.drop_eq_getElem_cons hk, List.take_append_drop]
  conv => lhs; rw [h1]
  simp [trn]
theorem trn_pos {l : List AnM} {k : Nat} {x : AnM} (hw : ∀ x ∈ l, AnW x) (h : l[k]? = some x) : (trn (l.take k)).length < (trn l).length := by
  obtain ⟨r, hr⟩ := trn_at h
  have := (eAn_len2 (hw x (List.mem_of_getElem? h))).1
  rw [hr]; simp only [List.length_append]; omega
structure AnOk (x : AnM) : Prop where
  t : AnT x
  w : AnW x
  e : 0 ≤ x.err ∧ x.err ≤ 255
  c : x.chs = []
theorem AnOk.chs {x : AnM} (h : AnOk x) : ∀ c ∈ x.chs, 0 ≤ c.1 ∧ c.1 ≤ 255 := by rw [h.c]; exact fun _ h => by cases h
theorem trn_rd {l : List AnM} {t : List Int} {k : Nat} {x : AnM} (hw : ∀ x ∈ l, AnOk x) (h : l[k]? = some x) : rNxa (trn l ++ t) ((trn (l.take k)).length : Int) = (x, ((trn (l.take (k + 1))).length : Int), 0) := by
  obtain ⟨r, hr⟩ := trn_at h
  have hx := hw x (List.mem_of_getElem? h)
  have h1 := hx.w
  have := nxa_f2 (bs := trn l ++ t) (p := (trn (l.take k)).length) hx.t hx.e hx.chs (by have := h1.le; omega) (by have := h1.lc; omega) (by have := h1.lk; omega) (by have := h1.lb; omega) (by rw [hr]; simp only [List.length_append]; omega) (by
    rw [hr, List.append_assoc, List.drop_left, List.append_assoc]; exact List.prefix_append _ _)
  rw [this, trn_take h, List.length_append]
theorem trn_rd0 {l : List AnM} (hw : ∀ x ∈ l, AnOk x) (k : Nat) (x : AnM) (h : l[k]? = some x) : rNxa (trn l) ((trn (l.take k)).length : Int) = (x, ((trn (l.take (k + 1))).length : Int), 0) ∧ (trn (l.take k)).length < (trn l).length :=
  ⟨by have := trn_rd (t := []) hw h; rwa [List.append_nil] at this, trn_pos (fun x hx => (hw x hx).w) h⟩
end Go.V
/-! ## Shd -/
namespace Go.V
open Go Go.RowKit
theorem St.shsDup {α : Type} {f : α → List HP} {zs : List α} {g w : World} {L : List HP} (h : St g L w) (i : Nat) (hi : L[i]? = some (Shs f zs)) : St g (Shs f zs :: L) w := by
  obtain ⟨o, r, a, b, c, d, e⟩ := h.own
  obtain ⟨o1, o2, h1, h2, hd, hh, hL⟩ := All.perm (perm_at hi) e
  exact ⟨h.os, h.tape, h.output, h.size, o, r, a, b, c, d, All.cat [Shs f zs] L (fun _ _ h => by cases h) (Sub.refl _) (Dj.none _) ⟨fun _ => none, fun _ => none, Sub.refl _, Sub.refl _, Dj.none _, hh, trivial⟩ e⟩
end Go.V
/-! ## Sc5 -/
namespace Go.Proofs.YthcmigbamkohpaaGreatDoor
open Go Go.V Go.RowKit
set_option maxRecDepth 8192 in
theorem appA0 {g w : World} {L : List HP} (x : AnM) (ab ae ac ak : Option Addr) (cb ce cc ck : Nat) (hw : AnW x) (hS : St g (Sh 5 1 (by8 x.bytes) ab cb :: Sh 48 2 (en2 x.ents) ae ce :: Sh 77 4 (ch4 x.chs) ac cc :: Sh 2 1 (i64s x.keys) ak ck :: L) w) :
    Sp Tryz.prog 55 [.slice none 0 0, .agg #[.int .i64 x.err, .int .u64 x.handle, .int .i64 x.value, .bool x.found, .int .i64 x.n, .int .i64 x.ekey, .int .i64 x.eval, .int .i64 x.count, .int .i64 x.sum, .int .i64 x.mn, .int .i64 x.mx, .slice ae (List.length (en2 x.ents)) ce, .slice ac (List.length (ch4 x.chs)) cc, .slice ak (List.length (i64s x.keys)) ck, .slice ab (List.length (by8 x.bytes)) cb]] w (fun v w' => ∃ (a2 : Option Addr) (c2 : Nat), v = .slice a2 (List.length (by8 (eAn x))) c2 ∧ St g (Own 5 1 (by8 (eAn x)) a2 c2 :: Sh 5 1 (by8 x.bytes) ab cb :: Sh 48 2 (en2 x.ents) ae ce :: Sh 77 4 (ch4 x.chs) ac cc :: Sh 2 1 (i64s x.keys) ak ck :: L) w') := by
  refine (appendAnswer_spec [] none 0 x ab ae ac ak cb ce cc ck (by decide) hw (hS.nilS 5 1)).mono fun v w' h => ?_
  obtain ⟨a2, c2, h1, h2⟩ := h
  exact ⟨a2, c2, h1, h2.sel 6 [0, 1, 1, 1, 1] rfl⟩
set_option maxRecDepth 8192 in
theorem tr_n {g w : World} {L : List HP} (zs : List AnS) (a : Option Addr) (c : Nat) (hw : ∀ z ∈ zs, AnW z.x) (hl : zs.length ≤ 20) (hS : St g (Sh 53 15 (anS zs) a c :: Shs anF zs :: L) w) :
    Sp Tryz.prog 21 [.slice a (List.length (anS zs)) c] w (fun v w' => ∃ (a2 : Option Addr) (c2 : Nat), v = .slice a2 (List.length (by8 (trn (zs.map AnS.x)))) c2 ∧ St g (Own 5 1 (by8 (trn (zs.map AnS.x))) a2 c2 :: Sh 53 15 (anS zs) a c :: Shs anF zs :: L) w') := by
  refine Sp.enter Tryz.func21 rfl (by kernel_rfl) (by kernel_rfl) ?_
  have _ := hl
  refine WC.seq ?_
  refine WC.region ?_
  refine WL.r 1 rfl ?_
  refine WL.nil ?_
  refine WC.seq ?_
  refine WC.region ?_
  have hzl := anS_len zs
  refine WL.r 1 rfl ?_
  refine WL.nil ?_
  refine WC.seq ?_
  refine WC.seq ?_
  refine WC.region ?_
  refine WL.r 3 rfl ?_
  refine WL.nil ?_
  refine WC.block ?_
  replace hS := hS.nil_ 5 1
  refine WC.loop [2, 3, 6, 7, 8] (fun kM vs w => ∃ (k : Nat) (acc : List Int) (u : Option Addr) (d : Nat), vs = [.slice none 0 0, .slice u (List.length (by8 acc)) d, .slice a (List.length (anS zs)) c, .int .i64 (List.length (anS zs) : Int), .int .i64 (k : Int)] ∧ St g (Own 5 1 (by8 acc) u d :: Sh 53 15 (anS zs) a c :: Shs anF zs :: L) w ∧ (k ≤ zs.length) ∧ (acc = trn ((zs.map AnS.x).take k)) ∧ (acc.length ≤ 10000 * k) ∧ (zs.length - k) = kM) ((List.length zs) - 0) ⟨0, [], none, 0, rfl, hS, (Nat.zero_le _), (rfl), (Nat.zero_le _), rfl⟩ ?_
  clear hS; rintro _ _ w j ⟨k, acc, u, d, rfl, hS, hk, ha, hal, rfl⟩
  refine WC.seq ?_
  refine WC.region ?_
  refine WL.r 1 rfl ?_
  refine WL.nil ?_
  refine WC.seq ?_
  refine WC.ifP rfl (fun cd1 => ?_) (fun cd1 => ?_)
  · refine WC.skip ?_
    as_aux_lemma =>
      refine WC.seq ?_
      refine WC.block ?_
      refine WC.seq ?_
      refine WC.region ?_
      obtain ⟨z, hz⟩ : ∃ z, zs[k]? = some z := ⟨_, List.getElem?_eq_getElem (by omega)⟩; have hzw := hw z (List.mem_of_getElem? hz); have hze := eAn_len2 hzw; have hob := by8_len acc; have hzm : (zs.map AnS.x)[k]? = some z.x := (by rw [List.getElem?_map, hz]; rfl)
      refine WL.ix rfl rfl (i := (k : Int)) (k) el_44 rfl rfl (by omega) (by omega) (hS.rdS 1 rfl (anS_at hz)).1 ?_
      refine WL.ldC rfl rfl [.int .i64 z.x.err, .int .u64 z.x.handle, .int .i64 z.x.value, .bool z.x.found, .int .i64 z.x.n, .int .i64 z.x.ekey, .int .i64 z.x.eval, .int .i64 z.x.count, .int .i64 z.x.sum, .int .i64 z.x.mn, .int .i64 z.x.mx, .slice z.ae (List.length (en2 z.x.ents)) z.ce, .slice z.ac (List.length (ch4 z.x.chs)) z.cc, .slice z.ak (List.length (i64s z.x.keys)) z.ck, .slice z.ab (List.length (by8 z.x.bytes)) z.cb] ag_53 rfl (hS.rdS 1 rfl (anS_at hz)).2 ?_
      refine WL.new rfl rfl zv_53 hS (fun b1 w hS => ?_)
      refine WL.stF rfl rfl rfl 0 hS rfl rfl rfl rfl rfl ag_53 (fun w hS => ?_)
      replace hS : St g (cel b1 #[.int .i64 z.x.err, .int .u64 z.x.handle, .int .i64 z.x.value, .bool z.x.found, .int .i64 z.x.n, .int .i64 z.x.ekey, .int .i64 z.x.eval, .int .i64 z.x.count, .int .i64 z.x.sum, .int .i64 z.x.mn, .int .i64 z.x.mx, .slice z.ae (List.length (en2 z.x.ents)) z.ce, .slice z.ac (List.length (ch4 z.x.chs)) z.cc, .slice z.ak (List.length (i64s z.x.keys)) z.ck, .slice z.ab (List.length (by8 z.x.bytes)) z.cb] 53 :: Own 5 1 (by8 acc) u d :: Sh 53 15 (anS zs) a c :: Shs anF zs :: L) w := hS
      refine WL.nil ?_
      refine WC.region ?_
      replace hS : St g (Sh 5 1 (by8 z.x.bytes) z.ab z.cb :: Sh 48 2 (en2 z.x.ents) z.ae z.ce :: Sh 77 4 (ch4 z.x.chs) z.ac z.cc :: Sh 2 1 (i64s z.x.keys) z.ak z.ck :: cel b1 #[.int .i64 z.x.err, .int .u64 z.x.handle, .int .i64 z.x.value, .bool z.x.found, .int .i64 z.x.n, .int .i64 z.x.ekey, .int .i64 z.x.eval, .int .i64 z.x.count, .int .i64 z.x.sum, .int .i64 z.x.mn, .int .i64 z.x.mx, .slice z.ae (List.length (en2 z.x.ents)) z.ce, .slice z.ac (List.length (ch4 z.x.chs)) z.cc, .slice z.ak (List.length (i64s z.x.keys)) z.ck, .slice z.ab (List.length (by8 z.x.bytes)) z.cb] 53 :: Own 5 1 (by8 acc) u d :: Sh 53 15 (anS zs) a c :: Shs anF zs :: L) w := hS.shsGet 3 rfl (List.mem_of_getElem? hz)
      refine WL.r 1 rfl ?_
      refine WL.ldF rfl rfl 4 hS rfl rfl ag_53 ?_
      refine WL.call rfl rfl (appA0 (x := z.x) (ab := z.ab) (ae := z.ae) (ac := z.ac) (ak := z.ak) (cb := z.cb) (ce := z.ce) (cc := z.cc) (ck := z.ck) (hw := hzw) (hS := hS)) rfl ?_
      clear hS; rintro _ w ⟨a1, c1, rfl, hS⟩
      replace hS : St g (Own 5 1 (by8 (eAn z.x)) a1 c1 :: Sh 5 1 (by8 z.x.bytes) z.ab z.cb :: Sh 48 2 (en2 z.x.ents) z.ae z.ce :: Sh 77 4 (ch4 z.x.chs) z.ac z.cc :: Sh 2 1 (i64s z.x.keys) z.ak z.ck :: cel b1 #[.int .i64 z.x.err, .int .u64 z.x.handle, .int .i64 z.x.value, .bool z.x.found, .int .i64 z.x.n, .int .i64 z.x.ekey, .int .i64 z.x.eval, .int .i64 z.x.count, .int .i64 z.x.sum, .int .i64 z.x.mn, .int .i64 z.x.mx, .slice z.ae (List.length (en2 z.x.ents)) z.ce, .slice z.ac (List.length (ch4 z.x.chs)) z.cc, .slice z.ak (List.length (i64s z.x.keys)) z.ck, .slice z.ab (List.length (by8 z.x.bytes)) z.cb] 53 :: Own 5 1 (by8 acc) u d :: Sh 53 15 (anS zs) a c :: Shs anF zs :: L) w := hS
      refine WL.app rfl rfl 6 (by8 (acc ++ (eAn z.x))) el_24 hS rfl (hS.srcO 0 rfl) (by8_app _ _).symm (Rm.of (by first | omega | (simp <;> omega)) (by decide)) rfl rfl (fun a2 c2 w hS => ?_)
      replace hS : St g (Own 5 1 (by8 (eAn z.x)) a1 c1 :: Sh 5 1 (by8 z.x.bytes) z.ab z.cb :: Sh 48 2 (en2 z.x.ents) z.ae z.ce :: Sh 77 4 (ch4 z.x.chs) z.ac z.cc :: Sh 2 1 (i64s z.x.keys) z.ak z.ck :: cel b1 #[.int .i64 z.x.err, .int .u64 z.x.handle, .int .i64 z.x.value, .bool z.x.found, .int .i64 z.x.n, .int .i64 z.x.ekey, .int .i64 z.x.eval, .int .i64 z.x.count, .int .i64 z.x.sum, .int .i64 z.x.mn, .int .i64 z.x.mx, .slice z.ae (List.length (en2 z.x.ents)) z.ce, .slice z.ac (List.length (ch4 z.x.chs)) z.cc, .slice z.ak (List.length (i64s z.x.keys)) z.ck, .slice z.ab (List.length (by8 z.x.bytes)) z.cb] 53 :: Own 5 1 (by8 (acc ++ (eAn z.x))) a2 c2 :: Sh 53 15 (anS zs) a c :: Shs anF zs :: L) w := hS
      refine WL.r 1 rfl ?_
      refine WL.nil ?_
      refine WC.region ?_
      refine WL.r 1 rfl ?_
      refine WL.nw 16 rfl (w64 (by omega)) ?_
      refine WL.r 1 rfl ?_
      refine WL.nil ?_
      exact ⟨_, by omega, k + 1, acc ++ eAn z.x, _, _, rfl, (hS.sel 6 [] rfl), (by omega), (by rw [trn_take hzm, ha]), (by rw [List.length_append]; omega), rfl⟩
  · refine WC.exit ?_
    as_aux_lemma =>
      refine WC.seq ?_
      refine WC.region ?_
      refine WL.r 2 rfl ?_
      refine WL.nil ?_
      refine WC.ret ?_
      refine ⟨[.slice u (List.length (by8 acc)) d], rfl, ?_⟩
      have e9 : acc = trn (zs.map AnS.x) := (by rw [ha, trn_all (by rw [List.length_map]; omega)]); rw [e9] at hS ⊢; exact ⟨_, _, rfl, hS⟩
set_option maxRecDepth 8192 in
theorem ans_ok {g w : World} {L : List HP} (xs : List AnM) (bs : List Int) (a : Option Addr) (c : Nat) (hl : bs.length ≤ 1000000) (hxl : xs.length ≤ 1000000) (hb : B8 bs) (hrd : ∀ (k : Nat) (x : AnM), xs[k]? = some x → rNxa bs ((trn (xs.take k)).length : Int) = (x, ((trn (xs.take (k + 1))).length : Int), 0) ∧ (trn (xs.take k)).length < bs.length) (hend : bs.length = (trn xs).length) (hS : St g (Sh 5 1 (by8 bs) a c :: L) w) :
    Sp Tryz.prog 11 [.slice a (List.length (by8 bs)) c] w (fun v w' => ∃ (ms : List AnS) (a2 : Option Addr) (c2 : Nat), v = .tuple #[.slice a2 (List.length (anS ms)) c2, .int .i64 0] ∧ St g (Own 53 15 (anS ms) a2 c2 :: Shs anF ms :: Sh 5 1 (by8 bs) a c :: L) w' ∧ (ms.map AnS.x = xs)) := by
  refine Sp.enter Tryz.func11 rfl (by kernel_rfl) (by kernel_rfl) ?_
  have _ := hend
  have _ := hxl
  have _ := hl
  refine WC.seq ?_
  refine WC.region ?_
  refine WL.r 2 rfl ?_
  refine WL.nil ?_
  refine WC.seq ?_
  refine WC.region ?_
  replace hS : St g (Shs anF [] :: Sh 5 1 (by8 bs) a c :: L) w := hS.shsNil anF
  refine WL.r 1 rfl ?_
  refine WL.nil ?_
  refine WC.seq ?_
  refine WC.seq ?_
  refine WC.region ?_
  have hbl := by8_len bs
  refine WL.r 1 rfl ?_
  refine WL.nil ?_
  refine WC.block ?_
  replace hS := hS.nil_ 53 15
  refine WC.loop [0, 4, 5] (fun kM vs w => ∃ (k : Nat) (at_ : Int) (ms : List AnS) (acc : List (List Value)) (u : Option Addr) (d : Nat), vs = [.slice a (List.length (by8 bs)) c, .slice u (List.length acc) d, .int .i64 at_] ∧ St g (Own 53 15 acc u d :: Shs anF ms :: Sh 5 1 (by8 bs) a c :: L) w ∧ (k ≤ xs.length) ∧ (at_ = ((trn (xs.take k)).length : Int)) ∧ (acc = anS ms) ∧ (ms.map AnS.x = xs.take k) ∧ (xs.length - k) = kM) ((List.length xs) - 0) ⟨0, 0, [], [], none, 0, rfl, hS, (Nat.zero_le _), (rfl), (rfl), (rfl), rfl⟩ ?_
  clear hS; rintro _ _ w j ⟨k, at_, ms, acc, u, d, rfl, hS, hk, hat, hac, hms, rfl⟩
  refine WC.seq ?_
  refine WC.seq ?_
  refine WC.region ?_
  have hbl := by8_len bs
  refine WL.r 4 rfl ?_
  refine WL.nil ?_
  as_aux_lemma =>
    refine WC.ifP rfl (fun cd1 => ?_) (fun cd1 => ?_)
    · refine WC.skip ?_
      refine WC.block ?_
      refine WC.seq ?_
      refine WC.region ?_
      have hkl : k < xs.length := Classical.byContradiction fun h => by have e9 := trn_all (l := xs) (k := k) (by omega); rw [e9] at hat; omega
      obtain ⟨x, hx⟩ : ∃ x, xs[k]? = some x := ⟨_, List.getElem?_eq_getElem hkl⟩; have hmk : ms.length = k := (by have := congrArg List.length hms; rw [List.length_map, List.length_take] at this; omega); have hml : acc.length = k := (by rw [hac, anS_len]; exact hmk)
      refine WL.r 2 rfl ?_
      refine WL.call rfl rfl (nextAnswer_spec (a := a) (c := c) (bs := bs) (p := at_) (hl := (by omega)) (hb := hb) (hS := (hS.sel 3 [2, 0, 0] rfl))) rfl ?_
      generalize hN1 : rNxa bs at_ = N1
      clear hS; rintro _ w ⟨ab1, ae1, ac1, ak1, cb1, ce1, cc1, ck1, rfl, hS⟩
      replace hS : St g (Sh 5 1 (by8 bs) a c :: Own 5 1 (by8 N1.1.bytes) ab1 cb1 :: Own 48 2 (en2 N1.1.ents) ae1 ce1 :: Own 77 4 (ch4 N1.1.chs) ac1 cc1 :: Own 2 1 (i64s N1.1.keys) ak1 ck1 :: Own 53 15 acc u d :: Shs anF ms :: L) w := hS
      refine WL.r 4 rfl ?_
      refine WL.new rfl rfl zv_53 hS (fun b1 w hS => ?_)
      refine WL.stF rfl rfl rfl 0 hS rfl rfl rfl rfl rfl ag_53 (fun w hS => ?_)
      replace hS : St g (cel b1 #[.int .i64 N1.1.err, .int .u64 N1.1.handle, .int .i64 N1.1.value, .bool N1.1.found, .int .i64 N1.1.n, .int .i64 N1.1.ekey, .int .i64 N1.1.eval, .int .i64 N1.1.count, .int .i64 N1.1.sum, .int .i64 N1.1.mn, .int .i64 N1.1.mx, .slice ae1 (List.length (en2 N1.1.ents)) ce1, .slice ac1 (List.length (ch4 N1.1.chs)) cc1, .slice ak1 (List.length (i64s N1.1.keys)) ck1, .slice ab1 (List.length (by8 N1.1.bytes)) cb1] 53 :: Sh 5 1 (by8 bs) a c :: Own 5 1 (by8 N1.1.bytes) ab1 cb1 :: Own 48 2 (en2 N1.1.ents) ae1 ce1 :: Own 77 4 (ch4 N1.1.chs) ac1 cc1 :: Own 2 1 (i64s N1.1.keys) ak1 ck1 :: Own 53 15 acc u d :: Shs anF ms :: L) w := hS
      refine WL.r 2 rfl ?_
      refine WL.nil ?_
      refine WC.seq ?_
      refine WC.seq ?_
      refine WC.region ?_
      have hN : N1 = (x, ((trn (xs.take (k + 1))).length : Int), 0) := (by rw [← hN1, hat]; exact (hrd k x hx).1)
      refine WL.r 2 rfl ?_
      refine WL.nil ?_
      refine WC.ifF rfl (decide_eq_false ((by rw [hN]; exact fun h => h rfl))) ?_
      refine WC.skip ?_
      as_aux_lemma =>
        refine WC.seq ?_
        refine WC.region ?_
        replace hS := (hS.at_ 5 rfl).share
        replace hS : St g (Sh 2 1 (i64s N1.1.keys) ak1 ck1 :: cel b1 #[.int .i64 N1.1.err, .int .u64 N1.1.handle, .int .i64 N1.1.value, .bool N1.1.found, .int .i64 N1.1.n, .int .i64 N1.1.ekey, .int .i64 N1.1.eval, .int .i64 N1.1.count, .int .i64 N1.1.sum, .int .i64 N1.1.mn, .int .i64 N1.1.mx, .slice ae1 (List.length (en2 N1.1.ents)) ce1, .slice ac1 (List.length (ch4 N1.1.chs)) cc1, .slice ak1 (List.length (i64s N1.1.keys)) ck1, .slice ab1 (List.length (by8 N1.1.bytes)) cb1] 53 :: Sh 5 1 (by8 bs) a c :: Own 5 1 (by8 N1.1.bytes) ab1 cb1 :: Own 48 2 (en2 N1.1.ents) ae1 ce1 :: Own 77 4 (ch4 N1.1.chs) ac1 cc1 :: Own 53 15 acc u d :: Shs anF ms :: L) w := hS
        replace hS := (hS.at_ 5 rfl).share
        replace hS : St g (Sh 77 4 (ch4 N1.1.chs) ac1 cc1 :: Sh 2 1 (i64s N1.1.keys) ak1 ck1 :: cel b1 #[.int .i64 N1.1.err, .int .u64 N1.1.handle, .int .i64 N1.1.value, .bool N1.1.found, .int .i64 N1.1.n, .int .i64 N1.1.ekey, .int .i64 N1.1.eval, .int .i64 N1.1.count, .int .i64 N1.1.sum, .int .i64 N1.1.mn, .int .i64 N1.1.mx, .slice ae1 (List.length (en2 N1.1.ents)) ce1, .slice ac1 (List.length (ch4 N1.1.chs)) cc1, .slice ak1 (List.length (i64s N1.1.keys)) ck1, .slice ab1 (List.length (by8 N1.1.bytes)) cb1] 53 :: Sh 5 1 (by8 bs) a c :: Own 5 1 (by8 N1.1.bytes) ab1 cb1 :: Own 48 2 (en2 N1.1.ents) ae1 ce1 :: Own 53 15 acc u d :: Shs anF ms :: L) w := hS
        replace hS := (hS.at_ 5 rfl).share
        replace hS : St g (Sh 48 2 (en2 N1.1.ents) ae1 ce1 :: Sh 77 4 (ch4 N1.1.chs) ac1 cc1 :: Sh 2 1 (i64s N1.1.keys) ak1 ck1 :: cel b1 #[.int .i64 N1.1.err, .int .u64 N1.1.handle, .int .i64 N1.1.value, .bool N1.1.found, .int .i64 N1.1.n, .int .i64 N1.1.ekey, .int .i64 N1.1.eval, .int .i64 N1.1.count, .int .i64 N1.1.sum, .int .i64 N1.1.mn, .int .i64 N1.1.mx, .slice ae1 (List.length (en2 N1.1.ents)) ce1, .slice ac1 (List.length (ch4 N1.1.chs)) cc1, .slice ak1 (List.length (i64s N1.1.keys)) ck1, .slice ab1 (List.length (by8 N1.1.bytes)) cb1] 53 :: Sh 5 1 (by8 bs) a c :: Own 5 1 (by8 N1.1.bytes) ab1 cb1 :: Own 53 15 acc u d :: Shs anF ms :: L) w := hS
        replace hS := (hS.at_ 5 rfl).share
        replace hS : St g (Sh 5 1 (by8 N1.1.bytes) ab1 cb1 :: Sh 48 2 (en2 N1.1.ents) ae1 ce1 :: Sh 77 4 (ch4 N1.1.chs) ac1 cc1 :: Sh 2 1 (i64s N1.1.keys) ak1 ck1 :: cel b1 #[.int .i64 N1.1.err, .int .u64 N1.1.handle, .int .i64 N1.1.value, .bool N1.1.found, .int .i64 N1.1.n, .int .i64 N1.1.ekey, .int .i64 N1.1.eval, .int .i64 N1.1.count, .int .i64 N1.1.sum, .int .i64 N1.1.mn, .int .i64 N1.1.mx, .slice ae1 (List.length (en2 N1.1.ents)) ce1, .slice ac1 (List.length (ch4 N1.1.chs)) cc1, .slice ak1 (List.length (i64s N1.1.keys)) ck1, .slice ab1 (List.length (by8 N1.1.bytes)) cb1] 53 :: Sh 5 1 (by8 bs) a c :: Own 53 15 acc u d :: Shs anF ms :: L) w := hS
        replace hS : St g (Shs anF (ms ++ [AnS.mk N1.1 ab1 ae1 ac1 ak1 cb1 ce1 cc1 ck1]) :: Sh 5 1 (by8 N1.1.bytes) ab1 cb1 :: Sh 48 2 (en2 N1.1.ents) ae1 ce1 :: Sh 77 4 (ch4 N1.1.chs) ac1 cc1 :: Sh 2 1 (i64s N1.1.keys) ak1 ck1 :: cel b1 #[.int .i64 N1.1.err, .int .u64 N1.1.handle, .int .i64 N1.1.value, .bool N1.1.found, .int .i64 N1.1.n, .int .i64 N1.1.ekey, .int .i64 N1.1.eval, .int .i64 N1.1.count, .int .i64 N1.1.sum, .int .i64 N1.1.mn, .int .i64 N1.1.mx, .slice ae1 (List.length (en2 N1.1.ents)) ce1, .slice ac1 (List.length (ch4 N1.1.chs)) cc1, .slice ak1 (List.length (i64s N1.1.keys)) ck1, .slice ab1 (List.length (by8 N1.1.bytes)) cb1] 53 :: Sh 5 1 (by8 bs) a c :: Own 53 15 acc u d :: Shs anF ms :: L) w := St.shsSub (zs' := ms ++ [AnS.mk N1.1 ab1 ae1 ac1 ak1 cb1 ce1 cc1 ck1]) (St.shsCons (hS.shsDup 7 rfl) (z := AnS.mk N1.1 ab1 ae1 ac1 ak1 cb1 ce1 cc1 ck1) (anF_sh _) [0, 0, 0, 0] rfl) (fun y hy => snoc_as y hy)
        refine WL.r 1 rfl ?_
        refine WL.ldF rfl rfl 5 hS rfl rfl ag_53 ?_
        refine WL.lit rfl rfl ([[.int .i64 N1.1.err, .int .u64 N1.1.handle, .int .i64 N1.1.value, .bool N1.1.found, .int .i64 N1.1.n, .int .i64 N1.1.ekey, .int .i64 N1.1.eval, .int .i64 N1.1.count, .int .i64 N1.1.sum, .int .i64 N1.1.mn, .int .i64 N1.1.mx, .slice ae1 (List.length (en2 N1.1.ents)) ce1, .slice ac1 (List.length (ch4 N1.1.chs)) cc1, .slice ak1 (List.length (i64s N1.1.keys)) ck1, .slice ab1 (List.length (by8 N1.1.bytes)) cb1]]) el_44 hS (by exact ⟨rfl, rfl⟩) (by simp [OkE, Value.oneCell']) rfl (by decide) (fun b2 w hS => ?_)
        refine WL.app rfl rfl 8 (acc ++ [[.int .i64 N1.1.err, .int .u64 N1.1.handle, .int .i64 N1.1.value, .bool N1.1.found, .int .i64 N1.1.n, .int .i64 N1.1.ekey, .int .i64 N1.1.eval, .int .i64 N1.1.count, .int .i64 N1.1.sum, .int .i64 N1.1.mn, .int .i64 N1.1.mx, .slice ae1 (List.length (en2 N1.1.ents)) ce1, .slice ac1 (List.length (ch4 N1.1.chs)) cc1, .slice ak1 (List.length (i64s N1.1.keys)) ck1, .slice ab1 (List.length (by8 N1.1.bytes)) cb1]]) el_44 hS rfl (hS.srcO 0 rfl) rfl (Rm.of (by first | omega | (simp <;> omega)) (by decide)) rfl rfl (fun a1 c1 w hS => ?_)
        replace hS : St g (Own 53 15 [[.int .i64 N1.1.err, .int .u64 N1.1.handle, .int .i64 N1.1.value, .bool N1.1.found, .int .i64 N1.1.n, .int .i64 N1.1.ekey, .int .i64 N1.1.eval, .int .i64 N1.1.count, .int .i64 N1.1.sum, .int .i64 N1.1.mn, .int .i64 N1.1.mx, .slice ae1 (List.length (en2 N1.1.ents)) ce1, .slice ac1 (List.length (ch4 N1.1.chs)) cc1, .slice ak1 (List.length (i64s N1.1.keys)) ck1, .slice ab1 (List.length (by8 N1.1.bytes)) cb1]] (some ⟨b2, 0, none⟩) 1 :: Shs anF (ms ++ [AnS.mk N1.1 ab1 ae1 ac1 ak1 cb1 ce1 cc1 ck1]) :: Sh 5 1 (by8 N1.1.bytes) ab1 cb1 :: Sh 48 2 (en2 N1.1.ents) ae1 ce1 :: Sh 77 4 (ch4 N1.1.chs) ac1 cc1 :: Sh 2 1 (i64s N1.1.keys) ak1 ck1 :: cel b1 #[.int .i64 N1.1.err, .int .u64 N1.1.handle, .int .i64 N1.1.value, .bool N1.1.found, .int .i64 N1.1.n, .int .i64 N1.1.ekey, .int .i64 N1.1.eval, .int .i64 N1.1.count, .int .i64 N1.1.sum, .int .i64 N1.1.mn, .int .i64 N1.1.mx, .slice ae1 (List.length (en2 N1.1.ents)) ce1, .slice ac1 (List.length (ch4 N1.1.chs)) cc1, .slice ak1 (List.length (i64s N1.1.keys)) ck1, .slice ab1 (List.length (by8 N1.1.bytes)) cb1] 53 :: Sh 5 1 (by8 bs) a c :: Own 53 15 (acc ++ [[.int .i64 N1.1.err, .int .u64 N1.1.handle, .int .i64 N1.1.value, .bool N1.1.found, .int .i64 N1.1.n, .int .i64 N1.1.ekey, .int .i64 N1.1.eval, .int .i64 N1.1.count, .int .i64 N1.1.sum, .int .i64 N1.1.mn, .int .i64 N1.1.mx, .slice ae1 (List.length (en2 N1.1.ents)) ce1, .slice ac1 (List.length (ch4 N1.1.chs)) cc1, .slice ak1 (List.length (i64s N1.1.keys)) ck1, .slice ab1 (List.length (by8 N1.1.bytes)) cb1]]) a1 c1 :: Shs anF ms :: L) w := hS
        refine WL.r 1 rfl ?_
        refine WL.nil ?_
        refine WC.region ?_
        refine WL.r 2 rfl ?_
        refine WL.nil ?_
        exact ⟨_, by omega, k + 1, N1.2.1, ms ++ [AnS.mk N1.1 ab1 ae1 ac1 ak1 cb1 ce1 cc1 ck1], acc ++ [anC (AnS.mk N1.1 ab1 ae1 ac1 ak1 cb1 ce1 cc1 ck1)], _, _, rfl, (hS.sel 10 [8, 1, 6] rfl), (by omega), (by rw [hN]), (by rw [hac, anS_snoc]), (by rw [List.map_append, hms, List.take_add_one, hx, hN]; rfl), rfl⟩
    · refine WC.exit ?_
      refine WC.seq ?_
      refine WC.region ?_
      have hkl : k = xs.length := Classical.byContradiction fun h => by obtain ⟨x, hx⟩ : ∃ x, xs[k]? = some x := ⟨_, List.getElem?_eq_getElem (by omega)⟩; have := (hrd k x hx).2; omega
      refine WL.r 3 rfl ?_
      refine WL.nil ?_
      refine WC.ret ?_
      rw [hac] at hS
      replace hS : St g (Own 53 15 (anS ms) u d :: Shs anF ms :: Sh 5 1 (by8 bs) a c :: L) w := hS
      refine ⟨[.slice u (List.length acc) d, .int .i64 0], ⟨rfl, rfl⟩, ?_⟩
      exact ⟨ms, u, d, by rw [hac]; rfl, hS, by rw [hms, hkl, List.take_length]⟩
end Go.Proofs.YthcmigbamkohpaaGreatDoor
/-! ## Sc4 -/
namespace Go.Proofs.YthcmigbamkohpaaGreatDoor
open Go Go.V Go.RowKit Go.Maps
def ansH (h : Int) : AnM := { an0 with handle := h }
def ansZ (h : Int) : AnS := ⟨ansH h, none, none, none, none, 0, 0, 0, 0⟩
theorem ansH_w {h : Int} (hh : 0 ≤ h ∧ h ≤ 18446744073709551615) : AnW (ansH h) := by
  constructor <;> first | exact hh | exact Nat.zero_le _ | (intro _ h; cases h) | (show I64 0; unfold I64; omega)
theorem ansH_ok {h : Int} (hh : 0 ≤ h ∧ h ≤ 18446744073709551615) : AnOk (ansH h) := by
  refine ⟨?_, ansH_w hh, by show (0 : Int) ≤ 0 ∧ (0 : Int) ≤ 255; omega, rfl⟩
  constructor <;> first | exact hh | exact Nat.zero_le _ | (intro _ h; cases h) | (show I64 0; unfold I64; omega)
theorem newH_new {n : Nat} (hn : 1 ≤ n) : (VM.new n).T.newH = 4294967297 := by
  obtain ⟨m, rfl⟩ : ∃ m, n = m + 1 := ⟨n - 1, by omega⟩
  rfl
theorem one_of {l : List AnS} {x : AnM} (h : l.map AnS.x = [x]) : ∃ z, l = [z] ∧ z.x = x := by
  cases l with
  | nil => cases h
  | cons z l =>
    cases l with
    | nil => exact ⟨z, rfl, by simpa using h⟩
    | cons y l => simp at h
set_option maxRecDepth 8192 in
theorem run_1 {g w : World} {L : List HP} (sl cv cc cx : Int) (a : Option Addr) (c : Nat) (hc : CfgOk sl cv cc cx) (hS : St g (Sh 5 1 (by8 [1]) a c :: L) w) :
    Sp Tryz.prog 10 [.agg #[.int .i64 sl, .int .i64 cv, .int .i64 cc, .int .i64 cx], .slice a (List.length (by8 [1])) c] w (fun v w' => ∃ (a2 : Option Addr) (c2 : Nat), v = .tuple #[.slice a2 (List.length (by8 (trn [ansH 4294967297]))) c2, .int .i64 1, .int .i64 0] ∧ St g (Own 5 1 (by8 (trn [ansH 4294967297])) a2 c2 :: L) w') := by
  refine Sp.enter Tryz.func10 rfl (by kernel_rfl) (by kernel_rfl) ?_
  refine WC.seq ?_
  refine WC.region ?_
  refine WL.box rfl rfl #[.int .i64 sl, .int .i64 cv, .int .i64 cc, .int .i64 cx] hS rfl rfl (fun b1 w hS => ?_)
  refine WL.r 3 rfl ?_
  refine WL.nil ?_
  refine WC.seq ?_
  refine WC.region ?_
  obtain ⟨h1, h2, h3, h4⟩ := id hc
  refine WL.ldF rfl rfl 0 hS rfl rfl ag_43 ?_
  refine WL.call rfl rfl (st_new_ok (sl := sl) (cv := cv) (cc := cc) (cx := cx) (hc := hc) (hS := hS)) rfl ?_
  clear hS; rintro _ w ⟨p1, s1, a1, rfl, hS⟩
  replace hS : St g (Sto p1 s1 a1 (VM.new cv.toNat) :: Arn a1 (AM.new sl.toNat) :: cel b1 #[.int .i64 sl, .int .i64 cv, .int .i64 cc, .int .i64 cx] 43 :: Sh 5 1 (by8 [1]) a c :: L) w := hS
  refine WL.r 5 rfl ?_
  refine WL.nil ?_
  refine WC.seq ?_
  refine WC.seq ?_
  refine WC.region ?_
  refine WL.r 2 rfl ?_
  refine WL.nil ?_
  refine WC.ifF rfl (decide_eq_false ((by decide))) ?_
  refine WC.skip ?_
  refine WC.seq ?_
  refine WC.region ?_
  replace hS : St g (Sto p1 s1 a1 (VM.new cv.toNat) :: Arn a1 (AM.new sl.toNat) :: cel b1 #[.int .i64 sl, .int .i64 cv, .int .i64 cc, .int .i64 cx] 43 :: Sh 5 1 (by8 (ones 1)) a c :: L) w := hS
  refine WL.reb 1 (.slice a (by8 (ones 1)).length c) rfl ?_
  refine WL.r 1 rfl ?_
  refine WL.call rfl rfl (dec_n (a := a) (c := c) (n := 1) (hn := (by decide)) (hS := (hS.sel 4 [3, 0, 0, 0] rfl))) rfl ?_
  clear hS; rintro _ w ⟨a2, c1, rfl, hS⟩
  replace hS : St g (Own 29 13 (crCs (min 1 65536)) a2 c1 :: Sh 5 1 (by8 (ones 1)) a c :: Sto p1 s1 a1 (VM.new cv.toNat) :: Arn a1 (AM.new sl.toNat) :: cel b1 #[.int .i64 sl, .int .i64 cv, .int .i64 cc, .int .i64 cx] 43 :: L) w := hS
  refine WL.r 7 rfl ?_
  refine WL.nil ?_
  as_aux_lemma =>
    refine WC.seq ?_
    refine WC.region ?_
    refine WL.r 1 rfl ?_
    refine WL.nil ?_
    refine WC.seq ?_
    refine WC.seq ?_
    refine WC.region ?_
    refine WL.r 3 rfl ?_
    refine WL.nil ?_
    refine WC.block ?_
    replace hS := hS.nil_ 53 15
    refine WC.loop [4, 5, 6, 7, 8, 11, 28, 29, 30] (fun kM vs w => ∃ (k : Nat) (V : VM) (zs : List AnS) (acc : List (List Value)) (u : Option Addr) (d : Nat), vs = [.slice none 0 0, .int .i64 0, .int .i64 0, .pointer (some ⟨p1, 0, none⟩), .int .i64 (if 1 ≤ 65536 then 0 else 2), .slice u (List.length acc) d, .slice a2 (List.length (crCs (min 1 65536))) c1, .int .i64 (List.length (crCs (min 1 65536)) : Int), .int .i64 (k : Int)] ∧ St g (Own 53 15 acc u d :: Own 29 13 (crCs (min 1 65536)) a2 c1 :: Sh 5 1 (by8 (ones 1)) a c :: Sto p1 s1 a1 V :: Arn a1 (AM.new sl.toNat) :: cel b1 #[.int .i64 sl, .int .i64 cv, .int .i64 cc, .int .i64 cx] 43 :: L) w ∧ ((k = 0 ∧ V = VM.new cv.toNat ∧ zs = []) ∨ (k = 1 ∧ zs = [ansZ 4294967297])) ∧ (acc = anS zs) ∧ (1 - k) = kM) (1 - 0) ⟨0, VM.new cv.toNat, [], [], none, 0, rfl, hS, (.inl ⟨rfl, rfl, rfl⟩), (rfl), rfl⟩ ?_
    clear hS; rintro _ _ w j ⟨k, V, zs, acc, u, d, rfl, hS, hk, hac, rfl⟩
    refine WC.seq ?_
    refine WC.region ?_
    refine WL.r 1 rfl ?_
    refine WL.nil ?_
    refine WC.seq ?_
    refine WC.ifP rfl (fun cd1 => ?_) (fun cd1 => ?_)
    · refine WC.skip ?_
      refine WC.seq ?_
      refine WC.block ?_
      refine WC.seq ?_
      refine WC.region ?_
      have hlc := crCs_len (min 1 65536); have hV0 := VI.new (slots := sl.toNat) (cap := cv.toNat) (by omega) (by omega); have hr0 := room_new (n := cv.toNat); have hn0 := newH_new (n := cv.toNat) (by omega); have hk1 : k < 1 := (by omega); obtain ⟨hk0, hV, hz⟩ := hk.resolve_right (fun h => by omega)
      refine WL.ix rfl rfl (i := (k : Int)) (k) el_23 rfl rfl (by omega) (by omega) (hS.rdO 1 rfl (crCs_at (n := min 1 65536) (k := k) (by omega))).1 ?_
      refine WL.ldC rfl rfl [.int .i64 1, .int .u64 0, .int .u64 0, .int .i64 0, .int .i64 0, .int .i64 0, .int .i64 0, .int .i64 0, .bool false, .string ⟨#[]⟩, .slice none 0 0, .slice none 0 0, .slice none 0 0] ag_29 rfl (hS.rdO 1 rfl (crCs_at (n := min 1 65536) (k := k) (by omega))).2 ?_
      refine WL.new rfl rfl zv_29 hS (fun b2 w hS => ?_)
      refine WL.stF rfl rfl rfl 0 hS rfl rfl rfl rfl rfl ag_29 (fun w hS => ?_)
      replace hS : St g (cel b2 #[.int .i64 1, .int .u64 0, .int .u64 0, .int .i64 0, .int .i64 0, .int .i64 0, .int .i64 0, .int .i64 0, .bool false, .string ⟨#[]⟩, .slice none 0 0, .slice none 0 0, .slice none 0 0] 29 :: Own 53 15 acc u d :: Own 29 13 (crCs (min 1 65536)) a2 c1 :: Sh 5 1 (by8 (ones 1)) a c :: Sto p1 s1 a1 V :: Arn a1 (AM.new sl.toNat) :: cel b1 #[.int .i64 sl, .int .i64 cv, .int .i64 cc, .int .i64 cx] 43 :: L) w := hS
      refine WL.nil ?_
      as_aux_lemma =>
        refine WC.region ?_
        subst hV
        rw [hz] at hac; subst hac
        refine WL.r 2 rfl ?_
        refine WL.ldF rfl rfl 0 hS rfl rfl ag_29 ?_
        refine WL.call rfl rfl (do_1 (p := p1) (s := s1) (a := a1) (V := VM.new cv.toNat) (A := AM.new sl.toNat) (R := []) (hV := hV0) (hrm := (by rw [hr0]; omega)) (hla := (by show (0 : Int) < 1000000000; decide)) (hlen := (by decide)) (hS := (hS.sel 6 [4, 4, 0, 0, 0, 0] rfl))) rfl ?_
        clear hS; rintro _ w ⟨V1, rfl, hS, f1, f2⟩
        replace hS : St g (Sto p1 s1 a1 V1 :: Arn a1 (AM.new sl.toNat) :: cel b2 #[.int .i64 1, .int .u64 0, .int .u64 0, .int .i64 0, .int .i64 0, .int .i64 0, .int .i64 0, .int .i64 0, .bool false, .string ⟨#[]⟩, .slice none 0 0, .slice none 0 0, .slice none 0 0] 29 :: Own 53 15 (anS []) u d :: Own 29 13 (crCs (min 1 65536)) a2 c1 :: Sh 5 1 (by8 (ones 1)) a c :: cel b1 #[.int .i64 sl, .int .i64 cv, .int .i64 cc, .int .i64 cx] 43 :: L) w := hS
        refine WL.lit rfl rfl ([[.int .i64 0, .int .u64 (VM.new cv.toNat).T.newH, .int .i64 0, .bool false, .int .i64 0, .int .i64 0, .int .i64 0, .int .i64 0, .int .i64 0, .int .i64 0, .int .i64 0, .slice none 0 0, .slice none 0 0, .slice none 0 0, .slice none 0 0]]) el_44 hS (by exact ⟨rfl, rfl⟩) (by simp [OkE, Value.oneCell']) rfl (by decide) (fun b3 w hS => ?_)
        refine WL.app rfl rfl 4 ((anS []) ++ [[.int .i64 0, .int .u64 (VM.new cv.toNat).T.newH, .int .i64 0, .bool false, .int .i64 0, .int .i64 0, .int .i64 0, .int .i64 0, .int .i64 0, .int .i64 0, .int .i64 0, .slice none 0 0, .slice none 0 0, .slice none 0 0, .slice none 0 0]]) el_44 hS rfl (hS.srcO 0 rfl) rfl (Rm.of (by first | omega | (simp <;> omega)) (by decide)) rfl rfl (fun a3 c2 w hS => ?_)
        replace hS : St g (Own 53 15 [[.int .i64 0, .int .u64 (VM.new cv.toNat).T.newH, .int .i64 0, .bool false, .int .i64 0, .int .i64 0, .int .i64 0, .int .i64 0, .int .i64 0, .int .i64 0, .int .i64 0, .slice none 0 0, .slice none 0 0, .slice none 0 0, .slice none 0 0]] (some ⟨b3, 0, none⟩) 1 :: Sto p1 s1 a1 V1 :: Arn a1 (AM.new sl.toNat) :: cel b2 #[.int .i64 1, .int .u64 0, .int .u64 0, .int .i64 0, .int .i64 0, .int .i64 0, .int .i64 0, .int .i64 0, .bool false, .string ⟨#[]⟩, .slice none 0 0, .slice none 0 0, .slice none 0 0] 29 :: Own 53 15 ((anS []) ++ [[.int .i64 0, .int .u64 (VM.new cv.toNat).T.newH, .int .i64 0, .bool false, .int .i64 0, .int .i64 0, .int .i64 0, .int .i64 0, .int .i64 0, .int .i64 0, .int .i64 0, .slice none 0 0, .slice none 0 0, .slice none 0 0, .slice none 0 0]]) a3 c2 :: Own 29 13 (crCs (min 1 65536)) a2 c1 :: Sh 5 1 (by8 (ones 1)) a c :: cel b1 #[.int .i64 sl, .int .i64 cv, .int .i64 cc, .int .i64 cx] 43 :: L) w := hS
        refine WL.r 1 rfl ?_
        refine WL.nil ?_
        refine WC.region ?_
        refine WL.r 1 rfl ?_
        refine WL.nw 40 rfl (w64 (by omega)) ?_
        refine WL.r 1 rfl ?_
        refine WL.nil ?_
        rw [hn0] at hS
        exact ⟨_, by omega, k + 1, V1, [ansZ 4294967297], anS [] ++ [anC (ansZ 4294967297)], a3, c2, rfl, (hS.sel 7 [4, 4, 4, 1, 1] rfl), (.inr ⟨by omega, rfl⟩), (rfl), rfl⟩
    · refine WC.exit ?_
      refine WC.seq ?_
      refine WC.region ?_
      have hlc := crCs_len (min 1 65536)
      replace hS : St g (Shs anF [ansZ 4294967297] :: Own 53 15 acc u d :: Own 29 13 (crCs (min 1 65536)) a2 c1 :: Sh 5 1 (by8 (ones 1)) a c :: Sto p1 s1 a1 V :: Arn a1 (AM.new sl.toNat) :: cel b1 #[.int .i64 sl, .int .i64 cv, .int .i64 cc, .int .i64 cx] 43 :: L) w := St.sel 5 [0] (St.shsCons (z := ansZ 4294967297) (((((hS.nilS 2 1).nilS 77 4).nilS 48 2).nilS 5 1).shsNil anF) (anF_sh _) [0, 0, 0, 0] rfl) rfl
      obtain ⟨_, rfl⟩ := hk.resolve_left (fun h => by omega)
      subst hac
      refine WL.r 1 rfl ?_
      replace hS := (hS.at_ 1 rfl).share
      replace hS : St g (Sh 53 15 (anS [ansZ 4294967297]) u d :: Shs anF [ansZ 4294967297] :: Own 29 13 (crCs (min 1 65536)) a2 c1 :: Sh 5 1 (by8 (ones 1)) a c :: Sto p1 s1 a1 V :: Arn a1 (AM.new sl.toNat) :: cel b1 #[.int .i64 sl, .int .i64 cv, .int .i64 cc, .int .i64 cx] 43 :: L) w := hS
      refine WL.call rfl rfl (tr_n (zs := [ansZ 4294967297]) (a := u) (c := d) (hw := (fun z hz => by rw [List.mem_singleton.1 hz]; exact ansH_w (by omega))) (hl := (by decide)) (hS := hS)) rfl ?_
      clear hS; rintro _ w ⟨a3, c2, rfl, hS⟩
      replace hS : St g (Own 5 1 (by8 (trn (([ansZ 4294967297]).map AnS.x))) a3 c2 :: Sh 53 15 (anS [ansZ 4294967297]) u d :: Shs anF [ansZ 4294967297] :: Own 29 13 (crCs (min 1 65536)) a2 c1 :: Sh 5 1 (by8 (ones 1)) a c :: Sto p1 s1 a1 V :: Arn a1 (AM.new sl.toNat) :: cel b1 #[.int .i64 sl, .int .i64 cv, .int .i64 cc, .int .i64 cx] 43 :: L) w := hS
      refine WL.r 6 rfl ?_
      refine WL.nil ?_
      as_aux_lemma =>
        refine WC.ret ?_
        refine ⟨[.slice a3 (List.length (by8 (trn (([ansZ 4294967297]).map AnS.x)))) c2, .int .i64 (List.length (anS [ansZ 4294967297]) : Int), .int .i64 (if 1 ≤ 65536 then 0 else 2)], ⟨rfl, rfl, rfl⟩, ?_⟩
        replace hS := (hS.sel 8 [0] rfl)
        exact ⟨_, _, rfl, hS⟩
set_option maxRecDepth 8192 in
theorem awake32 {g w : World} {L : List HP} (hS : St g (L) w) :
    Sp Tryz.prog 7 [] w (fun v w' => v = .bool true ∧ St g (L) w') := by
  refine Sp.enter Tryz.func7 rfl (by kernel_rfl) (by kernel_rfl) ?_
  refine WC.seq ?_
  refine WC.region ?_
  refine WL.r 1 rfl ?_
  refine WL.nil ?_
  refine WC.seq ?_
  refine WC.region ?_
  refine WL.build rfl rfl (cs := [.int .i64 9, .int .i64 9, .int .i64 1, .int .i64 1]) zv_43 rfl rfl ?_
  refine WL.lit rfl rfl (by8 [1]) el_24 hS (by exact ⟨rfl, rfl⟩) (by8_ok _) rfl (by decide) (fun b1 w hS => ?_)
  replace hS := (hS.at_ 0 rfl).share
  replace hS : St g (Sh 5 1 (by8 [1]) (some ⟨b1, 0, none⟩) (List.length (by8 [1])) :: L) w := hS
  refine WL.call rfl rfl (run_1 (sl := 9) (cv := 9) (cc := 1) (cx := 1) (a := some ⟨b1, 0, none⟩) (c := List.length (by8 [1])) (hc := (by unfold CfgOk; omega)) (hS := hS)) rfl ?_
  clear hS; rintro _ w ⟨a1, c1, rfl, hS⟩
  replace hS : St g (Own 5 1 (by8 (trn [ansH 4294967297])) a1 c1 :: L) w := hS
  refine WL.r 7 rfl ?_
  refine WL.nil ?_
  refine WC.seq ?_
  refine WC.region ?_
  refine WL.r 1 rfl ?_
  replace hS := (hS.at_ 0 rfl).share
  replace hS : St g (Sh 5 1 (by8 (trn [ansH 4294967297])) a1 c1 :: L) w := hS
  refine WL.call rfl rfl (ans_ok (xs := [ansH 4294967297]) (bs := trn [ansH 4294967297]) (a := a1) (c := c1) (hl := (by have := trn_len (l := [ansH 4294967297]) (fun x hx => by rw [List.mem_singleton.1 hx]; exact ansH_w (by omega)); simp only [List.length_singleton] at this; omega)) (hxl := (by decide)) (hb := trn_B8 (fun x hx => by rw [List.mem_singleton.1 hx]; exact fun _ h => by cases h)) (hrd := trn_rd0 (fun x hx => by rw [List.mem_singleton.1 hx]; exact ansH_ok (by omega))) (hend := rfl) (hS := hS)) rfl ?_
  clear hS; rintro _ w ⟨ms1, a2, c2, rfl, hS, f1⟩
  replace hS : St g (Own 53 15 (anS ms1) a2 c2 :: Shs anF ms1 :: Sh 5 1 (by8 (trn [ansH 4294967297])) a1 c1 :: L) w := hS
  refine WL.r 5 rfl ?_
  refine WL.nil ?_
  as_aux_lemma =>
    refine WC.seq ?_
    refine WC.region ?_
    obtain ⟨z, rfl, hzx⟩ := one_of f1
    refine WL.r 3 rfl ?_
    refine WL.reb 20 (.bool true) (congrArg Value.bool (decide_eq_true (by decide))) ?_
    refine WL.ung rfl rfl rfl ?_
    refine WL.r 1 rfl ?_
    refine WL.ung rfl rfl rfl ?_
    refine WL.r 3 rfl ?_
    refine WL.reb 24 (.bool true) (congrArg Value.bool (decide_eq_true (by decide))) ?_
    refine WL.ung rfl rfl rfl ?_
    refine WL.r 1 rfl ?_
    refine WL.ung rfl rfl rfl ?_
    refine WL.r 3 rfl ?_
    refine WL.reb 28 (.bool true) (congrArg Value.bool (decide_eq_true (by decide))) ?_
    refine WL.ung rfl rfl rfl ?_
    refine WL.r 1 rfl ?_
    refine WL.ung rfl rfl rfl ?_
    refine WL.r 1 rfl ?_
    refine WL.ung rfl rfl rfl ?_
    refine WL.r 3 rfl ?_
    refine WL.reb 33 (.bool true) (congrArg Value.bool (decide_eq_true (rfl))) ?_
    refine WL.ung rfl rfl rfl ?_
    refine WL.r 1 rfl ?_
    refine WL.ung rfl rfl rfl ?_
    refine WL.ix rfl rfl (i := 0) (0) el_44 rfl rfl (by omega) (Nat.succ_pos _) (hS.rdO 0 rfl (anS_at (l := [z]) (k := 0) (z := z) rfl)).1 ?_
    refine WL.ung rfl rfl rfl ?_
    refine WL.r 1 rfl ?_
    refine WL.ung rfl rfl rfl ?_
    refine WL.run 1 [.int .u64 z.x.handle] rfl (by exact (hS.rdO 0 rfl (anS_at (l := [z]) (k := 0) (z := z) rfl)).2 1 _ rfl) ?_
    refine WL.ung rfl rfl rfl ?_
    refine WL.r 3 rfl ?_
    refine WL.nil ?_
    as_aux_lemma =>
      refine WC.ret ?_
      refine ⟨[.bool (decide (z.x.handle = 4294967297))], rfl, ?_⟩
      replace hS := (hS.sel 3 [] rfl)
      exact ⟨congrArg Value.bool (decide_eq_true (by rw [hzx]; rfl)), hS⟩
end Go.Proofs.YthcmigbamkohpaaGreatDoor
/-! ## Sc8 -/
namespace Go.Proofs.YthcmigbamkohpaaGreatDoor
open Go Go.V Go.RowKit Go.Maps
def crZ : List Value := [.int .i64 0, .int .u64 0, .int .u64 0, .int .i64 0, .int .i64 0, .int .i64 0, .int .i64 0, .int .i64 0, .bool false, .string ⟨#[]⟩, .slice none 0 0, .slice none 0 0, .slice none 0 0]
def mix {α : Type} (x y : α) (n k : Nat) : List α := List.replicate k x ++ List.replicate (n - k) y
theorem mix_at {α : Type} (x y : α) {n k : Nat} (h : k < n) : (mix x y n k)[k]? = some y := by
  unfold mix
  rw [List.getElem?_append_right (by rw [List.length_replicate]; omega), List.length_replicate, Nat.sub_self, List.getElem?_replicate, if_pos (by omega)]
theorem mix_set {α : Type} (x y : α) {n k : Nat} (h : k < n) : (mix x y n k).set k x = mix x y n (k + 1) := by
  unfold mix
  rw [List.set_append_right _ _ (by rw [List.length_replicate]; omega), List.length_replicate, Nat.sub_self, show n - k = (n - (k + 1)) + 1 by omega, List.replicate_succ, List.set_cons_zero, List.replicate_succ' (n := k), List.append_assoc]; rfl
theorem mix_0 {α : Type} (x y : α) (n : Nat) : mix x y n 0 = List.replicate n y := by unfold mix; simp
theorem mix_n {α : Type} (x y : α) (n : Nat) : mix x y n n = List.replicate n x := by unfold mix; simp
theorem by8_rep (n : Nat) : List.replicate n [Value.int .u8 0] = by8 (mix 1 0 n 0) := by rw [mix_0]; unfold by8; rw [List.map_replicate]
set_option maxRecDepth 8192 in
theorem law_slim {g w : World} {L : List HP} (more : Int) (hmr : -9223372036854775808 ≤ more ∧ more ≤ 9223372036854775807) (hS : St g (L) w) :
    Sp Tryz.prog 3 [.int .i64 more] w (fun v w' => v = .bool true ∧ St g (L) w') := by
  refine Sp.enter Tryz.func3 rfl (by kernel_rfl) (by kernel_rfl) ?_
  have _ := hmr
  refine WC.seq ?_
  refine WC.region ?_
  refine WL.r 1 rfl ?_
  refine WL.nil ?_
  refine WC.seq ?_
  refine WC.region ?_
  obtain ⟨n, hn, hn1, hn2⟩ : ∃ n : Nat, 65534 + more % 5 = (n : Int) ∧ 65534 ≤ n ∧ n ≤ 65538 := ⟨(65534 + more % 5).toNat, by omega, by omega, by omega⟩
  refine WL.r 1 rfl ?_
  refine WL.call rfl rfl (mod_spec (k := more) (n := 5) (hk := (by assumption)) (hn := (by omega)) (hS := hS)) rfl ?_
  clear hS; rintro _ w ⟨rfl, hS⟩
  replace hS : St g (L) w := hS
  refine WL.r 1 rfl ?_
  refine WL.nw 14 rfl (w64 (by omega)) ?_
  refine WL.r 1 rfl ?_
  refine WL.nil ?_
  refine WC.seq ?_
  refine WC.cut [2, 3, 4, 5] (fun vs w => ∃ (ob bb : Nat), vs = [.bool false, .int .i64 (65534 + (more % 5)), .slice (some ⟨ob, 0, none⟩) n n, .slice (some ⟨bb, 0, none⟩) n n] ∧ St g (Own 5 1 (List.replicate n [.int .u8 0]) (some ⟨bb, 0, none⟩) n :: Own 29 13 (List.replicate n crZ) (some ⟨ob, 0, none⟩) n :: L) w) ?_ ?_
  · refine WC.tree (.two [0, 2] 1 [2] (.one [4] 3 [0, 4] (.seg [5] .nil)) 3 [0] (.one [] 1 [2] (.seg [4, 5] .nil))) (by kernel_rfl) (by kernel_rfl) ?_
    refine WQ.r 2 rfl ?_
    refine WQ.nil ?_
    intro m1
    replace hS := hS.drewN m1; generalize hwm1 : World.drewN _ _ = w at *; clear hwm1
    refine ⟨?_, ?_⟩
    · refine WL.make rfl rfl (v := 65534 + (more % 5)) (v' := 65534 + (more % 5)) (n) (n) el_23 hS rfl (by omega) rfl (by omega) (by omega) (Rm.of (by omega) (by decide)) (fun b1 w hS => ?_)
      replace hS : St g (Own 29 13 (List.replicate n [.int .i64 0, .int .u64 0, .int .u64 0, .int .i64 0, .int .i64 0, .int .i64 0, .int .i64 0, .int .i64 0, .bool false, .string ⟨#[]⟩, .slice none 0 0, .slice none 0 0, .slice none 0 0]) (some ⟨b1, 0, none⟩) n :: L) w := hS
      refine WL.nil ?_
      refine ⟨by exact RQ.pure rfl rfl rfl rfl, ?_⟩
      refine WQ.r 1 rfl ?_
      refine WQ.nil ?_
      intro m2
      replace hS := hS.drewN m2; generalize hwm2 : World.drewN _ _ = w at *; clear hwm2
      refine WL.make rfl rfl (v := 65534 + (more % 5)) (v' := 65534 + (more % 5)) (n) (n) el_24 hS rfl (by omega) rfl (by omega) (by omega) (Rm.of (by omega) (by decide)) (fun b2 w hS => ?_)
      replace hS : St g (Own 5 1 (List.replicate n [.int .u8 0]) (some ⟨b2, 0, none⟩) n :: Own 29 13 (List.replicate n [.int .i64 0, .int .u64 0, .int .u64 0, .int .i64 0, .int .i64 0, .int .i64 0, .int .i64 0, .int .i64 0, .bool false, .string ⟨#[]⟩, .slice none 0 0, .slice none 0 0, .slice none 0 0]) (some ⟨b1, 0, none⟩) n :: L) w := hS
      refine WL.nil ?_
      refine ⟨by exact ⟨RQ.pure rfl rfl rfl rfl, RQ.pure rfl rfl rfl rfl⟩, ?_⟩
      refine WQ.r 1 rfl ?_
      refine WQ.nil ?_
      intro m3
      replace hS := hS.drewN m3; generalize hwm3 : World.drewN _ _ = w at *; clear hwm3
      exact ⟨b1, b2, rfl, hS⟩
    · refine WL.make rfl rfl (v := 65534 + (more % 5)) (v' := 65534 + (more % 5)) (n) (n) el_24 hS rfl (by omega) rfl (by omega) (by omega) (Rm.of (by omega) (by decide)) (fun b1 w hS => ?_)
      replace hS : St g (Own 5 1 (List.replicate n [.int .u8 0]) (some ⟨b1, 0, none⟩) n :: L) w := hS
      refine WL.nil ?_
      refine ⟨by exact RQ.pure rfl rfl rfl rfl, ?_⟩
      refine WQ.nil ?_
      intro m2
      replace hS := hS.drewN m2; generalize hwm2 : World.drewN _ _ = w at *; clear hwm2
      refine WL.make rfl rfl (v := 65534 + (more % 5)) (v' := 65534 + (more % 5)) (n) (n) el_23 hS rfl (by omega) rfl (by omega) (by omega) (Rm.of (by omega) (by decide)) (fun b2 w hS => ?_)
      replace hS : St g (Own 29 13 (List.replicate n [.int .i64 0, .int .u64 0, .int .u64 0, .int .i64 0, .int .i64 0, .int .i64 0, .int .i64 0, .int .i64 0, .bool false, .string ⟨#[]⟩, .slice none 0 0, .slice none 0 0, .slice none 0 0]) (some ⟨b2, 0, none⟩) n :: Own 5 1 (List.replicate n [.int .u8 0]) (some ⟨b1, 0, none⟩) n :: L) w := hS
      refine WL.nil ?_
      refine ⟨by exact RQ.pure rfl rfl rfl rfl, ?_⟩
      refine WQ.r 2 rfl ?_
      refine WQ.nil ?_
      intro m3
      replace hS := hS.drewN m3; generalize hwm3 : World.drewN _ _ = w at *; clear hwm3
      exact ⟨b2, b1, rfl, (hS.sel 2 [1, 0] rfl)⟩
  clear hS; rintro _ w j ⟨ob, bb, rfl, hS⟩
  refine WC.seq ?_
  refine WC.seq ?_
  refine WC.region ?_
  refine WL.r 1 rfl ?_
  refine WL.nil ?_
  refine WC.block ?_
  rw [by8_rep] at hS
  replace hS : St g (Own 5 1 (by8 (mix 1 0 n 0)) (some ⟨bb, 0, none⟩) n :: Own 29 13 (mix crC crZ n 0) (some ⟨ob, 0, none⟩) n :: L) w := hS
  refine WC.loop [2, 3, 4, 5, 6] (fun kM vs w => ∃ (k : Nat), vs = [.bool false, .int .i64 (65534 + (more % 5)), .slice (some ⟨ob, 0, none⟩) n n, .slice (some ⟨bb, 0, none⟩) n n, .int .i64 (k : Int)] ∧ St g (Own 5 1 (by8 (mix 1 0 n k)) (some ⟨bb, 0, none⟩) n :: Own 29 13 (mix crC crZ n k) (some ⟨ob, 0, none⟩) n :: L) w ∧ (k ≤ n) ∧ (n - k) = kM) (n - 0) ⟨0, rfl, hS, (Nat.zero_le _), rfl⟩ ?_
  clear hS; rintro _ _ w j ⟨k, rfl, hS, hk, rfl⟩
  refine WC.seq ?_
  refine WC.seq ?_
  refine WC.region ?_
  refine WL.r 3 rfl ?_
  refine WL.nil ?_
  as_aux_lemma =>
    refine WC.ifP rfl (fun cd1 => ?_) (fun cd1 => ?_)
    · refine WC.skip ?_
      refine WC.seq ?_
      refine WC.block ?_
      refine WC.region ?_
      refine WL.r 4 rfl ?_
      refine WL.ix rfl rfl (i := (k : Int)) (k) el_23 rfl rfl (by omega) (by omega) (hS.rdO 1 rfl (mix_at (n := n) (k := k) crC crZ (by omega))).1 ?_
      refine WL.r 1 rfl ?_
      refine WL.stE rfl rfl rfl 1 (k) 0 [.int .i64 0, .int .u64 0, .int .u64 0, .int .i64 0, .int .i64 0, .int .i64 0, .int .i64 0, .int .i64 0, .bool false, .string ⟨#[]⟩, .slice none 0 0, .slice none 0 0, .slice none 0 0] (mix crC crZ n (k + 1)) hS rfl (mix_at (n := n) (k := k) crC crZ (by omega)) rfl rfl rfl rfl rfl (mix_set (n := n) (k := k) crC crZ (by omega)) (fun w hS => ?_)
      replace hS : St g (Own 5 1 (by8 (mix 1 0 n k)) (some ⟨bb, 0, none⟩) n :: Own 29 13 (mix crC crZ n (k + 1)) (some ⟨ob, 0, none⟩) n :: L) w := hS
      refine WL.ix rfl rfl (i := (k : Int)) (k) el_24 rfl rfl (by omega) (by omega) (hS.rdO 0 rfl (by8_at (mix_at (n := n) (k := k) 1 0 (by omega)))).1 ?_
      refine WL.stE rfl rfl rfl 0 (k) 0 [.int .u8 0] (by8 (mix 1 0 n (k + 1))) hS rfl (by8_at (mix_at (n := n) (k := k) 1 0 (by omega))) rfl rfl rfl rfl rfl ((by8_set _ _ _).trans (congrArg by8 (mix_set (n := n) (k := k) 1 0 (by omega)))) (fun w hS => ?_)
      replace hS : St g (Own 5 1 (by8 (mix 1 0 n (k + 1))) (some ⟨bb, 0, none⟩) n :: Own 29 13 (mix crC crZ n (k + 1)) (some ⟨ob, 0, none⟩) n :: L) w := hS
      refine WL.nil ?_
      refine WC.region ?_
      refine WL.r 2 rfl ?_
      refine WL.nw 23 rfl (w64 (by omega)) ?_
      refine WL.r 1 rfl ?_
      refine WL.nil ?_
      exact ⟨_, by omega, k + 1, rfl, hS, (by omega), rfl⟩
    · refine WC.exit ?_
      refine WC.seq ?_
      refine WC.region ?_
      have hk9 : k = n := (by omega); rw [hk9, mix_n, mix_n] at hS
      replace hS : St g (Own 5 1 (by8 (ones n)) (some ⟨bb, 0, none⟩) n :: Own 29 13 (crCs n) (some ⟨ob, 0, none⟩) n :: L) w := hS
      refine WL.reb 4 (.slice (some ⟨ob, 0, none⟩) (crCs n).length n) (congrArg (fun m => Value.slice (some ⟨ob, 0, none⟩) m n) (crCs_len n).symm) ?_
      refine WL.reb 5 (.slice (some ⟨bb, 0, none⟩) (by8 (ones n)).length n) (congrArg (fun m => Value.slice (some ⟨bb, 0, none⟩) m n) (by rw [by8_len, ones_len])) ?_
      refine WL.r 1 rfl ?_
      replace hS := (hS.at_ 1 rfl).share
      replace hS : St g (Sh 29 13 (crCs n) (some ⟨ob, 0, none⟩) n :: Own 5 1 (by8 (ones n)) (some ⟨bb, 0, none⟩) n :: L) w := hS
      refine WL.call rfl rfl (enc_n (a := some ⟨ob, 0, none⟩) (c := n) (n := n) (hn := (by omega)) (hS := hS)) rfl ?_
      clear hS; rintro _ w ⟨a1, c1, m1, rfl, hS, f1⟩
      replace hS : St g (Sh 29 13 (crCs n) (some ⟨ob, 0, none⟩) n :: Own 5 1 (by8 (ones n)) (some ⟨bb, 0, none⟩) n :: L) w := hS
      refine WL.r 5 rfl ?_
      refine WL.nil ?_
      refine WC.seq ?_
      refine WC.region ?_
      refine WL.r 1 rfl ?_
      replace hS := (hS.at_ 1 rfl).share
      replace hS : St g (Sh 5 1 (by8 (ones n)) (some ⟨bb, 0, none⟩) n :: Sh 29 13 (crCs n) (some ⟨ob, 0, none⟩) n :: L) w := hS
      refine WL.call rfl rfl (dec_n (a := some ⟨bb, 0, none⟩) (c := n) (n := n) (hn := (by omega)) (hS := hS)) rfl ?_
      clear hS; rintro _ w ⟨a2, c2, rfl, hS⟩
      replace hS : St g (Own 29 13 (crCs (min n 65536)) a2 c2 :: Sh 5 1 (by8 (ones n)) (some ⟨bb, 0, none⟩) n :: Sh 29 13 (crCs n) (some ⟨ob, 0, none⟩) n :: L) w := hS
      refine WL.r 7 rfl ?_
      refine WL.nil ?_
      as_aux_lemma =>
        refine WC.seq ?_
        refine WC.seq ?_
        refine WC.region ?_
        refine WL.r 2 rfl ?_
        refine WL.nil ?_
        refine WC.ifP rfl (fun hcn => ?_) (fun hcn => ?_)
        · refine WC.seq ?_
          refine WC.region ?_
          refine WL.call rfl rfl (awake32   (hS := hS)) rfl ?_
          clear hS; rintro _ w ⟨rfl, hS⟩
          replace hS : St g (Own 29 13 (crCs (min n 65536)) a2 c2 :: Sh 5 1 (by8 (ones n)) (some ⟨bb, 0, none⟩) n :: Sh 29 13 (crCs n) (some ⟨ob, 0, none⟩) n :: L) w := hS
          refine WL.r 1 rfl ?_
          refine WL.ung rfl rfl rfl ?_
          refine WL.r 1 rfl ?_
          refine WL.ung rfl rfl rfl ?_
          refine WL.r 2 rfl ?_
          refine WL.rG 19 rfl (fun j => ?_)
          refine WL.prop 66 rfl (band (band (band (band (dd _) (dd _)) (dd _)) (dd _)) (dd _)) ?_
          refine WL.nil ?_
          refine WC.ret ?_
          refine ⟨[.bool (bif (bif (bif (bif (decide ((if n ≤ 65536 then 0 else 2) = 2)) then (decide ((m1 : Int) = 0)) else false) then (decide ((if n ≤ 65536 then 0 else 2) = 2)) else false) then (decide ((List.length (crCs (min n 65536)) : Int) = 65536)) else false) then (decide (((min n 65536 : Nat) : Int) = 65536)) else false)], rfl, ?_⟩
          replace hS := (hS.sel 3 [] rfl)
          have e1 : ¬ n ≤ 65536 := (by omega); have e2 : min n 65536 = 65536 := (by omega); exact ⟨congrArg Value.bool (by rw [f1]; simp [e1, e2, crCs_len]), hS⟩
        · refine WC.skip ?_
          refine WC.seq ?_
          refine WC.region ?_
          refine WL.call rfl rfl (awake32   (hS := hS)) rfl ?_
          clear hS; rintro _ w ⟨rfl, hS⟩
          replace hS : St g (Own 29 13 (crCs (min n 65536)) a2 c2 :: Sh 5 1 (by8 (ones n)) (some ⟨bb, 0, none⟩) n :: Sh 29 13 (crCs n) (some ⟨ob, 0, none⟩) n :: L) w := hS
          refine WL.r 1 rfl ?_
          refine WL.ung rfl rfl rfl ?_
          refine WL.r 1 rfl ?_
          refine WL.ung rfl rfl rfl ?_
          refine WL.r 2 rfl ?_
          refine WL.rG 22 rfl (fun j => ?_)
          refine WL.prop 92 rfl (band (band (band (band (dd _) (dd _)) (dd _)) (dd _)) (dd _)) ?_
          refine WL.nil ?_
          refine WC.ret ?_
          refine ⟨[.bool (bif (bif (bif (bif (decide ((if n ≤ 65536 then 0 else 2) = 0)) then (decide ((m1 : Int) = (65534 + (more % 5)))) else false) then (decide ((if n ≤ 65536 then 0 else 2) = 0)) else false) then (decide ((List.length (crCs (min n 65536)) : Int) = (65534 + (more % 5)))) else false) then (decide (((min n 65536 : Nat) : Int) = (65534 + (more % 5)))) else false)], rfl, ?_⟩
          replace hS := (hS.sel 3 [] rfl)
          have e1 : n ≤ 65536 := (by omega); have e2 : min n 65536 = n := (by omega); exact ⟨congrArg Value.bool (by rw [f1]; simp [e1, e2, hn, crCs_len]), hS⟩
end Go.Proofs.YthcmigbamkohpaaGreatDoor
/-! ## Argp -/
namespace Go.Proofs.YthcmigbamkohpaaGreatDoor
open Go Go.V Go.RowKit
set_option maxRecDepth 100000
section
variable {H : Type} {enc : TypeId × Value → H} {w : World} {cs : List Value}
theorem rd_int (h : Rdc enc Tryz.prog w 3 cs) : ∃ n, cs = [.int .i64 n] ∧ (-9223372036854775808 ≤ n ∧ n ≤ 9223372036854775807) := by
  obtain ⟨n, h1, h2, h3⟩ := h.int (k := .i64) (by kernel_rfl)
  exact ⟨n, h1, h2, h3⟩
end
end Go.Proofs.YthcmigbamkohpaaGreatDoor
/-! ## Jsl -/
namespace Go.Proofs.YthcmigbamkohpaaGreatDoor
open Go Go.V Go.RowKit Go.ChangeShapes Go.WideShapes
set_option maxRecDepth 100000
theorem slim_calls {H : Type} {enc : TypeId × Value → H} {W : World} {base : Nat} {args : List Value} (h : AOk enc Tryz.prog W base [3] args) :
    Calls Tryz.prog 3 args.toArray W fun e W' => e = .returned (.bool true) ∧ Below W.heap.size W W' := by
  obtain ⟨v0, vs0, rfl, k0, r0, h⟩ := h.cons
  obtain rfl := h.nil
  obtain ⟨n0, e0, h0⟩ := rd_int r0
  obtain rfl := okv_one (okv_int k0 Tryz.underlying3) e0
  have hS := St.start W
  exact law_calls (law_slim n0 h0 hS)
theorem slim_own : ownKnob Tryz.prog.godebug = none := by kernel_rfl
theorem slim_lifted (os : Os) (started : os.Started) (H : Type) (enc : TypeId × Value → H) :
    ReturnsInHanded {} Tryz.checked os 3 .any (fun w args => (Rows.scriptLimitSpec.pre enc Tryz.prog Tryz.f3 Rows.scriptLimitRow.domain false w args ∧ laidMetH Tryz.prog Rows.scriptLimitRow.laid w) ∧ sizedMet enc Tryz.prog Tryz.f3 (OpenSpec.ofChange Rows.scriptLimitSpec) false w args)
      (Rows.scriptLimitSpec.post enc Tryz.prog Tryz.f3 false true false false) := by
  refine returnsInHanded_of_change_and (C := Tryz.checked) (X := fun w _ => laidMetH Tryz.prog Rows.scriptLimitRow.laid w) (fun _ _ _ hh h => h.of_heap hh) slim_own started (by kernel_rfl) Tryz.func3
    (ChangeSpec.witness_shaped (enc := enc) (C := Tryz.checked) (os := os) (X := fun w _ => laidMetH Tryz.prog Rows.scriptLimitRow.laid w) false (World.laidAll Tryz.prog os Rows.scriptLimitRow.laid) #[.int .i64 0] 8 (World.laidAll_os _ _ _)
      (World.shaped_of_ZipB (by kernel_rfl) (by kernel_rfl)) (by kernel_rfl) (by kernel_rfl) (by kernel_rfl)
      (by rw [MakeChecks.laidMetH_plain _ _ _ (by kernel_rfl)]; exact laidMet_laidAll _ (by kernel_rfl) (by kernel_rfl))) ?_
  intro W base args ds gs before hval0 hW _ _ hL _
  have hval : ∀ (j : Nat) t v, Tryz.f3.params[j]? = some t → args[j]? = some v → Value.okWide Tryz.prog W .any base t v := hval0
  have hW0 := hW
  obtain ⟨p, q, hA0, _⟩ := hW
  have hA : DataW.TrodAll enc Tryz.prog W 0 (fun _ => true) true Tryz.f3.params.toList args.toList ds p := hA0
  rw [Tryz.params3] at hA hval
  clear hA0 hval0 hL
  have hc := slim_calls (AOk.args hA hval)
  rw [Array.toArray_toList] at hc
  refine hc.mono fun e W' ⟨he, hb⟩ => ⟨_, he, ?_⟩
  refine law_post rfl hW0 (by kernel_rfl) ?_ (by kernel_rfl) Tryz.underlying4 ?_ hb
  · exact fun t ht => by
      simp only [Tryz.params3, List.mem_cons, List.not_mem_nil, or_false] at ht
      subst ht <;> exact ⟨by kernel_rfl, of_decide_eq_true (by kernel_rfl)⟩
  · intro hd
    match ds, hd with
    | [d1], _ => exact ⟨rfl, rfl, rfl⟩
theorem slim_row : Rows.ScriptLimitSaid :=
  OpenClaim.holds_of_wide 3 Tryz.f3 rfl rfl rfl rfl rfl rfl rfl ⟨rfl, rfl, rfl, rfl, rfl⟩ rfl rfl rfl rfl rfl (by kernel_rfl) Tryz.func3 slim_closed
    (of_decide_eq_true (by kernel_rfl)) (by unfold Func.isWrapper; first | (rw [if_pos (by decide +kernel)]; kernel_rfl) | (rw [if_neg (by decide +kernel)]; exact ⟨rfl, rfl⟩))
    (fun os started H enc _ => slim_lifted os started H enc)
theorem slim_holds : Rows.ScriptLimitCardSaid :=
  Claim7.holds_tied_plain_at .later [] [.data, .pinned] true (true, "7f548a8900d94ee10c2d21cf828062ebaf3637690083d4189233618766f6c331") false slim_row (fun _ h => by cases h) (by kernel_rfl) (fun _ h => by cases h) scriptLimit_row_tie rfl ⟨rfl, rfl⟩ (by kernel_rfl) rfl
    (fun f fn hf hfn => by
      obtain rfl : f = 3 := Option.some.inj ((show Tryz.prog.funcNamed "versionmap/versionmaplaw32.ScriptLimit" = some 3 by kernel_rfl).symm.trans hf) |>.symm
      obtain rfl : fn = Tryz.f3 := (Option.some.inj (Tryz.func3.symm.trans hfn)).symm
      exact ⟨slim_looks, fun j t ht => by
        rw [Tryz.params3] at ht
        have hm : t ∈ [3] := by simpa using Array.mem_of_getElem? ht
        have hall : ([3].all fun u => !Tryz.prog.wantsStandIn u) = true := by kernel_rfl
        exact (show Tryz.prog.wantsStandIn t = false by simpa using List.all_eq_true.1 hall t hm)⟩)
    slim_goes
end Go.Proofs.YthcmigbamkohpaaGreatDoor
