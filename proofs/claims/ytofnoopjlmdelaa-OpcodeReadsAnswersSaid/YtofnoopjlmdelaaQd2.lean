/-
  The reference's reader: sizes, texts, entries, changes.
  Conditions: sizes below a bound that the laws meet.
-/
import Derived.Test.YtofnoopjlmdelaaQd
import Derived.Test.YtofnoopjlmdelaaRf1
namespace Go.Proofs.Ytofnoopjlmdelaa
open Go Go.V


theorem qsize_spec {g w : World} {L : List HP} (r c : Nat) (a : Option Addr) (bs : List Int) (p : Nat) (e : Int) (most : Int) (hp : p ≤ bs.length) (hl : bs.length ≤ 100000) (hb : B8 bs) (hm : 0 ≤ most ∧ most ≤ 18446744073709551615) (hS : St g (cel r #[.slice a (List.length (by8 bs)) c, .int .i64 (p : Int), .int .i64 e] 88 :: Sh 5 1 (by8 bs) a c :: L) w) :
    Sp Try.prog 53 [.pointer (some ⟨r, 0, none⟩), .int .u64 most] w (fun v w' => v = .int .i64 (qSize bs most p e).1 ∧ St g (cel r #[.slice a (List.length (by8 bs)) c, .int .i64 ((qSize bs most p e).2.1 : Int), .int .i64 (qSize bs most p e).2.2] 88 :: Sh 5 1 (by8 bs) a c :: L) w') := by
  refine Sp.enter Try.func53 rfl (by kernel_rfl) (by kernel_rfl) ?_
  have _ := hm
  have _ := hb
  have _ := hl
  have _ := hp
  refine WC.seq ?_
  refine WC.region ?_
  have hl8 := by8_len bs
  refine WL.r 1 rfl ?_
  refine WL.nil ?_
  refine WC.seq ?_
  refine WC.region ?_
  refine WL.r 2 rfl ?_
  refine WL.call rfl rfl (qu_spec (r := r) (c := c) (a := a) (bs := bs) (p := p) (e := e) (most := most) (hp := (by assumption)) (hl := (by assumption)) (hb := (by assumption)) (hm := (by omega)) (hS := hS)) rfl ?_
  generalize hR1 : qU bs most p e = R1
  rintro _ w ⟨rfl, hS⟩
  have hR1f0 : R1.2.1 ≤ (List.length bs) := by rw [← hR1]; exact qU_le (by assumption)
  have hR1f1 : (0 ≤ R1.1) ∧ (R1.1 ≤ most) := by rw [← hR1]; exact qU_b (by assumption) (by omega)
  replace hS : St g (cel r #[.slice a (List.length (by8 bs)) c, .int .i64 (R1.2.1 : Int), .int .i64 R1.2.2] 88 :: Sh 5 1 (by8 bs) a c :: L) w := hS
  refine WL.r 1 rfl ?_
  refine WL.nil ?_
  refine WC.seq ?_
  refine WC.seq ?_
  refine WC.plan [([0, 1, 2, 3, 4, 5, 6, 7, 12, 8, 13, 9, 14, 10, 15, 11, 16, 17, 18, 19], none)] (by kernel_rfl) (by kernel_rfl) ?_
  refine WQ.run 5 [.int .i64 R1.2.2] rfl (by exact hS.ld 0 rfl rfl) ?_
  refine WQ.runG 15 [.slice a (List.length (by8 bs)) c, .int .i64 (R1.2.1 : Int)] rfl (by exact ⟨fun _ => hS.ld 0 rfl rfl, fun _ => hS.ld 0 rfl rfl⟩) (fun j => ?_)
  refine WQ.prop 28 rfl (band (dd _) (dd _)) ?_
  refine WQ.nil ?_
  intro m1
  replace hS := hS.drewN m1; generalize hwm1 : World.drewN _ _ = w at *; clear hwm1
  as_aux_lemma =>
    refine WC.ifP rfl (fun cd1 => ?_) (fun cd1 => ?_)
    · refine WC.region ?_
      have hw2 : IntKind.u64.wrap (IntKind.i64.wrap ((List.length (by8 bs) : Int) - (R1.2.1 : Int))) = (bs.length : Int) - R1.2.1 := by rw [w64 (by omega), wu64 (by omega), hl8]
      rw [hw2] at cd1
      refine WL.r 3 rfl ?_
      refine WL.st rfl rfl rfl 0 hS rfl rfl rfl rfl rfl rfl (fun w hS => ?_)
      replace hS : St g (cel r #[.slice a (List.length (by8 bs)) c, .int .i64 (R1.2.1 : Int), .int .i64 12] 88 :: Sh 5 1 (by8 bs) a c :: L) w := hS
      refine WL.nil ?_
      refine WC.seq ?_
      refine WC.seq ?_
      refine WC.region ?_
      have hw2 : IntKind.u64.wrap (IntKind.i64.wrap ((List.length (by8 bs) : Int) - (R1.2.1 : Int))) = (bs.length : Int) - R1.2.1 := by rw [w64 (by omega), wu64 (by omega), hl8]
      try rw [hw2] at cd1
      refine WL.run 5 [.int .i64 12] rfl (by exact hS.ld 0 rfl rfl) ?_
      refine WL.nil ?_
      refine WC.ifT rfl (by decide) ?_
      refine WC.seq ?_
      refine WC.region ?_
      refine WL.r 1 rfl ?_
      refine WL.nil ?_
      refine WC.ret ?_
      refine ⟨[.int .i64 0], rfl, ?_⟩
      rw [qSize, hR1, if_neg (fun h => h cd1.1), if_pos cd1.2]; exact ⟨rfl, hS⟩
    · refine WC.skip ?_
      refine WC.seq ?_
      refine WC.seq ?_
      refine WC.region ?_
      have hw2 : IntKind.u64.wrap (IntKind.i64.wrap ((List.length (by8 bs) : Int) - (R1.2.1 : Int))) = (bs.length : Int) - R1.2.1 := by rw [w64 (by omega), wu64 (by omega), hl8]
      try rw [hw2] at cd1
      refine WL.run 5 [.int .i64 R1.2.2] rfl (by exact hS.ld 0 rfl rfl) ?_
      refine WL.nil ?_
      refine WC.ifP rfl (fun cd2 => ?_) (fun cd2 => ?_)
      · refine WC.seq ?_
        refine WC.region ?_
        refine WL.r 1 rfl ?_
        refine WL.nil ?_
        refine WC.ret ?_
        refine ⟨[.int .i64 0], rfl, ?_⟩
        rw [qSize, hR1, if_pos cd2]; exact ⟨rfl, hS⟩
      · refine WC.skip ?_
        refine WC.seq ?_
        refine WC.region ?_
        refine WL.r 2 rfl ?_
        refine WL.nw 38 rfl (w64 (by omega)) ?_
        refine WL.r 1 rfl ?_
        refine WL.nil ?_
        refine WC.ret ?_
        refine ⟨[.int .i64 R1.1], rfl, ?_⟩
        have h0 := Classical.not_not.1 cd2; rw [qSize, hR1, if_neg cd2, if_neg (fun h => cd1 ⟨h0, h⟩)]; exact ⟨rfl, hS⟩

theorem qtext_spec {g w : World} {L : List HP} (r c : Nat) (a : Option Addr) (bs : List Int) (p : Nat) (e : Int) (most : Int) (hp : p ≤ bs.length) (hl : bs.length ≤ 100000) (hb : B8 bs) (hm : 0 ≤ most ∧ most ≤ 18446744073709551615) (hS : St g (cel r #[.slice a (List.length (by8 bs)) c, .int .i64 (p : Int), .int .i64 e] 88 :: Sh 5 1 (by8 bs) a c :: L) w) :
    Sp Try.prog 55 [.pointer (some ⟨r, 0, none⟩), .int .u64 most] w (fun v w' => ∃ (a2 : Option Addr) (c2 : Nat), v = .slice a2 (List.length (by8 (qText bs most p e).1)) c2 ∧ St g (cel r #[.slice a (List.length (by8 bs)) c, .int .i64 ((qText bs most p e).2.1 : Int), .int .i64 (qText bs most p e).2.2] 88 :: Sh 5 1 (by8 bs) a c :: Own 5 1 (by8 (qText bs most p e).1) a2 c2 :: L) w') := by
  refine Sp.enter Try.func55 rfl (by kernel_rfl) (by kernel_rfl) ?_
  have _ := hm
  have _ := hb
  have _ := hl
  have _ := hp
  refine WC.seq ?_
  refine WC.region ?_
  refine WL.r 1 rfl ?_
  refine WL.nil ?_
  refine WC.seq ?_
  refine WC.region ?_
  have hl8 := by8_len bs
  refine WL.r 2 rfl ?_
  refine WL.call rfl rfl (qsize_spec (r := r) (c := c) (a := a) (bs := bs) (p := p) (e := e) (most := most) (hp := (by assumption)) (hl := (by assumption)) (hb := (by assumption)) (hm := (by omega)) (hS := hS)) rfl ?_
  generalize hR1 : qSize bs most p e = R1
  rintro _ w ⟨rfl, hS⟩
  have hR1f0 : R1.2.1 ≤ (List.length bs) := by rw [← hR1]; exact qSize_le (by assumption)
  have hR1f1 : (0 ≤ R1.1) ∧ (R1.1 ≤ most) ∧ (R1.1 + (R1.2.1 : Int) ≤ (List.length bs)) := by rw [← hR1]; exact qSize_b (by assumption) (by omega) (by assumption)
  replace hS : St g (cel r #[.slice a (List.length (by8 bs)) c, .int .i64 (R1.2.1 : Int), .int .i64 R1.2.2] 88 :: Sh 5 1 (by8 bs) a c :: L) w := hS
  refine WL.r 1 rfl ?_
  refine WL.nil ?_
  refine WC.seq ?_
  refine WC.seq ?_
  refine WC.region ?_
  refine WL.run 5 [.int .i64 R1.2.2] rfl (by exact hS.ld 0 rfl rfl) ?_
  refine WL.nil ?_
  refine WC.ifP rfl (fun cd1 => ?_) (fun cd1 => ?_)
  · refine WC.seq ?_
    refine WC.region ?_
    refine WL.r 1 rfl ?_
    refine WL.nil ?_
    as_aux_lemma =>
      refine WC.ret ?_
      refine ⟨[.slice none 0 0], rfl, ?_⟩
      replace hS := hS.nil_ 5 1
      replace hS := (hS.sel 3 [1, 1, 0] rfl)
      rw [qText, hR1, if_pos cd1]; exact ⟨_, _, rfl, hS⟩
  · refine WC.skip ?_
    refine WC.seq ?_
    refine WC.region ?_
    refine WL.run 7 [.int .i64 (R1.2.1 : Int)] rfl (by exact hS.ld 0 rfl rfl) ?_
    refine WL.nw 20 rfl (w64 (by omega)) ?_
    refine WL.r 2 rfl ?_
    refine WL.st rfl rfl rfl 0 hS rfl rfl rfl rfl rfl rfl (fun w hS => ?_)
    replace hS : St g (cel r #[.slice a (List.length (by8 bs)) c, .int .i64 ((R1.2.1 : Int) + R1.1), .int .i64 R1.2.2] 88 :: Sh 5 1 (by8 bs) a c :: L) w := hS
    refine WL.nil ?_
    as_aux_lemma =>
      refine WC.seq ?_
      refine WC.plan [([0, 4, 8, 10, 1, 5, 11, 2, 6, 12, 3, 7, 13, 9], some (14, [])), ([], some (15, [])), ([16], none)] (by kernel_rfl) (by kernel_rfl) ?_
      refine WQ.run 14 [.slice a (List.length (by8 bs)) c, .int .i64 ((R1.2.1 : Int) + R1.1), .int .i64 ((R1.2.1 : Int) + R1.1)] rfl (by exact ⟨hS.ld 0 rfl rfl, hS.ld 0 rfl rfl, hS.ld 0 rfl rfl⟩) ?_
      refine WQ.nw 32 rfl (w64 (by omega)) ?_
      refine WQ.nil ?_
      intro m1
      replace hS := hS.drewN m1; generalize hwm1 : World.drewN _ _ = w at *; clear hwm1
      refine WL.slLH rfl rfl (v := ((R1.2.1 : Int) + R1.1) - R1.1) (v' := (R1.2.1 : Int) + R1.1) 1 (R1.2.1) (R1.2.1 + R1.1.toNat) (by8 ((bs.drop R1.2.1).take R1.1.toNat)) el_23 hS rfl rfl rfl (by omega) rfl (by omega) (by omega) (by omega) (by rw [by8_take, by8_drop, List.drop_take]; congr 2; omega) (fun a1 hS => ?_)
      replace hS : St g (Sh 5 1 (by8 ((bs.drop R1.2.1).take R1.1.toNat)) a1 (c - R1.2.1) :: cel r #[.slice a (List.length (by8 bs)) c, .int .i64 ((R1.2.1 : Int) + R1.1), .int .i64 R1.2.2] 88 :: Sh 5 1 (by8 bs) a c :: L) w := hS
      refine WL.nil ?_
      refine ⟨by exact trivial, ?_⟩
      refine WQ.nil ?_
      intro m2
      replace hS := hS.drewN m2; generalize hwm2 : World.drewN _ _ = w at *; clear hwm2
      replace hS := hS.nilS 5 1
      replace hS : St g (Sh 5 1 (by8 []) none 0 :: Sh 5 1 (by8 ((bs.drop R1.2.1).take R1.1.toNat)) a1 (c - R1.2.1) :: cel r #[.slice a (List.length (by8 bs)) c, .int .i64 ((R1.2.1 : Int) + R1.1), .int .i64 R1.2.2] 88 :: Sh 5 1 (by8 bs) a c :: L) w := hS
      refine WL.call rfl rfl (rjoin (xs := []) (ys := (bs.drop R1.2.1).take R1.1.toNat) (a := none) (b := a1) (c := 0) (d := c - R1.2.1) (hx := (by simp only [List.length_nil, List.length_take, List.length_drop]; omega)) (hS := hS)) rfl ?_
      rintro _ w ⟨a2, c1, rfl, hS⟩
      replace hS : St g (Own 5 1 (by8 ([] ++ ((bs.drop R1.2.1).take R1.1.toNat))) a2 c1 :: Sh 5 1 (by8 []) none 0 :: Sh 5 1 (by8 ((bs.drop R1.2.1).take R1.1.toNat)) a1 (c - R1.2.1) :: cel r #[.slice a (List.length (by8 bs)) c, .int .i64 ((R1.2.1 : Int) + R1.1), .int .i64 R1.2.2] 88 :: Sh 5 1 (by8 bs) a c :: L) w := hS
      refine WL.nil ?_
      refine ⟨by exact trivial, ?_⟩
      refine WQ.r 1 rfl ?_
      refine WQ.nil ?_
      intro m3
      replace hS := hS.drewN m3; generalize hwm3 : World.drewN _ _ = w at *; clear hwm3
      as_aux_lemma =>
        refine WC.ret ?_
        refine ⟨[.slice a2 (List.length (by8 ([] ++ ((bs.drop R1.2.1).take R1.1.toNat)))) c1], rfl, ?_⟩
        replace hS := (hS.sel 5 [3, 3, 0] rfl)
        have h0 := Classical.not_not.1 cd1
        rw [qText, hR1, if_neg cd1]; rw [show (R1.2.1 : Int) + R1.1 = ((R1.2.1 + R1.1.toNat : Nat) : Int) by omega, h0] at hS; exact ⟨_, _, rfl, hS⟩

theorem qentries_spec {g w : World} {L : List HP} (r c : Nat) (a : Option Addr) (bs : List Int) (p : Nat) (e : Int) (n : Int) (hp : p ≤ bs.length) (hl : bs.length ≤ 100000) (hb : B8 bs) (hn : n ≤ 1000000) (hS : St g (cel r #[.slice a (List.length (by8 bs)) c, .int .i64 (p : Int), .int .i64 e] 88 :: Sh 5 1 (by8 bs) a c :: L) w) :
    Sp Try.prog 52 [.pointer (some ⟨r, 0, none⟩), .int .i64 n] w (fun v w' => ∃ (a2 : Option Addr) (c2 : Nat), v = .slice a2 (List.length (en2 (qEnts bs n.toNat p e).1)) c2 ∧ St g (cel r #[.slice a (List.length (by8 bs)) c, .int .i64 ((qEnts bs n.toNat p e).2.1 : Int), .int .i64 (qEnts bs n.toNat p e).2.2] 88 :: Sh 5 1 (by8 bs) a c :: Own 40 2 (en2 (qEnts bs n.toNat p e).1) a2 c2 :: L) w') := by
  refine Sp.enter Try.func52 rfl (by kernel_rfl) (by kernel_rfl) ?_
  have _ := hn
  have _ := hb
  have _ := hl
  have _ := hp
  refine WC.seq ?_
  refine WC.region ?_
  refine WL.r 1 rfl ?_
  refine WL.nil ?_
  refine WC.seq ?_
  refine WC.region ?_
  refine WL.r 1 rfl ?_
  refine WL.nil ?_
  refine WC.seq ?_
  refine WC.block ?_
  replace hS := hS.nil_ 40 2
  refine WC.loop [0, 1, 4, 5] (fun kM vs w => ∃ (m : Int) (xs : List (Int × Int)) (q : Nat) (e2 : Int) (a2 : Option Addr) (c2 : Nat), vs = [.pointer (some ⟨r, 0, none⟩), .int .i64 m, .slice none 0 0, .slice a2 (List.length (en2 xs)) c2] ∧ St g (Own 40 2 (en2 xs) a2 c2 :: cel r #[.slice a (List.length (by8 bs)) c, .int .i64 (q : Int), .int .i64 e2] 88 :: Sh 5 1 (by8 bs) a c :: L) w ∧ (m ≤ n ∧ (0 < m → m + xs.length = n) ∧ xs.length ≤ n.toNat ∧ (m ≤ 0 → m = n ∨ m = 0)) ∧ (q ≤ bs.length) ∧ (qEnts bs n.toNat p e = (xs ++ (qEnts bs m.toNat q e2).1, (qEnts bs m.toNat q e2).2)) ∧ (m.toNat) = kM) (n.toNat) ⟨n, [], p, e, none, 0, rfl, hS, (by simp), (by assumption), (rfl), rfl⟩ ?_
  clear hS; rintro _ _ w j ⟨m, xs, q, e2, a2, c2, rfl, hS, hk, hq, hr, rfl⟩
  refine WC.seq ?_
  refine WC.seq ?_
  refine WC.region ?_
  refine WL.r 2 rfl ?_
  refine WL.runG 7 [.int .i64 e2] rfl (by exact (fun _ => hS.ld 1 rfl rfl)) (fun j => ?_)
  refine WL.prop 16 rfl (band (dd _) (dd _)) ?_
  refine WL.nil ?_
  refine WC.ifP rfl (fun cd1 => ?_) (fun cd1 => ?_)
  · refine WC.skip ?_
    refine WC.seq ?_
    refine WC.block ?_
    refine WC.seq ?_
    refine WC.region ?_
    refine WL.r 1 rfl ?_
    refine WL.call rfl rfl (qz_spec (r := r) (c := c) (a := a) (bs := bs) (p := q) (e := e2) (hp := (by assumption)) (hl := (by assumption)) (hb := (by assumption)) (hS := (hS.sel 3 [1, 1, 0] rfl))) rfl ?_
    generalize hR1 : qZ bs q e2 = R1
    rintro _ w ⟨rfl, hS⟩
    have hR1f0 : R1.2.1 ≤ (List.length bs) := by rw [← hR1]; exact qZ_le (by assumption)
    replace hS : St g (cel r #[.slice a (List.length (by8 bs)) c, .int .i64 (R1.2.1 : Int), .int .i64 R1.2.2] 88 :: Sh 5 1 (by8 bs) a c :: Own 40 2 (en2 xs) a2 c2 :: L) w := hS
    refine WL.r 1 rfl ?_
    refine WL.nil ?_
    as_aux_lemma =>
      refine WC.seq ?_
      refine WC.region ?_
      refine WL.r 1 rfl ?_
      refine WL.call rfl rfl (qz_spec (r := r) (c := c) (a := a) (bs := bs) (p := R1.2.1) (e := R1.2.2) (hp := (by assumption)) (hl := (by assumption)) (hb := (by assumption)) (hS := hS)) rfl ?_
      generalize hR2 : qZ bs R1.2.1 R1.2.2 = R2
      rintro _ w ⟨rfl, hS⟩
      have hR2f0 : R2.2.1 ≤ (List.length bs) := by rw [← hR2]; exact qZ_le (by assumption)
      replace hS : St g (cel r #[.slice a (List.length (by8 bs)) c, .int .i64 (R2.2.1 : Int), .int .i64 R2.2.2] 88 :: Sh 5 1 (by8 bs) a c :: Own 40 2 (en2 xs) a2 c2 :: L) w := hS
      refine WL.r 1 rfl ?_
      refine WL.nil ?_
      refine WC.region ?_
      refine WL.r 3 rfl ?_
      refine WL.build rfl rfl (cs := [.int .i64 R1.1, .int .i64 R2.1]) zv_40 rfl rfl ?_
      refine WL.lit rfl rfl (en2 [(R1.1, R2.1)]) el_24 hS (by exact ⟨rfl, rfl⟩) (en2_ok _) rfl (by decide) (fun b1 w hS => ?_)
      refine WL.app rfl rfl 3 (en2 (xs ++ [(R1.1, R2.1)])) el_24 hS rfl (hS.srcO 0 rfl) (en2_app _ _).symm (Rm.of (by first | omega | (simp <;> omega)) (by decide)) rfl rfl (fun a1 c1 w hS => ?_)
      replace hS : St g (Own 40 2 (en2 [(R1.1, R2.1)]) (some ⟨b1, 0, none⟩) (List.length (en2 [(R1.1, R2.1)])) :: cel r #[.slice a (List.length (by8 bs)) c, .int .i64 (R2.2.1 : Int), .int .i64 R2.2.2] 88 :: Sh 5 1 (by8 bs) a c :: Own 40 2 (en2 (xs ++ [(R1.1, R2.1)])) a1 c1 :: L) w := hS
      refine WL.r 1 rfl ?_
      refine WL.nil ?_
      refine WC.region ?_
      refine WL.r 2 rfl ?_
      refine WL.nw 18 rfl (w64 (by omega)) ?_
      refine WL.r 1 rfl ?_
      refine WL.nil ?_
      exact ⟨_, by omega, m - 1, xs ++ [(R1.1, R2.1)], R2.2.1, R2.2.2, _, _, rfl, (hS.sel 4 [3, 1, 1] rfl), (by simp; omega), (by assumption), (by rw [hr, show m.toNat = (m - 1).toNat + 1 by omega, qEnts, if_neg (by simp [cd1.2])]; subst hR1 hR2; simp), rfl⟩
  · refine WC.exit ?_
    refine WC.seq ?_
    refine WC.region ?_
    refine WL.r 2 rfl ?_
    refine WL.nil ?_
    as_aux_lemma =>
      refine WC.ret ?_
      refine ⟨[.slice a2 (List.length (en2 xs)) c2], rfl, ?_⟩
      replace hS := (hS.sel 3 [1, 1, 0] rfl)
      have hr2 : qEnts bs n.toNat p e = (xs, q, e2) := by
        rw [hr]
        rcases Int.lt_or_le 0 m with h | h
        · rw [qEnts_0 (by omega)]; simp
        · rw [show m.toNat = 0 by omega]; simp [qEnts]
      rw [hr2]; exact ⟨_, _, rfl, hS⟩

theorem qchanges_spec {g w : World} {L : List HP} (r c : Nat) (a : Option Addr) (bs : List Int) (p : Nat) (e : Int) (n : Int) (hp : p ≤ bs.length) (hl : bs.length ≤ 100000) (hb : B8 bs) (hn : n ≤ 1000000) (hS : St g (cel r #[.slice a (List.length (by8 bs)) c, .int .i64 (p : Int), .int .i64 e] 88 :: Sh 5 1 (by8 bs) a c :: L) w) :
    Sp Try.prog 54 [.pointer (some ⟨r, 0, none⟩), .int .i64 n] w (fun v w' => ∃ (a2 : Option Addr) (c2 : Nat), v = .slice a2 (List.length (ch4 (qChs bs n.toNat p e).1)) c2 ∧ St g (cel r #[.slice a (List.length (by8 bs)) c, .int .i64 ((qChs bs n.toNat p e).2.1 : Int), .int .i64 (qChs bs n.toNat p e).2.2] 88 :: Sh 5 1 (by8 bs) a c :: Own 63 4 (ch4 (qChs bs n.toNat p e).1) a2 c2 :: L) w') := by
  refine Sp.enter Try.func54 rfl (by kernel_rfl) (by kernel_rfl) ?_
  have _ := hn
  have _ := hb
  have _ := hl
  have _ := hp
  refine WC.seq ?_
  refine WC.region ?_
  refine WL.r 1 rfl ?_
  refine WL.nil ?_
  refine WC.seq ?_
  refine WC.region ?_
  refine WL.r 1 rfl ?_
  refine WL.nil ?_
  refine WC.seq ?_
  refine WC.block ?_
  replace hS := hS.nil_ 63 4
  refine WC.loop [0, 1, 4, 5] (fun kM vs w => ∃ (m : Int) (xs : List (Int × Int × Int × Int)) (q : Nat) (e2 : Int) (a2 : Option Addr) (c2 : Nat), vs = [.pointer (some ⟨r, 0, none⟩), .int .i64 m, .slice none 0 0, .slice a2 (List.length (ch4 xs)) c2] ∧ St g (Own 63 4 (ch4 xs) a2 c2 :: cel r #[.slice a (List.length (by8 bs)) c, .int .i64 (q : Int), .int .i64 e2] 88 :: Sh 5 1 (by8 bs) a c :: L) w ∧ (m ≤ n ∧ (0 < m → m + xs.length = n) ∧ xs.length ≤ n.toNat ∧ (m ≤ 0 → m = n ∨ m = 0)) ∧ (q ≤ bs.length) ∧ (qChs bs n.toNat p e = (xs ++ (qChs bs m.toNat q e2).1, (qChs bs m.toNat q e2).2)) ∧ (m.toNat) = kM) (n.toNat) ⟨n, [], p, e, none, 0, rfl, hS, (by simp), (by assumption), (rfl), rfl⟩ ?_
  clear hS; rintro _ _ w j ⟨m, xs, q, e2, a2, c2, rfl, hS, hk, hq, hr, rfl⟩
  refine WC.seq ?_
  refine WC.seq ?_
  refine WC.region ?_
  refine WL.r 2 rfl ?_
  refine WL.runG 7 [.int .i64 e2] rfl (by exact (fun _ => hS.ld 1 rfl rfl)) (fun j => ?_)
  refine WL.prop 18 rfl (band (dd _) (dd _)) ?_
  refine WL.nil ?_
  refine WC.ifP rfl (fun cd1 => ?_) (fun cd1 => ?_)
  · refine WC.skip ?_
    refine WC.seq ?_
    refine WC.block ?_
    refine WC.seq ?_
    refine WC.region ?_
    refine WL.r 1 rfl ?_
    refine WL.call rfl rfl (qc_spec (r := r) (c := c) (a := a) (bs := bs) (p := q) (e := e2) (most := 255) (hp := (by assumption)) (hl := (by assumption)) (hb := (by assumption)) (hm := (by omega)) (hS := (hS.sel 3 [1, 1, 0] rfl))) rfl ?_
    generalize hR1 : qC bs 255 q e2 = R1
    rintro _ w ⟨rfl, hS⟩
    have hR1f0 : R1.2.1 ≤ (List.length bs) := by rw [← hR1]; exact qC_le (by assumption)
    have hR1f1 : (0 ≤ R1.1) ∧ (R1.1 ≤ 255) := by rw [← hR1]; exact qC_b (by assumption) (by omega)
    replace hS : St g (cel r #[.slice a (List.length (by8 bs)) c, .int .i64 (R1.2.1 : Int), .int .i64 R1.2.2] 88 :: Sh 5 1 (by8 bs) a c :: Own 63 4 (ch4 xs) a2 c2 :: L) w := hS
    refine WL.r 1 rfl ?_
    refine WL.nil ?_
    as_aux_lemma =>
      refine WC.seq ?_
      refine WC.region ?_
      refine WL.r 1 rfl ?_
      refine WL.call rfl rfl (qz_spec (r := r) (c := c) (a := a) (bs := bs) (p := R1.2.1) (e := R1.2.2) (hp := (by assumption)) (hl := (by assumption)) (hb := (by assumption)) (hS := hS)) rfl ?_
      generalize hR2 : qZ bs R1.2.1 R1.2.2 = R2
      rintro _ w ⟨rfl, hS⟩
      have hR2f0 : R2.2.1 ≤ (List.length bs) := by rw [← hR2]; exact qZ_le (by assumption)
      replace hS : St g (cel r #[.slice a (List.length (by8 bs)) c, .int .i64 (R2.2.1 : Int), .int .i64 R2.2.2] 88 :: Sh 5 1 (by8 bs) a c :: Own 63 4 (ch4 xs) a2 c2 :: L) w := hS
      refine WL.r 1 rfl ?_
      refine WL.nil ?_
      refine WC.seq ?_
      refine WC.region ?_
      refine WL.r 1 rfl ?_
      refine WL.call rfl rfl (qz_spec (r := r) (c := c) (a := a) (bs := bs) (p := R2.2.1) (e := R2.2.2) (hp := (by assumption)) (hl := (by assumption)) (hb := (by assumption)) (hS := hS)) rfl ?_
      generalize hR3 : qZ bs R2.2.1 R2.2.2 = R3
      rintro _ w ⟨rfl, hS⟩
      have hR3f0 : R3.2.1 ≤ (List.length bs) := by rw [← hR3]; exact qZ_le (by assumption)
      replace hS : St g (cel r #[.slice a (List.length (by8 bs)) c, .int .i64 (R3.2.1 : Int), .int .i64 R3.2.2] 88 :: Sh 5 1 (by8 bs) a c :: Own 63 4 (ch4 xs) a2 c2 :: L) w := hS
      refine WL.r 1 rfl ?_
      refine WL.nil ?_
      refine WC.seq ?_
      refine WC.region ?_
      refine WL.r 1 rfl ?_
      refine WL.call rfl rfl (qz_spec (r := r) (c := c) (a := a) (bs := bs) (p := R3.2.1) (e := R3.2.2) (hp := (by assumption)) (hl := (by assumption)) (hb := (by assumption)) (hS := hS)) rfl ?_
      generalize hR4 : qZ bs R3.2.1 R3.2.2 = R4
      rintro _ w ⟨rfl, hS⟩
      have hR4f0 : R4.2.1 ≤ (List.length bs) := by rw [← hR4]; exact qZ_le (by assumption)
      replace hS : St g (cel r #[.slice a (List.length (by8 bs)) c, .int .i64 (R4.2.1 : Int), .int .i64 R4.2.2] 88 :: Sh 5 1 (by8 bs) a c :: Own 63 4 (ch4 xs) a2 c2 :: L) w := hS
      refine WL.r 1 rfl ?_
      refine WL.nil ?_
      as_aux_lemma =>
        refine WC.region ?_
        refine WL.r 3 rfl ?_
        refine WL.nw 31 rfl (w64 (by omega)) ?_
        refine WL.r 3 rfl ?_
        refine WL.build rfl rfl (cs := [.int .i64 R1.1, .int .i64 R2.1, .int .i64 R3.1, .int .i64 R4.1]) zv_63 rfl rfl ?_
        refine WL.lit rfl rfl (ch4 [(R1.1, R2.1, R3.1, R4.1)]) el_25 hS (by exact ⟨rfl, rfl⟩) (ch4_ok _) rfl (by decide) (fun b1 w hS => ?_)
        refine WL.app rfl rfl 3 (ch4 (xs ++ [(R1.1, R2.1, R3.1, R4.1)])) el_25 hS rfl (hS.srcO 0 rfl) (ch4_app _ _).symm (Rm.of (by first | omega | (simp <;> omega)) (by decide)) rfl rfl (fun a1 c1 w hS => ?_)
        replace hS : St g (Own 63 4 (ch4 [(R1.1, R2.1, R3.1, R4.1)]) (some ⟨b1, 0, none⟩) (List.length (ch4 [(R1.1, R2.1, R3.1, R4.1)])) :: cel r #[.slice a (List.length (by8 bs)) c, .int .i64 (R4.2.1 : Int), .int .i64 R4.2.2] 88 :: Sh 5 1 (by8 bs) a c :: Own 63 4 (ch4 (xs ++ [(R1.1, R2.1, R3.1, R4.1)])) a1 c1 :: L) w := hS
        refine WL.r 1 rfl ?_
        refine WL.nil ?_
        refine WC.region ?_
        refine WL.r 2 rfl ?_
        refine WL.nw 20 rfl (w64 (by omega)) ?_
        refine WL.r 1 rfl ?_
        refine WL.nil ?_
        exact ⟨_, by omega, m - 1, xs ++ [(R1.1, R2.1, R3.1, R4.1)], R4.2.1, R4.2.2, _, _, rfl, (hS.sel 4 [3, 1, 1] rfl), (by simp; omega), (by assumption), (by rw [hr, show m.toNat = (m - 1).toNat + 1 by omega, qChs, if_neg (by simp [cd1.2])]; subst hR1 hR2 hR3 hR4; simp), rfl⟩
  · refine WC.exit ?_
    refine WC.seq ?_
    refine WC.region ?_
    refine WL.r 2 rfl ?_
    refine WL.nil ?_
    as_aux_lemma =>
      refine WC.ret ?_
      refine ⟨[.slice a2 (List.length (ch4 xs)) c2], rfl, ?_⟩
      replace hS := (hS.sel 3 [1, 1, 0] rfl)
      have hr2 : qChs bs n.toNat p e = (xs, q, e2) := by
        rw [hr]
        rcases Int.lt_or_le 0 m with h | h
        · rw [qChs_0 (by omega)]; simp
        · rw [show m.toNat = 0 by omega]; simp [qChs]
      rw [hr2]; exact ⟨_, _, rfl, hS⟩
end Go.Proofs.Ytofnoopjlmdelaa
