/-
  The reference's reader of encodings: what each of its methods gives and leaves.
  Conditions: sizes below a bound that the laws meet.
-/
import Derived.Test.YtofnoopjlmdelaaRf1
import Derived.Test.YtofnoopjlmdelaaQdm
namespace Go.Proofs.Ytofnoopjlmdelaa
open Go Go.V


theorem qu_spec {g w : World} {L : List HP} (r c : Nat) (a : Option Addr) (bs : List Int) (p : Nat) (e : Int) (most : Int) (hp : p ≤ bs.length) (hl : bs.length ≤ 100000) (hb : B8 bs) (hm : 0 ≤ most ∧ most ≤ 18446744073709551615) (hS : St g (cel r #[.slice a (List.length (by8 bs)) c, .int .i64 (p : Int), .int .i64 e] 88 :: Sh 5 1 (by8 bs) a c :: L) w) :
    Sp Try.prog 49 [.pointer (some ⟨r, 0, none⟩), .int .u64 most] w (fun v w' => v = .int .u64 (qU bs most p e).1 ∧ St g (cel r #[.slice a (List.length (by8 bs)) c, .int .i64 ((qU bs most p e).2.1 : Int), .int .i64 (qU bs most p e).2.2] 88 :: Sh 5 1 (by8 bs) a c :: L) w') := by
  refine Sp.enter Try.func49 rfl (by kernel_rfl) (by kernel_rfl) ?_
  have _ := hm
  have _ := hb
  have _ := hl
  have _ := hp
  refine WC.seq ?_
  refine WC.region ?_
  refine WL.r 1 rfl ?_
  refine WL.nil ?_
  refine WC.seq ?_
  refine WC.seq ?_
  refine WC.region ?_
  have hl8 := by8_len bs
  refine WL.run 5 [.int .i64 e] rfl (by exact hS.ld 0 rfl rfl) ?_
  refine WL.nil ?_
  refine WC.ifP rfl (fun cd1 => ?_) (fun cd1 => ?_)
  · refine WC.seq ?_
    refine WC.region ?_
    refine WL.r 1 rfl ?_
    refine WL.nil ?_
    refine WC.ret ?_
    refine ⟨[.int .u64 0], rfl, ?_⟩
    rw [qU, if_pos cd1]; exact ⟨rfl, hS⟩
  · refine WC.skip ?_
    refine WC.seq ?_
    refine WC.plan [([0, 4, 1, 5, 2, 6, 3, 7], some (8, [])), ([9, 10, 11, 12, 13, 14, 15], none)] (by kernel_rfl) (by kernel_rfl) ?_
    refine WQ.run 8 [.slice a (List.length (by8 bs)) c, .int .i64 (p : Int)] rfl (by exact ⟨hS.ld 0 rfl rfl, hS.ld 0 rfl rfl⟩) ?_
    refine WQ.nil ?_
    intro m1
    replace hS := hS.drewN m1; generalize hwm1 : World.drewN _ _ = w at *; clear hwm1
    refine WL.call rfl rfl (ruvarint (bs := bs) (a := a) (c := c) (p := p) (hp := (by assumption)) (hl := (by omega)) (hb := (by assumption)) (hS := (hS.sel 2 [1, 0] rfl))) rfl ?_
    rintro _ w ⟨rfl, hS⟩
    replace hS : St g (Sh 5 1 (by8 bs) a c :: cel r #[.slice a (List.length (by8 bs)) c, .int .i64 (p : Int), .int .i64 e] 88 :: L) w := hS
    refine WL.nil ?_
    refine ⟨by exact trivial, ?_⟩
    refine WQ.r 7 rfl ?_
    refine WQ.nil ?_
    intro m2
    replace hS := hS.drewN m2; generalize hwm2 : World.drewN _ _ = w at *; clear hwm2
    as_aux_lemma =>
      refine WC.seq ?_
      refine WC.seq ?_
      refine WC.region ?_
      refine WL.r 2 rfl ?_
      refine WL.rG 5 rfl (fun j => ?_)
      refine WL.prop 32 rfl (band (dd _) (dd _)) ?_
      refine WL.nil ?_
      refine WC.ifP rfl (fun cd2 => ?_) (fun cd2 => ?_)
      · refine WC.region ?_
        refine WL.r 1 rfl ?_
        refine WL.nil ?_
        refine WC.seq ?_
        refine WC.seq ?_
        refine WC.region ?_
        refine WL.r 2 rfl ?_
        refine WL.nil ?_
        refine WC.ifT rfl (by decide) ?_
        refine WC.seq ?_
        refine WC.region ?_
        refine WL.r 4 rfl ?_
        refine WL.st rfl rfl rfl 1 hS rfl rfl rfl rfl rfl rfl (fun w hS => ?_)
        replace hS : St g (Sh 5 1 (by8 bs) a c :: cel r #[.slice a (List.length (by8 bs)) c, .int .i64 (p : Int), .int .i64 13] 88 :: L) w := hS
        refine WL.nil ?_
        refine WC.seq ?_
        refine WC.region ?_
        refine WL.r 1 rfl ?_
        refine WL.nil ?_
        as_aux_lemma =>
          refine WC.ret ?_
          refine ⟨[.int .u64 0], rfl, ?_⟩
          replace hS := (hS.sel 2 [1, 0] rfl)
          rw [qU, if_neg cd1, if_neg (by simp [cd2.1]), if_pos cd2.2]; exact ⟨rfl, hS⟩
      · refine WC.skip ?_
        refine WC.seq ?_
        refine WC.seq ?_
        refine WC.region ?_
        refine WL.r 2 rfl ?_
        refine WL.nil ?_
        refine WC.ifP rfl (fun cd3 => ?_) (fun cd3 => ?_)
        · refine WC.seq ?_
          refine WC.region ?_
          refine WL.r 4 rfl ?_
          refine WL.st rfl rfl rfl 1 hS rfl rfl rfl rfl rfl rfl (fun w hS => ?_)
          replace hS : St g (Sh 5 1 (by8 bs) a c :: cel r #[.slice a (List.length (by8 bs)) c, .int .i64 (p : Int), .int .i64 (uv (bs.drop p)).2.2] 88 :: L) w := hS
          refine WL.nil ?_
          refine WC.seq ?_
          refine WC.region ?_
          refine WL.r 1 rfl ?_
          refine WL.nil ?_
          as_aux_lemma =>
            refine WC.ret ?_
            refine ⟨[.int .u64 0], rfl, ?_⟩
            replace hS := (hS.sel 2 [1, 0] rfl)
            rw [qU, if_neg cd1, if_pos cd3]; exact ⟨rfl, hS⟩
        · refine WC.skip ?_
          refine WC.seq ?_
          refine WC.region ?_
          refine WL.r 4 rfl ?_
          refine WL.st rfl rfl rfl 1 hS rfl rfl rfl rfl rfl rfl (fun w hS => ?_)
          replace hS : St g (Sh 5 1 (by8 bs) a c :: cel r #[.slice a (List.length (by8 bs)) c, .int .i64 (if (uv (bs.drop p)).2.2 = 0 then (p : Int) + (uv (bs.drop p)).2.1 else 0), .int .i64 e] 88 :: L) w := hS
          refine WL.nil ?_
          refine WC.seq ?_
          refine WC.region ?_
          refine WL.r 2 rfl ?_
          refine WL.nil ?_
          as_aux_lemma =>
            refine WC.ret ?_
            refine ⟨[.int .u64 (uv (bs.drop p)).1], rfl, ?_⟩
            replace hS := (hS.sel 2 [1, 0] rfl)
            have h1 := Classical.not_not.1 cd3
            rw [qU, if_neg cd1, if_neg cd3, if_neg (fun h => cd2 ⟨h1, h⟩)]; rw [if_pos h1, Classical.not_not.1 cd1] at hS; exact ⟨rfl, hS⟩

theorem qz_spec {g w : World} {L : List HP} (r c : Nat) (a : Option Addr) (bs : List Int) (p : Nat) (e : Int) (hp : p ≤ bs.length) (hl : bs.length ≤ 100000) (hb : B8 bs) (hS : St g (cel r #[.slice a (List.length (by8 bs)) c, .int .i64 (p : Int), .int .i64 e] 88 :: Sh 5 1 (by8 bs) a c :: L) w) :
    Sp Try.prog 50 [.pointer (some ⟨r, 0, none⟩)] w (fun v w' => v = .int .i64 (qZ bs p e).1 ∧ St g (cel r #[.slice a (List.length (by8 bs)) c, .int .i64 ((qZ bs p e).2.1 : Int), .int .i64 (qZ bs p e).2.2] 88 :: Sh 5 1 (by8 bs) a c :: L) w') := by
  refine Sp.enter Try.func50 rfl (by kernel_rfl) (by kernel_rfl) ?_
  have _ := hb
  have _ := hl
  have _ := hp
  refine WC.seq ?_
  refine WC.region ?_
  refine WL.r 1 rfl ?_
  refine WL.nil ?_
  refine WC.seq ?_
  refine WC.region ?_
  refine WL.r 1 rfl ?_
  refine WL.call rfl rfl (qu_spec (r := r) (c := c) (a := a) (bs := bs) (p := p) (e := e) (most := 18446744073709551615) (hp := (by assumption)) (hl := (by assumption)) (hb := (by assumption)) (hm := (by omega)) (hS := hS)) rfl ?_
  generalize hR1 : qU bs 18446744073709551615 p e = R1
  rintro _ w ⟨rfl, hS⟩
  have hR1f0 : R1.2.1 ≤ (List.length bs) := by rw [← hR1]; exact qU_le (by assumption)
  have hR1f1 : (0 ≤ R1.1) ∧ (R1.1 ≤ 18446744073709551615) := by rw [← hR1]; exact qU_b (by assumption) (by omega)
  replace hS : St g (cel r #[.slice a (List.length (by8 bs)) c, .int .i64 (R1.2.1 : Int), .int .i64 R1.2.2] 88 :: Sh 5 1 (by8 bs) a c :: L) w := hS
  refine WL.call rfl rfl (runzigzag (u := R1.1) (hu := (by omega)) (hS := hS)) rfl ?_
  rintro _ w ⟨rfl, hS⟩
  replace hS : St g (cel r #[.slice a (List.length (by8 bs)) c, .int .i64 (R1.2.1 : Int), .int .i64 R1.2.2] 88 :: Sh 5 1 (by8 bs) a c :: L) w := hS
  refine WL.r 1 rfl ?_
  refine WL.nil ?_
  refine WC.ret ?_
  refine ⟨[.int .i64 (uz R1.1)], rfl, ?_⟩
  unfold qZ; rw [hR1]; exact ⟨rfl, hS⟩

theorem qc_spec {g w : World} {L : List HP} (r c : Nat) (a : Option Addr) (bs : List Int) (p : Nat) (e : Int) (most : Int) (hp : p ≤ bs.length) (hl : bs.length ≤ 100000) (hb : B8 bs) (hm : 0 ≤ most ∧ most ≤ 255) (hS : St g (cel r #[.slice a (List.length (by8 bs)) c, .int .i64 (p : Int), .int .i64 e] 88 :: Sh 5 1 (by8 bs) a c :: L) w) :
    Sp Try.prog 51 [.pointer (some ⟨r, 0, none⟩), .int .u8 most] w (fun v w' => v = .int .u8 (qC bs most p e).1 ∧ St g (cel r #[.slice a (List.length (by8 bs)) c, .int .i64 ((qC bs most p e).2.1 : Int), .int .i64 (qC bs most p e).2.2] 88 :: Sh 5 1 (by8 bs) a c :: L) w') := by
  refine Sp.enter Try.func51 rfl (by kernel_rfl) (by kernel_rfl) ?_
  have _ := hm
  have _ := hb
  have _ := hl
  have _ := hp
  refine WC.seq ?_
  refine WC.region ?_
  refine WL.r 1 rfl ?_
  refine WL.nil ?_
  refine WC.seq ?_
  refine WC.seq ?_
  refine WC.plan [([0, 1, 2, 3, 4, 5, 6, 10, 7, 11, 8, 12, 9, 13, 14, 15, 16], none)] (by kernel_rfl) (by kernel_rfl) ?_
  have hl8 := by8_len bs
  refine WQ.run 5 [.int .i64 e] rfl (by exact hS.ld 0 rfl rfl) ?_
  refine WQ.runG 12 [.int .i64 (p : Int), .slice a (List.length (by8 bs)) c] rfl (by exact ⟨fun _ => hS.ld 0 rfl rfl, fun _ => hS.ld 0 rfl rfl⟩) (fun j => ?_)
  refine WQ.prop 21 rfl (band (dd _) (dd _)) ?_
  refine WQ.nil ?_
  intro m1
  replace hS := hS.drewN m1; generalize hwm1 : World.drewN _ _ = w at *; clear hwm1
  refine WC.ifP rfl (fun cd1 => ?_) (fun cd1 => ?_)
  · refine WC.region ?_
    refine WL.r 3 rfl ?_
    refine WL.st rfl rfl rfl 0 hS rfl rfl rfl rfl rfl rfl (fun w hS => ?_)
    replace hS : St g (cel r #[.slice a (List.length (by8 bs)) c, .int .i64 (p : Int), .int .i64 12] 88 :: Sh 5 1 (by8 bs) a c :: L) w := hS
    refine WL.nil ?_
    refine WC.seq ?_
    refine WC.seq ?_
    refine WC.plan [([0, 1, 2, 3, 4, 5, 6, 10, 16, 7, 11, 8, 12, 9, 13, 14, 15, 17, 18], none)] (by kernel_rfl) (by kernel_rfl) ?_
    refine WQ.run 6 [.int .i64 12] rfl (by exact hS.ld 0 rfl rfl) ?_
    refine WQ.reb 30 (.bool false) (congrArg Value.bool (decide_eq_false (by decide))) ?_
    refine WQ.skp rfl rfl rfl rfl ?_
    refine WQ.skp rfl rfl rfl rfl ?_
    refine WQ.skp rfl rfl rfl rfl ?_
    refine WQ.skp rfl rfl rfl rfl ?_
    refine WQ.skp rfl rfl rfl rfl ?_
    refine WQ.skp rfl rfl rfl rfl ?_
    refine WQ.skp rfl rfl rfl rfl ?_
    refine WQ.skp rfl rfl rfl rfl ?_
    refine WQ.skp rfl rfl rfl rfl ?_
    refine WQ.skp rfl rfl rfl rfl ?_
    refine WQ.skp rfl rfl rfl rfl ?_
    refine WQ.skp rfl rfl rfl rfl ?_
    refine WQ.r 1 rfl ?_
    refine WQ.nil ?_
    intro m2
    replace hS := hS.drewN m2; generalize hwm2 : World.drewN _ _ = w at *; clear hwm2
    as_aux_lemma =>
      refine WC.ifF rfl rfl ?_
      refine WC.skip ?_
      refine WC.seq ?_
      refine WC.seq ?_
      refine WC.region ?_
      refine WL.run 5 [.int .i64 12] rfl (by exact hS.ld 0 rfl rfl) ?_
      refine WL.nil ?_
      refine WC.ifT rfl (by decide) ?_
      refine WC.seq ?_
      refine WC.region ?_
      refine WL.r 1 rfl ?_
      refine WL.nil ?_
      refine WC.ret ?_
      refine ⟨[.int .u8 0], rfl, ?_⟩
      have hx0 : bs[p]? = none := List.getElem?_eq_none (by omega)
      rw [qC, if_neg (by omega), hx0]; exact ⟨rfl, hS⟩
  · refine WC.skip ?_
    refine WC.seq ?_
    refine WC.seq ?_
    refine WC.plan [([0, 1, 2, 3, 4, 5, 6, 10, 16, 7, 11, 8, 12, 9, 13, 14, 15, 17, 18], none)] (by kernel_rfl) (by kernel_rfl) ?_
    refine WQ.run 6 [.int .i64 e] rfl (by exact hS.ld 0 rfl rfl) ?_
    by_cases cg1 : e = 0
    · refine WQ.reb 30 (.bool true) (congrArg Value.bool (decide_eq_true cg1)) ?_
      refine WQ.ung rfl rfl rfl ?_
      refine WQ.r 1 rfl ?_
      refine WQ.ung rfl rfl rfl ?_
      refine WQ.r 1 rfl ?_
      refine WQ.ung rfl rfl rfl ?_
      refine WQ.r 1 rfl ?_
      refine WQ.ung rfl rfl rfl ?_
      refine WQ.r 1 rfl ?_
      refine WQ.ung rfl rfl rfl ?_
      refine WQ.r 1 rfl ?_
      refine WQ.ung rfl rfl rfl ?_
      refine WQ.r 1 rfl ?_
      refine WQ.ung rfl rfl rfl ?_
      refine WQ.r 1 rfl ?_
      refine WQ.ung rfl rfl rfl ?_
      refine WQ.run 1 [.slice a (List.length (by8 bs)) c] rfl (by exact hS.ld 0 rfl rfl) ?_
      refine WQ.ung rfl rfl rfl ?_
      refine WQ.run 1 [.int .i64 (p : Int)] rfl (by exact hS.ld 0 rfl rfl) ?_
      refine WQ.ung rfl rfl rfl ?_
      obtain ⟨x, hx⟩ : ∃ x, bs[p]? = some x := ⟨_, List.getElem?_eq_getElem (by omega)⟩
      refine WQ.ix rfl rfl (i := (p : Int)) (p) el_23 rfl rfl (by omega) (len_of (by8_at hx)) (hS.rdS 1 rfl (by8_at hx)).1 ?_
      refine WQ.ung rfl rfl rfl ?_
      refine WQ.run 1 [.int .u8 x] rfl (by exact (hS.rdS 1 rfl (by8_at hx)).2 0 _ rfl) ?_
      refine WQ.ung rfl rfl rfl ?_
      refine WQ.r 2 rfl ?_
      refine WQ.nil ?_
      intro m2
      replace hS := hS.drewN m2; generalize hwm2 : World.drewN _ _ = w at *; clear hwm2
      as_aux_lemma =>
        refine WC.ifP rfl (fun cd2 => ?_) (fun cd2 => ?_)
        · refine WC.region ?_
          refine WL.r 3 rfl ?_
          refine WL.st rfl rfl rfl 0 hS rfl rfl rfl rfl rfl rfl (fun w hS => ?_)
          replace hS : St g (cel r #[.slice a (List.length (by8 bs)) c, .int .i64 (p : Int), .int .i64 13] 88 :: Sh 5 1 (by8 bs) a c :: L) w := hS
          refine WL.nil ?_
          refine WC.seq ?_
          refine WC.seq ?_
          refine WC.region ?_
          refine WL.run 5 [.int .i64 13] rfl (by exact hS.ld 0 rfl rfl) ?_
          refine WL.nil ?_
          refine WC.ifT rfl (by decide) ?_
          refine WC.seq ?_
          refine WC.region ?_
          refine WL.r 1 rfl ?_
          refine WL.nil ?_
          refine WC.ret ?_
          refine ⟨[.int .u8 0], rfl, ?_⟩
          rw [qC, if_neg (by omega), hx]; simp only; rw [if_pos cd2]; exact ⟨rfl, hS⟩
        · refine WC.skip ?_
          refine WC.seq ?_
          refine WC.seq ?_
          refine WC.region ?_
          refine WL.run 5 [.int .i64 e] rfl (by exact hS.ld 0 rfl rfl) ?_
          refine WL.nil ?_
          refine WC.ifF rfl (decide_eq_false (fun h => h cg1)) ?_
          refine WC.skip ?_
          refine WC.seq ?_
          refine WC.region ?_
          refine WL.run 5 [.int .i64 (p : Int)] rfl (by exact hS.ld 0 rfl rfl) ?_
          refine WL.nw 56 rfl (w64 (by omega)) ?_
          refine WL.r 2 rfl ?_
          refine WL.st rfl rfl rfl 0 hS rfl rfl rfl rfl rfl rfl (fun w hS => ?_)
          replace hS : St g (cel r #[.slice a (List.length (by8 bs)) c, .int .i64 ((p : Int) + 1), .int .i64 e] 88 :: Sh 5 1 (by8 bs) a c :: L) w := hS
          refine WL.nil ?_
          refine WC.seq ?_
          refine WC.plan [([0, 4, 1, 5, 2, 6, 3, 7, 8], some (9, [])), ([10, 11], none)] (by kernel_rfl) (by kernel_rfl) ?_
          refine WQ.run 9 [.slice a (List.length (by8 bs)) c, .int .i64 ((p : Int) + 1)] rfl (by exact ⟨hS.ld 0 rfl rfl, hS.ld 0 rfl rfl⟩) ?_
          refine WQ.nw 67 rfl (w64 (by omega)) ?_
          refine WQ.nil ?_
          intro m3
          replace hS := hS.drewN m3; generalize hwm3 : World.drewN _ _ = w at *; clear hwm3
          refine WL.ix rfl rfl (i := ((p : Int) + 1) - 1) (p) el_23 rfl rfl (by omega) (len_of (by8_at hx)) (hS.rdS 1 rfl (by8_at hx)).1 ?_
          refine WL.nil ?_
          refine ⟨by exact trivial, ?_⟩
          refine WQ.run 2 [.int .u8 x] rfl (by exact (hS.rdS 1 rfl (by8_at hx)).2 0 _ rfl) ?_
          refine WQ.nil ?_
          intro m4
          replace hS := hS.drewN m4; generalize hwm4 : World.drewN _ _ = w at *; clear hwm4
          as_aux_lemma =>
            refine WC.ret ?_
            refine ⟨[.int .u8 x], rfl, ?_⟩
            have he : e = 0 := by omega
            rw [qC, if_neg (by omega), hx]; simp only; rw [if_neg cd2]; rw [he] at hS; exact ⟨rfl, hS⟩
    · refine WQ.reb 30 (.bool false) (congrArg Value.bool (decide_eq_false cg1)) ?_
      refine WQ.skp rfl rfl rfl rfl ?_
      refine WQ.skp rfl rfl rfl rfl ?_
      refine WQ.skp rfl rfl rfl rfl ?_
      refine WQ.skp rfl rfl rfl rfl ?_
      refine WQ.skp rfl rfl rfl rfl ?_
      refine WQ.skp rfl rfl rfl rfl ?_
      refine WQ.skp rfl rfl rfl rfl ?_
      refine WQ.skp rfl rfl rfl rfl ?_
      refine WQ.skp rfl rfl rfl rfl ?_
      refine WQ.skp rfl rfl rfl rfl ?_
      refine WQ.skp rfl rfl rfl rfl ?_
      refine WQ.skp rfl rfl rfl rfl ?_
      refine WQ.r 1 rfl ?_
      refine WQ.nil ?_
      intro m2
      replace hS := hS.drewN m2; generalize hwm2 : World.drewN _ _ = w at *; clear hwm2
      as_aux_lemma =>
        refine WC.ifF rfl rfl ?_
        refine WC.skip ?_
        refine WC.seq ?_
        refine WC.seq ?_
        refine WC.region ?_
        refine WL.run 5 [.int .i64 e] rfl (by exact hS.ld 0 rfl rfl) ?_
        refine WL.nil ?_
        refine WC.ifT rfl (decide_eq_true cg1) ?_
        refine WC.seq ?_
        refine WC.region ?_
        refine WL.r 1 rfl ?_
        refine WL.nil ?_
        refine WC.ret ?_
        refine ⟨[.int .u8 0], rfl, ?_⟩
        rw [qC, if_pos (by omega)]; exact ⟨rfl, hS⟩
end Go.Proofs.Ytofnoopjlmdelaa
