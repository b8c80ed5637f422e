/-
  The reader of encodings: what each of its methods gives and leaves.
  Conditions: sizes below a bound that the laws meet.
-/
import Derived.Test.YtofnoopjlmdelaaTypes
import Derived.Test.YtofnoopjlmdelaaRdm
import Derived.Test.YtofnoopjlmdelaaWord
namespace Go.Proofs.Ytofnoopjlmdelaa
open Go Go.V


theorem fail_spec {g w : World} {L : List HP} (r n c : Nat) (a : Option Addr) (p e e2 : Int) (hS : St g (cel r #[.slice a n c, .int .i64 p, .int .i64 e] 78 :: L) w) :
    Sp Try.prog 59 [.pointer (some ⟨r, 0, none⟩), .int .i64 e2] w (fun v w' => v = .tuple #[] ∧ St g (cel r #[.slice a n c, .int .i64 p, .int .i64 (fl e e2)] 78 :: L) w') := by
  refine Sp.enter Try.func59 rfl (by kernel_rfl) (by kernel_rfl) ?_
  refine WC.seq ?_
  refine WC.region ?_
  refine WL.run 5 [.int .i64 e] rfl (by exact hS.ld 0 rfl rfl) ?_
  refine WL.nil ?_
  refine WC.ifP rfl (fun cd1 => ?_) (fun cd1 => ?_)
  · refine WC.region ?_
    refine WL.r 4 rfl ?_
    refine WL.st rfl rfl rfl 0 hS rfl rfl rfl rfl rfl rfl (fun w hS => ?_)
    replace hS : St g (cel r #[.slice a n c, .int .i64 p, .int .i64 e2] 78 :: L) w := hS
    refine WL.nil ?_
    refine ⟨[], trivial, ?_⟩
    rw [fl, if_pos cd1]; exact ⟨rfl, hS⟩
  · refine WC.skip ?_
    refine ⟨[], trivial, ?_⟩
    rw [fl, if_neg cd1]; exact ⟨rfl, hS⟩

theorem left_spec {g w : World} {L : List HP} (r n c : Nat) (a : Option Addr) (p : Nat) (e : Int) (h1 : p ≤ n) (h2 : n ≤ 1000000000) (hS : St g (cel r #[.slice a n c, .int .i64 (p : Int), .int .i64 e] 78 :: L) w) :
    Sp Try.prog 72 [.pointer (some ⟨r, 0, none⟩)] w (fun v w' => v = .int .i64 ((n : Int) - (p : Int)) ∧ St g (cel r #[.slice a n c, .int .i64 (p : Int), .int .i64 e] 78 :: L) w') := by
  refine Sp.enter Try.func72 rfl (by kernel_rfl) (by kernel_rfl) ?_
  have _ := h2
  have _ := h1
  refine WC.seq ?_
  refine WC.region ?_
  refine WL.r 1 rfl ?_
  refine WL.nil ?_
  refine WC.seq ?_
  refine WC.plan [([0, 5, 1, 6, 2, 7, 3, 8, 4, 9, 10], none)] (by kernel_rfl) (by kernel_rfl) ?_
  refine WQ.run 10 [.slice a n c, .int .i64 (p : Int)] rfl (by exact ⟨hS.ld 0 rfl rfl, hS.ld 0 rfl rfl⟩) ?_
  refine WQ.nw 12 rfl (w64 (by omega)) ?_
  refine WQ.r 1 rfl ?_
  refine WQ.nil ?_
  intro m1
  replace hS := hS.drewN m1; generalize hwm1 : World.drewN _ _ = w at *; clear hwm1
  refine WC.ret ?_
  refine ⟨[.int .i64 ((n : Int) - (p : Int))], rfl, ?_⟩
  exact ⟨rfl, hS⟩

theorem byte_spec {g w : World} {L : List HP} (r c : Nat) (a : Option Addr) (bs : List Int) (p : Nat) (e : Int) (hp : p ≤ bs.length) (hl : bs.length ≤ 1000000000) (hb : B8 bs) (hS : St g (cel r #[.slice a (List.length (by8 bs)) c, .int .i64 (p : Int), .int .i64 e] 78 :: Sh 5 1 (by8 bs) a c :: L) w) :
    Sp Try.prog 58 [.pointer (some ⟨r, 0, none⟩)] w (fun v w' => v = .int .u8 (rB bs p e).1 ∧ St g (cel r #[.slice a (List.length (by8 bs)) c, .int .i64 ((rB bs p e).2.1 : Int), .int .i64 (rB bs p e).2.2] 78 :: Sh 5 1 (by8 bs) a c :: L) w') := by
  refine Sp.enter Try.func58 rfl (by kernel_rfl) (by kernel_rfl) ?_
  have _ := hb
  have _ := hl
  have _ := hp
  refine WC.seq ?_
  refine WC.region ?_
  have hl8 := by8_len bs
  refine WL.r 1 rfl ?_
  refine WL.nil ?_
  refine WC.seq ?_
  refine WC.seq ?_
  refine WC.region ?_
  refine WL.run 5 [.int .i64 e] rfl (by exact hS.ld 0 rfl rfl) ?_
  refine WL.nil ?_
  refine WC.ifP rfl (fun cd1 => ?_) (fun cd1 => ?_)
  · refine WC.seq ?_
    refine WC.region ?_
    refine WL.r 1 rfl ?_
    refine WL.nil ?_
    refine WC.ret ?_
    refine ⟨[.int .u8 0], rfl, ?_⟩
    rw [rB, if_pos cd1]; exact ⟨rfl, hS⟩
  · refine WC.skip ?_
    refine WC.seq ?_
    refine WC.seq ?_
    refine WC.region ?_
    refine WL.r 1 rfl ?_
    refine WL.call rfl rfl (left_spec (r := r) (n := List.length (by8 bs)) (c := c) (a := a) (p := p) (e := e) (h1 := (by simp only [by8_len]; assumption)) (h2 := (by simp only [by8_len]; assumption)) (hS := hS)) rfl ?_
    rintro _ w ⟨rfl, hS⟩
    replace hS : St g (cel r #[.slice a (List.length (by8 bs)) c, .int .i64 (p : Int), .int .i64 e] 78 :: Sh 5 1 (by8 bs) a c :: L) w := hS
    refine WL.r 1 rfl ?_
    refine WL.nil ?_
    refine WC.ifP rfl (fun cd2 => ?_) (fun cd2 => ?_)
    · refine WC.seq ?_
      refine WC.region ?_
      refine WL.r 1 rfl ?_
      refine WL.call rfl rfl (fail_spec (r := r) (n := List.length (by8 bs)) (c := c) (a := a) (p := (p : Int)) (e := e) (e2 := 12)  (hS := hS)) rfl ?_
      rintro _ w ⟨rfl, hS⟩
      replace hS : St g (cel r #[.slice a (List.length (by8 bs)) c, .int .i64 (p : Int), .int .i64 (fl e 12)] 78 :: Sh 5 1 (by8 bs) a c :: L) w := hS
      refine WL.nil ?_
      as_aux_lemma =>
        refine WC.seq ?_
        refine WC.region ?_
        refine WL.r 1 rfl ?_
        refine WL.nil ?_
        refine WC.ret ?_
        refine ⟨[.int .u8 0], rfl, ?_⟩
        rw [rB, if_neg cd1, show bs[p]? = none from List.getElem?_eq_none (by omega)]; rw [fl, if_pos (Classical.not_not.1 cd1)] at hS; exact ⟨rfl, hS⟩
    · refine WC.skip ?_
      refine WC.seq ?_
      refine WC.region ?_
      refine WL.run 5 [.int .i64 (p : Int)] rfl (by exact hS.ld 0 rfl rfl) ?_
      refine WL.nw 17 rfl (w64 (by omega)) ?_
      refine WL.r 2 rfl ?_
      refine WL.st rfl rfl rfl 0 hS rfl rfl rfl rfl rfl rfl (fun w hS => ?_)
      replace hS : St g (cel r #[.slice a (List.length (by8 bs)) c, .int .i64 ((p : Int) + 1), .int .i64 e] 78 :: Sh 5 1 (by8 bs) a c :: L) w := hS
      refine WL.nil ?_
      as_aux_lemma =>
        refine WC.seq ?_
        refine WC.plan [([0, 4, 1, 5, 2, 6, 3, 7, 8], some (9, [])), ([10, 11], none)] (by kernel_rfl) (by kernel_rfl) ?_
        refine WQ.run 9 [.slice a (List.length (by8 bs)) c, .int .i64 ((p : Int) + 1)] rfl (by exact ⟨hS.ld 0 rfl rfl, hS.ld 0 rfl rfl⟩) ?_
        refine WQ.nw 28 rfl (w64 (by omega)) ?_
        refine WQ.nil ?_
        intro m1
        replace hS := hS.drewN m1; generalize hwm1 : World.drewN _ _ = w at *; clear hwm1
        obtain ⟨x, hx⟩ : ∃ x, bs[p]? = some x := ⟨_, List.getElem?_eq_getElem (by omega)⟩
        refine WL.ix rfl rfl (i := ((p : Int) + 1) - 1) (p) el_23 rfl rfl (by omega) (len_of (by8_at hx)) (hS.rdS 1 rfl (by8_at hx)).1 ?_
        refine WL.nil ?_
        refine ⟨by exact trivial, ?_⟩
        refine WQ.run 2 [.int .u8 x] rfl (by exact (hS.rdS 1 rfl (by8_at hx)).2 0 _ rfl) ?_
        refine WQ.nil ?_
        intro m2
        replace hS := hS.drewN m2; generalize hwm2 : World.drewN _ _ = w at *; clear hwm2
        refine WC.ret ?_
        refine ⟨[.int .u8 x], rfl, ?_⟩
        rw [rB, if_neg cd1, hx]; rw [Classical.not_not.1 cd1] at hS; exact ⟨rfl, hS⟩

theorem varint_spec {g w : World} {L : List HP} (r c : Nat) (a : Option Addr) (bs : List Int) (p : Nat) (e : Int) (hp : p ≤ bs.length) (hl : bs.length ≤ 1000000000) (hb : B8 bs) (hS : St g (cel r #[.slice a (List.length (by8 bs)) c, .int .i64 (p : Int), .int .i64 e] 78 :: Sh 5 1 (by8 bs) a c :: L) w) :
    Sp Try.prog 42 [.pointer (some ⟨r, 0, none⟩)] w (fun v w' => v = .int .u64 (rU bs p e).1 ∧ St g (cel r #[.slice a (List.length (by8 bs)) c, .int .i64 ((rU bs p e).2.1 : Int), .int .i64 (rU bs p e).2.2] 78 :: Sh 5 1 (by8 bs) a c :: L) w') := by
  refine Sp.enter Try.func42 rfl (by kernel_rfl) (by kernel_rfl) ?_
  have _ := hb
  have _ := hl
  have _ := hp
  refine WC.seq ?_
  refine WC.region ?_
  refine WL.r 1 rfl ?_
  refine WL.nil ?_
  refine WC.seq ?_
  refine WC.seq ?_
  refine WC.region ?_
  have hl8 := by8_len bs
  refine WL.run 5 [.int .i64 e] rfl (by exact hS.ld 0 rfl rfl) ?_
  refine WL.nil ?_
  refine WC.ifP rfl (fun cd1 => ?_) (fun cd1 => ?_)
  · refine WC.seq ?_
    refine WC.region ?_
    refine WL.r 1 rfl ?_
    refine WL.nil ?_
    refine WC.ret ?_
    refine ⟨[.int .u64 0], rfl, ?_⟩
    rw [rU, if_pos cd1]; exact ⟨rfl, hS⟩
  · refine WC.skip ?_
    refine WC.seq ?_
    refine WC.plan [([0, 4, 1, 5, 2, 6, 3, 7], some (8, [])), ([9, 10, 11, 12, 13, 14, 15], none)] (by kernel_rfl) (by kernel_rfl) ?_
    refine WQ.run 8 [.slice a (List.length (by8 bs)) c, .int .i64 (p : Int)] rfl (by exact ⟨hS.ld 0 rfl rfl, hS.ld 0 rfl rfl⟩) ?_
    refine WQ.nil ?_
    intro m1
    replace hS := hS.drewN m1; generalize hwm1 : World.drewN _ _ = w at *; clear hwm1
    refine WL.call rfl rfl (uvarint (bs := bs) (a := a) (c := c) (p := p) (hp := (by omega)) (hl := (by omega)) (hb := (by omega)) (hS := (hS.sel 2 [1, 0] rfl))) rfl ?_
    rintro _ w ⟨rfl, hS⟩
    replace hS : St g (Sh 5 1 (by8 bs) a c :: cel r #[.slice a (List.length (by8 bs)) c, .int .i64 (p : Int), .int .i64 e] 78 :: L) w := hS
    refine WL.nil ?_
    refine ⟨by exact trivial, ?_⟩
    refine WQ.r 7 rfl ?_
    refine WQ.nil ?_
    intro m2
    replace hS := hS.drewN m2; generalize hwm2 : World.drewN _ _ = w at *; clear hwm2
    as_aux_lemma =>
      refine WC.seq ?_
      refine WC.seq ?_
      refine WC.region ?_
      refine WL.r 2 rfl ?_
      refine WL.nil ?_
      refine WC.ifP rfl (fun cd2 => ?_) (fun cd2 => ?_)
      · refine WC.seq ?_
        refine WC.region ?_
        refine WL.r 2 rfl ?_
        refine WL.call rfl rfl (fail_spec (r := r) (n := List.length (by8 bs)) (c := c) (a := a) (p := (p : Int)) (e := e) (e2 := (uv (bs.drop p)).2.2)  (hS := (hS.sel 2 [1, 0] rfl))) rfl ?_
        rintro _ w ⟨rfl, hS⟩
        replace hS : St g (cel r #[.slice a (List.length (by8 bs)) c, .int .i64 (p : Int), .int .i64 (fl e (uv (bs.drop p)).2.2)] 78 :: Sh 5 1 (by8 bs) a c :: L) w := hS
        refine WL.nil ?_
        refine WC.seq ?_
        refine WC.region ?_
        refine WL.r 1 rfl ?_
        refine WL.nil ?_
        refine WC.ret ?_
        refine ⟨[.int .u64 0], rfl, ?_⟩
        have h0 := Classical.not_not.1 cd1
        rw [rU, if_neg cd1, if_neg cd2]; rw [fl, if_pos h0] at hS; exact ⟨rfl, hS⟩
      · refine WC.skip ?_
        refine WC.seq ?_
        refine WC.region ?_
        refine WL.r 4 rfl ?_
        refine WL.st rfl rfl rfl 1 hS rfl rfl rfl rfl rfl rfl (fun w hS => ?_)
        replace hS : St g (Sh 5 1 (by8 bs) a c :: cel r #[.slice a (List.length (by8 bs)) c, .int .i64 (if (uv (bs.drop p)).2.2 = 0 then (p : Int) + (uv (bs.drop p)).2.1 else 0), .int .i64 e] 78 :: L) w := hS
        refine WL.nil ?_
        refine WC.seq ?_
        refine WC.region ?_
        refine WL.r 2 rfl ?_
        refine WL.nil ?_
        refine WC.ret ?_
        refine ⟨[.int .u64 (uv (bs.drop p)).1], rfl, ?_⟩
        replace hS := (hS.sel 2 [1, 0] rfl)
        have h0 := Classical.not_not.1 cd1; have h1 := Classical.not_not.1 cd2
        rw [rU, if_neg cd1, if_pos h1]; rw [if_pos h1, h0] at hS; exact ⟨rfl, hS⟩

theorem signed_spec {g w : World} {L : List HP} (r c : Nat) (a : Option Addr) (bs : List Int) (p : Nat) (e : Int) (hp : p ≤ bs.length) (hl : bs.length ≤ 1000000000) (hb : B8 bs) (hS : St g (cel r #[.slice a (List.length (by8 bs)) c, .int .i64 (p : Int), .int .i64 e] 78 :: Sh 5 1 (by8 bs) a c :: L) w) :
    Sp Try.prog 43 [.pointer (some ⟨r, 0, none⟩)] w (fun v w' => v = .int .i64 (rZ bs p e).1 ∧ St g (cel r #[.slice a (List.length (by8 bs)) c, .int .i64 ((rZ bs p e).2.1 : Int), .int .i64 (rZ bs p e).2.2] 78 :: Sh 5 1 (by8 bs) a c :: L) w') := by
  refine Sp.enter Try.func43 rfl (by kernel_rfl) (by kernel_rfl) ?_
  have _ := hl
  have _ := hp
  refine WC.seq ?_
  refine WC.region ?_
  refine WL.r 1 rfl ?_
  refine WL.nil ?_
  refine WC.seq ?_
  refine WC.region ?_
  refine WL.r 1 rfl ?_
  refine WL.call rfl rfl (varint_spec (r := r) (c := c) (a := a) (bs := bs) (p := p) (e := e) (hp := (by assumption)) (hl := (by assumption)) (hb := (by assumption)) (hS := hS)) rfl ?_
  generalize hR1 : rU bs p e = R1
  rintro _ w ⟨rfl, hS⟩
  have hR1f0 : R1.2.1 ≤ (List.length bs) := by rw [← hR1]; exact rU_le (by assumption)
  replace hS : St g (cel r #[.slice a (List.length (by8 bs)) c, .int .i64 (R1.2.1 : Int), .int .i64 R1.2.2] 78 :: Sh 5 1 (by8 bs) a c :: L) w := hS
  refine WL.call rfl rfl (unzigzag (u := R1.1) (hu := (by rw [← hR1]; exact rU_b hb)) (hS := hS)) rfl ?_
  rintro _ w ⟨rfl, hS⟩
  replace hS : St g (cel r #[.slice a (List.length (by8 bs)) c, .int .i64 (R1.2.1 : Int), .int .i64 R1.2.2] 78 :: Sh 5 1 (by8 bs) a c :: L) w := hS
  refine WL.r 1 rfl ?_
  refine WL.nil ?_
  refine WC.ret ?_
  refine ⟨[.int .i64 (uz R1.1)], rfl, ?_⟩
  unfold rZ; rw [hR1]; exact ⟨rfl, hS⟩

theorem bool_spec {g w : World} {L : List HP} (r c : Nat) (a : Option Addr) (bs : List Int) (p : Nat) (e : Int) (hp : p ≤ bs.length) (hl : bs.length ≤ 1000000000) (hb : B8 bs) (hS : St g (cel r #[.slice a (List.length (by8 bs)) c, .int .i64 (p : Int), .int .i64 e] 78 :: Sh 5 1 (by8 bs) a c :: L) w) :
    Sp Try.prog 44 [.pointer (some ⟨r, 0, none⟩)] w (fun v w' => v = .bool (rBool bs p e).1 ∧ St g (cel r #[.slice a (List.length (by8 bs)) c, .int .i64 ((rBool bs p e).2.1 : Int), .int .i64 (rBool bs p e).2.2] 78 :: Sh 5 1 (by8 bs) a c :: L) w') := by
  refine Sp.enter Try.func44 rfl (by kernel_rfl) (by kernel_rfl) ?_
  have _ := hb
  have _ := hl
  have _ := hp
  refine WC.seq ?_
  refine WC.region ?_
  refine WL.r 1 rfl ?_
  refine WL.nil ?_
  refine WC.seq ?_
  refine WC.region ?_
  refine WL.r 1 rfl ?_
  refine WL.call rfl rfl (byte_spec (r := r) (c := c) (a := a) (bs := bs) (p := p) (e := e) (hp := (by assumption)) (hl := (by assumption)) (hb := (by assumption)) (hS := hS)) rfl ?_
  generalize hR1 : rB bs p e = R1
  rintro _ w ⟨rfl, hS⟩
  have hR1f0 : R1.2.1 ≤ (List.length bs) := by rw [← hR1]; exact rB_le (by assumption)
  have hR1f1 : (0 ≤ R1.1) ∧ (R1.1 ≤ 255) := by rw [← hR1]; exact rB_b (by assumption)
  replace hS : St g (cel r #[.slice a (List.length (by8 bs)) c, .int .i64 (R1.2.1 : Int), .int .i64 R1.2.2] 78 :: Sh 5 1 (by8 bs) a c :: L) w := hS
  refine WL.r 1 rfl ?_
  refine WL.nil ?_
  refine WC.seq ?_
  refine WC.seq ?_
  refine WC.region ?_
  refine WL.r 2 rfl ?_
  refine WL.nil ?_
  refine WC.ifP rfl (fun cd1 => ?_) (fun cd1 => ?_)
  · refine WC.region ?_
    refine WL.r 1 rfl ?_
    refine WL.call rfl rfl (fail_spec (r := r) (n := List.length (by8 bs)) (c := c) (a := a) (p := (R1.2.1 : Int)) (e := R1.2.2) (e2 := 13)  (hS := hS)) rfl ?_
    rintro _ w ⟨rfl, hS⟩
    replace hS : St g (cel r #[.slice a (List.length (by8 bs)) c, .int .i64 (R1.2.1 : Int), .int .i64 (fl R1.2.2 13)] 78 :: Sh 5 1 (by8 bs) a c :: L) w := hS
    refine WL.nil ?_
    as_aux_lemma =>
      refine WC.seq ?_
      refine WC.region ?_
      refine WL.r 3 rfl ?_
      refine WL.nil ?_
      refine WC.ret ?_
      refine ⟨[.bool (decide (R1.1 = 1))], rfl, ?_⟩
      subst hR1; unfold rBool; rw [if_pos cd1]; exact ⟨rfl, hS⟩
  · refine WC.skip ?_
    refine WC.seq ?_
    refine WC.region ?_
    refine WL.r 3 rfl ?_
    refine WL.nil ?_
    as_aux_lemma =>
      refine WC.ret ?_
      refine ⟨[.bool (decide (R1.1 = 1))], rfl, ?_⟩
      subst hR1; unfold rBool; rw [if_neg cd1]; exact ⟨rfl, hS⟩

theorem limited_spec {g w : World} {L : List HP} (r c : Nat) (a : Option Addr) (bs : List Int) (p : Nat) (e : Int) (lim : Int) (hp : p ≤ bs.length) (hl : bs.length ≤ 1000000000) (hb : B8 bs) (hlim : 0 ≤ lim ∧ lim ≤ 9223372036854775807) (hS : St g (cel r #[.slice a (List.length (by8 bs)) c, .int .i64 (p : Int), .int .i64 e] 78 :: Sh 5 1 (by8 bs) a c :: L) w) :
    Sp Try.prog 41 [.pointer (some ⟨r, 0, none⟩), .int .i64 lim] w (fun v w' => v = .int .i64 (rLim bs lim p e).1 ∧ St g (cel r #[.slice a (List.length (by8 bs)) c, .int .i64 ((rLim bs lim p e).2.1 : Int), .int .i64 (rLim bs lim p e).2.2] 78 :: Sh 5 1 (by8 bs) a c :: L) w') := by
  refine Sp.enter Try.func41 rfl (by kernel_rfl) (by kernel_rfl) ?_
  have _ := hlim
  have _ := hl
  have _ := hp
  refine WC.seq ?_
  refine WC.region ?_
  refine WL.r 1 rfl ?_
  refine WL.nil ?_
  refine WC.seq ?_
  refine WC.region ?_
  refine WL.r 1 rfl ?_
  refine WL.call rfl rfl (varint_spec (r := r) (c := c) (a := a) (bs := bs) (p := p) (e := e) (hp := (by assumption)) (hl := (by assumption)) (hb := (by assumption)) (hS := hS)) rfl ?_
  generalize hR1 : rU bs p e = R1
  rintro _ w ⟨rfl, hS⟩
  have hR1f0 : R1.2.1 ≤ (List.length bs) := by rw [← hR1]; exact rU_le (by assumption)
  replace hS : St g (cel r #[.slice a (List.length (by8 bs)) c, .int .i64 (R1.2.1 : Int), .int .i64 R1.2.2] 78 :: Sh 5 1 (by8 bs) a c :: L) w := hS
  refine WL.r 1 rfl ?_
  refine WL.nil ?_
  refine WC.seq ?_
  refine WC.seq ?_
  refine WC.region ?_
  have hr := rU_b (p := p) (e := e) hb; rw [hR1] at hr
  refine WL.r 3 rfl ?_
  refine WL.nw 10 rfl (wu64 (by omega)) ?_
  refine WL.r 1 rfl ?_
  refine WL.nil ?_
  refine WC.ifP rfl (fun cd1 => ?_) (fun cd1 => ?_)
  · refine WC.seq ?_
    refine WC.region ?_
    refine WL.r 1 rfl ?_
    refine WL.call rfl rfl (fail_spec (r := r) (n := List.length (by8 bs)) (c := c) (a := a) (p := (R1.2.1 : Int)) (e := R1.2.2) (e2 := 13)  (hS := hS)) rfl ?_
    rintro _ w ⟨rfl, hS⟩
    replace hS : St g (cel r #[.slice a (List.length (by8 bs)) c, .int .i64 (R1.2.1 : Int), .int .i64 (fl R1.2.2 13)] 78 :: Sh 5 1 (by8 bs) a c :: L) w := hS
    refine WL.nil ?_
    as_aux_lemma =>
      refine WC.seq ?_
      refine WC.region ?_
      refine WL.r 1 rfl ?_
      refine WL.nil ?_
      refine WC.ret ?_
      refine ⟨[.int .i64 0], rfl, ?_⟩
      subst hR1; unfold rLim; rw [if_pos cd1]; exact ⟨rfl, hS⟩
  · refine WC.skip ?_
    as_aux_lemma =>
      refine WC.seq ?_
      refine WC.region ?_
      refine WL.r 2 rfl ?_
      refine WL.nw 15 rfl (w64 (by omega)) ?_
      refine WL.r 1 rfl ?_
      refine WL.nil ?_
      refine WC.ret ?_
      refine ⟨[.int .i64 R1.1], rfl, ?_⟩
      subst hR1; unfold rLim; rw [if_neg cd1]; exact ⟨rfl, hS⟩

theorem elements_spec {g w : World} {L : List HP} (r c : Nat) (a : Option Addr) (bs : List Int) (p : Nat) (e : Int) (lim : Int) (hp : p ≤ bs.length) (hl : bs.length ≤ 1000000000) (hb : B8 bs) (hlim : 0 ≤ lim ∧ lim ≤ 9223372036854775807) (hS : St g (cel r #[.slice a (List.length (by8 bs)) c, .int .i64 (p : Int), .int .i64 e] 78 :: Sh 5 1 (by8 bs) a c :: L) w) :
    Sp Try.prog 75 [.pointer (some ⟨r, 0, none⟩), .int .i64 lim] w (fun v w' => v = .int .i64 (rEl bs lim p e).1 ∧ St g (cel r #[.slice a (List.length (by8 bs)) c, .int .i64 ((rEl bs lim p e).2.1 : Int), .int .i64 (rEl bs lim p e).2.2] 78 :: Sh 5 1 (by8 bs) a c :: L) w') := by
  refine Sp.enter Try.func75 rfl (by kernel_rfl) (by kernel_rfl) ?_
  have _ := hlim
  have _ := hb
  have _ := hl
  have _ := hp
  refine WC.seq ?_
  refine WC.region ?_
  refine WL.r 1 rfl ?_
  refine WL.nil ?_
  refine WC.seq ?_
  refine WC.region ?_
  refine WL.r 2 rfl ?_
  refine WL.call rfl rfl (limited_spec (r := r) (c := c) (a := a) (bs := bs) (p := p) (e := e) (lim := lim) (hp := (by assumption)) (hl := (by assumption)) (hb := (by assumption)) (hlim := (by omega)) (hS := hS)) rfl ?_
  generalize hR1 : rLim bs lim p e = R1
  rintro _ w ⟨rfl, hS⟩
  have hR1f0 : R1.2.1 ≤ (List.length bs) := by rw [← hR1]; exact rLim_le (by assumption)
  have hR1f1 : (0 ≤ R1.1) ∧ (R1.1 ≤ lim) := by rw [← hR1]; exact rLim_b (by assumption) (by omega)
  replace hS : St g (cel r #[.slice a (List.length (by8 bs)) c, .int .i64 (R1.2.1 : Int), .int .i64 R1.2.2] 78 :: Sh 5 1 (by8 bs) a c :: L) w := hS
  refine WL.r 1 rfl ?_
  refine WL.nil ?_
  refine WC.seq ?_
  refine WC.seq ?_
  refine WC.region ?_
  refine WL.r 2 rfl ?_
  refine WL.call rfl rfl (left_spec (r := r) (n := List.length (by8 bs)) (c := c) (a := a) (p := R1.2.1) (e := R1.2.2) (h1 := (by simp only [by8_len]; assumption)) (h2 := (by simp only [by8_len]; assumption)) (hS := hS)) rfl ?_
  rintro _ w ⟨rfl, hS⟩
  replace hS : St g (cel r #[.slice a (List.length (by8 bs)) c, .int .i64 (R1.2.1 : Int), .int .i64 R1.2.2] 78 :: Sh 5 1 (by8 bs) a c :: L) w := hS
  refine WL.r 1 rfl ?_
  refine WL.nil ?_
  as_aux_lemma =>
    refine WC.ifP rfl (fun cd1 => ?_) (fun cd1 => ?_)
    · refine WC.seq ?_
      refine WC.region ?_
      refine WL.r 1 rfl ?_
      refine WL.call rfl rfl (fail_spec (r := r) (n := List.length (by8 bs)) (c := c) (a := a) (p := (R1.2.1 : Int)) (e := R1.2.2) (e2 := 12)  (hS := hS)) rfl ?_
      rintro _ w ⟨rfl, hS⟩
      replace hS : St g (cel r #[.slice a (List.length (by8 bs)) c, .int .i64 (R1.2.1 : Int), .int .i64 (fl R1.2.2 12)] 78 :: Sh 5 1 (by8 bs) a c :: L) w := hS
      refine WL.nil ?_
      refine WC.seq ?_
      refine WC.region ?_
      refine WL.r 1 rfl ?_
      refine WL.nil ?_
      refine WC.ret ?_
      refine ⟨[.int .i64 0], rfl, ?_⟩
      subst hR1; rw [by8_len] at cd1; unfold rEl rLeft; rw [if_pos cd1]; exact ⟨rfl, hS⟩
    · refine WC.skip ?_
      refine WC.seq ?_
      refine WC.region ?_
      refine WL.r 2 rfl ?_
      refine WL.nil ?_
      refine WC.ret ?_
      refine ⟨[.int .i64 R1.1], rfl, ?_⟩
      subst hR1; rw [by8_len] at cd1; unfold rEl rLeft; rw [if_neg cd1]; exact ⟨rfl, hS⟩

theorem counted_spec {g w : World} {L : List HP} (r c : Nat) (a : Option Addr) (bs : List Int) (p : Nat) (e : Int) (hp : p ≤ bs.length) (hl : bs.length ≤ 1000000000) (hb : B8 bs) (hS : St g (cel r #[.slice a (List.length (by8 bs)) c, .int .i64 (p : Int), .int .i64 e] 78 :: Sh 5 1 (by8 bs) a c :: L) w) :
    Sp Try.prog 46 [.pointer (some ⟨r, 0, none⟩)] w (fun v w' => v = .int .i64 (rCnt bs p e).1 ∧ St g (cel r #[.slice a (List.length (by8 bs)) c, .int .i64 ((rCnt bs p e).2.1 : Int), .int .i64 (rCnt bs p e).2.2] 78 :: Sh 5 1 (by8 bs) a c :: L) w') := by
  refine Sp.enter Try.func46 rfl (by kernel_rfl) (by kernel_rfl) ?_
  have _ := hl
  have _ := hp
  refine WC.seq ?_
  refine WC.region ?_
  refine WL.r 1 rfl ?_
  refine WL.nil ?_
  refine WC.seq ?_
  refine WC.region ?_
  refine WL.r 1 rfl ?_
  refine WL.call rfl rfl (varint_spec (r := r) (c := c) (a := a) (bs := bs) (p := p) (e := e) (hp := (by assumption)) (hl := (by assumption)) (hb := (by assumption)) (hS := hS)) rfl ?_
  generalize hR1 : rU bs p e = R1
  rintro _ w ⟨rfl, hS⟩
  have hR1f0 : R1.2.1 ≤ (List.length bs) := by rw [← hR1]; exact rU_le (by assumption)
  replace hS : St g (cel r #[.slice a (List.length (by8 bs)) c, .int .i64 (R1.2.1 : Int), .int .i64 R1.2.2] 78 :: Sh 5 1 (by8 bs) a c :: L) w := hS
  refine WL.r 1 rfl ?_
  refine WL.nil ?_
  refine WC.seq ?_
  refine WC.seq ?_
  refine WC.region ?_
  have hr := rU_b (p := p) (e := e) hb; rw [hR1] at hr; have hl8 := by8_len bs
  refine WL.r 2 rfl ?_
  refine WL.call rfl rfl (left_spec (r := r) (n := List.length (by8 bs)) (c := c) (a := a) (p := R1.2.1) (e := R1.2.2) (h1 := (by simp only [by8_len]; assumption)) (h2 := (by simp only [by8_len]; assumption)) (hS := hS)) rfl ?_
  rintro _ w ⟨rfl, hS⟩
  replace hS : St g (cel r #[.slice a (List.length (by8 bs)) c, .int .i64 (R1.2.1 : Int), .int .i64 R1.2.2] 78 :: Sh 5 1 (by8 bs) a c :: L) w := hS
  refine WL.r 1 rfl ?_
  refine WL.nw 9 rfl (wu64 (by omega)) ?_
  refine WL.r 1 rfl ?_
  refine WL.nil ?_
  as_aux_lemma =>
    refine WC.ifP rfl (fun cd1 => ?_) (fun cd1 => ?_)
    · refine WC.seq ?_
      refine WC.region ?_
      refine WL.r 1 rfl ?_
      refine WL.call rfl rfl (fail_spec (r := r) (n := List.length (by8 bs)) (c := c) (a := a) (p := (R1.2.1 : Int)) (e := R1.2.2) (e2 := 12)  (hS := hS)) rfl ?_
      rintro _ w ⟨rfl, hS⟩
      replace hS : St g (cel r #[.slice a (List.length (by8 bs)) c, .int .i64 (R1.2.1 : Int), .int .i64 (fl R1.2.2 12)] 78 :: Sh 5 1 (by8 bs) a c :: L) w := hS
      refine WL.nil ?_
      refine WC.seq ?_
      refine WC.region ?_
      refine WL.r 1 rfl ?_
      refine WL.nil ?_
      refine WC.ret ?_
      refine ⟨[.int .i64 0], rfl, ?_⟩
      subst hR1; rw [by8_len] at cd1; unfold rCnt rLeft; rw [if_pos cd1]; exact ⟨rfl, hS⟩
    · refine WC.skip ?_
      refine WC.seq ?_
      refine WC.region ?_
      refine WL.r 2 rfl ?_
      refine WL.nw 14 rfl (w64 (by omega)) ?_
      refine WL.r 1 rfl ?_
      refine WL.nil ?_
      refine WC.ret ?_
      refine ⟨[.int .i64 R1.1], rfl, ?_⟩
      subst hR1; rw [by8_len] at cd1; unfold rCnt rLeft; rw [if_neg cd1]; exact ⟨rfl, hS⟩
end Go.Proofs.Ytofnoopjlmdelaa
