/-
  The reference of the words: what its functions return.
  Conditions: the numbers lie in their kinds; sizes below a bound that the laws meet.
-/
import Derived.Test.YtofnoopjlmdelaaTypes
import Derived.Test.YtofnoopjlmdelaaOpx
namespace Go.Proofs.Ytofnoopjlmdelaa
open Go Go.V Go.RowKit

theorem rzigzag {g w : World} {L : List HP} (n : Int) (hn : I64 n) (hS : St g (L) w) :
    Sp Try.prog 69 [.int .i64 n] w (fun v w' => v = .int .u64 (zz n) ∧ St g (L) w') := by
  refine Sp.enter Try.func69 rfl (by kernel_rfl) (by kernel_rfl) ?_
  refine WC.seq ?_
  refine WC.region ?_
  refine WL.r 1 rfl ?_
  refine WL.nil ?_
  refine WC.seq ?_
  refine WC.seq ?_
  refine WC.region ?_
  obtain ⟨hn1, hn2⟩ := hn
  refine WL.r 2 rfl ?_
  refine WL.nil ?_
  refine WC.ifP rfl (fun cd1 => ?_) (fun cd1 => ?_)
  · refine WC.seq ?_
    refine WC.region ?_
    refine WL.r 2 rfl ?_
    refine WL.nw 6 rfl (wu64 (by omega)) ?_
    refine WL.r 1 rfl ?_
    refine WL.nw 7 rfl (wu64 (by omega)) ?_
    refine WL.r 1 rfl ?_
    refine WL.nil ?_
    refine WC.ret ?_
    refine ⟨[.int .u64 (2 * n)], rfl, ?_⟩
    rw [zz, if_pos (by omega)]; exact ⟨rfl, hS⟩
  · refine WC.skip ?_
    refine WC.seq ?_
    refine WC.region ?_
    refine WL.r 2 rfl ?_
    refine WL.nw 9 rfl (w64 (by omega)) ?_
    refine WL.r 1 rfl ?_
    refine WL.nw 10 rfl (w64 (by omega)) ?_
    refine WL.r 1 rfl ?_
    refine WL.nw 11 rfl (wu64 (by omega)) ?_
    refine WL.r 1 rfl ?_
    refine WL.nw 12 rfl (wu64 (by omega)) ?_
    refine WL.r 1 rfl ?_
    refine WL.nw 13 rfl (wu64 (by omega)) ?_
    refine WL.r 1 rfl ?_
    refine WL.nil ?_
    as_aux_lemma =>
      refine WC.ret ?_
      refine ⟨[.int .u64 ((2 * (0 - (n + 1))) + 1)], rfl, ?_⟩
      rw [zz, if_neg (by omega), show -2 * n - 1 = 2 * (0 - (n + 1)) + 1 by omega]; exact ⟨rfl, hS⟩

theorem runzigzag {g w : World} {L : List HP} (u : Int) (hu : 0 ≤ u ∧ u ≤ 18446744073709551615) (hS : St g (L) w) :
    Sp Try.prog 74 [.int .u64 u] w (fun v w' => v = .int .i64 (uz u) ∧ St g (L) w') := by
  refine Sp.enter Try.func74 rfl (by kernel_rfl) (by kernel_rfl) ?_
  have _ := hu
  refine WC.seq ?_
  refine WC.region ?_
  refine WL.r 1 rfl ?_
  refine WL.nil ?_
  refine WC.seq ?_
  refine WC.seq ?_
  refine WC.region ?_
  refine WL.r 2 rfl ?_
  refine WL.reb 4 (.int .u64 (u % 2)) (congrArg (Value.int .u64) (Int.tmod_eq_emod_of_nonneg (a := u) (by omega))) ?_
  refine WL.r 1 rfl ?_
  refine WL.nil ?_
  refine WC.ifP rfl (fun cd1 => ?_) (fun cd1 => ?_)
  · refine WC.seq ?_
    refine WC.region ?_
    refine WL.r 2 rfl ?_
    refine WL.reb 7 (.int .u64 (u / 2)) (congrArg (Value.int .u64) (quo_u64 (p := u) (q := 2) (by omega))) ?_
    refine WL.r 1 rfl ?_
    refine WL.nw 8 rfl (w64 (by omega)) ?_
    refine WL.r 1 rfl ?_
    refine WL.nil ?_
    refine WC.ret ?_
    refine ⟨[.int .i64 (u / 2)], rfl, ?_⟩
    rw [uz, if_pos cd1]; exact ⟨rfl, hS⟩
  · refine WC.skip ?_
    refine WC.seq ?_
    refine WC.region ?_
    refine WL.r 2 rfl ?_
    refine WL.reb 10 (.int .u64 (u / 2)) (congrArg (Value.int .u64) (quo_u64 (p := u) (q := 2) (by omega))) ?_
    refine WL.r 1 rfl ?_
    refine WL.nw 11 rfl (w64 (by omega)) ?_
    refine WL.r 1 rfl ?_
    refine WL.nw 12 rfl (w64 (by omega)) ?_
    refine WL.r 1 rfl ?_
    refine WL.nw 13 rfl (w64 (by omega)) ?_
    refine WL.r 1 rfl ?_
    refine WL.nil ?_
    as_aux_lemma =>
      refine WC.ret ?_
      refine ⟨[.int .i64 ((0 - (u / 2)) - 1)], rfl, ?_⟩
      rw [uz, if_neg cd1, show -(u / 2) = 0 - u / 2 by omega]; exact ⟨rfl, hS⟩

theorem rvarint {g w : World} {L : List HP} (u : Nat) (hu : (u : Int) ≤ 18446744073709551615) (hS : St g (L) w) :
    Sp Try.prog 68 [.int .u64 (u : Int)] w (fun v w' => ∃ (a : Option Addr) (c : Nat), v = .slice a (List.length (by8 (varint u))) c ∧ St g (Own 5 1 (by8 (varint u)) a c :: L) w') := by
  refine Sp.enter Try.func68 rfl (by kernel_rfl) (by kernel_rfl) ?_
  have _ := hu
  refine WC.seq ?_
  refine WC.region ?_
  refine WL.r 1 rfl ?_
  refine WL.nil ?_
  refine WC.seq ?_
  refine WC.region ?_
  have hl := varint_len 10 u (by omega) (by omega)
  refine WL.r 1 rfl ?_
  refine WL.nil ?_
  refine WC.seq ?_
  refine WC.block ?_
  replace hS := hS.nil_ 5 1
  refine WC.loop [0, 2, 3] (fun kM vs w => ∃ (v : Nat) (xs : List Int) (a : Option Addr) (c : Nat), vs = [.int .u64 (v : Int), .slice none 0 0, .slice a (List.length (by8 xs)) c] ∧ St g (Own 5 1 (by8 xs) a c :: L) w ∧ (varint u = xs ++ varint v) ∧ (v ≤ u) ∧ (v) = kM) (u) ⟨u, [], none, 0, rfl, hS, (rfl), (Nat.le_refl _), rfl⟩ ?_
  clear hS; rintro _ _ w j ⟨v, xs, a, c, rfl, hS, hv, hle, rfl⟩
  refine WC.seq ?_
  refine WC.seq ?_
  refine WC.region ?_
  refine WL.r 2 rfl ?_
  refine WL.nil ?_
  refine WC.ifP rfl (fun cd1 => ?_) (fun cd1 => ?_)
  · refine WC.skip ?_
    refine WC.block ?_
    refine WC.seq ?_
    refine WC.region ?_
    have hv2 : ¬ v < 128 := by omega
    have hl2 := congrArg List.length hv; rw [varint_ge hv2] at hl2; simp only [List.length_append, List.length_cons] at hl2
    refine WL.r 3 rfl ?_
    refine WL.reb 8 (.int .u64 ((v : Int) % 128)) (congrArg (Value.int .u64) (Int.tmod_eq_emod_of_nonneg (a := (v : Int)) (by omega))) ?_
    refine WL.r 1 rfl ?_
    refine WL.nw 9 rfl (wu8 (by omega)) ?_
    refine WL.r 1 rfl ?_
    refine WL.reb 10 (.int .u8 ((v : Int) % 128 + 128)) (congrArg (Value.int .u8) (by exact wu8 (by omega))) ?_
    refine WL.lit rfl rfl (by8 [(v : Int) % 128 + 128]) el_23 hS (by exact ⟨rfl, rfl⟩) (by8_ok _) rfl (by decide) (fun b1 w hS => ?_)
    refine WL.app rfl rfl 1 (by8 (xs ++ [(v : Int) % 128 + 128])) el_23 hS rfl (hS.srcO 0 rfl) (by8_app _ _).symm (Rm.of (by first | omega | (simp <;> omega)) (by decide)) rfl rfl (fun a1 c1 w hS => ?_)
    replace hS : St g (Own 5 1 (by8 [(v : Int) % 128 + 128]) (some ⟨b1, 0, none⟩) (List.length (by8 [(v : Int) % 128 + 128])) :: Own 5 1 (by8 (xs ++ [(v : Int) % 128 + 128])) a1 c1 :: L) w := hS
    refine WL.r 1 rfl ?_
    refine WL.nil ?_
    as_aux_lemma =>
      refine WC.region ?_
      refine WL.r 2 rfl ?_
      refine WL.reb 14 (.int .u64 ((v : Int) / 128)) (congrArg (Value.int .u64) (quo_u64 (p := (v : Int)) (q := 128) (by omega))) ?_
      refine WL.r 1 rfl ?_
      refine WL.nil ?_
      exact ⟨_, by omega, v / 128, xs ++ [(v : Int) % 128 + 128], _, _, rfl, (hS.sel 2 [1] rfl), (by rw [hv, varint_ge (by omega)]; simp), (by omega), rfl⟩
  · refine WC.exit ?_
    refine WC.seq ?_
    refine WC.region ?_
    have hv2 : v < 128 := by omega
    have hl2 := congrArg List.length hv; rw [varint_lt hv2] at hl2; simp only [List.length_append, List.length_cons] at hl2
    refine WL.r 3 rfl ?_
    refine WL.nw 17 rfl (wu8 (by omega)) ?_
    refine WL.lit rfl rfl (by8 [(v : Int)]) el_23 hS (by exact ⟨rfl, rfl⟩) (by8_ok _) rfl (by decide) (fun b1 w hS => ?_)
    refine WL.app rfl rfl 1 (by8 (xs ++ [(v : Int)])) el_23 hS rfl (hS.srcO 0 rfl) (by8_app _ _).symm (Rm.of (by first | omega | (simp <;> omega)) (by decide)) rfl rfl (fun a1 c1 w hS => ?_)
    replace hS : St g (Own 5 1 (by8 [(v : Int)]) (some ⟨b1, 0, none⟩) (List.length (by8 [(v : Int)])) :: Own 5 1 (by8 (xs ++ [(v : Int)])) a1 c1 :: L) w := hS
    refine WL.r 1 rfl ?_
    refine WL.nil ?_
    as_aux_lemma =>
      refine WC.ret ?_
      refine ⟨[.slice a1 (List.length (by8 (xs ++ [(v : Int)]))) c1], rfl, ?_⟩
      replace hS := (hS.sel 2 [1] rfl)
      rw [varint_lt hv2] at hv; rw [← hv] at hS ⊢; exact ⟨_, _, rfl, hS⟩

theorem rjoin {g w : World} {L : List HP} (xs ys : List Int) (a b : Option Addr) (c d : Nat) (hx : xs.length + ys.length ≤ 1000000) (hS : St g (Sh 5 1 (by8 xs) a c :: Sh 5 1 (by8 ys) b d :: L) w) :
    Sp Try.prog 16 [.slice a (List.length (by8 xs)) c, .slice b (List.length (by8 ys)) d] w (fun v w' => ∃ (a2 : Option Addr) (c2 : Nat), v = .slice a2 (List.length (by8 (xs ++ ys))) c2 ∧ St g (Own 5 1 (by8 (xs ++ ys)) a2 c2 :: Sh 5 1 (by8 xs) a c :: Sh 5 1 (by8 ys) b d :: L) w') := by
  refine Sp.enter Try.func16 rfl (by kernel_rfl) (by kernel_rfl) ?_
  have _ := hx
  refine WC.seq ?_
  refine WC.region ?_
  refine WL.r 1 rfl ?_
  refine WL.nil ?_
  refine WC.seq ?_
  refine WC.region ?_
  have h1 := by8_len xs; have h2 := by8_len ys
  refine WL.r 5 rfl ?_
  refine WL.nw 12 rfl (w64 (by omega)) ?_
  refine WL.make rfl rfl (v := 0) (v' := (List.length (by8 xs) : Int) + (List.length (by8 ys) : Int)) (0) (xs.length + ys.length) el_23 hS rfl (by omega) rfl (by omega) (by omega) (Rm.of (by omega) (by decide)) (fun b1 w hS => ?_)
  replace hS : St g (Own 5 1 [] (some ⟨b1, 0, none⟩) ((List.length xs) + (List.length ys)) :: Sh 5 1 (by8 xs) a c :: Sh 5 1 (by8 ys) b d :: L) w := hS
  refine WL.r 1 rfl ?_
  refine WL.nil ?_
  refine WC.seq ?_
  refine WC.seq ?_
  refine WC.region ?_
  refine WL.r 1 rfl ?_
  refine WL.nil ?_
  refine WC.block ?_
  refine WC.loop [0, 1, 4, 5, 6] (fun kM vs w => ∃ (k : Nat) (zs : List Int) (a2 : Option Addr) (c2 : Nat), vs = [.slice a (List.length (by8 xs)) c, .slice b (List.length (by8 ys)) d, .slice none 0 0, .slice a2 (List.length (by8 zs)) c2, .int .i64 (k : Int)] ∧ St g (Own 5 1 (by8 zs) a2 c2 :: Sh 5 1 (by8 xs) a c :: Sh 5 1 (by8 ys) b d :: L) w ∧ (k ≤ xs.length ∧ zs.length = k) ∧ (zs = xs.take k) ∧ (xs.length - k) = kM) ((List.length xs) - 0) ⟨0, [], _, _, rfl, hS, (by simp), (rfl), rfl⟩ ?_
  clear hS; rintro _ _ w j ⟨k, zs, a2, c2, rfl, hS, hk, hz, rfl⟩
  refine WC.seq ?_
  refine WC.seq ?_
  refine WC.region ?_
  refine WL.r 4 rfl ?_
  refine WL.nil ?_
  as_aux_lemma =>
    refine WC.ifP rfl (fun cd1 => ?_) (fun cd1 => ?_)
    · refine WC.skip ?_
      refine WC.seq ?_
      refine WC.block ?_
      refine WC.region ?_
      refine WL.r 3 rfl ?_
      obtain ⟨x, hx2⟩ : ∃ x, xs[k]? = some x := ⟨_, List.getElem?_eq_getElem (by omega)⟩
      refine WL.ix rfl rfl (i := (k : Int)) (k) el_23 rfl rfl (by omega) (len_of (by8_at hx2)) (hS.rdS 1 rfl (by8_at hx2)).1 ?_
      refine WL.run 1 [.int .u8 x] rfl (by exact (hS.rdS 1 rfl (by8_at hx2)).2 0 _ rfl) ?_
      refine WL.lit rfl rfl (by8 [x]) el_23 hS (by exact ⟨rfl, rfl⟩) (by8_ok _) rfl (by decide) (fun b2 w hS => ?_)
      refine WL.app rfl rfl 1 (by8 (zs ++ [x])) el_23 hS rfl (hS.srcO 0 rfl) (by8_app _ _).symm (Rm.of (by first | omega | (simp <;> omega)) (by decide)) rfl rfl (fun a1 c1 w hS => ?_)
      replace hS : St g (Own 5 1 (by8 [x]) (some ⟨b2, 0, none⟩) (List.length (by8 [x])) :: Own 5 1 (by8 (zs ++ [x])) a1 c1 :: Sh 5 1 (by8 xs) a c :: Sh 5 1 (by8 ys) b d :: L) w := hS
      refine WL.r 1 rfl ?_
      refine WL.nil ?_
      refine WC.region ?_
      refine WL.r 2 rfl ?_
      refine WL.nw 19 rfl (w64 (by omega)) ?_
      refine WL.r 1 rfl ?_
      refine WL.nil ?_
      exact ⟨_, by omega, k + 1, zs ++ [x], _, _, rfl, (hS.sel 4 [1, 1, 1] rfl), (by simp; omega), (by rw [hz, List.take_add_one, hx2]; rfl), rfl⟩
    · refine WC.exit ?_
      refine WC.seq ?_
      refine WC.seq ?_
      refine WC.region ?_
      refine WL.r 1 rfl ?_
      refine WL.nil ?_
      refine WC.block ?_
      refine WC.loop [1, 4, 5, 7] (fun kM vs w => ∃ (k : Nat) (us : List Int) (a2 : Option Addr) (c2 : Nat), vs = [.slice b (List.length (by8 ys)) d, .slice none 0 0, .slice a2 (List.length (by8 us)) c2, .int .i64 (k : Int)] ∧ St g (Own 5 1 (by8 us) a2 c2 :: Sh 5 1 (by8 xs) a c :: Sh 5 1 (by8 ys) b d :: L) w ∧ (k ≤ ys.length ∧ us.length = xs.length + k) ∧ (us = xs ++ ys.take k) ∧ (ys.length - k) = kM) ((List.length ys) - 0) ⟨0, zs, _, _, rfl, hS, (by omega), (by rw [hz, List.take_of_length_le (by omega)]; simp), rfl⟩ ?_
      clear hS; rintro _ _ w j ⟨k, us, a2, c2, rfl, hS, hk2, hz2, rfl⟩
      refine WC.seq ?_
      refine WC.seq ?_
      refine WC.region ?_
      refine WL.r 4 rfl ?_
      refine WL.nil ?_
      refine WC.ifP rfl (fun cd2 => ?_) (fun cd2 => ?_)
      · refine WC.skip ?_
        refine WC.seq ?_
        refine WC.block ?_
        refine WC.region ?_
        refine WL.r 3 rfl ?_
        obtain ⟨x, hx2⟩ : ∃ x, ys[k]? = some x := ⟨_, List.getElem?_eq_getElem (by omega)⟩
        refine WL.ix rfl rfl (i := (k : Int)) (k) el_23 rfl rfl (by omega) (len_of (by8_at hx2)) (hS.rdS 2 rfl (by8_at hx2)).1 ?_
        refine WL.run 1 [.int .u8 x] rfl (by exact (hS.rdS 2 rfl (by8_at hx2)).2 0 _ rfl) ?_
        refine WL.lit rfl rfl (by8 [x]) el_23 hS (by exact ⟨rfl, rfl⟩) (by8_ok _) rfl (by decide) (fun b2 w hS => ?_)
        refine WL.app rfl rfl 1 (by8 (us ++ [x])) el_23 hS rfl (hS.srcO 0 rfl) (by8_app _ _).symm (Rm.of (by first | omega | (simp <;> omega)) (by decide)) rfl rfl (fun a1 c1 w hS => ?_)
        replace hS : St g (Own 5 1 (by8 [x]) (some ⟨b2, 0, none⟩) (List.length (by8 [x])) :: Own 5 1 (by8 (us ++ [x])) a1 c1 :: Sh 5 1 (by8 xs) a c :: Sh 5 1 (by8 ys) b d :: L) w := hS
        refine WL.r 1 rfl ?_
        refine WL.nil ?_
        as_aux_lemma =>
          refine WC.region ?_
          refine WL.r 2 rfl ?_
          refine WL.nw 32 rfl (w64 (by omega)) ?_
          refine WL.r 1 rfl ?_
          refine WL.nil ?_
          exact ⟨_, by omega, k + 1, us ++ [x], _, _, rfl, (hS.sel 4 [1, 1, 1] rfl), (by simp; omega), (by rw [hz2, List.take_add_one, hx2, List.append_assoc]; rfl), rfl⟩
      · refine WC.exit ?_
        refine WC.seq ?_
        refine WC.region ?_
        refine WL.r 2 rfl ?_
        refine WL.nil ?_
        refine WC.ret ?_
        refine ⟨[.slice a2 (List.length (by8 us)) c2], rfl, ?_⟩
        rw [hz2, List.take_of_length_le (by omega)] at hS ⊢; exact ⟨_, _, rfl, hS⟩

theorem ruvarint {g w : World} {L : List HP} (bs : List Int) (a : Option Addr) (c : Nat) (p : Nat) (hp : p ≤ bs.length) (hl : bs.length ≤ 1000000000) (hb : B8 bs) (hS : St g (Sh 5 1 (by8 bs) a c :: L) w) :
    Sp Try.prog 73 [.slice a (List.length (by8 bs)) c, .int .i64 (p : Int)] w (fun v w' => v = .tuple #[.int .u64 (uv (bs.drop p)).1, .int .i64 (if (uv (bs.drop p)).2.2 = 0 then (p : Int) + (uv (bs.drop p)).2.1 else 0), .int .i64 (uv (bs.drop p)).2.2] ∧ St g (Sh 5 1 (by8 bs) a c :: L) w') := by
  refine Sp.enter Try.func73 rfl (by kernel_rfl) (by kernel_rfl) ?_
  have _ := hl
  have _ := hp
  refine WC.seq ?_
  refine WC.region ?_
  refine WL.r 3 rfl ?_
  refine WL.nil ?_
  refine WC.seq ?_
  refine WC.seq ?_
  refine WC.region ?_
  have hl1 := by8_len bs
  refine WL.r 2 rfl ?_
  refine WL.rG 6 rfl (fun j => ?_)
  refine WL.prop 18 rfl (bor (dd _) (dd _)) ?_
  refine WL.nil ?_
  refine WC.ifP rfl (fun cd1 => ?_) (fun cd1 => ?_)
  · refine WC.seq ?_
    refine WC.region ?_
    refine WL.r 3 rfl ?_
    refine WL.nil ?_
    refine WC.ret ?_
    refine ⟨[.int .u64 0, .int .i64 0, .int .i64 1], ⟨rfl, rfl, rfl⟩, ?_⟩
    exfalso; omega
  · refine WC.skip ?_
    refine WC.seq ?_
    refine WC.region ?_
    refine WL.r 2 rfl ?_
    refine WL.nil ?_
    refine WC.seq ?_
    refine WC.seq ?_
    refine WC.region ?_
    refine WL.r 1 rfl ?_
    refine WL.nil ?_
    refine WC.block ?_
    refine WC.loop [0, 1, 7, 8, 9] (fun kM vs w => ∃ (k : Nat) (u w2 : Int), vs = [.slice a (List.length (by8 bs)) c, .int .i64 (p : Int), .int .u64 u, .int .u64 w2, .int .i64 (k : Int)] ∧ St g (Sh 5 1 (by8 bs) a c :: L) w ∧ (k ≤ bs.length - p ∧ k ≤ 10) ∧ (k < 10 → UvB k u) ∧ (k < 10 → w2 = 128 ^ k) ∧ (uv (bs.drop p) = if k < 10 then uvGo k u (bs.drop (p + k)) else (0, 0, 13)) ∧ (10 - k) = kM) (10 - 0) ⟨0, 0, 1, rfl, hS, (by omega), (fun _ => UvB.start), (fun _ => rfl), (rfl), rfl⟩ ?_
    clear hS; rintro _ _ w j ⟨k, u, w2, rfl, hS, hk, hu, hw2, he, rfl⟩
    refine WC.seq ?_
    refine WC.seq ?_
    refine WC.region ?_
    refine WL.r 2 rfl ?_
    refine WL.nil ?_
    as_aux_lemma =>
      refine WC.ifP rfl (fun cd2 => ?_) (fun cd2 => ?_)
      · refine WC.skip ?_
        refine WC.seq ?_
        refine WC.block ?_
        refine WC.seq ?_
        refine WC.seq ?_
        refine WC.region ?_
        refine WL.r 3 rfl ?_
        refine WL.nw 25 rfl (w64 (by omega)) ?_
        refine WL.r 3 rfl ?_
        refine WL.nil ?_
        refine WC.ifP rfl (fun cd3 => ?_) (fun cd3 => ?_)
        · refine WC.seq ?_
          refine WC.region ?_
          refine WL.r 3 rfl ?_
          refine WL.nil ?_
          refine WC.ret ?_
          refine ⟨[.int .u64 0, .int .i64 0, .int .i64 12], ⟨rfl, rfl, rfl⟩, ?_⟩
          rw [if_pos (by omega), show bs.drop (p + k) = [] from List.drop_eq_nil_of_le (by omega), uvGo_nil] at he; rw [he]; exact ⟨rfl, hS⟩
        · refine WC.skip ?_
          refine WC.seq ?_
          refine WC.region ?_
          refine WL.r 4 rfl ?_
          refine WL.nw 32 rfl (w64 (by omega)) ?_
          obtain ⟨x, hx⟩ : ∃ x, bs[p + k]? = some x := ⟨_, List.getElem?_eq_getElem (by omega)⟩
          refine WL.ix rfl rfl (i := (p : Int) + (k : Int)) (p + k) el_23 rfl rfl (by omega) (len_of (by8_at hx)) (hS.rdS 0 rfl (by8_at hx)).1 ?_
          refine WL.run 2 [.int .u8 x] rfl (by exact (hS.rdS 0 rfl (by8_at hx)).2 0 _ rfl) ?_
          refine WL.nil ?_
          refine WC.seq ?_
          refine WC.seq ?_
          refine WC.region ?_
          have hx8 := hb x (List.mem_of_getElem? hx); have h10 : k < 10 := (by omega); have hub := hu h10; have hwb := hw2 h10
          have hdr : bs.drop (p + k) = x :: bs.drop (p + (k + 1)) := by rw [List.drop_eq_getElem_cons (by omega), (List.getElem?_eq_some_iff.1 hx).2]; rfl
          rw [if_pos h10, hdr] at he
          refine WL.r 2 rfl ?_
          refine WL.rG 4 rfl (fun j => ?_)
          refine WL.prop 40 rfl (band (dd _) (dd _)) ?_
          refine WL.nil ?_
          as_aux_lemma =>
            refine WC.ifP rfl (fun cd4 => ?_) (fun cd4 => ?_)
            · refine WC.seq ?_
              refine WC.region ?_
              refine WL.r 3 rfl ?_
              refine WL.nil ?_
              refine WC.ret ?_
              refine ⟨[.int .u64 0, .int .i64 0, .int .i64 13], ⟨rfl, rfl, rfl⟩, ?_⟩
              have q4 : (k = 9 ∧ 1 < x) ∨ (0 < k ∧ x = 0) := by omega
              rw [uvGo_bad q4] at he; rw [he]; exact ⟨rfl, hS⟩
            · refine WC.skip ?_
              refine WC.seq ?_
              refine WC.region ?_
              have hf : 0 ≤ w2 * (x % 128) ∧ u + w2 * (x % 128) < 18446744073709551616 := by rw [hwb, Int.mul_comm]; exact hub.fits2 (by omega) hx8.1 hx8.2
              have hu0 := hub.2.1
              refine WL.r 4 rfl ?_
              refine WL.reb 44 (.int .u8 (x % 128)) (congrArg (Value.int .u8) (Int.tmod_eq_emod_of_nonneg (a := x) (by omega))) ?_
              refine WL.r 1 rfl ?_
              refine WL.nw 45 rfl (wu64 (by omega)) ?_
              refine WL.r 1 rfl ?_
              refine WL.nw 46 rfl (wu64 (by omega)) ?_
              refine WL.r 1 rfl ?_
              refine WL.nw 47 rfl (wu64 (by omega)) ?_
              refine WL.r 1 rfl ?_
              refine WL.nil ?_
              refine WC.seq ?_
              refine WC.region ?_
              refine WL.r 2 rfl ?_
              refine WL.r 1 rfl ?_
              refine WL.nil ?_
              refine WC.seq ?_
              refine WC.region ?_
              refine WL.r 2 rfl ?_
              refine WL.nil ?_
              as_aux_lemma =>
                refine WC.ifP rfl (fun cd5 => ?_) (fun cd5 => ?_)
                · refine WC.seq ?_
                  refine WC.seq ?_
                  refine WC.region ?_
                  refine WL.r 2 rfl ?_
                  refine WL.rG 4 rfl (fun j => ?_)
                  refine WL.prop 57 rfl (band (dd _) (dd _)) ?_
                  refine WL.nil ?_
                  refine WC.ifP rfl (fun cd6 => ?_) (fun cd6 => ?_)
                  · refine WC.seq ?_
                    refine WC.region ?_
                    refine WL.r 3 rfl ?_
                    refine WL.nil ?_
                    refine WC.ret ?_
                    refine ⟨[.int .u64 0, .int .i64 0, .int .i64 13], ⟨rfl, rfl, rfl⟩, ?_⟩
                    have q4 : (k = 9 ∧ 1 < x) ∨ (0 < k ∧ x = 0) := by omega
                    rw [uvGo_bad q4] at he; rw [he]; exact ⟨rfl, hS⟩
                  · refine WC.skip ?_
                    refine WC.seq ?_
                    refine WC.region ?_
                    refine WL.r 4 rfl ?_
                    refine WL.nw 61 rfl (w64 (by omega)) ?_
                    refine WL.r 1 rfl ?_
                    refine WL.nw 62 rfl (w64 (by omega)) ?_
                    refine WL.r 3 rfl ?_
                    refine WL.nil ?_
                    refine WC.ret ?_
                    refine ⟨[.int .u64 (u + (w2 * (x % 128))), .int .i64 (((p : Int) + (k : Int)) + 1), .int .i64 0], ⟨rfl, rfl, rfl⟩, ?_⟩
                    have q4 : ¬ ((k = 9 ∧ 1 < x) ∨ (0 < k ∧ x = 0)) := by omega
                    rw [uvGo_end q4 (by omega)] at he; rw [he]; refine ⟨?_, hS⟩
                    rw [hwb, Int.mul_comm, show x % 128 = x by omega, show (p : Int) + k + 1 = p + ((k + 1 : Nat) : Int) by omega]; rfl
                · refine WC.skip ?_
                  refine WC.region ?_
                  refine WL.r 2 rfl ?_
                  refine WL.nw 22 rfl (w64 (by omega)) ?_
                  refine WL.r 1 rfl ?_
                  refine WL.nil ?_
                  exact ⟨_, by omega, k + 1, u + w2 * (x % 128), IntKind.u64.wrap (w2 * 128), rfl, hS, (by omega), (fun _ => by rw [hwb, Int.mul_comm, show x % 128 = x - 128 by omega]; exact hub.next (by omega) (by omega) hx8.2), (fun h => by rw [hwb, ← Int.pow_succ, wu64 (p128_u (by omega))]), (by rw [he, uvGo_go (by omega) (by omega), if_pos (by omega), hwb, Int.mul_comm, show x % 128 = x - 128 by omega]), rfl⟩
      · refine WC.exit ?_
        refine WC.seq ?_
        refine WC.region ?_
        refine WL.r 3 rfl ?_
        refine WL.nil ?_
        refine WC.ret ?_
        refine ⟨[.int .u64 0, .int .i64 0, .int .i64 13], ⟨rfl, rfl, rfl⟩, ?_⟩
        rw [if_neg (by omega)] at he; rw [he]; exact ⟨rfl, hS⟩
end Go.Proofs.Ytofnoopjlmdelaa
