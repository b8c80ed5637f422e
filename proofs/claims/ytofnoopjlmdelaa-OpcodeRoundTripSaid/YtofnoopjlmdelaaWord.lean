/-
  The functions of package word that the encodings use: what each returns.
  Conditions: the numbers lie in their kinds; sizes below a bound that the laws meet.
-/
import Derived.Test.YtofnoopjlmdelaaTypes
import Derived.Test.YtofnoopjlmdelaaOpm
namespace Go.Proofs.Ytofnoopjlmdelaa
open Go Go.V Go.RowKit

theorem zigzag {g w : World} {L : List HP} (n : Int) (hn : -9223372036854775808 ≤ n ∧ n ≤ 9223372036854775807) (hS : St g (L) w) :
    Sp Try.prog 77 [.int .i64 n] w (fun v w' => v = .int .u64 (zz n) ∧ St g (L) w') := by
  refine Sp.enter Try.func77 rfl (by kernel_rfl) (by kernel_rfl) ?_
  refine WC.seq ?_
  refine WC.region ?_
  refine WL.r 1 rfl ?_
  refine WL.nil ?_
  refine WC.seq ?_
  refine WC.region ?_
  refine WL.r 2 rfl ?_
  refine WL.r 1 rfl ?_
  refine WL.r 2 rfl ?_
  refine WL.r 1 rfl ?_
  refine WL.r 1 rfl ?_
  refine WL.reb 9 (.int .u64 (zz n)) (congrArg (Value.int .u64) (by exact zz_bits hn)) ?_
  refine WL.r 1 rfl ?_
  refine WL.nil ?_
  refine WC.ret ?_
  refine ⟨[.int .u64 (zz n)], rfl, ?_⟩
  exact ⟨rfl, hS⟩

theorem unzigzag {g w : World} {L : List HP} (u : Int) (hu : 0 ≤ u ∧ u ≤ 18446744073709551615) (hS : St g (L) w) :
    Sp Try.prog 71 [.int .u64 u] w (fun v w' => v = .int .i64 (uz u) ∧ St g (L) w') := by
  refine Sp.enter Try.func71 rfl (by kernel_rfl) (by kernel_rfl) ?_
  refine WC.seq ?_
  refine WC.region ?_
  refine WL.r 1 rfl ?_
  refine WL.nil ?_
  refine WC.seq ?_
  refine WC.region ?_
  refine WL.r 2 rfl ?_
  refine WL.reb 4 (.int .u64 (u / 2)) (congrArg (Value.int .u64) (by rfl)) ?_
  refine WL.r 1 rfl ?_
  refine WL.nw 5 rfl (w64 (by omega)) ?_
  refine WL.r 2 rfl ?_
  refine WL.reb 7 (.int .u64 (u % 2)) (congrArg (Value.int .u64) (by exact and1 hu)) ?_
  refine WL.r 1 rfl ?_
  refine WL.nw 8 rfl (w64 (by omega)) ?_
  refine WL.r 1 rfl ?_
  refine WL.nw 9 rfl (w64 (by omega)) ?_
  refine WL.r 1 rfl ?_
  refine WL.reb 10 (.int .i64 (uz u)) (congrArg (Value.int .i64) (by exact uz_bits hu)) ?_
  refine WL.r 1 rfl ?_
  refine WL.nil ?_
  refine WC.ret ?_
  refine ⟨[.int .i64 (uz u)], rfl, ?_⟩
  exact ⟨rfl, hS⟩

theorem appendUvarint {g w : World} {L : List HP} (u : Nat) (hu : (u : Int) ≤ 18446744073709551615) (hS : St g (L) w) :
    Sp Try.prog 76 [.slice none 0 0, .int .u64 (u : Int)] w (fun v w' => ∃ (a : Option Addr) (c : Nat), v = .slice a (List.length (by8 (varint u))) c ∧ St g (Own 5 1 (by8 (varint u)) a c :: L) w') := by
  refine Sp.enter Try.func76 rfl (by kernel_rfl) (by kernel_rfl) ?_
  have _ := hu
  refine WC.seq ?_
  refine WC.region ?_
  refine WL.r 1 rfl ?_
  refine WL.nil ?_
  refine WC.seq ?_
  refine WC.region ?_
  have hl := varint_len 10 u (by omega) (by omega)
  refine WL.r 3 rfl ?_
  refine WL.reb 8 (.int .i64 10) (congrArg (Value.int .i64) (by decide)) ?_
  refine WL.make rfl rfl (v := 0) (v' := 10) (0) (10) el_23 hS rfl (by omega) rfl (by omega) (by omega) (Rm.of (by omega) (by decide)) (fun b1 w hS => ?_)
  replace hS : St g (Own 5 1 [] (some ⟨b1, 0, none⟩) 10 :: L) w := hS
  refine WL.r 1 rfl ?_
  refine WL.app rfl rfl 0 ([]) el_23 hS rfl Src.nil (List.append_nil _) (Rm.of (by first | omega | (simp <;> omega)) (by decide)) rfl rfl (fun a1 c1 w hS => ?_)
  replace hS : St g (Own 5 1 [] a1 c1 :: L) w := hS
  refine WL.r 1 rfl ?_
  refine WL.nil ?_
  refine WC.seq ?_
  refine WC.block ?_
  refine WC.loop [1, 4, 5] (fun kM vs w => ∃ (v : Nat) (xs : List Int) (a : Option Addr) (c : Nat), vs = [.int .u64 (v : Int), .slice none 0 0, .slice a (List.length (by8 xs)) c] ∧ St g (Own 5 1 (by8 xs) a c :: L) w ∧ (varint u = xs ++ varint v) ∧ (v ≤ u) ∧ (v) = kM) (u) ⟨u, [], _, _, rfl, hS, (rfl), (Nat.le_refl _), rfl⟩ ?_
  clear hS; rintro _ _ w j ⟨v, xs, a, c, rfl, hS, hv, hle, rfl⟩
  refine WC.seq ?_
  refine WC.seq ?_
  refine WC.region ?_
  refine WL.r 2 rfl ?_
  refine WL.nil ?_
  as_aux_lemma =>
    refine WC.ifP rfl (fun cd1 => ?_) (fun cd1 => ?_)
    · refine WC.skip ?_
      refine WC.block ?_
      refine WC.seq ?_
      refine WC.region ?_
      have hv2 : ¬ v < 128 := by omega
      have hl2 := congrArg List.length hv; rw [varint_ge hv2] at hl2; simp only [List.length_append, List.length_cons] at hl2
      refine WL.r 3 rfl ?_
      refine WL.r 1 rfl ?_
      refine WL.reb 17 (.int .u8 ((v : Int) % 128 + 128)) (congrArg (Value.int .u8) (by exact or128 _)) ?_
      refine WL.lit rfl rfl (by8 [(v : Int) % 128 + 128]) el_23 hS (by exact ⟨rfl, rfl⟩) (by8_ok _) rfl (by decide) (fun b2 w hS => ?_)
      refine WL.app rfl rfl 1 (by8 (xs ++ [(v : Int) % 128 + 128])) el_23 hS rfl (hS.srcO 0 rfl) (by8_app _ _).symm (Rm.of (by first | omega | (simp <;> omega)) (by decide)) rfl rfl (fun a2 c2 w hS => ?_)
      replace hS : St g (Own 5 1 (by8 [(v : Int) % 128 + 128]) (some ⟨b2, 0, none⟩) (List.length (by8 [(v : Int) % 128 + 128])) :: Own 5 1 (by8 (xs ++ [(v : Int) % 128 + 128])) a2 c2 :: L) w := hS
      refine WL.r 1 rfl ?_
      refine WL.nil ?_
      refine WC.region ?_
      refine WL.r 2 rfl ?_
      refine WL.reb 21 (.int .u64 ((v : Int) / 128)) (congrArg (Value.int .u64) (by rfl)) ?_
      refine WL.r 1 rfl ?_
      refine WL.nil ?_
      exact ⟨_, by omega, v / 128, xs ++ [(v : Int) % 128 + 128], _, _, rfl, (hS.sel 2 [1] rfl), (by rw [hv, varint_ge hv2]; simp), (by omega), rfl⟩
    · refine WC.exit ?_
      refine WC.seq ?_
      refine WC.region ?_
      have hv2 : v < 128 := by omega
      have hl2 := congrArg List.length hv; rw [varint_lt hv2] at hl2; simp only [List.length_append, List.length_cons] at hl2
      refine WL.r 3 rfl ?_
      refine WL.nw 24 rfl (byte_lo (by omega) (by omega)) ?_
      refine WL.lit rfl rfl (by8 [(v : Int)]) el_23 hS (by exact ⟨rfl, rfl⟩) (by8_ok _) rfl (by decide) (fun b2 w hS => ?_)
      refine WL.app rfl rfl 1 (by8 (xs ++ [(v : Int)])) el_23 hS rfl (hS.srcO 0 rfl) (by8_app _ _).symm (Rm.of (by first | omega | (simp <;> omega)) (by decide)) rfl rfl (fun a2 c2 w hS => ?_)
      replace hS : St g (Own 5 1 (by8 [(v : Int)]) (some ⟨b2, 0, none⟩) (List.length (by8 [(v : Int)])) :: Own 5 1 (by8 (xs ++ [(v : Int)])) a2 c2 :: L) w := hS
      refine WL.r 1 rfl ?_
      refine WL.nil ?_
      refine WC.ret ?_
      refine ⟨[.slice a2 (List.length (by8 (xs ++ [(v : Int)]))) c2], rfl, ?_⟩
      replace hS := (hS.sel 2 [1] rfl)
      rw [varint_lt hv2] at hv; rw [← hv] at hS ⊢; exact ⟨_, _, rfl, hS⟩

theorem uvarint {g w : World} {L : List HP} (bs : List Int) (a : Option Addr) (c : Nat) (p : Nat) (hp : p ≤ bs.length) (hl : bs.length ≤ 1000000000) (hb : B8 bs) (hS : St g (Sh 5 1 (by8 bs) a c :: L) w) :
    Sp Try.prog 70 [.slice a (List.length (by8 bs)) c, .int .i64 (p : Int)] w (fun v w' => v = .tuple #[.int .u64 (uv (bs.drop p)).1, .int .i64 (if (uv (bs.drop p)).2.2 = 0 then (p : Int) + (uv (bs.drop p)).2.1 else 0), .int .i64 (uv (bs.drop p)).2.2] ∧ St g (Sh 5 1 (by8 bs) a c :: L) w') := by
  refine Sp.enter Try.func70 rfl (by kernel_rfl) (by kernel_rfl) ?_
  have _ := hl
  have _ := hp
  refine WC.seq ?_
  refine WC.region ?_
  refine WL.r 3 rfl ?_
  refine WL.nil ?_
  refine WC.seq ?_
  refine WC.seq ?_
  refine WC.region ?_
  have hl1 := by8_len bs
  refine WL.r 2 rfl ?_
  refine WL.rG 6 rfl (fun j => ?_)
  refine WL.prop 17 rfl (bor (dd _) (dd _)) ?_
  refine WL.nil ?_
  refine WC.ifP rfl (fun cd1 => ?_) (fun cd1 => ?_)
  · refine WC.seq ?_
    refine WC.region ?_
    refine WL.r 3 rfl ?_
    refine WL.nil ?_
    refine WC.ret ?_
    refine ⟨[.int .u64 0, .int .i64 0, .int .i64 1], ⟨rfl, rfl, rfl⟩, ?_⟩
    exfalso; omega
  · refine WC.skip ?_
    refine WC.seq ?_
    refine WC.region ?_
    refine WL.r 1 rfl ?_
    refine WL.nil ?_
    refine WC.seq ?_
    refine WC.seq ?_
    refine WC.region ?_
    have hl2 := by8_len (bs.drop p); rw [List.length_drop] at hl2
    refine WL.r 2 rfl ?_
    refine WL.slLo rfl rfl (v := (p : Int)) 0 (p) (by8 (bs.drop p)) el_23 hS rfl rfl rfl (by omega) (by omega) (by8_drop _ _) (fun a1 hS => ?_)
    replace hS : St g (Sh 5 1 (by8 (bs.drop p)) a1 (c - p) :: Sh 5 1 (by8 bs) a c :: L) w := hS
    refine WL.r 2 rfl ?_
    refine WL.nil ?_
    as_aux_lemma =>
      refine WC.block ?_
      refine WC.loop [1, 7, 20, 21, 22] (fun kM vs w => ∃ (k : Nat) (u : Int), vs = [.int .i64 (p : Int), .int .u64 u, .slice a1 (List.length (by8 (bs.drop p))) (c - p), .int .i64 (List.length (by8 (bs.drop p)) : Int), .int .i64 (k : Int)] ∧ St g (Sh 5 1 (by8 (bs.drop p)) a1 (c - p) :: Sh 5 1 (by8 bs) a c :: L) w ∧ (k ≤ bs.length - p) ∧ (UvB k u) ∧ (uv (bs.drop p) = uvGo k u (bs.drop (p + k))) ∧ (bs.length - p - k) = kM) ((List.length bs) - p - 0) ⟨0, 0, rfl, hS, (by omega), (UvB.start), (rfl), rfl⟩ ?_
      clear hS; rintro _ _ w j ⟨k, u, rfl, hS, hk, hu, he, rfl⟩
      refine WC.seq ?_
      refine WC.region ?_
      have hl2 := by8_len (bs.drop p); rw [List.length_drop] at hl2
      refine WL.r 1 rfl ?_
      refine WL.nil ?_
      refine WC.seq ?_
      refine WC.ifP rfl (fun cd2 => ?_) (fun cd2 => ?_)
      · refine WC.skip ?_
        refine WC.seq ?_
        refine WC.block ?_
        refine WC.seq ?_
        refine WC.region ?_
        refine WL.r 1 rfl ?_
        obtain ⟨x, hx⟩ : ∃ x, (bs.drop p)[k]? = some x := ⟨_, List.getElem?_eq_getElem (by rw [List.length_drop]; omega)⟩
        refine WL.ix rfl rfl (i := (k : Int)) (k) el_23 rfl rfl (by omega) (len_of (by8_at hx)) (hS.rdS 0 rfl (by8_at hx)).1 ?_
        refine WL.run 3 [.int .u8 x] rfl (by exact (hS.rdS 0 rfl (by8_at hx)).2 0 _ rfl) ?_
        refine WL.nil ?_
        refine WC.seq ?_
        refine WC.seq ?_
        refine WC.region ?_
        have hx8 := hb x (List.mem_of_mem_drop (List.mem_of_getElem? hx)); have hk9 := hu.1
        have hdr : bs.drop (p + k) = x :: bs.drop (p + (k + 1)) := by rw [← List.drop_drop, List.drop_eq_getElem_cons (by rw [List.length_drop]; omega), List.drop_drop]; congr 1; exact (List.getElem?_eq_some_iff.1 hx).2
        rw [hdr] at he
        refine WL.r 2 rfl ?_
        refine WL.rG 12 rfl (fun j => ?_)
        refine WL.prop 40 rfl (bor (band (dd _) (dd _)) (band (dd _) (dd _))) ?_
        refine WL.nil ?_
        as_aux_lemma =>
          refine WC.ifP rfl (fun cd3 => ?_) (fun cd3 => ?_)
          · refine WC.seq ?_
            refine WC.region ?_
            refine WL.r 3 rfl ?_
            refine WL.nil ?_
            refine WC.ret ?_
            refine ⟨[.int .u64 0, .int .i64 0, .int .i64 13], ⟨rfl, rfl, rfl⟩, ?_⟩
            replace hS := (hS.sel 2 [1] rfl)
            have q4 : (k = 9 ∧ 1 < x) ∨ (0 < k ∧ x = 0) := by omega
            rw [uvGo_bad q4] at he; rw [he]; exact ⟨rfl, hS⟩
          · refine WC.skip ?_
            refine WC.seq ?_
            refine WC.region ?_
            have q4 : ¬ ((k = 9 ∧ 1 < x) ∨ (0 < k ∧ x = 0)) := by omega
            refine WL.r 3 rfl ?_
            refine WL.reb 43 (.int .u8 (x % 128)) (congrArg (Value.int .u8) (by exact and127 hx8.1 hx8.2)) ?_
            refine WL.r 1 rfl ?_
            refine WL.nw 44 rfl (wu64 (by omega)) ?_
            refine WL.r 2 rfl ?_
            refine WL.nw 46 rfl (wu64 (by omega)) ?_
            refine WL.r 1 rfl ?_
            refine WL.nw 47 rfl (wu64 (by omega)) ?_
            refine WL.shl rfl rfl (b := 7 * (k : Int)) (7 * k) rfl rfl (by omega) ?_
            refine WL.r 1 rfl ?_
            refine WL.reb 49 (.int .u64 (u + x % 128 * 128 ^ k)) (congrArg (Value.int .u64) (by exact uv_step hu q4 hx8.1 hx8.2)) ?_
            refine WL.r 1 rfl ?_
            refine WL.nil ?_
            refine WC.seq ?_
            refine WC.region ?_
            refine WL.r 2 rfl ?_
            refine WL.nil ?_
            refine WC.ifP rfl (fun cd4 => ?_) (fun cd4 => ?_)
            · refine WC.seq ?_
              refine WC.region ?_
              refine WL.r 4 rfl ?_
              refine WL.nw 55 rfl (w64 (by omega)) ?_
              refine WL.r 1 rfl ?_
              refine WL.nw 56 rfl (w64 (by omega)) ?_
              refine WL.r 3 rfl ?_
              refine WL.nil ?_
              as_aux_lemma =>
                refine WC.ret ?_
                refine ⟨[.int .u64 (u + x % 128 * 128 ^ k), .int .i64 (((p : Int) + (k : Int)) + 1), .int .i64 0], ⟨rfl, rfl, rfl⟩, ?_⟩
                replace hS := (hS.sel 2 [1] rfl)
                rw [uvGo_end q4 (by omega)] at he; rw [he]; refine ⟨?_, hS⟩
                rw [show x % 128 = x by omega]; simp only [if_true]; congr 3
            · refine WC.skip ?_
              refine WC.region ?_
              refine WL.r 1 rfl ?_
              refine WL.nw 57 rfl (w64 (by omega)) ?_
              refine WL.r 1 rfl ?_
              refine WL.nil ?_
              exact ⟨_, by omega, k + 1, u + x % 128 * 128 ^ k, rfl, hS, (by omega), (by rw [show x % 128 = x - 128 by omega]; exact hu.next q4 (by omega) hx8.2), (by rw [he, uvGo_go q4 (by omega), show x % 128 = x - 128 by omega]), rfl⟩
      · refine WC.exit ?_
        refine WC.seq ?_
        refine WC.region ?_
        refine WL.r 3 rfl ?_
        refine WL.nil ?_
        refine WC.ret ?_
        refine ⟨[.int .u64 0, .int .i64 0, .int .i64 12], ⟨rfl, rfl, rfl⟩, ?_⟩
        replace hS := (hS.sel 2 [1] rfl)
        have e0 : bs.drop (p + k) = [] := List.drop_eq_nil_of_le (by omega)
        rw [e0, uvGo_nil] at he; rw [he]; exact ⟨rfl, hS⟩
end Go.Proofs.Ytofnoopjlmdelaa
