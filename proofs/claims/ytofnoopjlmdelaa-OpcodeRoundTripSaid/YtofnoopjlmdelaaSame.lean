/-
  Lists compared.
  Conditions: sizes below a bound that the laws meet.
-/
import Derived.Test.YtofnoopjlmdelaaTypes
import Derived.Test.YtofnoopjlmdelaaOpx
namespace Go.Proofs.Ytofnoopjlmdelaa
open Go Go.V


theorem same9 {g w : World} {L : List HP} (xs ys : List (Int × Int)) (a b : Option Addr) (c d : Nat) (hl : xs.length ≤ 1000000000) (hS : St g (Sh 40 2 (en2 xs) a c :: Sh 40 2 (en2 ys) b d :: L) w) :
    Sp Try.prog 56 [.slice a (List.length (en2 xs)) c, .slice b (List.length (en2 ys)) d] w (fun v w' => ∃ (ok : Bool), v = .bool ok ∧ St g (Sh 40 2 (en2 xs) a c :: Sh 40 2 (en2 ys) b d :: L) w' ∧ (ok = true ↔ xs = ys)) := by
  refine Sp.enter Try.func56 rfl (by kernel_rfl) (by kernel_rfl) ?_
  have _ := hl
  refine WC.seq ?_
  refine WC.region ?_
  refine WL.r 1 rfl ?_
  refine WL.nil ?_
  refine WC.seq ?_
  refine WC.seq ?_
  refine WC.region ?_
  have h1 := en2_len xs; have h2 := en2_len ys
  refine WL.r 5 rfl ?_
  refine WL.nil ?_
  refine WC.ifP rfl (fun cd1 => ?_) (fun cd1 => ?_)
  · refine WC.seq ?_
    refine WC.region ?_
    refine WL.r 1 rfl ?_
    refine WL.nil ?_
    refine WC.ret ?_
    refine ⟨[.bool false], rfl, ?_⟩
    exact ⟨_, rfl, hS, ⟨fun h => (by cases h), fun h => by rw [h1, h2, h] at cd1; exact absurd rfl cd1⟩⟩
  · refine WC.skip ?_
    refine WC.seq ?_
    refine WC.seq ?_
    refine WC.region ?_
    refine WL.r 1 rfl ?_
    refine WL.nil ?_
    refine WC.block ?_
    refine WC.loop [0, 1, 5] (fun kM vs w => ∃ (k : Nat), vs = [.slice a (List.length (en2 xs)) c, .slice b (List.length (en2 ys)) d, .int .i64 (k : Int)] ∧ St g (Sh 40 2 (en2 xs) a c :: Sh 40 2 (en2 ys) b d :: L) w ∧ (k ≤ xs.length) ∧ (xs.take k = ys.take k) ∧ (xs.length - k) = kM) ((List.length xs) - 0) ⟨0, rfl, hS, (Nat.zero_le _), (rfl), rfl⟩ ?_
    clear hS; rintro _ _ w j ⟨k, rfl, hS, hk, he, rfl⟩
    refine WC.seq ?_
    refine WC.seq ?_
    refine WC.region ?_
    refine WL.r 4 rfl ?_
    refine WL.nil ?_
    as_aux_lemma =>
      refine WC.ifP rfl (fun cd2 => ?_) (fun cd2 => ?_)
      · refine WC.skip ?_
        refine WC.seq ?_
        refine WC.block ?_
        refine WC.seq ?_
        refine WC.plan [([0, 1, 4, 5, 2, 6, 3, 7, 8], none)] (by kernel_rfl) (by kernel_rfl) ?_
        refine WQ.r 4 rfl ?_
        obtain ⟨x, hx⟩ : ∃ x, xs[k]? = some x := ⟨_, List.getElem?_eq_getElem (by omega)⟩
        refine WQ.ix rfl rfl (i := (k : Int)) (k) el_24 rfl rfl (by omega) (len_of (en2_at hx)) (hS.rdS 0 rfl (en2_at hx)).1 ?_
        obtain ⟨y, hy⟩ : ∃ y, ys[k]? = some y := ⟨_, List.getElem?_eq_getElem (by omega)⟩
        refine WQ.ix rfl rfl (i := (k : Int)) (k) el_24 rfl rfl (by omega) (len_of (en2_at hy)) (hS.rdS 1 rfl (en2_at hy)).1 ?_
        refine WQ.ldC rfl rfl [.int .i64 x.1, .int .i64 x.2] ag_40 rfl (hS.rdS 0 rfl (en2_at hx)).2 ?_
        refine WQ.ldC rfl rfl [.int .i64 y.1, .int .i64 y.2] ag_40 rfl (hS.rdS 1 rfl (en2_at hy)).2 ?_
        refine WQ.neS rfl rfl eq_40 (xs := [.int .i64 x.1, .int .i64 x.2]) (ys := [.int .i64 y.1, .int .i64 y.2]) rfl rfl rfl rfl ?_
        refine WQ.prop 25 rfl (bnot (band (dd _) (dd _))) ?_
        refine WQ.nil ?_
        intro m1
        replace hS := hS.drewN m1; generalize hwm1 : World.drewN _ _ = w at *; clear hwm1
        refine WC.ifP rfl (fun cd3 => ?_) (fun cd3 => ?_)
        · refine WC.seq ?_
          refine WC.region ?_
          refine WL.r 1 rfl ?_
          refine WL.nil ?_
          refine WC.ret ?_
          refine ⟨[.bool false], rfl, ?_⟩
          exact ⟨_, rfl, hS, ⟨fun h => (by cases h), fun h => by subst h; rw [hx] at hy; cases hy; exact absurd ⟨rfl, rfl⟩ cd3⟩⟩
        · refine WC.skip ?_
          refine WC.region ?_
          refine WL.r 2 rfl ?_
          refine WL.nw 16 rfl (w64 (by omega)) ?_
          refine WL.r 1 rfl ?_
          refine WL.nil ?_
          exact ⟨_, by omega, k + 1, rfl, hS, (by omega), (by rw [List.take_add_one, List.take_add_one, he, hx, hy, Prod.ext (Classical.not_not.1 cd3).1 (Classical.not_not.1 cd3).2]), rfl⟩
      · refine WC.exit ?_
        refine WC.seq ?_
        refine WC.region ?_
        refine WL.r 1 rfl ?_
        refine WL.nil ?_
        refine WC.ret ?_
        refine ⟨[.bool true], rfl, ?_⟩
        exact ⟨_, rfl, hS, ⟨fun _ => by rw [← List.take_of_length_le (i := k) (l := xs) (by omega), he, List.take_of_length_le (by omega)], fun _ => rfl⟩⟩

theorem same19 {g w : World} {L : List HP} (xs ys : List (Int × Int × Int × Int)) (a b : Option Addr) (c d : Nat) (hl : xs.length ≤ 1000000000) (hS : St g (Sh 63 4 (ch4 xs) a c :: Sh 63 4 (ch4 ys) b d :: L) w) :
    Sp Try.prog 57 [.slice a (List.length (ch4 xs)) c, .slice b (List.length (ch4 ys)) d] w (fun v w' => ∃ (ok : Bool), v = .bool ok ∧ St g (Sh 63 4 (ch4 xs) a c :: Sh 63 4 (ch4 ys) b d :: L) w' ∧ (ok = true ↔ xs = ys)) := by
  refine Sp.enter Try.func57 rfl (by kernel_rfl) (by kernel_rfl) ?_
  have _ := hl
  refine WC.seq ?_
  refine WC.region ?_
  refine WL.r 1 rfl ?_
  refine WL.nil ?_
  refine WC.seq ?_
  refine WC.seq ?_
  refine WC.region ?_
  have h1 := ch4_len xs; have h2 := ch4_len ys
  refine WL.r 5 rfl ?_
  refine WL.nil ?_
  refine WC.ifP rfl (fun cd1 => ?_) (fun cd1 => ?_)
  · refine WC.seq ?_
    refine WC.region ?_
    refine WL.r 1 rfl ?_
    refine WL.nil ?_
    refine WC.ret ?_
    refine ⟨[.bool false], rfl, ?_⟩
    exact ⟨_, rfl, hS, ⟨fun h => (by cases h), fun h => by rw [h1, h2, h] at cd1; exact absurd rfl cd1⟩⟩
  · refine WC.skip ?_
    refine WC.seq ?_
    refine WC.seq ?_
    refine WC.region ?_
    have hq : ∀ (x y : Int × Int × Int × Int), (x.1 = y.1 ∧ x.2.1 = y.2.1 ∧ x.2.2.1 = y.2.2.1 ∧ x.2.2.2 = y.2.2.2) → x = y := fun x y h => Prod.ext h.1 (Prod.ext h.2.1 (Prod.ext h.2.2.1 h.2.2.2))
    refine WL.r 1 rfl ?_
    refine WL.nil ?_
    refine WC.block ?_
    refine WC.loop [0, 1, 5] (fun kM vs w => ∃ (k : Nat), vs = [.slice a (List.length (ch4 xs)) c, .slice b (List.length (ch4 ys)) d, .int .i64 (k : Int)] ∧ St g (Sh 63 4 (ch4 xs) a c :: Sh 63 4 (ch4 ys) b d :: L) w ∧ (k ≤ xs.length) ∧ (xs.take k = ys.take k) ∧ (xs.length - k) = kM) ((List.length xs) - 0) ⟨0, rfl, hS, (Nat.zero_le _), (rfl), rfl⟩ ?_
    clear hS; rintro _ _ w j ⟨k, rfl, hS, hk, he, rfl⟩
    refine WC.seq ?_
    refine WC.seq ?_
    refine WC.region ?_
    have hq : ∀ (x y : Int × Int × Int × Int), (x.1 = y.1 ∧ x.2.1 = y.2.1 ∧ x.2.2.1 = y.2.2.1 ∧ x.2.2.2 = y.2.2.2) → x = y := fun x y h => Prod.ext h.1 (Prod.ext h.2.1 (Prod.ext h.2.2.1 h.2.2.2))
    refine WL.r 4 rfl ?_
    refine WL.nil ?_
    as_aux_lemma =>
      refine WC.ifP rfl (fun cd2 => ?_) (fun cd2 => ?_)
      · refine WC.skip ?_
        refine WC.seq ?_
        refine WC.block ?_
        refine WC.seq ?_
        refine WC.plan [([0, 1, 4, 5, 2, 6, 3, 7, 8], none)] (by kernel_rfl) (by kernel_rfl) ?_
        refine WQ.r 4 rfl ?_
        obtain ⟨x, hx⟩ : ∃ x, xs[k]? = some x := ⟨_, List.getElem?_eq_getElem (by omega)⟩
        refine WQ.ix rfl rfl (i := (k : Int)) (k) el_25 rfl rfl (by omega) (len_of (ch4_at hx)) (hS.rdS 0 rfl (ch4_at hx)).1 ?_
        obtain ⟨y, hy⟩ : ∃ y, ys[k]? = some y := ⟨_, List.getElem?_eq_getElem (by omega)⟩
        refine WQ.ix rfl rfl (i := (k : Int)) (k) el_25 rfl rfl (by omega) (len_of (ch4_at hy)) (hS.rdS 1 rfl (ch4_at hy)).1 ?_
        refine WQ.ldC rfl rfl [.int .i64 x.1, .int .i64 x.2.1, .int .i64 x.2.2.1, .int .i64 x.2.2.2] ag_63 rfl (hS.rdS 0 rfl (ch4_at hx)).2 ?_
        refine WQ.ldC rfl rfl [.int .i64 y.1, .int .i64 y.2.1, .int .i64 y.2.2.1, .int .i64 y.2.2.2] ag_63 rfl (hS.rdS 1 rfl (ch4_at hy)).2 ?_
        refine WQ.neS rfl rfl eq_63 (xs := [.int .i64 x.1, .int .i64 x.2.1, .int .i64 x.2.2.1, .int .i64 x.2.2.2]) (ys := [.int .i64 y.1, .int .i64 y.2.1, .int .i64 y.2.2.1, .int .i64 y.2.2.2]) rfl rfl rfl rfl ?_
        refine WQ.prop 25 rfl (bnot (band (dd _) (band (dd _) (band (dd _) (dd _))))) ?_
        refine WQ.nil ?_
        intro m1
        replace hS := hS.drewN m1; generalize hwm1 : World.drewN _ _ = w at *; clear hwm1
        refine WC.ifP rfl (fun cd3 => ?_) (fun cd3 => ?_)
        · refine WC.seq ?_
          refine WC.region ?_
          refine WL.r 1 rfl ?_
          refine WL.nil ?_
          refine WC.ret ?_
          refine ⟨[.bool false], rfl, ?_⟩
          exact ⟨_, rfl, hS, ⟨fun h => (by cases h), fun h => by subst h; rw [hx] at hy; cases hy; exact absurd ⟨rfl, rfl, rfl, rfl⟩ cd3⟩⟩
        · refine WC.skip ?_
          refine WC.region ?_
          refine WL.r 2 rfl ?_
          refine WL.nw 16 rfl (w64 (by omega)) ?_
          refine WL.r 1 rfl ?_
          refine WL.nil ?_
          exact ⟨_, by omega, k + 1, rfl, hS, (by omega), (by rw [List.take_add_one, List.take_add_one, he, hx, hy, hq _ _ (Classical.not_not.1 cd3)]), rfl⟩
      · refine WC.exit ?_
        refine WC.seq ?_
        refine WC.region ?_
        refine WL.r 1 rfl ?_
        refine WL.nil ?_
        refine WC.ret ?_
        refine ⟨[.bool true], rfl, ?_⟩
        exact ⟨_, rfl, hS, ⟨fun _ => by rw [← List.take_of_length_le (i := k) (l := xs) (by omega), he, List.take_of_length_le (by omega)], fun _ => rfl⟩⟩

theorem sameB {g w : World} {L : List HP} (xs ys : List Int) (a b : Option Addr) (c d : Nat) (hl : xs.length ≤ 1000000000) (hS : St g (Sh 5 1 (by8 xs) a c :: Sh 5 1 (by8 ys) b d :: L) w) :
    Sp Try.prog 15 [.slice a (List.length (by8 xs)) c, .slice b (List.length (by8 ys)) d] w (fun v w' => ∃ (ok : Bool), v = .bool ok ∧ St g (Sh 5 1 (by8 xs) a c :: Sh 5 1 (by8 ys) b d :: L) w' ∧ (ok = true ↔ xs = ys)) := by
  refine Sp.enter Try.func15 rfl (by kernel_rfl) (by kernel_rfl) ?_
  have _ := hl
  refine WC.seq ?_
  refine WC.region ?_
  refine WL.r 1 rfl ?_
  refine WL.nil ?_
  refine WC.seq ?_
  refine WC.seq ?_
  refine WC.region ?_
  have h1 := by8_len xs; have h2 := by8_len ys
  refine WL.r 5 rfl ?_
  refine WL.nil ?_
  refine WC.ifP rfl (fun cd1 => ?_) (fun cd1 => ?_)
  · refine WC.seq ?_
    refine WC.region ?_
    refine WL.r 1 rfl ?_
    refine WL.nil ?_
    refine WC.ret ?_
    refine ⟨[.bool false], rfl, ?_⟩
    exact ⟨_, rfl, hS, ⟨fun h => (by cases h), fun h => by rw [h1, h2, h] at cd1; exact absurd rfl cd1⟩⟩
  · refine WC.skip ?_
    refine WC.seq ?_
    refine WC.seq ?_
    refine WC.region ?_
    refine WL.r 1 rfl ?_
    refine WL.nil ?_
    refine WC.block ?_
    refine WC.loop [0, 1, 5] (fun kM vs w => ∃ (k : Nat), vs = [.slice a (List.length (by8 xs)) c, .slice b (List.length (by8 ys)) d, .int .i64 (k : Int)] ∧ St g (Sh 5 1 (by8 xs) a c :: Sh 5 1 (by8 ys) b d :: L) w ∧ (k ≤ xs.length) ∧ (xs.take k = ys.take k) ∧ (xs.length - k) = kM) ((List.length xs) - 0) ⟨0, rfl, hS, (Nat.zero_le _), (rfl), rfl⟩ ?_
    clear hS; rintro _ _ w j ⟨k, rfl, hS, hk, he, rfl⟩
    refine WC.seq ?_
    refine WC.seq ?_
    refine WC.region ?_
    refine WL.r 4 rfl ?_
    refine WL.nil ?_
    as_aux_lemma =>
      refine WC.ifP rfl (fun cd2 => ?_) (fun cd2 => ?_)
      · refine WC.skip ?_
        refine WC.seq ?_
        refine WC.block ?_
        refine WC.seq ?_
        refine WC.plan [([0, 1, 4, 5, 2, 6, 3, 7, 8], none)] (by kernel_rfl) (by kernel_rfl) ?_
        refine WQ.r 4 rfl ?_
        obtain ⟨x, hx⟩ : ∃ x, xs[k]? = some x := ⟨_, List.getElem?_eq_getElem (by omega)⟩
        refine WQ.ix rfl rfl (i := (k : Int)) (k) el_23 rfl rfl (by omega) (len_of (by8_at hx)) (hS.rdS 0 rfl (by8_at hx)).1 ?_
        obtain ⟨y, hy⟩ : ∃ y, ys[k]? = some y := ⟨_, List.getElem?_eq_getElem (by omega)⟩
        refine WQ.ix rfl rfl (i := (k : Int)) (k) el_23 rfl rfl (by omega) (len_of (by8_at hy)) (hS.rdS 1 rfl (by8_at hy)).1 ?_
        refine WQ.run 3 [.int .u8 x, .int .u8 y] rfl (by exact ⟨(hS.rdS 0 rfl (by8_at hx)).2 0 _ rfl, (hS.rdS 1 rfl (by8_at hy)).2 0 _ rfl⟩) ?_
        refine WQ.nil ?_
        intro m1
        replace hS := hS.drewN m1; generalize hwm1 : World.drewN _ _ = w at *; clear hwm1
        refine WC.ifP rfl (fun cd3 => ?_) (fun cd3 => ?_)
        · refine WC.seq ?_
          refine WC.region ?_
          refine WL.r 1 rfl ?_
          refine WL.nil ?_
          refine WC.ret ?_
          refine ⟨[.bool false], rfl, ?_⟩
          exact ⟨_, rfl, hS, ⟨fun h => (by cases h), fun h => by subst h; rw [hx] at hy; cases hy; exact absurd rfl cd3⟩⟩
        · refine WC.skip ?_
          refine WC.region ?_
          refine WL.r 2 rfl ?_
          refine WL.nw 16 rfl (w64 (by omega)) ?_
          refine WL.r 1 rfl ?_
          refine WL.nil ?_
          exact ⟨_, by omega, k + 1, rfl, hS, (by omega), (by rw [List.take_add_one, List.take_add_one, he, hx, hy, Classical.not_not.1 cd3]), rfl⟩
      · refine WC.exit ?_
        refine WC.seq ?_
        refine WC.region ?_
        refine WL.r 1 rfl ?_
        refine WL.nil ?_
        refine WC.ret ?_
        refine ⟨[.bool true], rfl, ?_⟩
        exact ⟨_, rfl, hS, ⟨fun _ => by rw [← List.take_of_length_le (i := k) (l := xs) (by omega), he, List.take_of_length_le (by omega)], fun _ => rfl⟩⟩

theorem mod_spec {g w : World} {L : List HP} (k n : Int) (hk : I64 k) (hn : 0 < n ∧ n ≤ 4611686018427387904) (hS : St g (L) w) :
    Sp Try.prog 20 [.int .i64 k, .int .i64 n] w (fun v w' => v = .int .i64 (k % n) ∧ St g (L) w') := by
  refine Sp.enter Try.func20 rfl (by kernel_rfl) (by kernel_rfl) ?_
  have _ := hk
  refine WC.seq ?_
  refine WC.region ?_
  refine WL.r 1 rfl ?_
  refine WL.nil ?_
  refine WC.seq ?_
  refine WC.region ?_
  obtain ⟨m, rfl⟩ : ∃ m : Nat, n = Int.ofNat (m + 1) := ⟨n.toNat - 1, by simp; omega⟩; have htm := tm_lt (k := k) (n := Int.ofNat (m + 1)) hn.1
  refine WL.r 3 rfl ?_
  refine WL.r 1 rfl ?_
  refine WL.nil ?_
  refine WC.seq ?_
  refine WC.seq ?_
  refine WC.region ?_
  refine WL.r 2 rfl ?_
  refine WL.nil ?_
  refine WC.ifP rfl (fun cd1 => ?_) (fun cd1 => ?_)
  · refine WC.region ?_
    refine WL.r 3 rfl ?_
    refine WL.nw 13 rfl (w64 (by omega)) ?_
    refine WL.r 1 rfl ?_
    refine WL.nil ?_
    refine WC.seq ?_
    refine WC.region ?_
    refine WL.r 2 rfl ?_
    refine WL.nil ?_
    as_aux_lemma =>
      refine WC.ret ?_
      refine ⟨[.int .i64 ((Int.tmod k (Int.ofNat (m + 1))) + (Int.ofNat (m + 1)))], rfl, ?_⟩
      rw [tm_neg hn.1 cd1]; exact ⟨rfl, hS⟩
  · refine WC.skip ?_
    refine WC.seq ?_
    refine WC.region ?_
    refine WL.r 2 rfl ?_
    refine WL.nil ?_
    refine WC.ret ?_
    refine ⟨[.int .i64 (Int.tmod k (Int.ofNat (m + 1)))], rfl, ?_⟩
    rw [tm_pos hn.1 cd1]; exact ⟨rfl, hS⟩
end Go.Proofs.Ytofnoopjlmdelaa
