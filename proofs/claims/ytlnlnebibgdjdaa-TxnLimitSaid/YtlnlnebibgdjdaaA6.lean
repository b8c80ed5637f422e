/-
  The graph: Add and Release as the laws use them; small helpers; the example of the chapter.
  Conditions: the graph is one.
-/
import Derived.Test.YtlnlnebibgdjdaaA5
import Derived.Test.YtlnlnebibgdjdaaAga
namespace Go.Proofs.Ytlnlnebibgdjdaa
open Go Go.V Go.RowKit

theorem mod_spec {g w : World} {L : List HP} (k n : Int) (hk : -9223372036854775808 ≤ k ∧ k ≤ 9223372036854775807) (hn : 0 < n ∧ n ≤ 4611686018427387904) (hS : St g (L) w) :
    Sp Try.prog 10 [.int .i64 k, .int .i64 n] w (fun v w' => v = .int .i64 (k % n) ∧ St g (L) w') := by
  refine Sp.enter Try.func10 rfl (by kernel_rfl) (by kernel_rfl) ?_
  have _ := hk
  refine WC.seq ?_
  refine WC.region ?_
  refine WL.r 1 rfl ?_
  refine WL.nil ?_
  refine WC.seq ?_
  refine WC.region ?_
  obtain ⟨m, rfl⟩ : ∃ m : Nat, n = Int.ofNat (m + 1) := ⟨n.toNat - 1, by simp; omega⟩; have htm := tm_lt (k := k) (n := Int.ofNat (m + 1)) hn.1
  refine WL.r 3 rfl ?_
  refine WL.r 1 rfl ?_
  refine WL.nil ?_
  refine WC.seq ?_
  refine WC.seq ?_
  refine WC.region ?_
  refine WL.r 2 rfl ?_
  refine WL.nil ?_
  refine WC.ifP rfl (fun cd1 => ?_) (fun cd1 => ?_)
  · refine WC.region ?_
    refine WL.r 3 rfl ?_
    refine WL.nw 13 rfl (w64 (by omega)) ?_
    refine WL.r 1 rfl ?_
    refine WL.nil ?_
    refine WC.seq ?_
    refine WC.region ?_
    refine WL.r 2 rfl ?_
    refine WL.nil ?_
    as_aux_lemma =>
      refine WC.ret ?_
      refine ⟨[.int .i64 ((Int.tmod k (Int.ofNat (m + 1))) + (Int.ofNat (m + 1)))], rfl, ?_⟩
      rw [tm_neg hn.1 cd1]; exact ⟨rfl, hS⟩
  · refine WC.skip ?_
    refine WC.seq ?_
    refine WC.region ?_
    refine WL.r 2 rfl ?_
    refine WL.nil ?_
    refine WC.ret ?_
    refine ⟨[.int .i64 (Int.tmod k (Int.ofNat (m + 1)))], rfl, ?_⟩
    rw [tm_pos hn.1 cd1]; exact ⟨rfl, hS⟩
theorem add_spec {g w : World} {L : List HP} (p m : Nat) (cap last : Int) (xs : List VN) (q : Nat) (ps : List Int) (a : Option Addr) (c : Nat) (hI : GI xs q cap last) (hla : last < 1000000000) (hS : St g (Sh 3 1 (i64s ps) a c :: cel p #[.int .i64 cap, .int .i64 last, .map (some m)] 161 :: blk m (.map (mE (List.map vK xs)) q) :: Shs vF xs :: L) w) :
    Sp Try.prog 60 [.pointer (some ⟨p, 0, none⟩), .slice a (List.length (i64s ps)) c] w (fun v w' => ∃ (xs2 : List VN) (q2 : Nat) (last2 : Int), v = .tuple #[.int .i64 (addV xs cap last ps), .int .i64 (addE xs cap ps)] ∧ St g (Sh 3 1 (i64s ps) a c :: cel p #[.int .i64 cap, .int .i64 last2, .map (some m)] 161 :: blk m (.map (mE (List.map vK xs2)) q2) :: Shs vF xs2 :: L) w' ∧ (GI xs2 q2 cap last2) ∧ (AddP xs cap last ps xs2 last2)) := by
  by_cases h1 : okPs ps
  · by_cases h2 : ∀ z ∈ ps, liveG xs z = true
    · by_cases h3 : cap ≤ xs.length
      · have he : addE xs cap ps = 2 := by unfold addE; rw [if_neg (fun h => h h1), if_neg (fun h => h h2), if_pos h3]
        rw [addV, he, if_neg (by decide)]
        exact (add_full p m cap last xs q ps a c hI.ok.uniq h1 h2 h3 hS).mono fun v w' ⟨hv, hS'⟩ => ⟨xs, q, last, hv, hS', hI, .inl ⟨by rw [he]; decide, rfl, rfl⟩⟩
      · have he : addE xs cap ps = 0 := addE_ok h1 h2 h3
        rw [addV, he, if_pos rfl]
        have hcp := hI.cp
        refine (add_ok p m cap last xs q ps a c hI.ok h1 h2 (by omega) (by omega) ⟨hI.la, hla⟩ hI.le hS).mono fun v w' ⟨vn, hv, hS', ⟨e1, e2, e3⟩, e4, e5⟩ => ⟨xs ++ [vn], q + 1, last + 1, hv, hS', ⟨?_, fun x hx => ?_, by have := hI.la; omega, hcp⟩, .inr ⟨he, rfl, vn, rfl, e1, e2, e4, e5⟩⟩
        · have hla0 := hI.la
          exact hI.ok.add (ps := ps) (fun x hx => by have := hI.le x hx; omega) (by omega) e3 (by omega) e4 (by rw [e1]; exact e5)
        · rcases List.mem_append.1 hx with hx | hx
          · have := hI.le x hx; omega
          · rw [List.mem_singleton.1 hx, e1]; exact Int.le_refl _
    · have he : addE xs cap ps = 4 := by unfold addE; rw [if_neg (fun h => h h1), if_pos h2]
      rw [addV, he, if_neg (by decide)]
      obtain ⟨i, b, hi, hb, hlt⟩ := first_dead h2
      exact (add_nf p m cap last xs q ps a c i b hI.ok.uniq h1 hi hb hlt hS).mono fun v w' ⟨hv, hS'⟩ => ⟨xs, q, last, hv, hS', hI, .inl ⟨by rw [he]; decide, rfl, rfl⟩⟩
  · have he : addE xs cap ps = 1 := by unfold addE; rw [if_pos h1]
    rw [addV, he, if_neg (by decide)]
    rcases okPs_no h1 with h2 | ⟨x, rfl⟩
    · exact (add_inv1 p m cap last xs q ps a c h2 hS).mono fun v w' ⟨hv, hS'⟩ => ⟨xs, q, last, hv, hS', hI, .inl ⟨by rw [he]; decide, rfl, rfl⟩⟩
    · exact (add_inv2 p m cap last xs q x a c hS).mono fun v w' ⟨hv, hS'⟩ => ⟨xs, q, last, hv, hS', hI, .inl ⟨by rw [he]; decide, rfl, rfl⟩⟩
theorem rel_spec {g w : World} {L : List HP} (p m : Nat) (cap last : Int) (xs : List VN) (q : Nat) (n : Int) (hI : GI xs q cap last) (hS : St g (cel p #[.int .i64 cap, .int .i64 last, .map (some m)] 161 :: blk m (.map (mE (List.map vK xs)) q) :: Shs vF xs :: L) w) :
    Sp Try.prog 66 [.pointer (some ⟨p, 0, none⟩), .int .i64 n] w (fun v w' => ∃ (xs2 : List VN), v = .int .i64 (relE xs n) ∧ St g (cel p #[.int .i64 cap, .int .i64 last, .map (some m)] 161 :: blk m (.map (mE (List.map vK xs2)) q) :: Shs vF xs2 :: L) w' ∧ (GI xs2 q cap last) ∧ (RelQ xs n xs2)) := by
  cases hl : liveG xs n with
  | false =>
    rw [relE, if_neg (by rw [hl]; decide)]
    exact (rel_nf p m cap last xs q n hI.ok.uniq hl hS).mono fun v w' ⟨hv, hS'⟩ => ⟨xs, hv, hS', hI, .inr ⟨hl, rfl⟩⟩
  | true =>
    rw [relE, if_pos hl]
    obtain ⟨k, x, hk, rfl, hx, _⟩ := live_ix hl
    refine (rel_ok p m cap last xs q k x hI.ok hk hx hS).mono fun v w' ⟨xs2, hv, hS', hG2, hR⟩ => ⟨xs2, hv, hS', ⟨hG2, hR.le hG2.uniq hI.le, hI.la, hI.cp⟩, .inl ⟨hl, hR⟩⟩
theorem sameI {g w : World} {L : List HP} (xs ys : List Int) (a b : Option Addr) (c d : Nat) (hl : xs.length ≤ 1000000000) (hS : St g (Sh 3 1 (i64s xs) a c :: Sh 3 1 (i64s ys) b d :: L) w) :
    Sp Try.prog 47 [.slice a (List.length (i64s xs)) c, .slice b (List.length (i64s ys)) d] w (fun v w' => ∃ (ok : Bool), v = .bool ok ∧ St g (Sh 3 1 (i64s xs) a c :: Sh 3 1 (i64s ys) b d :: L) w' ∧ (ok = true ↔ xs = ys)) := by
  refine Sp.enter Try.func47 rfl (by kernel_rfl) (by kernel_rfl) ?_
  have _ := hl
  refine WC.seq ?_
  refine WC.region ?_
  refine WL.r 1 rfl ?_
  refine WL.nil ?_
  refine WC.seq ?_
  refine WC.seq ?_
  refine WC.region ?_
  have h1 := i64s_len xs; have h2 := i64s_len ys
  refine WL.r 5 rfl ?_
  refine WL.nil ?_
  refine WC.ifP rfl (fun cd1 => ?_) (fun cd1 => ?_)
  · refine WC.seq ?_
    refine WC.region ?_
    refine WL.r 1 rfl ?_
    refine WL.nil ?_
    refine WC.ret ?_
    refine ⟨[.bool false], rfl, ?_⟩
    exact ⟨_, rfl, hS, ⟨fun h => (by cases h), fun h => by rw [h1, h2, h] at cd1; exact absurd rfl cd1⟩⟩
  · refine WC.skip ?_
    refine WC.seq ?_
    refine WC.seq ?_
    refine WC.region ?_
    refine WL.r 1 rfl ?_
    refine WL.nil ?_
    refine WC.block ?_
    refine WC.loop [0, 1, 5] (fun kM vs w => ∃ (k : Nat), vs = [.slice a (List.length (i64s xs)) c, .slice b (List.length (i64s ys)) d, .int .i64 (k : Int)] ∧ St g (Sh 3 1 (i64s xs) a c :: Sh 3 1 (i64s ys) b d :: L) w ∧ (k ≤ xs.length) ∧ (xs.take k = ys.take k) ∧ (xs.length - k) = kM) ((List.length xs) - 0) ⟨0, rfl, hS, (Nat.zero_le _), (rfl), rfl⟩ ?_
    clear hS; rintro _ _ w j ⟨k, rfl, hS, hk, he, rfl⟩
    refine WC.seq ?_
    refine WC.seq ?_
    refine WC.region ?_
    refine WL.r 4 rfl ?_
    refine WL.nil ?_
    as_aux_lemma =>
      refine WC.ifP rfl (fun cd2 => ?_) (fun cd2 => ?_)
      · refine WC.skip ?_
        refine WC.seq ?_
        refine WC.block ?_
        refine WC.seq ?_
        refine WC.plan [([0, 1, 4, 5, 2, 6, 3, 7, 8], none)] (by kernel_rfl) (by kernel_rfl) ?_
        refine WQ.r 4 rfl ?_
        obtain ⟨x, hx⟩ : ∃ x, xs[k]? = some x := ⟨_, List.getElem?_eq_getElem (by omega)⟩
        refine WQ.ix rfl rfl (i := (k : Int)) (k) el_33 rfl rfl (by omega) (len_of (i64s_at hx)) (hS.rdS 0 rfl (i64s_at hx)).1 ?_
        obtain ⟨y, hy⟩ : ∃ y, ys[k]? = some y := ⟨_, List.getElem?_eq_getElem (by omega)⟩
        refine WQ.ix rfl rfl (i := (k : Int)) (k) el_33 rfl rfl (by omega) (len_of (i64s_at hy)) (hS.rdS 1 rfl (i64s_at hy)).1 ?_
        refine WQ.run 3 [.int .i64 x, .int .i64 y] rfl (by exact ⟨(hS.rdS 0 rfl (i64s_at hx)).2 0 _ rfl, (hS.rdS 1 rfl (i64s_at hy)).2 0 _ rfl⟩) ?_
        refine WQ.nil ?_
        intro m1
        replace hS := hS.drewN m1; generalize hwm1 : World.drewN _ _ = w at *; clear hwm1
        refine WC.ifP rfl (fun cd3 => ?_) (fun cd3 => ?_)
        · refine WC.seq ?_
          refine WC.region ?_
          refine WL.r 1 rfl ?_
          refine WL.nil ?_
          refine WC.ret ?_
          refine ⟨[.bool false], rfl, ?_⟩
          exact ⟨_, rfl, hS, ⟨fun h => (by cases h), fun h => by subst h; rw [hx] at hy; cases hy; exact absurd rfl cd3⟩⟩
        · refine WC.skip ?_
          refine WC.region ?_
          refine WL.r 2 rfl ?_
          refine WL.nw 16 rfl (w64 (by omega)) ?_
          refine WL.r 1 rfl ?_
          refine WL.nil ?_
          exact ⟨_, by omega, k + 1, rfl, hS, (by omega), (by rw [List.take_add_one, List.take_add_one, he, hx, hy, Classical.not_not.1 cd3]), rfl⟩
      · refine WC.exit ?_
        refine WC.seq ?_
        refine WC.region ?_
        refine WL.r 1 rfl ?_
        refine WL.nil ?_
        refine WC.ret ?_
        refine ⟨[.bool true], rfl, ?_⟩
        exact ⟨_, rfl, hS, ⟨fun _ => by rw [← List.take_of_length_le (i := k) (l := xs) (by omega), he, List.take_of_length_le (by omega)], fun _ => rfl⟩⟩
end Go.Proofs.Ytlnlnebibgdjdaa
