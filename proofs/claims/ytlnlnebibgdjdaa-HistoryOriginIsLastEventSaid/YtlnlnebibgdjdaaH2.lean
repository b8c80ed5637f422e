/-
  Lists of entries: the reference's deletion and comparison; deletion in a tree.
  Conditions: sizes; the tree is balanced and there are enough free slots.
-/
import Derived.Test.YtlnlnebibgdjdaaW6
namespace Go.Proofs.Ytlnlnebibgdjdaa
open Go Go.V

theorem rs_del {g w : World} {L : List HP} (n : Nat) (hn : n ≤ 65536) (hS : St g (L) w) :
    Sp Try.prog 106 [.int .i64 (n : Int)] w (fun v w' => v = .int .i64 (4 * ((Tr.mxH n : Int) + 2)) ∧ St g (L) w') := by
  refine Sp.enter Try.func106 rfl (by kernel_rfl) (by kernel_rfl) ?_
  have _ := hn
  refine WC.seq ?_
  refine WC.region ?_
  refine WL.r 1 rfl ?_
  refine WL.nil ?_
  refine WC.seq ?_
  refine WC.seq ?_
  refine WC.region ?_
  refine WL.r 1 rfl ?_
  refine WL.lit rfl rfl (i64s [(n : Int)]) el_33 hS (by exact ⟨rfl, rfl⟩) (i64s_ok _) rfl (by decide) (fun b1 w hS => ?_)
  replace hS := (hS.at_ 0 rfl).share
  replace hS : St g (Sh 3 1 (i64s [(n : Int)]) (some ⟨b1, 0, none⟩) (List.length (i64s [(n : Int)])) :: L) w := hS
  refine WL.call rfl rfl (rs_valid (l := [(n : Int)]) (b := some ⟨b1, 0, none⟩) (c := List.length (i64s [(n : Int)])) (hl := (by simp)) (hS := hS)) rfl ?_
  clear hS; rintro _ w ⟨rfl, hS⟩
  replace hS : St g (Sh 3 1 (i64s [(n : Int)]) (some ⟨b1, 0, none⟩) (List.length (i64s [(n : Int)])) :: L) w := hS
  refine WL.r 1 rfl ?_
  refine WL.nil ?_
  refine WC.ifF rfl (by simp; omega) ?_
  refine WC.skip ?_
  refine WC.seq ?_
  refine WC.region ?_
  refine WL.r 1 rfl ?_
  refine WL.call rfl rfl (rs_path (f := 4) (n := n) (hf := (by omega)) (hn := (by omega)) (hS := hS)) rfl ?_
  clear hS; rintro _ w ⟨rfl, hS⟩
  replace hS : St g (Sh 3 1 (i64s [(n : Int)]) (some ⟨b1, 0, none⟩) (List.length (i64s [(n : Int)])) :: L) w := hS
  refine WL.r 1 rfl ?_
  refine WL.nil ?_
  as_aux_lemma =>
    refine WC.ret ?_
    refine ⟨[.int .i64 (4 * ((Tr.mxH n : Int) + 2))], rfl, ?_⟩
    replace hS := (hS.sel 1 [] rfl)
    exact ⟨rfl, hS⟩
set_option maxHeartbeats 1000000 in
set_option maxRecDepth 8192 in
theorem up_del {g w : World} {L : List HP} (a : Nat) (A : AM) (R : List Int) (i k : Int) (t : Tr) (hA : ARf A R) (hi : Is A t i) (hb : t.ok) (hg : (Tr.get k t).isSome = true) (hn : t.n ≤ 65535) (hf : 4 * ((Tr.mxH t.n : Int) + 2) ≤ A.s.free) (hz : R.length ≤ 500000000) (hS : St g (Arn a A :: L) w) :
    Sp Try.prog 70 [.pointer (some ⟨a, 0, none⟩), .int .u32 i, .int .i64 k] w (fun v w' => ∃ (A2 : AM) (j : Int), v = .tuple #[.int .u32 j, .int .i64 ((Tr.get k t).getD 0), .int .i64 0] ∧ St g (Arn a A2 :: L) w' ∧ (TOp A A2 R j (Tr.del k t) (4 * (Tr.mxH t.n + 2)))) := by
  refine Sp.enter Try.func70 rfl (by kernel_rfl) (by kernel_rfl) ?_
  have _ := hz
  have _ := hf
  have _ := hn
  refine WC.seq ?_
  refine WC.region ?_
  refine WL.r 3 rfl ?_
  refine WL.nil ?_
  refine WC.seq ?_
  refine WC.region ?_
  refine WL.r 3 rfl ?_
  refine WL.call rfl rfl (lk_get (a := a) (A := A) (R := R) (i := i) (k := k) (t := t) (hA := hA) (hi := hi) (hS := hS)) rfl ?_
  clear hS; rintro _ w ⟨rfl, hS⟩
  replace hS : St g (Arn a A :: L) w := hS
  refine WL.r 5 rfl ?_
  refine WL.nil ?_
  refine WC.seq ?_
  refine WC.seq ?_
  refine WC.region ?_
  refine WL.r 2 rfl ?_
  refine WL.nil ?_
  refine WC.ifF rfl (by rw [hg]; decide) ?_
  refine WC.skip ?_
  refine WC.seq ?_
  refine WC.seq ?_
  refine WC.region ?_
  refine WL.r 3 rfl ?_
  refine WL.call rfl rfl (tr_size (a := a) (A := A) (R := R) (i := i) (t := t) (hA := hA) (hi := hi) (hS := hS)) rfl ?_
  clear hS; rintro _ w ⟨rfl, hS⟩
  replace hS : St g (Arn a A :: L) w := hS
  refine WL.call rfl rfl (rs_del (n := t.n) (hn := (by omega)) (hS := hS)) rfl ?_
  clear hS; rintro _ w ⟨rfl, hS⟩
  replace hS : St g (Arn a A :: L) w := hS
  refine WL.call rfl rfl (tw_room (a := a) (A := A) (n := 4 * ((Tr.mxH t.n : Int) + 2)) (hA := hA.toAWf) (hS := hS)) rfl ?_
  clear hS; rintro _ w ⟨rfl, hS⟩
  replace hS : St g (Arn a A :: L) w := hS
  refine WL.r 1 rfl ?_
  refine WL.prop 26 rfl (bnot (dd _)) ?_
  refine WL.nil ?_
  as_aux_lemma =>
    refine WC.ifF rfl (decide_eq_false ((by have := Tr.mxH_le t.n; simp; omega))) ?_
    refine WC.skip ?_
    refine WC.seq ?_
    refine WC.region ?_
    refine WL.r 3 rfl ?_
    refine WL.call rfl rfl (tw_hold (a := a) (A := A) (R := R) (i := i) (hA := hA) (hi := hi.ref) (hz := (by omega)) (hS := hS)) rfl ?_
    clear hS; rintro _ w ⟨rfl, hS, f1⟩
    replace hS : St g (Arn a (A.ret i) :: L) w := hS
    refine WL.r 1 rfl ?_
    refine WL.call rfl rfl (tw_del (a := a) (A := A.ret i) (R := R) (i := i) (k := k) (t := t) (hA := f1) (hi := hi.ret i) (hf := (by have := Tr.dc_res k t hb (by omega); rw [(AM.ret_same _ _).1]; omega)) (hz := (by omega)) (hS := hS)) rfl ?_
    clear hS; rintro _ w ⟨A1, j1, rfl, hS, f2⟩
    replace hS : St g (Arn a A1 :: L) w := hS
    refine WL.r 4 rfl ?_
    refine WL.nil ?_
    refine WC.ret ?_
    refine ⟨[.int .u32 j1, .int .i64 ((Tr.get k t).getD 0), .int .i64 0], ⟨rfl, rfl, rfl⟩, ?_⟩
    exact ⟨_, _, rfl, hS, (TOp.held f2).weak (by have := Tr.dc_res k t hb (by omega); omega)⟩
def outP (lo hi : Int) (e : Int × Int) : Bool := decide (e.1 < lo ∨ hi < e.1)
theorem out_in {l : Kvs} {j : Nat} {e : Int × Int} {lo hi : Int} (he : l[j]? = some e) (h : e.1 < lo ∨ hi < e.1) : (l.take (j + 1)).filter (outP lo hi) = (l.take j).filter (outP lo hi) ++ [e] := by
  have : outP lo hi e = true := decide_eq_true h
  rw [List.take_add_one, he, List.filter_append]; simp [this]
theorem out_no {l : Kvs} {j : Nat} {e : Int × Int} {lo hi : Int} (he : l[j]? = some e) (h : ¬ (e.1 < lo ∨ hi < e.1)) : (l.take (j + 1)).filter (outP lo hi) = (l.take j).filter (outP lo hi) := by
  have : outP lo hi e = false := decide_eq_false h
  rw [List.take_add_one, he, List.filter_append]; simp [this]
theorem ref_out {g w : World} {L : List HP} (l : Kvs) (u : Option Addr) (d : Nat) (lo hi : Int) (hl : l.length ≤ 1000000) (hS : St g (Sh 46 2 (en2 l) u d :: L) w) :
    Sp Try.prog 74 [.slice u (List.length (en2 l)) d, .int .i64 lo, .int .i64 hi] w (fun v w' => ∃ (a2 : Option Addr) (c2 : Nat), v = .slice a2 (List.length (en2 (l.filter (outP lo hi)))) c2 ∧ St g (Own 46 2 (en2 (l.filter (outP lo hi))) a2 c2 :: Sh 46 2 (en2 l) u d :: L) w') := by
  refine Sp.enter Try.func74 rfl (by kernel_rfl) (by kernel_rfl) ?_
  have _ := hl
  refine WC.seq ?_
  refine WC.region ?_
  refine WL.r 1 rfl ?_
  refine WL.nil ?_
  refine WC.seq ?_
  refine WC.region ?_
  have hll := en2_len l
  refine WL.r 1 rfl ?_
  refine WL.nil ?_
  refine WC.seq ?_
  refine WC.seq ?_
  refine WC.region ?_
  refine WL.r 1 rfl ?_
  refine WL.nil ?_
  refine WC.block ?_
  replace hS := hS.nil_ 46 2
  refine WC.loop [0, 1, 2, 6, 7, 8] (fun kM vs w => ∃ (j : Nat) (out : Kvs) (ua : Option Addr) (uc : Nat), vs = [.slice u (List.length (en2 l)) d, .int .i64 lo, .int .i64 hi, .slice none 0 0, .slice ua (List.length (en2 out)) uc, .int .i64 (j : Int)] ∧ St g (Own 46 2 (en2 out) ua uc :: Sh 46 2 (en2 l) u d :: L) w ∧ (j ≤ l.length) ∧ (out = (l.take j).filter (outP lo hi)) ∧ (l.length - j) = kM) ((List.length l) - 0) ⟨0, [], none, 0, rfl, hS, (Nat.zero_le _), (rfl), rfl⟩ ?_
  clear hS; rintro _ _ w j ⟨j, out, ua, uc, rfl, hS, hj, hP, rfl⟩
  refine WC.seq ?_
  refine WC.seq ?_
  refine WC.region ?_
  refine WL.r 4 rfl ?_
  refine WL.nil ?_
  refine WC.ifP rfl (fun cd1 => ?_) (fun cd1 => ?_)
  · refine WC.skip ?_
    as_aux_lemma =>
      refine WC.seq ?_
      refine WC.block ?_
      refine WC.seq ?_
      refine WC.region ?_
      obtain ⟨e, he⟩ : ∃ e, l[j]? = some e := ⟨_, List.getElem?_eq_getElem (by omega)⟩; have hol : out.length ≤ l.length := (by rw [hP]; exact Nat.le_trans (List.length_filter_le _ _) (by simp; omega)); have hoe := en2_len out
      refine WL.r 2 rfl ?_
      refine WL.ix rfl rfl (i := (j : Int)) (j) el_36 rfl rfl (by omega) (by omega) (hS.rdS 1 rfl (en2_at he)).1 ?_
      refine WL.run 5 [.int .i64 e.1] rfl (by exact (hS.rdS 1 rfl (en2_at he)).2 0 _ rfl) ?_
      by_cases cg1 : e.1 < lo
      · refine WL.reb 22 (.bool true) (congrArg Value.bool (decide_eq_true cg1)) ?_
        refine WL.skp rfl rfl rfl rfl ?_
        refine WL.skp rfl rfl rfl rfl ?_
        refine WL.skp rfl rfl rfl rfl ?_
        refine WL.skp rfl rfl rfl rfl ?_
        refine WL.skp rfl rfl rfl rfl ?_
        refine WL.skp rfl rfl rfl rfl ?_
        refine WL.skp rfl rfl rfl rfl ?_
        refine WL.r 1 rfl ?_
        refine WL.nil ?_
        refine WC.ifT rfl rfl ?_
        refine WC.region ?_
        refine WL.r 3 rfl ?_
        refine WL.ix rfl rfl (i := (j : Int)) (j) el_36 rfl rfl (by omega) (by omega) (hS.rdS 1 rfl (en2_at he)).1 ?_
        refine WL.ldC rfl rfl [.int .i64 e.1, .int .i64 e.2] ag_46 rfl (hS.rdS 1 rfl (en2_at he)).2 ?_
        refine WL.lit rfl rfl (en2 [(e.1, e.2)]) el_36 hS (by exact ⟨rfl, rfl⟩) (en2_ok _) rfl (by decide) (fun b1 w hS => ?_)
        refine WL.app rfl rfl 1 (en2 (out ++ [(e.1, e.2)])) el_36 hS rfl (hS.srcO 0 rfl) (en2_app _ _).symm (Rm.of (by first | omega | (simp <;> omega)) (by decide)) rfl rfl (fun a1 c1 w hS => ?_)
        replace hS : St g (Own 46 2 (en2 [(e.1, e.2)]) (some ⟨b1, 0, none⟩) (List.length (en2 [(e.1, e.2)])) :: Own 46 2 (en2 (out ++ [(e.1, e.2)])) a1 c1 :: Sh 46 2 (en2 l) u d :: L) w := hS
        refine WL.r 1 rfl ?_
        refine WL.nil ?_
        as_aux_lemma =>
          refine WC.region ?_
          refine WL.r 2 rfl ?_
          refine WL.nw 14 rfl (w64 (by omega)) ?_
          refine WL.r 1 rfl ?_
          refine WL.nil ?_
          exact ⟨_, by omega, j + 1, out ++ [(e.1, e.2)], a1, c1, rfl, (hS.sel 1 [] rfl), (by omega), (by rw [hP]; exact (out_in he (by omega)).symm), rfl⟩
      · refine WL.reb 22 (.bool false) (congrArg Value.bool (decide_eq_false cg1)) ?_
        refine WL.ung rfl rfl rfl ?_
        refine WL.r 1 rfl ?_
        refine WL.ung rfl rfl rfl ?_
        refine WL.r 1 rfl ?_
        refine WL.ung rfl rfl rfl ?_
        refine WL.ix rfl rfl (i := (j : Int)) (j) el_36 rfl rfl (by omega) (by omega) (hS.rdS 1 rfl (en2_at he)).1 ?_
        refine WL.ung rfl rfl rfl ?_
        refine WL.r 1 rfl ?_
        refine WL.ung rfl rfl rfl ?_
        refine WL.run 1 [.int .i64 e.1] rfl (by exact (hS.rdS 1 rfl (en2_at he)).2 0 _ rfl) ?_
        refine WL.ung rfl rfl rfl ?_
        refine WL.r 1 rfl ?_
        refine WL.ung rfl rfl rfl ?_
        refine WL.r 2 rfl ?_
        refine WL.nil ?_
        as_aux_lemma =>
          refine WC.ifP rfl (fun cd2 => ?_) (fun cd2 => ?_)
          · refine WC.region ?_
            refine WL.r 3 rfl ?_
            refine WL.ix rfl rfl (i := (j : Int)) (j) el_36 rfl rfl (by omega) (by omega) (hS.rdS 1 rfl (en2_at he)).1 ?_
            refine WL.ldC rfl rfl [.int .i64 e.1, .int .i64 e.2] ag_46 rfl (hS.rdS 1 rfl (en2_at he)).2 ?_
            refine WL.lit rfl rfl (en2 [(e.1, e.2)]) el_36 hS (by exact ⟨rfl, rfl⟩) (en2_ok _) rfl (by decide) (fun b1 w hS => ?_)
            refine WL.app rfl rfl 1 (en2 (out ++ [(e.1, e.2)])) el_36 hS rfl (hS.srcO 0 rfl) (en2_app _ _).symm (Rm.of (by first | omega | (simp <;> omega)) (by decide)) rfl rfl (fun a1 c1 w hS => ?_)
            replace hS : St g (Own 46 2 (en2 [(e.1, e.2)]) (some ⟨b1, 0, none⟩) (List.length (en2 [(e.1, e.2)])) :: Own 46 2 (en2 (out ++ [(e.1, e.2)])) a1 c1 :: Sh 46 2 (en2 l) u d :: L) w := hS
            refine WL.r 1 rfl ?_
            refine WL.nil ?_
            refine WC.region ?_
            refine WL.r 2 rfl ?_
            refine WL.nw 14 rfl (w64 (by omega)) ?_
            refine WL.r 1 rfl ?_
            refine WL.nil ?_
            exact ⟨_, by omega, j + 1, out ++ [(e.1, e.2)], a1, c1, rfl, (hS.sel 1 [] rfl), (by omega), (by rw [hP]; exact (out_in he (by omega)).symm), rfl⟩
          · refine WC.skip ?_
            refine WC.region ?_
            refine WL.r 2 rfl ?_
            refine WL.nw 14 rfl (w64 (by omega)) ?_
            refine WL.r 1 rfl ?_
            refine WL.nil ?_
            exact ⟨_, by omega, j + 1, out, ua, uc, rfl, hS, (by omega), (by rw [hP]; exact (out_no he (by omega)).symm), rfl⟩
  · refine WC.exit ?_
    as_aux_lemma =>
      refine WC.seq ?_
      refine WC.region ?_
      refine WL.r 2 rfl ?_
      refine WL.nil ?_
      refine WC.ret ?_
      refine ⟨[.slice ua (List.length (en2 out)) uc], rfl, ?_⟩
      have e9 : out = l.filter (outP lo hi) := (by rw [hP, List.take_of_length_le (by omega)]); rw [e9] at hS ⊢; exact ⟨_, _, rfl, hS⟩
theorem out_del (k : Int) (l : Kvs) : l.filter (outP k k) = ldel k l := by
  unfold ldel
  refine List.filter_congr fun x _ => ?_
  unfold outP
  exact decide_eq_decide.2 ⟨fun h => by omega, fun h => by omega⟩
theorem ref_del {g w : World} {L : List HP} (l : Kvs) (u : Option Addr) (d : Nat) (k : Int) (hl : l.length ≤ 1000000) (hS : St g (Sh 46 2 (en2 l) u d :: L) w) :
    Sp Try.prog 28 [.slice u (List.length (en2 l)) d, .int .i64 k] w (fun v w' => ∃ (a2 : Option Addr) (c2 : Nat), v = .slice a2 (List.length (en2 (ldel k l))) c2 ∧ St g (Own 46 2 (en2 (ldel k l)) a2 c2 :: Sh 46 2 (en2 l) u d :: L) w') := by
  refine Sp.enter Try.func28 rfl (by kernel_rfl) (by kernel_rfl) ?_
  refine WC.seq ?_
  refine WC.region ?_
  refine WL.r 1 rfl ?_
  refine WL.nil ?_
  refine WC.seq ?_
  refine WC.region ?_
  refine WL.r 3 rfl ?_
  refine WL.call rfl rfl (ref_out (l := l) (u := u) (d := d) (lo := k) (hi := k) (hl := hl) (hS := hS)) rfl ?_
  clear hS; rintro _ w ⟨a1, c1, rfl, hS⟩
  replace hS : St g (Own 46 2 (en2 (l.filter (outP k k))) a1 c1 :: Sh 46 2 (en2 l) u d :: L) w := hS
  refine WL.r 1 rfl ?_
  refine WL.nil ?_
  refine WC.ret ?_
  refine ⟨[.slice a1 (List.length (en2 (l.filter (outP k k)))) c1], rfl, ?_⟩
  rw [out_del] at hS ⊢; exact ⟨_, _, rfl, hS⟩
theorem same9 {g w : World} {L : List HP} (xs ys : Kvs) (a b : Option Addr) (c d : Nat) (hl : xs.length ≤ 1000000000) (hS : St g (Sh 46 2 (en2 xs) a c :: Sh 46 2 (en2 ys) b d :: L) w) :
    Sp Try.prog 29 [.slice a (List.length (en2 xs)) c, .slice b (List.length (en2 ys)) d] w (fun v w' => v = .bool (decide (xs = ys)) ∧ St g (Sh 46 2 (en2 xs) a c :: Sh 46 2 (en2 ys) b d :: L) w') := by
  refine Sp.enter Try.func29 rfl (by kernel_rfl) (by kernel_rfl) ?_
  have _ := hl
  refine WC.seq ?_
  refine WC.region ?_
  refine WL.r 1 rfl ?_
  refine WL.nil ?_
  refine WC.seq ?_
  refine WC.seq ?_
  refine WC.region ?_
  have h1 := en2_len xs; have h2 := en2_len ys
  refine WL.r 5 rfl ?_
  refine WL.nil ?_
  refine WC.ifP rfl (fun cd1 => ?_) (fun cd1 => ?_)
  · refine WC.seq ?_
    refine WC.region ?_
    refine WL.r 1 rfl ?_
    refine WL.nil ?_
    refine WC.ret ?_
    refine ⟨[.bool false], rfl, ?_⟩
    exact ⟨congrArg Value.bool (decide_eq_false (fun h => by rw [h1, h2, h] at cd1; exact absurd rfl cd1)).symm, hS⟩
  · refine WC.skip ?_
    refine WC.seq ?_
    refine WC.seq ?_
    refine WC.region ?_
    refine WL.r 1 rfl ?_
    refine WL.nil ?_
    refine WC.block ?_
    refine WC.loop [0, 1, 5] (fun kM vs w => ∃ (k : Nat), vs = [.slice a (List.length (en2 xs)) c, .slice b (List.length (en2 ys)) d, .int .i64 (k : Int)] ∧ St g (Sh 46 2 (en2 xs) a c :: Sh 46 2 (en2 ys) b d :: L) w ∧ (k ≤ xs.length) ∧ (xs.take k = ys.take k) ∧ (xs.length - k) = kM) ((List.length xs) - 0) ⟨0, rfl, hS, (Nat.zero_le _), (rfl), rfl⟩ ?_
    clear hS; rintro _ _ w j ⟨k, rfl, hS, hk, he, rfl⟩
    refine WC.seq ?_
    refine WC.seq ?_
    refine WC.region ?_
    refine WL.r 4 rfl ?_
    refine WL.nil ?_
    as_aux_lemma =>
      refine WC.ifP rfl (fun cd2 => ?_) (fun cd2 => ?_)
      · refine WC.skip ?_
        refine WC.seq ?_
        refine WC.block ?_
        refine WC.seq ?_
        refine WC.plan [([0, 1, 4, 5, 2, 6, 3, 7, 8], none)] (by kernel_rfl) (by kernel_rfl) ?_
        refine WQ.r 4 rfl ?_
        obtain ⟨x, hx⟩ : ∃ x, xs[k]? = some x := ⟨_, List.getElem?_eq_getElem (by omega)⟩
        refine WQ.ix rfl rfl (i := (k : Int)) (k) el_36 rfl rfl (by omega) (len_of (en2_at hx)) (hS.rdS 0 rfl (en2_at hx)).1 ?_
        obtain ⟨y, hy⟩ : ∃ y, ys[k]? = some y := ⟨_, List.getElem?_eq_getElem (by omega)⟩
        refine WQ.ix rfl rfl (i := (k : Int)) (k) el_36 rfl rfl (by omega) (len_of (en2_at hy)) (hS.rdS 1 rfl (en2_at hy)).1 ?_
        refine WQ.ldC rfl rfl [.int .i64 x.1, .int .i64 x.2] ag_46 rfl (hS.rdS 0 rfl (en2_at hx)).2 ?_
        refine WQ.ldC rfl rfl [.int .i64 y.1, .int .i64 y.2] ag_46 rfl (hS.rdS 1 rfl (en2_at hy)).2 ?_
        refine WQ.neS rfl rfl eq_46 (xs := [.int .i64 x.1, .int .i64 x.2]) (ys := [.int .i64 y.1, .int .i64 y.2]) rfl rfl rfl rfl ?_
        refine WQ.prop 25 rfl (bnot (band (dd _) (dd _))) ?_
        refine WQ.nil ?_
        intro m1
        replace hS := hS.drewN m1; generalize hwm1 : World.drewN _ _ = w at *; clear hwm1
        refine WC.ifP rfl (fun cd3 => ?_) (fun cd3 => ?_)
        · refine WC.seq ?_
          refine WC.region ?_
          refine WL.r 1 rfl ?_
          refine WL.nil ?_
          refine WC.ret ?_
          refine ⟨[.bool false], rfl, ?_⟩
          exact ⟨congrArg Value.bool (decide_eq_false (fun h => by subst h; rw [hx] at hy; cases hy; exact absurd ⟨rfl, rfl⟩ cd3)).symm, hS⟩
        · refine WC.skip ?_
          refine WC.region ?_
          refine WL.r 2 rfl ?_
          refine WL.nw 16 rfl (w64 (by omega)) ?_
          refine WL.r 1 rfl ?_
          refine WL.nil ?_
          exact ⟨_, by omega, k + 1, rfl, hS, (by omega), (by rw [List.take_add_one, List.take_add_one, he, hx, hy, Prod.ext (Classical.not_not.1 cd3).1 (Classical.not_not.1 cd3).2]), rfl⟩
      · refine WC.exit ?_
        refine WC.seq ?_
        refine WC.region ?_
        refine WL.r 1 rfl ?_
        refine WL.nil ?_
        refine WC.ret ?_
        refine ⟨[.bool true], rfl, ?_⟩
        exact ⟨congrArg Value.bool (decide_eq_true (by rw [← List.take_of_length_le (i := k) (l := xs) (by omega), he, List.take_of_length_le (by omega)])).symm, hS⟩
end Go.Proofs.Ytlnlnebibgdjdaa
