/-
  Transactions: Commit without a conflict, with room; Commit with a conflict.
  Conditions: the transaction has not ended; both trees are ascending.
-/
import Derived.Test.YtlnlnebibgdjdaaTx2
import Derived.Test.YtlnlnebibgdjdaaP3
import Derived.Test.YtlnlnebibgdjdaaW5
namespace Go.Proofs.Ytlnlnebibgdjdaa
open Go Go.V Go.RowKit Go.Maps

theorem rs_apply {g w : World} {L : List HP} (n m : Nat) (hn : n + m ≤ 65536) (hS : St g (L) w) :
    Sp Try.prog 82 [.int .i64 (n : Int), .int .i64 (m : Int)] w (fun v w' => v = .int .i64 ((n : Int) + m + 4 * ((Tr.mxH (n + m) : Int) + 2)) ∧ St g (L) w') := by
  refine Sp.enter Try.func82 rfl (by kernel_rfl) (by kernel_rfl) ?_
  have _ := hn
  refine WC.seq ?_
  refine WC.region ?_
  refine WL.r 1 rfl ?_
  refine WL.nil ?_
  refine WC.seq ?_
  refine WC.seq ?_
  refine WC.region ?_
  refine WL.r 2 rfl ?_
  refine WL.lit rfl rfl (i64s [(n : Int), (m : Int)]) el_33 hS (by exact ⟨rfl, rfl, rfl, rfl⟩) (i64s_ok _) rfl (by decide) (fun b1 w hS => ?_)
  replace hS := (hS.at_ 0 rfl).share
  replace hS : St g (Sh 3 1 (i64s [(n : Int), (m : Int)]) (some ⟨b1, 0, none⟩) (List.length (i64s [(n : Int), (m : Int)])) :: L) w := hS
  refine WL.call rfl rfl (rs_valid (l := [(n : Int), (m : Int)]) (b := some ⟨b1, 0, none⟩) (c := List.length (i64s [(n : Int), (m : Int)])) (hl := (by simp)) (hS := hS)) rfl ?_
  clear hS; rintro _ w ⟨rfl, hS⟩
  replace hS : St g (Sh 3 1 (i64s [(n : Int), (m : Int)]) (some ⟨b1, 0, none⟩) (List.length (i64s [(n : Int), (m : Int)])) :: L) w := hS
  refine WL.r 1 rfl ?_
  refine WL.nil ?_
  refine WC.ifF rfl (by simp; omega) ?_
  refine WC.skip ?_
  refine WC.seq ?_
  refine WC.region ?_
  have hmx := Tr.mxH_le (n + m)
  refine WL.r 3 rfl ?_
  refine WL.nw 12 rfl (w64 (by omega)) ?_
  refine WL.r 3 rfl ?_
  refine WL.reb 15 (.int .i64 ((n + m : Nat) : Int)) (congrArg (Value.int .i64) (by rw [w64 (by omega)]; omega)) ?_
  refine WL.call rfl rfl (rs_path (f := 4) (n := (n + m : Nat)) (hf := (by omega)) (hn := (by omega)) (hS := hS)) rfl ?_
  clear hS; rintro _ w ⟨rfl, hS⟩
  replace hS : St g (Sh 3 1 (i64s [(n : Int), (m : Int)]) (some ⟨b1, 0, none⟩) (List.length (i64s [(n : Int), (m : Int)])) :: L) w := hS
  refine WL.r 1 rfl ?_
  refine WL.nw 17 rfl (w64 (by omega)) ?_
  refine WL.r 1 rfl ?_
  refine WL.nil ?_
  as_aux_lemma =>
    refine WC.ret ?_
    refine ⟨[.int .i64 (((n : Int) + (m : Int)) + (4 * ((Tr.mxH (n + m : Nat) : Int) + 2)))], rfl, ?_⟩
    replace hS := (hS.sel 1 [] rfl)
    exact ⟨rfl, hS⟩
def wNeed (t : Tr) (e : Int × Bool × Int) : Bool := (e.2.1 != (Tr.get e.1 t).isSome) || (e.2.1 && decide ((Tr.get e.1 t).getD 0 ≠ e.2.2))
def wWork (t : Tr) (M : Wrs) : Wrs := M.filter (wNeed t)
def wOne (u : Tr) (e : Int × Bool × Int) : Tr := if e.2.1 then Tr.ins e.1 e.2.2 u else Tr.del e.1 u
def wCost (u : Tr) (e : Int × Bool × Int) : Nat := if e.2.1 then Tr.ic e.1 e.2.2 u else Tr.dc e.1 u
def wAll (W : Wrs) (t : Tr) : Tr := W.foldl wOne t
def wSum : Wrs → Tr → Nat
  | [], _ => 0
  | e :: l, t => wCost t e + wSum l (wOne t e)
theorem wAll_snoc {W : Wrs} {k : Nat} {e : Int × Bool × Int} {t : Tr} (h : W[k]? = some e) : wAll (W.take (k + 1)) t = wOne (wAll (W.take k) t) e := by
  unfold wAll; rw [List.take_add_one, h, List.foldl_append]; rfl
theorem wSum_app (e : Int × Bool × Int) : ∀ (W : Wrs) (t : Tr), wSum (W ++ [e]) t = wSum W t + wCost (wAll W t) e
  | [], t => by simp [wSum, wAll]
  | f :: l, t => by
    have h := wSum_app e l (wOne t f)
    show wCost t f + wSum (l ++ [e]) (wOne t f) = wCost t f + wSum l (wOne t f) + wCost (wAll l (wOne t f)) e
    omega
theorem wSum_snoc {W : Wrs} {k : Nat} {e : Int × Bool × Int} {t : Tr} (h : W[k]? = some e) : wSum (W.take (k + 1)) t = wSum (W.take k) t + wCost (wAll (W.take k) t) e := by
  rw [List.take_add_one, h]; exact wSum_app e _ t
theorem wOne_n (u : Tr) (e : Int × Bool × Int) : (wOne u e).n ≤ u.n + 1 := by
  unfold wOne
  split
  · have := Tr.ins_n e.1 e.2.2 u; split at this <;> omega
  · have := Tr.del_n e.1 u; split at this <;> omega
theorem wAll_n : ∀ (W : Wrs) (t : Tr), (wAll W t).n ≤ t.n + W.length
  | [], t => Nat.le_refl _
  | e :: l, t => by
    have h1 := wAll_n l (wOne t e)
    have h2 := wOne_n t e
    show (wAll l (wOne t e)).n ≤ t.n + (l.length + 1)
    omega
theorem drop_lt {S : Kvs} {k : Nat} {p : Int × Int → Prop} (h : ¬ ∀ s ∈ S.drop k, p s) : k < S.length := by
  rcases Nat.lt_or_ge k S.length with h1 | h1
  · exact h1
  · exact (h (by rw [List.drop_eq_nil_of_le h1]; intro s hs; cases hs)).elim
theorem drop_next {S : Kvs} {k : Nat} {p : Int × Int → Prop} {e : Int × Int} (h : ¬ ∀ s ∈ S.drop k, p s) (he : S[k]? = some e) (hp : p e) : ¬ ∀ s ∈ S.drop (k + 1), p s := fun hq => h (by
  obtain ⟨hl, rfl⟩ := List.getElem?_eq_some_iff.1 he
  rw [List.drop_eq_getElem_cons hl]
  intro s hs
  rcases List.mem_cons.1 hs with rfl | hs
  · exact hp
  · exact hq s hs)
theorem tx_conflict {g w : World} {L : List HP} (x a : Nat) (rt : Int) (xs : List WE) (q : Nat) (S : Kvs) (A : AM) (R : List Int) (hd : Int) (ts th : Tr) (hA : ARf A R) (hts : Is A ts rt) (hth : Is A th hd) (hss : Srt ts.ls) (hsh : Srt th.ls) (hn : ts.n + th.n ≤ 60000) (hSl : S.length ≤ 100000) (hcf : ¬ ∀ s ∈ S, inR s.1 s.2 (dif ts.ls th.ls) = []) (hS : St g (Tx x a rt xs q S :: Arn a A :: L) w) :
    Sp Try.prog 41 [.pointer (some ⟨x, 0, none⟩), .int .u32 hd] w (fun v w' => v = .tuple #[.int .u32 0, .int .i64 10] ∧ St g (Tx x a rt xs q S :: Arn a A :: L) w') := by
  refine Sp.enter Try.func41 rfl (by kernel_rfl) (by kernel_rfl) ?_
  have _ := hSl
  have _ := hn
  refine WC.seq ?_
  refine WC.region ?_
  refine WL.r 2 rfl ?_
  refine WL.nil ?_
  refine WC.seq ?_
  refine WC.seq ?_
  refine WC.region ?_
  obtain ⟨⟨xm, xu, xc⟩, hS⟩ := St.exOpen (f := txF x a rt xs q S) hS
  replace hS : St g (cel x #[.pointer (some ⟨a, 0, none⟩), .int .u32 rt, .bool false, .map (some xm), .slice xu (List.length (en2 S)) xc] 145 :: blk xm (.map (mE (List.map wK xs)) q) :: Own 153 2 (en2 S) xu xc :: Arn a A :: L) w := hS
  have hll := en2_len S
  refine WL.run 4 [.bool false] rfl (by exact hS.ld 0 rfl rfl) ?_
  refine WL.nil ?_
  refine WC.ifF rfl rfl ?_
  refine WC.skip ?_
  refine WC.seq ?_
  refine WC.seq ?_
  refine WC.region ?_
  refine WL.run 6 [.slice xu (List.length (en2 S)) xc] rfl (by exact hS.ld 0 rfl rfl) ?_
  refine WL.nil ?_
  refine WC.block ?_
  refine WC.loop [0, 1, 24, 25, 26] (fun kM vs w => ∃ (k : Nat), vs = [.pointer (some ⟨x, 0, none⟩), .int .u32 hd, .slice xu (List.length (en2 S)) xc, .int .i64 (List.length (en2 S) : Int), .int .i64 (k : Int)] ∧ St g (cel x #[.pointer (some ⟨a, 0, none⟩), .int .u32 rt, .bool false, .map (some xm), .slice xu (List.length (en2 S)) xc] 145 :: blk xm (.map (mE (List.map wK xs)) q) :: Own 153 2 (en2 S) xu xc :: Arn a A :: L) w ∧ (¬ ∀ s ∈ S.drop k, inR s.1 s.2 (dif ts.ls th.ls) = []) ∧ (S.length - k) = kM) ((List.length S) - 0) ⟨0, rfl, hS, (hcf), rfl⟩ ?_
  clear hS; rintro _ _ w j ⟨k, rfl, hS, hk, rfl⟩
  refine WC.seq ?_
  refine WC.region ?_
  refine WL.r 1 rfl ?_
  refine WL.nil ?_
  as_aux_lemma =>
    refine WC.seq ?_
    refine WC.ifT rfl (decide_eq_true ((by have := drop_lt hk; omega))) ?_
    refine WC.skip ?_
    refine WC.seq ?_
    refine WC.block ?_
    refine WC.seq ?_
    refine WC.region ?_
    obtain ⟨e, he⟩ : ∃ e, S[k]? = some e := ⟨_, List.getElem?_eq_getElem (drop_lt hk)⟩; have hlt := drop_lt hk
    refine WL.ix rfl rfl (i := (k : Int)) (k) el_143 rfl rfl (by omega) (by omega) (hS.rdO 2 rfl (en2_at he)).1 ?_
    refine WL.ldC rfl rfl [.int .i64 e.1, .int .i64 e.2] ag_153 rfl (hS.rdO 2 rfl (en2_at he)).2 ?_
    refine WL.new rfl rfl zv_153 hS (fun b1 w hS => ?_)
    refine WL.stF rfl rfl rfl 0 hS rfl rfl rfl rfl rfl ag_153 (fun w hS => ?_)
    replace hS : St g (cel b1 #[.int .i64 e.1, .int .i64 e.2] 153 :: cel x #[.pointer (some ⟨a, 0, none⟩), .int .u32 rt, .bool false, .map (some xm), .slice xu (List.length (en2 S)) xc] 145 :: blk xm (.map (mE (List.map wK xs)) q) :: Own 153 2 (en2 S) xu xc :: Arn a A :: L) w := hS
    refine WL.nil ?_
    refine WC.seq ?_
    refine WC.plan [([0, 4, 8, 9, 11, 1, 5, 10, 12, 2, 6, 3, 7], some (13, [])), ([14, 15], none)] (by kernel_rfl) (by kernel_rfl) ?_
    refine WQ.run 13 [.int .i64 e.1, .int .i64 e.2, .pointer (some ⟨a, 0, none⟩), .int .u32 rt] rfl (by exact ⟨hS.ld 0 rfl rfl, hS.ld 0 rfl rfl, hS.ld 1 rfl rfl, hS.ld 1 rfl rfl⟩) ?_
    refine WQ.nil ?_
    intro m1
    replace hS := hS.drewN m1; generalize hwm1 : World.drewN _ _ = w at *; clear hwm1
    refine WL.call rfl rfl (df_range (a := a) (A := A) (R := R) (x := rt) (y := hd) (lo := e.1) (hi := e.2) (tx := ts) (ty := th) (hA := hA) (hx := hts) (hy := hth) (hsx := hss) (hsy := hsh) (hl := (by omega)) (hS := (hS.sel 5 [4, 0, 0, 0, 0] rfl))) rfl ?_
    clear hS; rintro _ w ⟨a1, c1, rfl, hS⟩
    replace hS : St g (Own 61 4 (ch4 (inR e.1 e.2 (dif ts.ls th.ls))) a1 c1 :: Arn a A :: cel b1 #[.int .i64 e.1, .int .i64 e.2] 153 :: cel x #[.pointer (some ⟨a, 0, none⟩), .int .u32 rt, .bool false, .map (some xm), .slice xu (List.length (en2 S)) xc] 145 :: blk xm (.map (mE (List.map wK xs)) q) :: Own 153 2 (en2 S) xu xc :: L) w := hS
    refine WL.nil ?_
    refine ⟨by exact trivial, ?_⟩
    refine WQ.r 2 rfl ?_
    refine WQ.nil ?_
    intro m2
    replace hS := hS.drewN m2; generalize hwm2 : World.drewN _ _ = w at *; clear hwm2
    as_aux_lemma =>
      refine WC.ifP rfl (fun hc => ?_) (fun hc => ?_)
      · refine WC.seq ?_
        refine WC.region ?_
        refine WL.r 2 rfl ?_
        refine WL.nil ?_
        refine WC.ret ?_
        replace hS := St.exClose (f := txF x a rt xs q S) (L := Own 61 4 (ch4 (inR e.1 e.2 (dif ts.ls th.ls))) a1 c1 :: Arn a A :: cel b1 #[.int .i64 e.1, .int .i64 e.2] 153 :: L) ⟨xm, xu, xc⟩ ((hS.sel 6 [3, 3, 3, 0, 0, 0] rfl))
        replace hS : St g (Tx x a rt xs q S :: Own 61 4 (ch4 (inR e.1 e.2 (dif ts.ls th.ls))) a1 c1 :: Arn a A :: cel b1 #[.int .i64 e.1, .int .i64 e.2] 153 :: L) w := hS
        refine ⟨[.int .u32 0, .int .i64 10], ⟨rfl, rfl⟩, ?_⟩
        replace hS := (hS.sel 4 [0, 1] rfl)
        exact ⟨rfl, hS⟩
      · refine WC.skip ?_
        refine WC.region ?_
        refine WL.r 1 rfl ?_
        refine WL.nw 46 rfl (w64 (by omega)) ?_
        refine WL.r 1 rfl ?_
        refine WL.nil ?_
        exact ⟨_, by omega, k + 1, rfl, (hS.sel 6 [3, 3, 3, 1] rfl), (drop_next hk he (List.length_eq_zero_iff.1 (by have := ch4_len (inR e.1 e.2 (dif ts.ls th.ls)); omega))), rfl⟩
end Go.Proofs.Ytlnlnebibgdjdaa
