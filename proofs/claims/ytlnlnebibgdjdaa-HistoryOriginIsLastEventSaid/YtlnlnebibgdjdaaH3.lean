/-
  Histories: Events, Log.
  Conditions: the chain's trees are ascending.
-/
import Derived.Test.YtlnlnebibgdjdaaP3
import Derived.Test.YtlnlnebibgdjdaaW5
import Derived.Test.YtlnlnebibgdjdaaHn
namespace Go.Proofs.Ytlnlnebibgdjdaa
open Go Go.V Go.RowKit

theorem rsB_next {rs : List Int} {k : Nat} {r : Int} (h : rs[k]? = some r) : rsB rs (k + 1) = r := by
  unfold rsB; rw [if_neg (by omega), List.getD_eq_getElem?_getD]
  show (rs[k]?).getD 0 = r
  rw [h]; rfl
theorem tn_of {t : Tr} {l : Kvs} (h : t.ls = l) (hl : l.length ≤ 100) : t.n ≤ 100 := by rw [← Tr.ls_len, h]; exact hl
theorem hi_events {g w : World} {L : List HP} (a : Nat) (A : AM) (R : List Int) (Ls : List Kvs) (rs : List Int) (u : Option Addr) (d : Nat) (lo hi : Int) (hA : ARf A R) (hT : RTs A Ls rs) (hL : LOk Ls) (hn : rs.length ≤ 100) (hS : St g (Arn a A :: Sh 40 1 (u32s rs) u d :: L) w) :
    Sp Try.prog 27 [.pointer (some ⟨a, 0, none⟩), .slice u (List.length (u32s rs)) d, .int .i64 lo, .int .i64 hi] w (fun v w' => ∃ (a2 : Option Addr) (c2 : Nat), v = .slice a2 (List.length (ev5 (hev lo hi Ls (List.length rs)))) c2 ∧ St g (Own 63 5 (ev5 (hev lo hi Ls (List.length rs))) a2 c2 :: Arn a A :: Sh 40 1 (u32s rs) u d :: L) w') := by
  refine Sp.enter Try.func27 rfl (by kernel_rfl) (by kernel_rfl) ?_
  have _ := hn
  refine WC.seq ?_
  refine WC.region ?_
  have hul := u32s_len rs
  refine WL.r 1 rfl ?_
  refine WL.nil ?_
  refine WC.seq ?_
  refine WC.region ?_
  refine WL.r 1 rfl ?_
  refine WL.nil ?_
  refine WC.seq ?_
  refine WC.region ?_
  refine WL.r 1 rfl ?_
  refine WL.nil ?_
  refine WC.seq ?_
  refine WC.seq ?_
  refine WC.region ?_
  refine WL.r 3 rfl ?_
  refine WL.nil ?_
  refine WC.block ?_
  replace hS := hS.nil_ 63 5
  refine WC.loop [0, 2, 3, 8, 9, 10, 15, 16, 17] (fun kM vs w => ∃ (k : Nat) (out : List Ev) (ua : Option Addr) (uc : Nat), vs = [.pointer (some ⟨a, 0, none⟩), .int .i64 lo, .int .i64 hi, .slice none 0 0, .slice ua (List.length (ev5 out)) uc, .int .u32 (rsB rs k), .slice u (List.length (u32s rs)) d, .int .i64 (List.length (u32s rs) : Int), .int .i64 (k : Int)] ∧ St g (Own 63 5 (ev5 out) ua uc :: Arn a A :: Sh 40 1 (u32s rs) u d :: L) w ∧ (k ≤ rs.length) ∧ (out = hev lo hi Ls k) ∧ (rs.length - k) = kM) ((List.length rs) - 0) ⟨0, [], none, 0, rfl, hS, (Nat.zero_le _), (rfl), rfl⟩ ?_
  clear hS; rintro _ _ w j ⟨k, out, ua, uc, rfl, hS, hk, ho, rfl⟩
  refine WC.seq ?_
  refine WC.region ?_
  refine WL.r 1 rfl ?_
  refine WL.nil ?_
  as_aux_lemma =>
    refine WC.seq ?_
    refine WC.ifP rfl (fun cd1 => ?_) (fun cd1 => ?_)
    · refine WC.skip ?_
      refine WC.seq ?_
      refine WC.block ?_
      refine WC.seq ?_
      refine WC.region ?_
      refine WL.r 1 rfl ?_
      obtain ⟨r, hr⟩ : ∃ r, rs[k]? = some r := ⟨_, List.getElem?_eq_getElem (by omega)⟩; obtain ⟨tx, hx1, _, hx3⟩ := hT.bef hk; obtain ⟨ty, hy1, _, hy3⟩ := hT.get k r hr; have ha := hL.a k; have hb := hL.b k; have htx := tn_of hx3 hb.2.1; have hty := tn_of hy3 ha.2.1; have hel := hev_len (lo := lo) (hi := hi) hL k; rw [← ho] at hel; have hdl := dA_len (lo := lo) (hi := hi) hL k; have hde : inR lo hi (dif tx.ls ty.ls) = dA lo hi Ls k := (by unfold dA; rw [hx3, hy3]); have hil : (inR lo hi (dif tx.ls ty.ls)).length ≤ 200 := (by rw [hde]; exact hdl); have hcl := ch4_len (inR lo hi (dif tx.ls ty.ls))
      refine WL.ix rfl rfl (i := (k : Int)) (k) el_54 rfl rfl (by omega) (by omega) (hS.rdS 2 rfl (u32s_at hr)).1 ?_
      refine WL.run 3 [.int .u32 r] rfl (by exact (hS.rdS 2 rfl (u32s_at hr)).2 0 _ rfl) ?_
      refine WL.nil ?_
      refine WC.seq ?_
      refine WC.seq ?_
      refine WC.region ?_
      refine WL.r 5 rfl ?_
      refine WL.call rfl rfl (df_range (a := a) (A := A) (R := R) (x := rsB rs k) (y := r) (lo := lo) (hi := hi) (tx := tx) (ty := ty) (hA := hA) (hx := hx1) (hy := hy1) (hsx := (by rw [hx3]; exact hb.1)) (hsy := (by rw [hy3]; exact ha.1)) (hl := (by omega)) (hS := (hS.sel 2 [1, 0] rfl))) rfl ?_
      clear hS; rintro _ w ⟨a1, c1, rfl, hS⟩
      replace hS : St g (Own 61 4 (ch4 (inR lo hi (dif tx.ls ty.ls))) a1 c1 :: Arn a A :: Own 63 5 (ev5 out) ua uc :: Sh 40 1 (u32s rs) u d :: L) w := hS
      refine WL.r 2 rfl ?_
      refine WL.nil ?_
      refine WC.block ?_
      refine WC.loop [0, 2, 3, 8, 9, 10, 11, 12, 15, 16, 17, 18, 19, 20, 21, 22, 23, 24, 25, 26, 27, 28, 29] (fun kM vs w => ∃ (m : Nat) (acc : List Ev) (ub : Option Addr) (ud : Nat), vs = [.pointer (some ⟨a, 0, none⟩), .int .i64 lo, .int .i64 hi, .slice none 0 0, .slice ub (List.length (ev5 acc)) ud, .int .u32 (rsB rs k), .int .i64 (k : Int), .int .u32 r, .slice u (List.length (u32s rs)) d, .int .i64 (List.length (u32s rs) : Int), .int .i64 (k : Int), .bool (decide ((k : Int) < (List.length (u32s rs) : Int))), .int .i64 (k : Int), .pointer (some ⟨bo u, (oo u) + (k * 1), none⟩), .int .u32 r, .pointer (some ⟨a, 0, none⟩), .int .u32 (rsB rs k), .int .u32 r, .int .i64 lo, .int .i64 hi, .slice a1 (List.length (ch4 (inR lo hi (dif tx.ls ty.ls)))) c1, .int .i64 (List.length (ch4 (inR lo hi (dif tx.ls ty.ls))) : Int), .int .i64 (m : Int)] ∧ St g (Own 61 4 (ch4 (inR lo hi (dif tx.ls ty.ls))) a1 c1 :: Arn a A :: Own 63 5 (ev5 acc) ub ud :: Sh 40 1 (u32s rs) u d :: L) w ∧ (m ≤ (inR lo hi (dif tx.ls ty.ls)).length) ∧ (acc = hev lo hi Ls k ++ evA k ((inR lo hi (dif tx.ls ty.ls)).take m)) ∧ ((inR lo hi (dif tx.ls ty.ls)).length - m) = kM) ((List.length (inR lo hi (dif tx.ls ty.ls))) - 0) ⟨0, out, ua, uc, rfl, hS, (Nat.zero_le _), (by rw [ho]; simp [evA]), rfl⟩ ?_
      clear hS; rintro _ _ w j ⟨m, acc, ub, ud, rfl, hS, hm, hc, rfl⟩
      refine WC.seq ?_
      refine WC.region ?_
      refine WL.r 1 rfl ?_
      refine WL.nil ?_
      as_aux_lemma =>
        refine WC.seq ?_
        refine WC.ifP rfl (fun cd2 => ?_) (fun cd2 => ?_)
        · refine WC.skip ?_
          refine WC.seq ?_
          refine WC.block ?_
          refine WC.seq ?_
          refine WC.region ?_
          obtain ⟨e, he⟩ : ∃ e, (inR lo hi (dif tx.ls ty.ls))[m]? = some e := ⟨_, List.getElem?_eq_getElem (by omega)⟩; have hacl : acc.length ≤ 40000 := (by rw [hc, List.length_append, evA_len, ← ho]; have := List.length_take_le m (inR lo hi (dif tx.ls ty.ls)); rw [hde] at this hm ⊢; omega); have hael := ev5_len acc
          refine WL.ix rfl rfl (i := (m : Int)) (m) el_79 rfl rfl (by omega) (by omega) (hS.rdO 0 rfl (ch4_at he)).1 ?_
          refine WL.ldC rfl rfl [.int .i64 e.1, .int .i64 e.2.1, .int .i64 e.2.2.1, .int .i64 e.2.2.2] ag_61 rfl (hS.rdO 0 rfl (ch4_at he)).2 ?_
          refine WL.new rfl rfl zv_61 hS (fun b1 w hS => ?_)
          refine WL.stF rfl rfl rfl 0 hS rfl rfl rfl rfl rfl ag_61 (fun w hS => ?_)
          replace hS : St g (cel b1 #[.int .i64 e.1, .int .i64 e.2.1, .int .i64 e.2.2.1, .int .i64 e.2.2.2] 61 :: Own 61 4 (ch4 (inR lo hi (dif tx.ls ty.ls))) a1 c1 :: Arn a A :: Own 63 5 (ev5 acc) ub ud :: Sh 40 1 (u32s rs) u d :: L) w := hS
          refine WL.nil ?_
          refine WC.region ?_
          refine WL.r 2 rfl ?_
          refine WL.ldF rfl rfl 0 hS rfl rfl ag_61 ?_
          refine WL.build rfl rfl (cs := [.int .i64 (k : Int), .int .i64 e.1, .int .i64 e.2.1, .int .i64 e.2.2.1, .int .i64 e.2.2.2]) zv_63 rfl rfl ?_
          refine WL.lit rfl rfl (ev5 [((k : Int), e.1, e.2.1, e.2.2.1, e.2.2.2)]) el_58 hS (by exact ⟨rfl, rfl⟩) (ev5_ok _) rfl (by decide) (fun b2 w hS => ?_)
          refine WL.app rfl rfl 4 (ev5 (acc ++ [((k : Int), e.1, e.2.1, e.2.2.1, e.2.2.2)])) el_58 hS rfl (hS.srcO 0 rfl) (ev5_app _ _).symm (Rm.of (by first | omega | (simp <;> omega)) (by decide)) rfl rfl (fun a2 c2 w hS => ?_)
          replace hS : St g (Own 63 5 (ev5 [((k : Int), e.1, e.2.1, e.2.2.1, e.2.2.2)]) (some ⟨b2, 0, none⟩) (List.length (ev5 [((k : Int), e.1, e.2.1, e.2.2.1, e.2.2.2)])) :: cel b1 #[.int .i64 e.1, .int .i64 e.2.1, .int .i64 e.2.2.1, .int .i64 e.2.2.2] 61 :: Own 61 4 (ch4 (inR lo hi (dif tx.ls ty.ls))) a1 c1 :: Arn a A :: Own 63 5 (ev5 (acc ++ [((k : Int), e.1, e.2.1, e.2.2.1, e.2.2.2)])) a2 c2 :: Sh 40 1 (u32s rs) u d :: L) w := hS
          refine WL.r 1 rfl ?_
          refine WL.nil ?_
          refine WC.region ?_
          refine WL.r 1 rfl ?_
          refine WL.nw 39 rfl (w64 (by omega)) ?_
          refine WL.r 1 rfl ?_
          refine WL.nil ?_
          exact ⟨_, by omega, m + 1, acc ++ [((k : Int), e.1, e.2.1, e.2.2.1, e.2.2.2)], a2, c2, rfl, (hS.sel 2 [] rfl), (by omega), (by rw [evA_snoc he, ← List.append_assoc, ← hc]), rfl⟩
        · refine WC.exit ?_
          refine WC.region ?_
          refine WL.reb 12 (.int .u32 (rsB rs (k + 1))) (congrArg (Value.int .u32) (rsB_next hr).symm) ?_
          refine WL.r 2 rfl ?_
          refine WL.nil ?_
          refine WC.region ?_
          refine WL.r 1 rfl ?_
          refine WL.nw 41 rfl (w64 (by omega)) ?_
          refine WL.r 1 rfl ?_
          refine WL.nil ?_
          exact ⟨_, by omega, k + 1, acc, ub, ud, rfl, (hS.sel 3 [2, 1] rfl), (by omega), (by rw [hc, List.take_of_length_le (by omega), hde, hev_succ]), rfl⟩
    · refine WC.exit ?_
      refine WC.seq ?_
      refine WC.region ?_
      refine WL.r 2 rfl ?_
      refine WL.nil ?_
      refine WC.ret ?_
      refine ⟨[.slice ua (List.length (ev5 out)) uc], rfl, ?_⟩
      have hk9 : k = rs.length := (by omega); subst hk9; subst ho; exact ⟨_, _, rfl, hS⟩
end Go.Proofs.Ytlnlnebibgdjdaa
