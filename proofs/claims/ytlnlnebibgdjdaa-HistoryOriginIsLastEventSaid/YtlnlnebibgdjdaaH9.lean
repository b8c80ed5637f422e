/-
  Histories: an origin is the last event of its key.
  Conditions: none.
-/
import Derived.Test.YtlnlnebibgdjdaaH7
import Derived.Test.YtlnlnebibgdjdaaH6
import Derived.Test.YtlnlnebibgdjdaaH4
namespace Go.Proofs.Ytlnlnebibgdjdaa
open Go Go.V Go.RowKit

theorem lsA_at' {LL : List LsE} {i : Nat} {z : LsE} (hz : LL[i]? = some z) : lsA (LL.map LsE.es) i = z.es := by
  unfold lsA
  rw [List.getD_eq_getElem?_getD, List.getElem?_map, hz]; rfl
theorem or_last {L : List Kvs} (h : LOk L) {n : Nat} (hn : 1 ≤ n) : (oAll (hev minI maxI L n)).map (fun x => (x.1, x.2.1)) = lsA L (n - 1) := by
  rw [oAll_list, rpE_hev h]
  unfold lsB; rw [if_neg (by omega)]
theorem or_ev {L : List Kvs} (h : LOk L) {n k : Nat} {x : Or} (hx : (oAll (hev minI maxI L n))[k]? = some x) : ∃ e : Ev, (hev x.1 x.1 L n)[(hev x.1 x.1 L n).length - 1]? = some e ∧ (hev x.1 x.1 L n).length ≠ 0 ∧ e.1 = x.2.2 ∧ e.2.2.2.2 = x.2.1 := by
  obtain ⟨h1, h2⟩ := oAll_get (hev minI maxI L n)
  have h3 := (pget_some h1 (k := x.1) (y := x.2)).2 (List.mem_of_getElem? hx)
  rw [h2 x.1] at h3
  have hf : hev x.1 x.1 L n = (hev minI maxI L n).filter fun e => decide (e.2.2.1 = x.1) := by
    rw [hev_filter h]
    refine List.filter_congr fun e _ => decide_eq_decide.2 ⟨fun h => by omega, fun h => by omega⟩
  rw [← hf] at h3
  cases hl : (hev x.1 x.1 L n).getLast? with
  | none => rw [hl] at h3; cases h3
  | some e =>
    rw [hl] at h3
    have hne : hev x.1 x.1 L n ≠ [] := fun e => by rw [e] at hl; cases hl
    refine ⟨e, by rw [← List.getLast?_eq_getElem?]; exact hl, fun h0 => hne (List.length_eq_zero_iff.1 h0), ?_⟩
    simp only [Option.bind_some] at h3
    split at h3
    · cases h3
    · have h4 := Option.some.inj h3
      exact ⟨congrArg Prod.snd h4, congrArg Prod.fst h4⟩
set_option maxHeartbeats 2000000 in
set_option maxRecDepth 8192 in
theorem law_hori {g w : World} {L : List HP} (raw : Kvs) (u : Option Addr) (d : Nat) (q : Int) (S : List Chg) (us : Option Addr) (ds : Nat) (hq : 0 ≤ q ∧ q ≤ 18446744073709551615) (hraw : kvR raw) (hS0 : stR S) (hSl : S.length ≤ 9223372036854775807) (hS : St g (Sh 46 2 (en2 raw) u d :: Sh 127 4 (ch4 S) us ds :: L) w) :
    Sp Try.prog 6 [.slice u (List.length (en2 raw)) d, .int .u64 q, .slice us (List.length (ch4 S)) ds] w (fun v w' => v = .bool true ∧ St g (L) w') := by
  refine Sp.enter Try.func6 rfl (by kernel_rfl) (by kernel_rfl) ?_
  refine WC.seq ?_
  refine WC.region ?_
  refine WL.r 1 rfl ?_
  refine WL.nil ?_
  refine WC.seq ?_
  refine WC.region ?_
  refine WL.r 3 rfl ?_
  refine WL.call rfl rfl (kt_chain (raw := raw) (u := u) (d := d) (q := q) (S := S) (us := us) (ds := ds) (hq := hq) (hraw := hraw) (hS0 := hS0) (hSl := hSl) (hS := hS)) rfl ?_
  clear hS; rintro _ w ⟨a1, A1, R1, rs1, ru1, rc1, LL1, lu1, lc1, rfl, hS, f1, f2, f3, f4⟩
  replace hS : St g (Arn a1 A1 :: Own 40 1 (u32s rs1) ru1 rc1 :: Own 36 1 (enL LL1) lu1 lc1 :: Shs leF LL1 :: L) w := hS
  refine WL.r 9 rfl ?_
  refine WL.nil ?_
  refine WC.seq ?_
  refine WC.seq ?_
  refine WC.region ?_
  refine WL.call rfl rfl (awake27_spec   (hS := hS)) rfl ?_
  clear hS; rintro _ w ⟨rfl, hS⟩
  replace hS : St g (Arn a1 A1 :: Own 40 1 (u32s rs1) ru1 rc1 :: Own 36 1 (enL LL1) lu1 lc1 :: Shs leF LL1 :: L) w := hS
  refine WL.r 2 rfl ?_
  refine WL.ung rfl rfl rfl ?_
  refine WL.r 1 rfl ?_
  refine WL.ung rfl rfl rfl ?_
  refine WL.r 2 rfl ?_
  refine WL.nil ?_
  as_aux_lemma =>
    refine WC.ifF rfl rfl ?_
    refine WC.skip ?_
    refine WC.seq ?_
    refine WC.region ?_
    refine WL.r 2 rfl ?_
    replace hS := (hS.at_ 1 rfl).share
    replace hS : St g (Sh 40 1 (u32s rs1) ru1 rc1 :: Arn a1 A1 :: Own 36 1 (enL LL1) lu1 lc1 :: Shs leF LL1 :: L) w := hS
    refine WL.call rfl rfl (hi_orig (a := a1) (A := A1) (R := R1) (Ls := LL1.map LsE.es) (rs := rs1) (u := ru1) (d := rc1) (hA := f1) (hT := f2) (hL := f3) (hn := (by omega)) (hS := (hS.sel 2 [1, 0] rfl))) rfl ?_
    clear hS; rintro _ w ⟨a2, c1, rfl, hS⟩
    replace hS : St g (Own 71 3 (or3 (oAll (hev minI maxI (LL1.map LsE.es) (List.length rs1)))) a2 c1 :: Arn a1 A1 :: Sh 40 1 (u32s rs1) ru1 rc1 :: Own 36 1 (enL LL1) lu1 lc1 :: Shs leF LL1 :: L) w := hS
    refine WL.r 1 rfl ?_
    refine WL.nil ?_
    refine WC.seq ?_
    refine WC.region ?_
    have hLl : LL1.length = rs1.length := (by have := f2.len; rw [List.length_map] at this; exact this); have hnl := enL_len LL1; obtain ⟨z, hz⟩ : ∃ z, LL1[LL1.length - 1]? = some z := ⟨_, List.getElem?_eq_getElem (by omega)⟩; have hol := or_last f3 (n := rs1.length) (by omega); rw [← hLl, lsA_at' hz, hLl] at hol; have hzl : z.es.length = (oAll (hev minI maxI (LL1.map LsE.es) rs1.length)).length := (by rw [← hol, List.length_map]); have hol2 := or3_len (oAll (hev minI maxI (LL1.map LsE.es) rs1.length)); have hzl2 := en2_len z.es; have hnum := oAll_len f3 rs1.length (hev minI maxI (LL1.map LsE.es) rs1.length).length; rw [List.take_length] at hnum
    replace hS : St g (Sh 46 2 (en2 z.es) z.a z.c :: Own 71 3 (or3 (oAll (hev minI maxI (LL1.map LsE.es) (List.length rs1)))) a2 c1 :: Arn a1 A1 :: Sh 40 1 (u32s rs1) ru1 rc1 :: Own 36 1 (enL LL1) lu1 lc1 :: Shs leF LL1 :: L) w := hS.shsGet 4 rfl (List.mem_of_getElem? hz)
    refine WL.r 4 rfl ?_
    refine WL.nw 36 rfl (w64 (by omega)) ?_
    refine WL.ix rfl rfl (i := (List.length (enL LL1) : Int) - 1) (LL1.length - 1) el_55 rfl rfl (by omega) (by omega) (hS.rdO 4 rfl (enL_at hz)).1 ?_
    refine WL.run 2 [.slice z.a (List.length (en2 z.es)) z.c] rfl (by exact (hS.rdO 4 rfl (enL_at hz)).2 0 _ rfl) ?_
    refine WL.nil ?_
    refine WC.seq ?_
    refine WC.seq ?_
    refine WC.region ?_
    refine WL.r 5 rfl ?_
    refine WL.nil ?_
    as_aux_lemma =>
      refine WC.ifF rfl (decide_eq_false ((by omega))) ?_
      refine WC.skip ?_
      refine WC.seq ?_
      refine WC.seq ?_
      refine WC.region ?_
      refine WL.r 1 rfl ?_
      refine WL.nil ?_
      refine WC.block ?_
      refine WC.loop [7, 8, 11, 12, 13] (fun kM vs w => ∃ (k : Nat), vs = [.pointer (some ⟨a1, 0, none⟩), .slice ru1 (List.length (u32s rs1)) rc1, .slice a2 (List.length (or3 (oAll (hev minI maxI (LL1.map LsE.es) (List.length rs1))))) c1, .slice z.a (List.length (en2 z.es)) z.c, .int .i64 (k : Int)] ∧ St g (Sh 46 2 (en2 z.es) z.a z.c :: Own 71 3 (or3 (oAll (hev minI maxI (LL1.map LsE.es) (List.length rs1)))) a2 c1 :: Arn a1 A1 :: Sh 40 1 (u32s rs1) ru1 rc1 :: Own 36 1 (enL LL1) lu1 lc1 :: Shs leF LL1 :: L) w ∧ (k ≤ (oAll (hev minI maxI (LL1.map LsE.es) rs1.length)).length) ∧ ((oAll (hev minI maxI (LL1.map LsE.es) rs1.length)).length - k) = kM) ((List.length (oAll (hev minI maxI (LL1.map LsE.es) (List.length rs1)))) - 0) ⟨0, rfl, hS, (Nat.zero_le _), rfl⟩ ?_
      clear hS; rintro _ _ w j ⟨k, rfl, hS, hk, rfl⟩
      refine WC.seq ?_
      refine WC.seq ?_
      refine WC.region ?_
      refine WL.r 4 rfl ?_
      refine WL.nil ?_
      refine WC.ifP rfl (fun cd1 => ?_) (fun cd1 => ?_)
      · refine WC.skip ?_
        refine WC.seq ?_
        refine WC.block ?_
        refine WC.seq ?_
        refine WC.region ?_
        obtain ⟨x, hx⟩ : ∃ x, (oAll (hev minI maxI (LL1.map LsE.es) rs1.length))[k]? = some x := ⟨_, List.getElem?_eq_getElem (by omega)⟩; have hy : z.es[k]? = some (x.1, x.2.1) := (by rw [← hol, List.getElem?_map, hx]; rfl); obtain ⟨e, he, hne, he1, he2⟩ := or_ev f3 hx; have hfl := ev5_len (hev x.1 x.1 (LL1.map LsE.es) rs1.length); have hel := hev_len (lo := x.1) (hi := x.1) f3 rs1.length
        refine WL.r 4 rfl ?_
        refine WL.ix rfl rfl (i := (k : Int)) (k) el_36 rfl rfl (by omega) (by omega) (hS.rdS 0 rfl (en2_at hy)).1 ?_
        refine WL.run 2 [.int .i64 x.1] rfl (by exact (hS.rdS 0 rfl (en2_at hy)).2 0 _ rfl) ?_
        refine WL.call rfl rfl (hi_log (a := a1) (A := A1) (R := R1) (Ls := LL1.map LsE.es) (rs := rs1) (u := ru1) (d := rc1) (key := x.1) (hA := f1) (hT := f2) (hL := f3) (hn := (by omega)) (hS := (hS.sel 4 [2, 2, 0, 0] rfl))) rfl ?_
        clear hS; rintro _ w ⟨a3, c2, rfl, hS⟩
        replace hS : St g (Own 63 5 (ev5 (hev x.1 x.1 (LL1.map LsE.es) (List.length rs1))) a3 c2 :: Arn a1 A1 :: Sh 40 1 (u32s rs1) ru1 rc1 :: Sh 46 2 (en2 z.es) z.a z.c :: Own 71 3 (or3 (oAll (hev minI maxI (LL1.map LsE.es) (List.length rs1)))) a2 c1 :: Own 36 1 (enL LL1) lu1 lc1 :: Shs leF LL1 :: L) w := hS
        refine WL.r 1 rfl ?_
        refine WL.nil ?_
        as_aux_lemma =>
          refine WC.seq ?_
          refine WC.plan [([0, 1, 5, 6, 2, 7, 3, 8, 4, 9, 10, 11, 12, 13, 14, 15, 16, 17, 23, 24, 18, 25, 19, 26, 20, 27, 21, 22, 28, 29, 30, 31, 32, 39, 40, 33, 41, 34, 42, 35, 43, 36, 37, 38, 44, 45], none)] (by kernel_rfl) (by kernel_rfl) ?_
          refine WQ.r 4 rfl ?_
          refine WQ.ix rfl rfl (i := (k : Int)) (k) el_67 rfl rfl (by omega) (by omega) (hS.rdO 4 rfl (or3_at hx)).1 ?_
          refine WQ.ix rfl rfl (i := (k : Int)) (k) el_36 rfl rfl (by omega) (by omega) (hS.rdS 3 rfl (en2_at hy)).1 ?_
          refine WQ.r 1 rfl ?_
          refine WQ.ldC rfl rfl [.int .i64 x.1, .int .i64 x.2.1] ag_46 rfl (hS.rdS 3 rfl (en2_at hy)).2 ?_
          refine WQ.ldC rfl rfl [.int .i64 x.1, .int .i64 x.2.1] ag_46 rfl (RdE.sub (hS.rdO 4 rfl (or3_at hx)).2 0 [.int .i64 x.1, .int .i64 x.2.1] rfl) ?_
          refine WQ.neS rfl rfl eq_46 (xs := [.int .i64 x.1, .int .i64 x.2.1]) (ys := [.int .i64 x.1, .int .i64 x.2.1]) rfl rfl rfl rfl ?_
          refine WQ.prop 67 rfl (bnot (band (dd _) (dd _))) ?_
          refine WQ.r 1 rfl ?_
          refine WQ.reb 68 (.bool false) (congrArg Value.bool (decide_eq_false ((by simp)))) ?_
          refine WQ.ung rfl rfl rfl ?_
          refine WQ.r 1 rfl ?_
          refine WQ.ung rfl rfl rfl ?_
          refine WQ.r 1 rfl ?_
          refine WQ.ung rfl rfl rfl ?_
          refine WQ.r 3 rfl ?_
          refine WQ.reb 73 (.bool false) (congrArg Value.bool (decide_eq_false ((by first | omega | (simp; omega))))) ?_
          refine WQ.ung rfl rfl rfl ?_
          refine WQ.r 1 rfl ?_
          refine WQ.ung rfl rfl rfl ?_
          refine WQ.r 1 rfl ?_
          refine WQ.ung rfl rfl rfl ?_
          refine WQ.r 1 rfl ?_
          refine WQ.ung rfl rfl rfl ?_
          refine WQ.r 1 rfl ?_
          refine WQ.ung rfl rfl rfl ?_
          refine WQ.r 1 rfl ?_
          refine WQ.ung rfl rfl rfl ?_
          refine WQ.ix rfl rfl (i := (k : Int)) (k) el_67 rfl rfl (by omega) (by omega) (hS.rdO 4 rfl (or3_at hx)).1 ?_
          refine WQ.ung rfl rfl rfl ?_
          refine WQ.r 1 rfl ?_
          refine WQ.nw 77 rfl (w64 (by omega)) ?_
          refine WQ.ung rfl rfl rfl ?_
          refine WQ.r 1 rfl ?_
          refine WQ.ung rfl rfl rfl ?_
          refine WQ.ix rfl rfl (i := (List.length (ev5 (hev x.1 x.1 (LL1.map LsE.es) (List.length rs1))) : Int) - 1) ((hev x.1 x.1 (LL1.map LsE.es) rs1.length).length - 1) el_58 rfl rfl (by omega) (by omega) (hS.rdO 0 rfl (ev5_at he)).1 ?_
          refine WQ.ung rfl rfl rfl ?_
          refine WQ.run 1 [.int .i64 x.2.2] rfl (by exact (hS.rdO 4 rfl (or3_at hx)).2 2 _ rfl) ?_
          refine WQ.ung rfl rfl rfl ?_
          refine WQ.r 1 rfl ?_
          refine WQ.ung rfl rfl rfl ?_
          refine WQ.run 1 [.int .i64 e.1] rfl (by exact (hS.rdO 0 rfl (ev5_at he)).2 0 _ rfl) ?_
          refine WQ.ung rfl rfl rfl ?_
          refine WQ.r 3 rfl ?_
          refine WQ.reb 88 (.bool false) (congrArg Value.bool (decide_eq_false ((by first | omega | (simp; omega))))) ?_
          refine WQ.ung rfl rfl rfl ?_
          refine WQ.r 1 rfl ?_
          refine WQ.ung rfl rfl rfl ?_
          refine WQ.r 1 rfl ?_
          refine WQ.ung rfl rfl rfl ?_
          refine WQ.r 1 rfl ?_
          refine WQ.ung rfl rfl rfl ?_
          refine WQ.r 1 rfl ?_
          refine WQ.ung rfl rfl rfl ?_
          refine WQ.r 1 rfl ?_
          refine WQ.ung rfl rfl rfl ?_
          refine WQ.ix rfl rfl (i := (k : Int)) (k) el_36 rfl rfl (by omega) (by omega) (hS.rdS 3 rfl (en2_at hy)).1 ?_
          refine WQ.ung rfl rfl rfl ?_
          refine WQ.r 1 rfl ?_
          refine WQ.nw 92 rfl (w64 (by omega)) ?_
          refine WQ.ung rfl rfl rfl ?_
          refine WQ.r 1 rfl ?_
          refine WQ.ung rfl rfl rfl ?_
          refine WQ.ix rfl rfl (i := (List.length (ev5 (hev x.1 x.1 (LL1.map LsE.es) (List.length rs1))) : Int) - 1) ((hev x.1 x.1 (LL1.map LsE.es) rs1.length).length - 1) el_58 rfl rfl (by omega) (by omega) (hS.rdO 0 rfl (ev5_at he)).1 ?_
          refine WQ.ung rfl rfl rfl ?_
          refine WQ.run 1 [.int .i64 x.2.1] rfl (by exact (hS.rdS 3 rfl (en2_at hy)).2 1 _ rfl) ?_
          refine WQ.ung rfl rfl rfl ?_
          refine WQ.r 1 rfl ?_
          refine WQ.ung rfl rfl rfl ?_
          refine WQ.r 1 rfl ?_
          refine WQ.ung rfl rfl rfl ?_
          refine WQ.run 1 [.int .i64 e.2.2.2.2] rfl (by exact (hS.rdO 0 rfl (ev5_at he)).2 4 _ rfl) ?_
          refine WQ.ung rfl rfl rfl ?_
          refine WQ.r 2 rfl ?_
          refine WQ.nil ?_
          intro m1
          replace hS := hS.drewN m1; generalize hwm1 : World.drewN _ _ = w at *; clear hwm1
          as_aux_lemma =>
            refine WC.ifF rfl (decide_eq_false ((by first | omega | (simp; omega)))) ?_
            refine WC.skip ?_
            refine WC.region ?_
            refine WL.r 2 rfl ?_
            refine WL.nw 49 rfl (w64 (by omega)) ?_
            refine WL.r 1 rfl ?_
            refine WL.nil ?_
            exact ⟨_, by omega, k + 1, rfl, (hS.sel 5 [3, 3, 1, 1] rfl), (by omega), rfl⟩
      · refine WC.exit ?_
        refine WC.seq ?_
        refine WC.region ?_
        refine WL.r 1 rfl ?_
        refine WL.nil ?_
        refine WC.ret ?_
        refine ⟨[.bool true], rfl, ?_⟩
        replace hS := (hS.sel 6 [] rfl)
        exact ⟨rfl, hS⟩
end Go.Proofs.Ytlnlnebibgdjdaa
