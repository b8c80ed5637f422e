/-
  Transactions: Commit without a conflict, with room.
  Conditions: the transaction has not ended; both trees are ascending.
-/
import Derived.Test.YtlnlnebibgdjdaaTx4
import Derived.Test.YtlnlnebibgdjdaaW6
namespace Go.Proofs.Ytlnlnebibgdjdaa
open Go Go.V Go.RowKit Go.Maps

theorem wC_k (e : Int × Bool × Int) : (wC e).2.1 = e.1 := by unfold wC; split <;> rfl
theorem wC_3 (e : Int × Bool × Int) : decide ((wC e).1 = 3) = e.2.1 := by
  unfold wC
  cases e.2.1 <;> rfl
theorem wC_v {e : Int × Bool × Int} (h : e.2.1 = true) : (wC e).2.2.2 = e.2.2 := by unfold wC; rw [if_pos h]
theorem need_iff {t : Tr} {e : Int × Bool × Int} : ((¬ ((decide ((wC e).1 = 3) == (Tr.get (wC e).2.1 t).isSome) = true)) ∨ ((wC e).1 = 3 ∧ (Tr.get (wC e).2.1 t).getD 0 ≠ (wC e).2.2.2)) ↔ wNeed t e = true := by
  rw [wC_3, wC_k]
  have h3 : ((wC e).1 = 3) ↔ e.2.1 = true := by rw [← wC_3]; exact decide_eq_true_iff.symm
  rw [h3]
  unfold wNeed
  cases hp : e.2.1 with
  | false => cases (Tr.get e.1 t).isSome <;> simp
  | true => rw [wC_v hp]; cases (Tr.get e.1 t).isSome <;> simp
theorem wWork_len (t : Tr) (M : Wrs) : (wWork t M).length ≤ M.length := List.length_filter_le _ _
theorem wWork_in {t : Tr} {M : Wrs} {k : Nat} {e : Int × Bool × Int} (h : M[k]? = some e) (hn : wNeed t e = true) : wWork t (M.take (k + 1)) = wWork t (M.take k) ++ [e] := by
  unfold wWork; rw [List.take_add_one, h, List.filter_append]; simp [hn]
theorem wWork_out {t : Tr} {M : Wrs} {k : Nat} {e : Int × Bool × Int} (h : M[k]? = some e) (hn : wNeed t e = false) : wWork t (M.take (k + 1)) = wWork t (M.take k) := by
  unfold wWork; rw [List.take_add_one, h, List.filter_append]; simp [hn]
theorem wp_t {e : Int × Bool × Int} (h : (wC e).1 = 3) : e.2.1 = true := by rw [← wC_3]; exact decide_eq_true h
theorem wp_f {e : Int × Bool × Int} (h : ¬ (wC e).1 = 3) : e.2.1 = false := by rw [← wC_3]; exact decide_eq_false h
theorem wCost_ins {e : Int × Bool × Int} {u : Tr} {f : Int} (h : (wC e).1 = 3) (hc : (wCost u e : Int) ≤ f) : (Tr.ic (wC e).2.1 (wC e).2.2.2 u : Int) ≤ f := by
  unfold wCost at hc
  rw [if_pos (wp_t h)] at hc
  rw [wC_k, wC_v (wp_t h)]; exact hc
theorem wCost_del {e : Int × Bool × Int} {u : Tr} {f : Int} (h : ¬ (wC e).1 = 3) (hc : (wCost u e : Int) ≤ f) : (Tr.dc (wC e).2.1 u : Int) ≤ f := by
  unfold wCost at hc
  rw [if_neg (by rw [wp_f h]; decide)] at hc
  rw [wC_k]; exact hc
theorem step_ins {A B C : AM} {R : List Int} {o j : Int} {W : Wrs} {k : Nat} {e : Int × Bool × Int} {t : Tr} (he : W[k]? = some e) (h : (wC e).1 = 3) (hT : TOp A B R o (wAll (W.take k) t) (wSum (W.take k) t)) (f : TOp B C R j (Tr.ins (wC e).2.1 (wC e).2.2.2 (wAll (W.take k) t)) (Tr.ic (wC e).2.1 (wC e).2.2.2 (wAll (W.take k) t))) : TOp A C R j (wAll (W.take (k + 1)) t) (wSum (W.take (k + 1)) t) := by
  rw [wC_k, wC_v (wp_t h)] at f
  rw [wAll_snoc he, wSum_snoc he]
  unfold wOne wCost
  rw [if_pos (wp_t h), if_pos (wp_t h)]
  exact f.after hT.ch sb0 (Nat.le_refl _)
theorem step_del {A B C : AM} {R : List Int} {o j : Int} {W : Wrs} {k : Nat} {e : Int × Bool × Int} {t : Tr} (he : W[k]? = some e) (h : ¬ (wC e).1 = 3) (hT : TOp A B R o (wAll (W.take k) t) (wSum (W.take k) t)) (f : TOp B C R j (Tr.del (wC e).2.1 (wAll (W.take k) t)) (Tr.dc (wC e).2.1 (wAll (W.take k) t))) : TOp A C R j (wAll (W.take (k + 1)) t) (wSum (W.take (k + 1)) t) := by
  have hp : ¬ e.2.1 = true := by rw [wp_f h]; decide
  rw [wC_k] at f
  rw [wAll_snoc he, wSum_snoc he]
  unfold wOne wCost
  rw [if_neg hp, if_neg hp]
  exact f.after hT.ch sb0 (Nat.le_refl _)
theorem TOp.fin {A B C : AM} {R : List Int} {r o : Int} {u : Tr} {c : Nat} (h : TOp A B (r :: R) o u c) (k : Rl B C (o :: R)) : TOp A C R o u c :=
  ⟨k.ref, k.kp o (by simp) u h.is, (h.kp.sub sb1).trans (k.kp.sub sb1), by have := h.fr; have := k.fr; omega, by rw [k.cap, h.cap]⟩
set_option maxHeartbeats 4000000 in
set_option maxRecDepth 8192 in
theorem tx_commit {g w : World} {L : List HP} (x a : Nat) (rt : Int) (xs : List WE) (q : Nat) (S : Kvs) (M : Wrs) (A : AM) (R : List Int) (hd : Int) (ts th : Tr) (hW : WOk xs q M) (hA : ARf A (rt :: R)) (hts : Is A ts rt) (hth : Is A th hd) (hss : Srt ts.ls) (hsh : Srt th.ls) (hn : ts.n + th.n ≤ 60000) (hSl : S.length ≤ 100000) (hR : R.length ≤ 500000000) (hno : ∀ s ∈ S, inR s.1 s.2 (dif ts.ls th.ls) = []) (hrm : wWork th M = [] ∨ ((th.n : Int) + M.length + 4 * ((Tr.mxH (th.n + M.length) : Int) + 2)) ≤ A.s.free) (hcs : ∀ (k : Nat) (e : Int × Bool × Int) (B : AM) (o : Int), (wWork th M)[k]? = some e → TOp A B (rt :: R) o (wAll ((wWork th M).take k) th) (wSum ((wWork th M).take k) th) → (wCost (wAll ((wWork th M).take k) th) e : Int) ≤ B.s.free) (hS : St g (Tx x a rt xs q S :: Arn a A :: L) w) :
    Sp Try.prog 41 [.pointer (some ⟨x, 0, none⟩), .int .u32 hd] w (fun v w' => ∃ (A2 : AM) (i : Int) (xm : Nat) (xu : Option Addr) (xc : Nat), v = .tuple #[.int .u32 i, .int .i64 0] ∧ St g (cel x #[.pointer (some ⟨a, 0, none⟩), .int .u32 rt, .bool true, .map (some xm), .slice xu (List.length (en2 S)) xc] 145 :: Arn a A2 :: L) w' ∧ (TOp A A2 R i (wAll (wWork th M) th) (wSum (wWork th M) th))) := by
  refine Sp.enter Try.func41 rfl (by kernel_rfl) (by kernel_rfl) ?_
  have _ := hR
  have _ := hSl
  have _ := hn
  refine WC.seq ?_
  refine WC.region ?_
  refine WL.r 2 rfl ?_
  refine WL.nil ?_
  refine WC.seq ?_
  refine WC.seq ?_
  refine WC.region ?_
  obtain ⟨⟨xm, xu, xc⟩, hS⟩ := St.exOpen (f := txF x a rt xs q S) hS
  replace hS : St g (cel x #[.pointer (some ⟨a, 0, none⟩), .int .u32 rt, .bool false, .map (some xm), .slice xu (List.length (en2 S)) xc] 145 :: blk xm (.map (mE (List.map wK xs)) q) :: Own 153 2 (en2 S) xu xc :: Arn a A :: L) w := hS
  have hll := en2_len S; have hml := hW.len; have hmn := hW.k.num
  refine WL.run 4 [.bool false] rfl (by exact hS.ld 0 rfl rfl) ?_
  refine WL.nil ?_
  refine WC.ifF rfl rfl ?_
  refine WC.skip ?_
  refine WC.seq ?_
  refine WC.seq ?_
  refine WC.region ?_
  refine WL.run 6 [.slice xu (List.length (en2 S)) xc] rfl (by exact hS.ld 0 rfl rfl) ?_
  refine WL.nil ?_
  refine WC.block ?_
  refine WC.loop [0, 1, 24, 25, 26] (fun kM vs w => ∃ (k : Nat), vs = [.pointer (some ⟨x, 0, none⟩), .int .u32 hd, .slice xu (List.length (en2 S)) xc, .int .i64 (List.length (en2 S) : Int), .int .i64 (k : Int)] ∧ St g (cel x #[.pointer (some ⟨a, 0, none⟩), .int .u32 rt, .bool false, .map (some xm), .slice xu (List.length (en2 S)) xc] 145 :: blk xm (.map (mE (List.map wK xs)) q) :: Own 153 2 (en2 S) xu xc :: Arn a A :: L) w ∧ (k ≤ S.length) ∧ (S.length - k) = kM) ((List.length S) - 0) ⟨0, rfl, hS, (Nat.zero_le _), rfl⟩ ?_
  clear hS; rintro _ _ w j ⟨k, rfl, hS, hk, rfl⟩
  refine WC.seq ?_
  refine WC.region ?_
  refine WL.r 1 rfl ?_
  refine WL.nil ?_
  as_aux_lemma =>
    refine WC.seq ?_
    refine WC.ifP rfl (fun cd1 => ?_) (fun cd1 => ?_)
    · refine WC.skip ?_
      refine WC.seq ?_
      refine WC.block ?_
      refine WC.seq ?_
      refine WC.region ?_
      obtain ⟨e, he⟩ : ∃ e, S[k]? = some e := ⟨_, List.getElem?_eq_getElem (by omega)⟩; have h0 := hno e (List.mem_of_getElem? he)
      refine WL.ix rfl rfl (i := (k : Int)) (k) el_143 rfl rfl (by omega) (by omega) (hS.rdO 2 rfl (en2_at he)).1 ?_
      refine WL.ldC rfl rfl [.int .i64 e.1, .int .i64 e.2] ag_153 rfl (hS.rdO 2 rfl (en2_at he)).2 ?_
      refine WL.new rfl rfl zv_153 hS (fun b1 w hS => ?_)
      refine WL.stF rfl rfl rfl 0 hS rfl rfl rfl rfl rfl ag_153 (fun w hS => ?_)
      replace hS : St g (cel b1 #[.int .i64 e.1, .int .i64 e.2] 153 :: cel x #[.pointer (some ⟨a, 0, none⟩), .int .u32 rt, .bool false, .map (some xm), .slice xu (List.length (en2 S)) xc] 145 :: blk xm (.map (mE (List.map wK xs)) q) :: Own 153 2 (en2 S) xu xc :: Arn a A :: L) w := hS
      refine WL.nil ?_
      refine WC.seq ?_
      refine WC.plan [([0, 4, 8, 9, 11, 1, 5, 10, 12, 2, 6, 3, 7], some (13, [])), ([14, 15], none)] (by kernel_rfl) (by kernel_rfl) ?_
      refine WQ.run 13 [.int .i64 e.1, .int .i64 e.2, .pointer (some ⟨a, 0, none⟩), .int .u32 rt] rfl (by exact ⟨hS.ld 0 rfl rfl, hS.ld 0 rfl rfl, hS.ld 1 rfl rfl, hS.ld 1 rfl rfl⟩) ?_
      refine WQ.nil ?_
      intro m1
      replace hS := hS.drewN m1; generalize hwm1 : World.drewN _ _ = w at *; clear hwm1
      refine WL.call rfl rfl (df_range (a := a) (A := A) (R := rt :: R) (x := rt) (y := hd) (lo := e.1) (hi := e.2) (tx := ts) (ty := th) (hA := hA) (hx := hts) (hy := hth) (hsx := hss) (hsy := hsh) (hl := (by omega)) (hS := (hS.sel 5 [4, 0, 0, 0, 0] rfl))) rfl ?_
      clear hS; rintro _ w ⟨a1, c1, rfl, hS⟩
      replace hS : St g (Own 61 4 (ch4 (inR e.1 e.2 (dif ts.ls th.ls))) a1 c1 :: Arn a A :: cel b1 #[.int .i64 e.1, .int .i64 e.2] 153 :: cel x #[.pointer (some ⟨a, 0, none⟩), .int .u32 rt, .bool false, .map (some xm), .slice xu (List.length (en2 S)) xc] 145 :: blk xm (.map (mE (List.map wK xs)) q) :: Own 153 2 (en2 S) xu xc :: L) w := hS
      refine WL.nil ?_
      refine ⟨by exact trivial, ?_⟩
      refine WQ.r 2 rfl ?_
      refine WQ.nil ?_
      intro m2
      replace hS := hS.drewN m2; generalize hwm2 : World.drewN _ _ = w at *; clear hwm2
      as_aux_lemma =>
        refine WC.ifF rfl (decide_eq_false ((by rw [h0]; decide))) ?_
        refine WC.skip ?_
        refine WC.region ?_
        refine WL.r 1 rfl ?_
        refine WL.nw 46 rfl (w64 (by omega)) ?_
        refine WL.r 1 rfl ?_
        refine WL.nil ?_
        exact ⟨_, by omega, k + 1, rfl, (hS.sel 6 [3, 3, 3, 1] rfl), (by omega), rfl⟩
    · refine WC.exit ?_
      refine WC.seq ?_
      refine WC.region ?_
      replace hS := St.exClose (f := txF x a rt xs q S) (L := Arn a A :: L) ⟨xm, xu, xc⟩ (hS)
      replace hS : St g (Tx x a rt xs q S :: Arn a A :: L) w := hS
      refine WL.r 1 rfl ?_
      refine WL.nil ?_
      refine WC.seq ?_
      refine WC.seq ?_
      refine WC.region ?_
      have hcl := ch4_len (M.map wC); have hmp : (M.map wC).length = M.length := List.length_map ..
      refine WL.r 1 rfl ?_
      refine WL.call rfl rfl (tx_writes (x := x) (a := a) (rt := rt) (xs := xs) (q := q) (S := S) (M := M) (hW := hW) (hS := hS)) rfl ?_
      clear hS; rintro _ w ⟨a1, c1, rfl, hS⟩
      replace hS : St g (Own 61 4 (ch4 (M.map wC)) a1 c1 :: Tx x a rt xs q S :: Arn a A :: L) w := hS
      refine WL.r 2 rfl ?_
      refine WL.nil ?_
      refine WC.block ?_
      replace hS := hS.nil_ 61 4
      refine WC.loop [0, 1, 8, 48, 49, 50] (fun kM vs w => ∃ (k2 : Nat) (acc : List (Int × Int × Int × Int)) (u : Option Addr) (d : Nat), vs = [.pointer (some ⟨x, 0, none⟩), .int .u32 hd, .slice u (List.length (ch4 acc)) d, .slice a1 (List.length (ch4 (M.map wC))) c1, .int .i64 (List.length (ch4 (M.map wC)) : Int), .int .i64 (k2 : Int)] ∧ St g (Own 61 4 (ch4 acc) u d :: Own 61 4 (ch4 (M.map wC)) a1 c1 :: Tx x a rt xs q S :: Arn a A :: L) w ∧ (k2 ≤ M.length) ∧ (acc = (wWork th (M.take k2)).map wC) ∧ (M.length - k2) = kM) ((List.length M) - 0) ⟨0, [], none, 0, rfl, hS, (Nat.zero_le _), (rfl), rfl⟩ ?_
      clear hS; rintro _ _ w j ⟨k2, acc, u, d, rfl, hS, hk2, hac, rfl⟩
      refine WC.seq ?_
      refine WC.region ?_
      have hcl := ch4_len (M.map wC); have hmp : (M.map wC).length = M.length := List.length_map ..
      refine WL.r 1 rfl ?_
      refine WL.nil ?_
      as_aux_lemma =>
        refine WC.seq ?_
        refine WC.ifP rfl (fun cd2 => ?_) (fun cd2 => ?_)
        · refine WC.skip ?_
          refine WC.seq ?_
          refine WC.block ?_
          refine WC.seq ?_
          refine WC.region ?_
          obtain ⟨e, he⟩ : ∃ e, M[k2]? = some e := ⟨_, List.getElem?_eq_getElem (by omega)⟩; have hz : (M.map wC)[k2]? = some (wC e) := (by rw [List.getElem?_map, he]; rfl); have hwl := wWork_len th (M.take k2); have htl := List.length_take_le k2 M; have hacl : acc.length ≤ k2 := (by rw [hac, List.length_map]; omega); have hal := ch4_len acc
          refine WL.ix rfl rfl (i := (k2 : Int)) (k2) el_79 rfl rfl (by omega) (by omega) (hS.rdO 1 rfl (ch4_at hz)).1 ?_
          refine WL.ldC rfl rfl [.int .i64 (wC e).1, .int .i64 (wC e).2.1, .int .i64 (wC e).2.2.1, .int .i64 (wC e).2.2.2] ag_61 rfl (hS.rdO 1 rfl (ch4_at hz)).2 ?_
          refine WL.new rfl rfl zv_61 hS (fun b1 w hS => ?_)
          refine WL.stF rfl rfl rfl 0 hS rfl rfl rfl rfl rfl ag_61 (fun w hS => ?_)
          replace hS : St g (cel b1 #[.int .i64 (wC e).1, .int .i64 (wC e).2.1, .int .i64 (wC e).2.2.1, .int .i64 (wC e).2.2.2] 61 :: Own 61 4 (ch4 acc) u d :: Own 61 4 (ch4 (M.map wC)) a1 c1 :: Tx x a rt xs q S :: Arn a A :: L) w := hS
          refine WL.nil ?_
          refine WC.seq ?_
          refine WC.plan [([0, 4, 5, 1, 6, 2, 3], some (7, [])), ([8, 9, 10, 11, 12], none)] (by kernel_rfl) (by kernel_rfl) ?_
          obtain ⟨⟨xm, xu, xc⟩, hS⟩ := St.exOpen (f := txF x a rt xs q S) (hS.at_ 3 rfl)
          replace hS : St g (cel x #[.pointer (some ⟨a, 0, none⟩), .int .u32 rt, .bool false, .map (some xm), .slice xu (List.length (en2 S)) xc] 145 :: blk xm (.map (mE (List.map wK xs)) q) :: Own 153 2 (en2 S) xu xc :: cel b1 #[.int .i64 (wC e).1, .int .i64 (wC e).2.1, .int .i64 (wC e).2.2.1, .int .i64 (wC e).2.2.2] 61 :: Own 61 4 (ch4 acc) u d :: Own 61 4 (ch4 (M.map wC)) a1 c1 :: Arn a A :: L) w := hS
          refine WQ.run 7 [.int .i64 (wC e).2.1, .pointer (some ⟨a, 0, none⟩)] rfl (by exact ⟨hS.ld 3 rfl rfl, hS.ld 0 rfl rfl⟩) ?_
          refine WQ.nil ?_
          intro m1
          replace hS := hS.drewN m1; generalize hwm1 : World.drewN _ _ = w at *; clear hwm1
          refine WL.call rfl rfl (lk_get (a := a) (A := A) (R := rt :: R) (i := hd) (k := (wC e).2.1) (t := th) (hA := hA) (hi := hth) (hS := (hS.sel 7 [6, 0, 0, 0, 0, 0, 0] rfl))) rfl ?_
          clear hS; rintro _ w ⟨rfl, hS⟩
          replace hS : St g (Arn a A :: cel x #[.pointer (some ⟨a, 0, none⟩), .int .u32 rt, .bool false, .map (some xm), .slice xu (List.length (en2 S)) xc] 145 :: blk xm (.map (mE (List.map wK xs)) q) :: Own 153 2 (en2 S) xu xc :: cel b1 #[.int .i64 (wC e).1, .int .i64 (wC e).2.1, .int .i64 (wC e).2.2.1, .int .i64 (wC e).2.2.2] 61 :: Own 61 4 (ch4 acc) u d :: Own 61 4 (ch4 (M.map wC)) a1 c1 :: L) w := hS
          refine WL.nil ?_
          refine ⟨by exact trivial, ?_⟩
          refine WQ.r 5 rfl ?_
          refine WQ.nil ?_
          intro m2
          replace hS := hS.drewN m2; generalize hwm2 : World.drewN _ _ = w at *; clear hwm2
          as_aux_lemma =>
            refine WC.seq ?_
            refine WC.region ?_
            refine WL.run 4 [.int .i64 (wC e).1] rfl (by exact hS.ld 4 rfl rfl) ?_
            refine WL.nil ?_
            refine WC.seq ?_
            refine WC.region ?_
            refine WL.r 3 rfl ?_
            refine WL.runG 9 [.int .i64 (wC e).2.2.2] rfl (by exact (fun _ => hS.ld 4 rfl rfl)) (fun j => ?_)
            refine WL.prop 79 rfl (bor (bnot (dv _)) (band (dd _) (dd _))) ?_
            refine WL.nil ?_
            refine WC.ifP rfl (fun hnd => ?_) (fun hnd => ?_)
            · refine WC.region ?_
              refine WL.r 1 rfl ?_
              refine WL.ldF rfl rfl 4 hS rfl rfl ag_61 ?_
              refine WL.lit rfl rfl (ch4 [((wC e).1, (wC e).2.1, (wC e).2.2.1, (wC e).2.2.2)]) el_79 hS (by exact ⟨rfl, rfl⟩) (ch4_ok _) rfl (by decide) (fun b2 w hS => ?_)
              refine WL.app rfl rfl 6 (ch4 (acc ++ [((wC e).1, (wC e).2.1, (wC e).2.2.1, (wC e).2.2.2)])) el_79 hS rfl (hS.srcO 0 rfl) (ch4_app _ _).symm (Rm.of (by first | omega | (simp <;> omega)) (by decide)) rfl rfl (fun a2 c2 w hS => ?_)
              replace hS : St g (Own 61 4 (ch4 [((wC e).1, (wC e).2.1, (wC e).2.2.1, (wC e).2.2.2)]) (some ⟨b2, 0, none⟩) (List.length (ch4 [((wC e).1, (wC e).2.1, (wC e).2.2.1, (wC e).2.2.2)])) :: Arn a A :: cel x #[.pointer (some ⟨a, 0, none⟩), .int .u32 rt, .bool false, .map (some xm), .slice xu (List.length (en2 S)) xc] 145 :: blk xm (.map (mE (List.map wK xs)) q) :: Own 153 2 (en2 S) xu xc :: cel b1 #[.int .i64 (wC e).1, .int .i64 (wC e).2.1, .int .i64 (wC e).2.2.1, .int .i64 (wC e).2.2.2] 61 :: Own 61 4 (ch4 (acc ++ [((wC e).1, (wC e).2.1, (wC e).2.2.1, (wC e).2.2.2)])) a2 c2 :: Own 61 4 (ch4 (M.map wC)) a1 c1 :: L) w := hS
              refine WL.r 1 rfl ?_
              refine WL.nil ?_
              refine WC.region ?_
              refine WL.r 1 rfl ?_
              refine WL.nw 84 rfl (w64 (by omega)) ?_
              refine WL.r 1 rfl ?_
              refine WL.nil ?_
              replace hS := St.exClose (f := txF x a rt xs q S) (L := Own 61 4 (ch4 [((wC e).1, (wC e).2.1, (wC e).2.2.1, (wC e).2.2.2)]) (some ⟨b2, 0, none⟩) (List.length (ch4 [((wC e).1, (wC e).2.1, (wC e).2.2.1, (wC e).2.2.2)])) :: Arn a A :: cel b1 #[.int .i64 (wC e).1, .int .i64 (wC e).2.1, .int .i64 (wC e).2.2.1, .int .i64 (wC e).2.2.2] 61 :: Own 61 4 (ch4 (acc ++ [((wC e).1, (wC e).2.1, (wC e).2.2.1, (wC e).2.2.2)])) a2 c2 :: Own 61 4 (ch4 (M.map wC)) a1 c1 :: L) ⟨xm, xu, xc⟩ ((hS.sel 5 [2, 2, 2, 0, 0] rfl))
              replace hS : St g (Tx x a rt xs q S :: Own 61 4 (ch4 [((wC e).1, (wC e).2.1, (wC e).2.2.1, (wC e).2.2.2)]) (some ⟨b2, 0, none⟩) (List.length (ch4 [((wC e).1, (wC e).2.1, (wC e).2.2.1, (wC e).2.2.2)])) :: Arn a A :: cel b1 #[.int .i64 (wC e).1, .int .i64 (wC e).2.1, .int .i64 (wC e).2.2.1, .int .i64 (wC e).2.2.2] 61 :: Own 61 4 (ch4 (acc ++ [((wC e).1, (wC e).2.1, (wC e).2.2.1, (wC e).2.2.2)])) a2 c2 :: Own 61 4 (ch4 (M.map wC)) a1 c1 :: L) w := hS
              exact ⟨_, by omega, k2 + 1, acc ++ [wC e], a2, c2, rfl, (hS.sel 6 [4, 4, 0, 1] rfl), (by omega), (by rw [wWork_in he (need_iff.1 hnd), List.map_append, ← hac]; rfl), rfl⟩
            · refine WC.skip ?_
              refine WC.region ?_
              refine WL.r 1 rfl ?_
              refine WL.nw 84 rfl (w64 (by omega)) ?_
              refine WL.r 1 rfl ?_
              refine WL.nil ?_
              replace hS := St.exClose (f := txF x a rt xs q S) (L := Arn a A :: cel b1 #[.int .i64 (wC e).1, .int .i64 (wC e).2.1, .int .i64 (wC e).2.2.1, .int .i64 (wC e).2.2.2] 61 :: Own 61 4 (ch4 acc) u d :: Own 61 4 (ch4 (M.map wC)) a1 c1 :: L) ⟨xm, xu, xc⟩ ((hS.sel 4 [1, 1, 1, 0] rfl))
              replace hS : St g (Tx x a rt xs q S :: Arn a A :: cel b1 #[.int .i64 (wC e).1, .int .i64 (wC e).2.1, .int .i64 (wC e).2.2.1, .int .i64 (wC e).2.2.2] 61 :: Own 61 4 (ch4 acc) u d :: Own 61 4 (ch4 (M.map wC)) a1 c1 :: L) w := hS
              exact ⟨_, by omega, k2 + 1, acc, u, d, rfl, (hS.sel 5 [3, 3, 0, 0] rfl), (by omega), (by rw [wWork_out he (by have := mt need_iff.2 hnd; simpa using this)]; exact hac), rfl⟩
        · refine WC.exit ?_
          refine WC.seq ?_
          refine WC.seq ?_
          refine WC.plan [([0, 1, 2, 3, 4, 8, 12, 14, 5, 9, 15, 6, 10, 16, 7, 11, 17], some (13, [4, 5, 6, 7, 14, 15, 16, 17])), ([18], some (19, [4, 5, 6, 7])), ([], some (20, [])), ([21, 22], none)] (by kernel_rfl) (by kernel_rfl) ?_
          obtain ⟨⟨xm, xu, xc⟩, hS⟩ := St.exOpen (f := txF x a rt xs q S) (hS.at_ 2 rfl)
          replace hS : St g (cel x #[.pointer (some ⟨a, 0, none⟩), .int .u32 rt, .bool false, .map (some xm), .slice xu (List.length (en2 S)) xc] 145 :: blk xm (.map (mE (List.map wK xs)) q) :: Own 153 2 (en2 S) xu xc :: Own 61 4 (ch4 acc) u d :: Own 61 4 (ch4 (M.map wC)) a1 c1 :: Arn a A :: L) w := hS
          have hke : acc = (wWork th M).map wC := (by rw [hac, List.take_of_length_le (by omega)]); have hal := ch4_len acc; have hal2 : acc.length = (wWork th M).length := (by rw [hke, List.length_map]); have hwl := wWork_len th M
          refine WQ.r 4 rfl ?_
          by_cases cg1 : 0 < (List.length (ch4 acc) : Int)
          · refine WQ.reb 88 (.bool true) (congrArg Value.bool (decide_eq_true cg1)) ?_
            refine WQ.ung rfl rfl rfl ?_
            refine WQ.r 1 rfl ?_
            refine WQ.ung rfl rfl rfl ?_
            refine WQ.r 1 rfl ?_
            refine WQ.ung rfl rfl rfl ?_
            refine WQ.r 1 rfl ?_
            refine WQ.ung rfl rfl rfl ?_
            refine WQ.r 1 rfl ?_
            refine WQ.ung rfl rfl rfl ?_
            refine WQ.r 1 rfl ?_
            refine WQ.ung rfl rfl rfl ?_
            refine WQ.r 1 rfl ?_
            refine WQ.ung rfl rfl rfl ?_
            refine WQ.r 1 rfl ?_
            refine WQ.ung rfl rfl rfl ?_
            refine WQ.r 1 rfl ?_
            refine WQ.ung rfl rfl rfl ?_
            refine WQ.r 1 rfl ?_
            refine WQ.ung rfl rfl rfl ?_
            refine WQ.r 1 rfl ?_
            refine WQ.ung rfl rfl rfl ?_
            refine WQ.run 1 [.pointer (some ⟨a, 0, none⟩)] rfl (by exact hS.ld 0 rfl rfl) ?_
            refine WQ.ung rfl rfl rfl ?_
            refine WQ.run 1 [.pointer (some ⟨a, 0, none⟩)] rfl (by exact hS.ld 0 rfl rfl) ?_
            refine WQ.ung rfl rfl rfl ?_
            refine WQ.run 1 [.map (some xm)] rfl (by exact hS.ld 0 rfl rfl) ?_
            refine WQ.nil ?_
            intro m1
            replace hS := hS.drewN m1; generalize hwm1 : World.drewN _ _ = w at *; clear hwm1
            refine WL.ung rfl rfl rfl ?_
            refine WL.call rfl rfl (tr_size (a := a) (A := A) (R := rt :: R) (i := hd) (t := th) (hA := hA) (hi := hth) (hS := (hS.sel 6 [5, 0, 0, 0, 0, 0] rfl))) rfl ?_
            clear hS; rintro _ w ⟨rfl, hS⟩
            replace hS : St g (Arn a A :: cel x #[.pointer (some ⟨a, 0, none⟩), .int .u32 rt, .bool false, .map (some xm), .slice xu (List.length (en2 S)) xc] 145 :: blk xm (.map (mE (List.map wK xs)) q) :: Own 153 2 (en2 S) xu xc :: Own 61 4 (ch4 acc) u d :: Own 61 4 (ch4 (M.map wC)) a1 c1 :: L) w := hS
            refine WL.nil ?_
            refine ⟨by exact ⟨RQ.ung rfl rfl rfl (RQ.pure rfl rfl rfl rfl), RQ.ung rfl rfl rfl (RQ.pure rfl rfl rfl rfl), RQ.ung rfl rfl rfl (RQ.pure rfl rfl rfl rfl), RQ.ung rfl rfl rfl (RQ.load rfl rfl rfl rfl (hS.ld 1 rfl rfl)), RQ.ung rfl rfl rfl (RQ.pure rfl rfl rfl rfl), RQ.ung rfl rfl rfl (RQ.pure rfl rfl rfl rfl), RQ.ung rfl rfl rfl (RQ.pure rfl rfl rfl rfl), RQ.ung rfl rfl rfl (RQ.load rfl rfl rfl rfl (hS.ld 1 rfl rfl))⟩, ?_⟩
            refine WQ.ung rfl rfl rfl ?_
            refine WQ.lenM rfl rfl mt_142 2 hS rfl rfl ?_
            refine WQ.nil ?_
            intro m2
            replace hS := hS.drewN m2; generalize hwm2 : World.drewN _ _ = w at *; clear hwm2
            refine WL.ung rfl rfl rfl ?_
            refine WL.call rfl rfl (rs_apply (n := th.n) (m := Array.size (mE (List.map wK xs))) (hn := (by rw [mE_size, List.length_map]; omega)) (hS := hS)) rfl ?_
            clear hS; rintro _ w ⟨rfl, hS⟩
            replace hS : St g (Arn a A :: cel x #[.pointer (some ⟨a, 0, none⟩), .int .u32 rt, .bool false, .map (some xm), .slice xu (List.length (en2 S)) xc] 145 :: blk xm (.map (mE (List.map wK xs)) q) :: Own 153 2 (en2 S) xu xc :: Own 61 4 (ch4 acc) u d :: Own 61 4 (ch4 (M.map wC)) a1 c1 :: L) w := hS
            refine WL.nil ?_
            refine ⟨by exact ⟨RQ.ung rfl rfl rfl (RQ.pure rfl rfl rfl rfl), RQ.ung rfl rfl rfl (RQ.pure rfl rfl rfl rfl), RQ.ung rfl rfl rfl (RQ.pure rfl rfl rfl rfl), RQ.ung rfl rfl rfl (RQ.load rfl rfl rfl rfl (hS.ld 1 rfl rfl))⟩, ?_⟩
            refine WQ.nil ?_
            intro m3
            replace hS := hS.drewN m3; generalize hwm3 : World.drewN _ _ = w at *; clear hwm3
            refine WL.ung rfl rfl rfl ?_
            refine WL.call rfl rfl (tw_room (a := a) (A := A) (n := (th.n : Int) + (Array.size (mE (List.map wK xs))) + 4 * ((Tr.mxH (th.n + (Array.size (mE (List.map wK xs)))) : Int) + 2)) (hA := hA.toAWf) (hS := hS)) rfl ?_
            clear hS; rintro _ w ⟨rfl, hS⟩
            replace hS : St g (Arn a A :: cel x #[.pointer (some ⟨a, 0, none⟩), .int .u32 rt, .bool false, .map (some xm), .slice xu (List.length (en2 S)) xc] 145 :: blk xm (.map (mE (List.map wK xs)) q) :: Own 153 2 (en2 S) xu xc :: Own 61 4 (ch4 acc) u d :: Own 61 4 (ch4 (M.map wC)) a1 c1 :: L) w := hS
            refine WL.nil ?_
            refine ⟨by exact trivial, ?_⟩
            refine WQ.ung rfl rfl rfl ?_
            refine WQ.r 1 rfl ?_
            refine WQ.prop 106 rfl (bnot (dd _)) ?_
            refine WQ.r 1 rfl ?_
            refine WQ.nil ?_
            intro m4
            replace hS := hS.drewN m4; generalize hwm4 : World.drewN _ _ = w at *; clear hwm4
            as_aux_lemma =>
              refine WC.ifF rfl (decide_eq_false ((by have hsz : (mE (List.map wK xs)).size = M.length := (by rw [mE_size, List.length_map, hml]); rw [hsz]; rcases hrm with h | h; (rw [h] at hal2; simp only [List.length_nil] at hal2; omega); exact Classical.not_not.2 ⟨by omega, h⟩))) ?_
              refine WC.skip ?_
              refine WC.seq ?_
              refine WC.region ?_
              refine WL.run 5 [.pointer (some ⟨a, 0, none⟩)] rfl (by exact hS.ld 1 rfl rfl) ?_
              refine WL.call rfl rfl (tw_hold (a := a) (A := A) (R := rt :: R) (i := hd) (hA := hA) (hi := hth.ref) (hz := (by simp only [List.length_cons]; omega)) (hS := hS)) rfl ?_
              clear hS; rintro _ w ⟨rfl, hS, f1⟩
              replace hS : St g (Arn a (A.ret hd) :: cel x #[.pointer (some ⟨a, 0, none⟩), .int .u32 rt, .bool false, .map (some xm), .slice xu (List.length (en2 S)) xc] 145 :: blk xm (.map (mE (List.map wK xs)) q) :: Own 153 2 (en2 S) xu xc :: Own 61 4 (ch4 acc) u d :: Own 61 4 (ch4 (M.map wC)) a1 c1 :: L) w := hS
              refine WL.r 1 rfl ?_
              refine WL.nil ?_
              refine WC.seq ?_
              refine WC.seq ?_
              refine WC.region ?_
              refine WL.r 3 rfl ?_
              refine WL.nil ?_
              refine WC.block ?_
              refine WC.loop [0, 14, 114, 115, 116] (fun kM vs w => ∃ (k3 : Nat) (B : AM) (o : Int), vs = [.pointer (some ⟨x, 0, none⟩), .int .u32 o, .slice u (List.length (ch4 acc)) d, .int .i64 (List.length (ch4 acc) : Int), .int .i64 (k3 : Int)] ∧ St g (Arn a B :: cel x #[.pointer (some ⟨a, 0, none⟩), .int .u32 rt, .bool false, .map (some xm), .slice xu (List.length (en2 S)) xc] 145 :: blk xm (.map (mE (List.map wK xs)) q) :: Own 153 2 (en2 S) xu xc :: Own 61 4 (ch4 acc) u d :: Own 61 4 (ch4 (M.map wC)) a1 c1 :: L) w ∧ (k3 ≤ (wWork th M).length) ∧ (TOp A B (rt :: R) o (wAll ((wWork th M).take k3) th) (wSum ((wWork th M).take k3) th)) ∧ ((wWork th M).length - k3) = kM) ((List.length (wWork th M)) - 0) ⟨0, A.ret hd, hd, rfl, hS, (Nat.zero_le _), (TOp.held (ARf.refl f1 (hth.ret hd))), rfl⟩ ?_
              clear hS; rintro _ _ w j ⟨k3, B, o, rfl, hS, hk3, hT, rfl⟩
              refine WC.seq ?_
              refine WC.region ?_
              refine WL.r 1 rfl ?_
              refine WL.nil ?_
              refine WC.seq ?_
              refine WC.ifP rfl (fun cd3 => ?_) (fun cd3 => ?_)
              · refine WC.skip ?_
                as_aux_lemma =>
                  refine WC.seq ?_
                  refine WC.block ?_
                  refine WC.seq ?_
                  refine WC.region ?_
                  obtain ⟨e3, he3⟩ : ∃ e, (wWork th M)[k3]? = some e := ⟨_, List.getElem?_eq_getElem (by omega)⟩; have hz3 : acc[k3]? = some (wC e3) := (by rw [hke, List.getElem?_map, he3]; rfl); have hc3 := hcs k3 e3 B o he3 hT; have hwn := wAll_n ((wWork th M).take k3) th; have htl3 := List.length_take_le k3 (wWork th M)
                  refine WL.ix rfl rfl (i := (k3 : Int)) (k3) el_79 rfl rfl (by omega) (by omega) (hS.rdO 4 rfl (ch4_at hz3)).1 ?_
                  refine WL.ldC rfl rfl [.int .i64 (wC e3).1, .int .i64 (wC e3).2.1, .int .i64 (wC e3).2.2.1, .int .i64 (wC e3).2.2.2] ag_61 rfl (hS.rdO 4 rfl (ch4_at hz3)).2 ?_
                  refine WL.new rfl rfl zv_61 hS (fun b1 w hS => ?_)
                  refine WL.stF rfl rfl rfl 0 hS rfl rfl rfl rfl rfl ag_61 (fun w hS => ?_)
                  replace hS : St g (cel b1 #[.int .i64 (wC e3).1, .int .i64 (wC e3).2.1, .int .i64 (wC e3).2.2.1, .int .i64 (wC e3).2.2.2] 61 :: Arn a B :: cel x #[.pointer (some ⟨a, 0, none⟩), .int .u32 rt, .bool false, .map (some xm), .slice xu (List.length (en2 S)) xc] 145 :: blk xm (.map (mE (List.map wK xs)) q) :: Own 153 2 (en2 S) xu xc :: Own 61 4 (ch4 acc) u d :: Own 61 4 (ch4 (M.map wC)) a1 c1 :: L) w := hS
                  refine WL.nil ?_
                  refine WC.seq ?_
                  refine WC.region ?_
                  refine WL.run 3 [.int .i64 (wC e3).1] rfl (by exact hS.ld 0 rfl rfl) ?_
                  refine WL.nil ?_
                  refine WC.ifP rfl (fun hp => ?_) (fun hp => ?_)
                  · refine WC.plan [([0, 4, 5, 7, 1, 6, 8, 2, 3], some (9, [0, 1, 2, 3, 4])), ([], some (10, [])), ([], some (11, []))] (by kernel_rfl) (by kernel_rfl) ?_
                    refine WQ.run 9 [.int .i64 (wC e3).2.1, .int .i64 (wC e3).2.2.2, .pointer (some ⟨a, 0, none⟩)] rfl (by exact ⟨hS.ld 0 rfl rfl, hS.ld 0 rfl rfl, hS.ld 2 rfl rfl⟩) ?_
                    refine WQ.nil ?_
                    intro m5
                    replace hS := hS.drewN m5; generalize hwm5 : World.drewN _ _ = w at *; clear hwm5
                    refine WL.build rfl rfl (cs := [.int .i64 (wC e3).2.1, .int .i64 (wC e3).2.2.2]) zv_46 rfl rfl ?_
                    refine WL.nil ?_
                    refine ⟨by exact ⟨RQ.pure rfl rfl rfl rfl, RQ.pure rfl rfl rfl rfl, RQ.pure rfl rfl rfl rfl, RQ.load rfl rfl rfl rfl (hS.ld 2 rfl rfl), RQ.pure rfl rfl rfl rfl⟩, ?_⟩
                    refine WQ.nil ?_
                    intro m6
                    replace hS := hS.drewN m6; generalize hwm6 : World.drewN _ _ = w at *; clear hwm6
                    refine WL.call rfl rfl (tw_ins (a := a) (A := B) (R := rt :: R) (i := o) (k := (wC e3).2.1) (z := (wC e3).2.2.2) (t := wAll ((wWork th M).take k3) th) (hA := hT.ref) (hi := hT.is) (hf := (wCost_ins hp hc3)) (hz := (by simp only [List.length_cons]; omega)) (hS := (hS.sel 2 [1, 0] rfl))) rfl ?_
                    clear hS; rintro _ w ⟨A1, j1, rfl, hS, f2⟩
                    replace hS : St g (Arn a A1 :: cel b1 #[.int .i64 (wC e3).1, .int .i64 (wC e3).2.1, .int .i64 (wC e3).2.2.1, .int .i64 (wC e3).2.2.2] 61 :: cel x #[.pointer (some ⟨a, 0, none⟩), .int .u32 rt, .bool false, .map (some xm), .slice xu (List.length (en2 S)) xc] 145 :: blk xm (.map (mE (List.map wK xs)) q) :: Own 153 2 (en2 S) xu xc :: Own 61 4 (ch4 acc) u d :: Own 61 4 (ch4 (M.map wC)) a1 c1 :: L) w := hS
                    refine WL.nil ?_
                    refine ⟨by exact trivial, ?_⟩
                    refine WQ.nil ?_
                    intro m7
                    replace hS := hS.drewN m7; generalize hwm7 : World.drewN _ _ = w at *; clear hwm7
                    refine WL.r 1 rfl ?_
                    refine WL.nil ?_
                    refine ⟨by exact trivial, ?_⟩
                    intro m8
                    replace hS := hS.drewN m8; generalize hwm8 : World.drewN _ _ = w at *; clear hwm8
                    as_aux_lemma =>
                      refine WC.region ?_
                      refine WL.r 1 rfl ?_
                      refine WL.nw 142 rfl (w64 (by omega)) ?_
                      refine WL.r 1 rfl ?_
                      refine WL.nil ?_
                      exact ⟨_, by omega, k3 + 1, A1, j1, rfl, (hS.sel 2 [0] rfl), (by omega), (step_ins he3 hp hT f2), rfl⟩
                  · refine WC.plan [([0, 4, 5, 1, 6, 2, 3], some (7, [])), ([8], none)] (by kernel_rfl) (by kernel_rfl) ?_
                    refine WQ.run 7 [.int .i64 (wC e3).2.1, .pointer (some ⟨a, 0, none⟩)] rfl (by exact ⟨hS.ld 0 rfl rfl, hS.ld 2 rfl rfl⟩) ?_
                    refine WQ.nil ?_
                    intro m5
                    replace hS := hS.drewN m5; generalize hwm5 : World.drewN _ _ = w at *; clear hwm5
                    refine WL.call rfl rfl (tw_del (a := a) (A := B) (R := rt :: R) (i := o) (k := (wC e3).2.1) (t := wAll ((wWork th M).take k3) th) (hA := hT.ref) (hi := hT.is) (hf := (wCost_del hp hc3)) (hz := (by simp only [List.length_cons]; omega)) (hS := (hS.sel 2 [1, 0] rfl))) rfl ?_
                    clear hS; rintro _ w ⟨A1, j1, rfl, hS, f2⟩
                    replace hS : St g (Arn a A1 :: cel b1 #[.int .i64 (wC e3).1, .int .i64 (wC e3).2.1, .int .i64 (wC e3).2.2.1, .int .i64 (wC e3).2.2.2] 61 :: cel x #[.pointer (some ⟨a, 0, none⟩), .int .u32 rt, .bool false, .map (some xm), .slice xu (List.length (en2 S)) xc] 145 :: blk xm (.map (mE (List.map wK xs)) q) :: Own 153 2 (en2 S) xu xc :: Own 61 4 (ch4 acc) u d :: Own 61 4 (ch4 (M.map wC)) a1 c1 :: L) w := hS
                    refine WL.nil ?_
                    refine ⟨by exact trivial, ?_⟩
                    refine WQ.r 1 rfl ?_
                    refine WQ.nil ?_
                    intro m6
                    replace hS := hS.drewN m6; generalize hwm6 : World.drewN _ _ = w at *; clear hwm6
                    as_aux_lemma =>
                      refine WC.region ?_
                      refine WL.r 1 rfl ?_
                      refine WL.nw 142 rfl (w64 (by omega)) ?_
                      refine WL.r 1 rfl ?_
                      refine WL.nil ?_
                      exact ⟨_, by omega, k3 + 1, A1, j1, rfl, (hS.sel 2 [0] rfl), (by omega), (step_del he3 hp hT f2), rfl⟩
              · refine WC.exit ?_
                as_aux_lemma =>
                  refine WC.seq ?_
                  refine WC.region ?_
                  replace hS := St.exClose (f := txF x a rt xs q S) (L := Arn a B :: Own 61 4 (ch4 acc) u d :: Own 61 4 (ch4 (M.map wC)) a1 c1 :: L) ⟨xm, xu, xc⟩ ((hS.sel 4 [1, 1, 1, 0] rfl))
                  replace hS : St g (Tx x a rt xs q S :: Arn a B :: Own 61 4 (ch4 acc) u d :: Own 61 4 (ch4 (M.map wC)) a1 c1 :: L) w := hS
                  refine WL.r 1 rfl ?_
                  refine WL.call rfl rfl (tx_end (x := x) (a := a) (rt := rt) (xs := xs) (q := q) (S := S) (A := B) (R := o :: R) (hA := hT.ref.sw) (hR := (by simp only [List.length_cons]; omega)) (hS := hS)) rfl ?_
                  clear hS; rintro _ w ⟨A1, xm1, xu1, xc1, rfl, hS, f2⟩
                  replace hS : St g (cel x #[.pointer (some ⟨a, 0, none⟩), .int .u32 rt, .bool true, .map (some xm1), .slice xu1 (List.length (en2 S)) xc1] 145 :: Arn a A1 :: Own 61 4 (ch4 acc) u d :: Own 61 4 (ch4 (M.map wC)) a1 c1 :: L) w := hS
                  refine WL.nil ?_
                  refine WC.seq ?_
                  refine WC.region ?_
                  refine WL.r 3 rfl ?_
                  refine WL.nil ?_
                  refine WC.ret ?_
                  refine ⟨[.int .u32 o, .int .i64 0], ⟨rfl, rfl⟩, ?_⟩
                  replace hS := (hS.sel 4 [0, 0] rfl)
                  have hk9 : (wWork th M).take k3 = wWork th M := List.take_of_length_le (by omega); rw [hk9] at hT; exact ⟨_, _, _, _, _, rfl, hS, TOp.fin hT f2⟩
          · refine WQ.reb 88 (.bool false) (congrArg Value.bool (decide_eq_false cg1)) ?_
            refine WQ.skp rfl rfl rfl rfl ?_
            refine WQ.skp rfl rfl rfl rfl ?_
            refine WQ.skp rfl rfl rfl rfl ?_
            refine WQ.skp rfl rfl rfl rfl ?_
            refine WQ.skp rfl rfl rfl rfl ?_
            refine WQ.skp rfl rfl rfl rfl ?_
            refine WQ.skp rfl rfl rfl rfl ?_
            refine WQ.skp rfl rfl rfl rfl ?_
            refine WQ.skp rfl rfl rfl rfl ?_
            refine WQ.skp rfl rfl rfl rfl ?_
            refine WQ.skp rfl rfl rfl rfl ?_
            refine WQ.skp rfl rfl rfl rfl ?_
            refine WQ.skp rfl rfl rfl rfl ?_
            refine WQ.nil ?_
            intro m1
            replace hS := hS.drewN m1; generalize hwm1 : World.drewN _ _ = w at *; clear hwm1
            refine WL.skp rfl rfl rfl rfl ?_
            refine WL.nil ?_
            refine ⟨by exact ⟨RQ.skp rfl rfl rfl rfl rfl rfl, RQ.skp rfl rfl rfl rfl rfl rfl, RQ.skp rfl rfl rfl rfl rfl rfl, RQ.skp rfl rfl rfl rfl rfl rfl, RQ.skp rfl rfl rfl rfl rfl rfl, RQ.skp rfl rfl rfl rfl rfl rfl, RQ.skp rfl rfl rfl rfl rfl rfl, RQ.skp rfl rfl rfl rfl rfl rfl⟩, ?_⟩
            refine WQ.skp rfl rfl rfl rfl ?_
            refine WQ.nil ?_
            intro m2
            replace hS := hS.drewN m2; generalize hwm2 : World.drewN _ _ = w at *; clear hwm2
            refine WL.skp rfl rfl rfl rfl ?_
            refine WL.nil ?_
            refine ⟨by exact ⟨RQ.skp rfl rfl rfl rfl rfl rfl, RQ.skp rfl rfl rfl rfl rfl rfl, RQ.skp rfl rfl rfl rfl rfl rfl, RQ.skp rfl rfl rfl rfl rfl rfl⟩, ?_⟩
            refine WQ.nil ?_
            intro m3
            replace hS := hS.drewN m3; generalize hwm3 : World.drewN _ _ = w at *; clear hwm3
            refine WL.skp rfl rfl rfl rfl ?_
            refine WL.nil ?_
            refine ⟨by exact trivial, ?_⟩
            refine WQ.skp rfl rfl rfl rfl ?_
            refine WQ.r 1 rfl ?_
            refine WQ.nil ?_
            intro m4
            replace hS := hS.drewN m4; generalize hwm4 : World.drewN _ _ = w at *; clear hwm4
            as_aux_lemma =>
              refine WC.ifF rfl rfl ?_
              refine WC.skip ?_
              refine WC.seq ?_
              refine WC.region ?_
              refine WL.run 5 [.pointer (some ⟨a, 0, none⟩)] rfl (by exact hS.ld 0 rfl rfl) ?_
              refine WL.call rfl rfl (tw_hold (a := a) (A := A) (R := rt :: R) (i := hd) (hA := hA) (hi := hth.ref) (hz := (by simp only [List.length_cons]; omega)) (hS := (hS.sel 6 [5, 0, 0, 0, 0, 0] rfl))) rfl ?_
              clear hS; rintro _ w ⟨rfl, hS, f1⟩
              replace hS : St g (Arn a (A.ret hd) :: cel x #[.pointer (some ⟨a, 0, none⟩), .int .u32 rt, .bool false, .map (some xm), .slice xu (List.length (en2 S)) xc] 145 :: blk xm (.map (mE (List.map wK xs)) q) :: Own 153 2 (en2 S) xu xc :: Own 61 4 (ch4 acc) u d :: Own 61 4 (ch4 (M.map wC)) a1 c1 :: L) w := hS
              refine WL.r 1 rfl ?_
              refine WL.nil ?_
              refine WC.seq ?_
              refine WC.seq ?_
              refine WC.region ?_
              refine WL.r 3 rfl ?_
              refine WL.nil ?_
              refine WC.block ?_
              refine WC.loop [0, 14, 114, 115, 116] (fun kM vs w => ∃ (k3 : Nat) (B : AM) (o : Int), vs = [.pointer (some ⟨x, 0, none⟩), .int .u32 o, .slice u (List.length (ch4 acc)) d, .int .i64 (List.length (ch4 acc) : Int), .int .i64 (k3 : Int)] ∧ St g (Arn a B :: cel x #[.pointer (some ⟨a, 0, none⟩), .int .u32 rt, .bool false, .map (some xm), .slice xu (List.length (en2 S)) xc] 145 :: blk xm (.map (mE (List.map wK xs)) q) :: Own 153 2 (en2 S) xu xc :: Own 61 4 (ch4 acc) u d :: Own 61 4 (ch4 (M.map wC)) a1 c1 :: L) w ∧ (k3 ≤ (wWork th M).length) ∧ (TOp A B (rt :: R) o (wAll ((wWork th M).take k3) th) (wSum ((wWork th M).take k3) th)) ∧ ((wWork th M).length - k3) = kM) ((List.length (wWork th M)) - 0) ⟨0, A.ret hd, hd, rfl, hS, (Nat.zero_le _), (TOp.held (ARf.refl f1 (hth.ret hd))), rfl⟩ ?_
              clear hS; rintro _ _ w j ⟨k3, B, o, rfl, hS, hk3, hT, rfl⟩
              refine WC.seq ?_
              refine WC.region ?_
              refine WL.r 1 rfl ?_
              refine WL.nil ?_
              refine WC.seq ?_
              refine WC.ifP rfl (fun cd3 => ?_) (fun cd3 => ?_)
              · refine WC.skip ?_
                as_aux_lemma =>
                  refine WC.seq ?_
                  refine WC.block ?_
                  refine WC.seq ?_
                  refine WC.region ?_
                  obtain ⟨e3, he3⟩ : ∃ e, (wWork th M)[k3]? = some e := ⟨_, List.getElem?_eq_getElem (by omega)⟩; have hz3 : acc[k3]? = some (wC e3) := (by rw [hke, List.getElem?_map, he3]; rfl); have hc3 := hcs k3 e3 B o he3 hT; have hwn := wAll_n ((wWork th M).take k3) th; have htl3 := List.length_take_le k3 (wWork th M)
                  refine WL.ix rfl rfl (i := (k3 : Int)) (k3) el_79 rfl rfl (by omega) (by omega) (hS.rdO 4 rfl (ch4_at hz3)).1 ?_
                  refine WL.ldC rfl rfl [.int .i64 (wC e3).1, .int .i64 (wC e3).2.1, .int .i64 (wC e3).2.2.1, .int .i64 (wC e3).2.2.2] ag_61 rfl (hS.rdO 4 rfl (ch4_at hz3)).2 ?_
                  refine WL.new rfl rfl zv_61 hS (fun b1 w hS => ?_)
                  refine WL.stF rfl rfl rfl 0 hS rfl rfl rfl rfl rfl ag_61 (fun w hS => ?_)
                  replace hS : St g (cel b1 #[.int .i64 (wC e3).1, .int .i64 (wC e3).2.1, .int .i64 (wC e3).2.2.1, .int .i64 (wC e3).2.2.2] 61 :: Arn a B :: cel x #[.pointer (some ⟨a, 0, none⟩), .int .u32 rt, .bool false, .map (some xm), .slice xu (List.length (en2 S)) xc] 145 :: blk xm (.map (mE (List.map wK xs)) q) :: Own 153 2 (en2 S) xu xc :: Own 61 4 (ch4 acc) u d :: Own 61 4 (ch4 (M.map wC)) a1 c1 :: L) w := hS
                  refine WL.nil ?_
                  refine WC.seq ?_
                  refine WC.region ?_
                  refine WL.run 3 [.int .i64 (wC e3).1] rfl (by exact hS.ld 0 rfl rfl) ?_
                  refine WL.nil ?_
                  refine WC.ifP rfl (fun hp => ?_) (fun hp => ?_)
                  · refine WC.plan [([0, 4, 5, 7, 1, 6, 8, 2, 3], some (9, [0, 1, 2, 3, 4])), ([], some (10, [])), ([], some (11, []))] (by kernel_rfl) (by kernel_rfl) ?_
                    refine WQ.run 9 [.int .i64 (wC e3).2.1, .int .i64 (wC e3).2.2.2, .pointer (some ⟨a, 0, none⟩)] rfl (by exact ⟨hS.ld 0 rfl rfl, hS.ld 0 rfl rfl, hS.ld 2 rfl rfl⟩) ?_
                    refine WQ.nil ?_
                    intro m5
                    replace hS := hS.drewN m5; generalize hwm5 : World.drewN _ _ = w at *; clear hwm5
                    refine WL.build rfl rfl (cs := [.int .i64 (wC e3).2.1, .int .i64 (wC e3).2.2.2]) zv_46 rfl rfl ?_
                    refine WL.nil ?_
                    refine ⟨by exact ⟨RQ.pure rfl rfl rfl rfl, RQ.pure rfl rfl rfl rfl, RQ.pure rfl rfl rfl rfl, RQ.load rfl rfl rfl rfl (hS.ld 2 rfl rfl), RQ.pure rfl rfl rfl rfl⟩, ?_⟩
                    refine WQ.nil ?_
                    intro m6
                    replace hS := hS.drewN m6; generalize hwm6 : World.drewN _ _ = w at *; clear hwm6
                    refine WL.call rfl rfl (tw_ins (a := a) (A := B) (R := rt :: R) (i := o) (k := (wC e3).2.1) (z := (wC e3).2.2.2) (t := wAll ((wWork th M).take k3) th) (hA := hT.ref) (hi := hT.is) (hf := (wCost_ins hp hc3)) (hz := (by simp only [List.length_cons]; omega)) (hS := (hS.sel 2 [1, 0] rfl))) rfl ?_
                    clear hS; rintro _ w ⟨A1, j1, rfl, hS, f2⟩
                    replace hS : St g (Arn a A1 :: cel b1 #[.int .i64 (wC e3).1, .int .i64 (wC e3).2.1, .int .i64 (wC e3).2.2.1, .int .i64 (wC e3).2.2.2] 61 :: cel x #[.pointer (some ⟨a, 0, none⟩), .int .u32 rt, .bool false, .map (some xm), .slice xu (List.length (en2 S)) xc] 145 :: blk xm (.map (mE (List.map wK xs)) q) :: Own 153 2 (en2 S) xu xc :: Own 61 4 (ch4 acc) u d :: Own 61 4 (ch4 (M.map wC)) a1 c1 :: L) w := hS
                    refine WL.nil ?_
                    refine ⟨by exact trivial, ?_⟩
                    refine WQ.nil ?_
                    intro m7
                    replace hS := hS.drewN m7; generalize hwm7 : World.drewN _ _ = w at *; clear hwm7
                    refine WL.r 1 rfl ?_
                    refine WL.nil ?_
                    refine ⟨by exact trivial, ?_⟩
                    intro m8
                    replace hS := hS.drewN m8; generalize hwm8 : World.drewN _ _ = w at *; clear hwm8
                    as_aux_lemma =>
                      refine WC.region ?_
                      refine WL.r 1 rfl ?_
                      refine WL.nw 142 rfl (w64 (by omega)) ?_
                      refine WL.r 1 rfl ?_
                      refine WL.nil ?_
                      exact ⟨_, by omega, k3 + 1, A1, j1, rfl, (hS.sel 2 [0] rfl), (by omega), (step_ins he3 hp hT f2), rfl⟩
                  · refine WC.plan [([0, 4, 5, 1, 6, 2, 3], some (7, [])), ([8], none)] (by kernel_rfl) (by kernel_rfl) ?_
                    refine WQ.run 7 [.int .i64 (wC e3).2.1, .pointer (some ⟨a, 0, none⟩)] rfl (by exact ⟨hS.ld 0 rfl rfl, hS.ld 2 rfl rfl⟩) ?_
                    refine WQ.nil ?_
                    intro m5
                    replace hS := hS.drewN m5; generalize hwm5 : World.drewN _ _ = w at *; clear hwm5
                    refine WL.call rfl rfl (tw_del (a := a) (A := B) (R := rt :: R) (i := o) (k := (wC e3).2.1) (t := wAll ((wWork th M).take k3) th) (hA := hT.ref) (hi := hT.is) (hf := (wCost_del hp hc3)) (hz := (by simp only [List.length_cons]; omega)) (hS := (hS.sel 2 [1, 0] rfl))) rfl ?_
                    clear hS; rintro _ w ⟨A1, j1, rfl, hS, f2⟩
                    replace hS : St g (Arn a A1 :: cel b1 #[.int .i64 (wC e3).1, .int .i64 (wC e3).2.1, .int .i64 (wC e3).2.2.1, .int .i64 (wC e3).2.2.2] 61 :: cel x #[.pointer (some ⟨a, 0, none⟩), .int .u32 rt, .bool false, .map (some xm), .slice xu (List.length (en2 S)) xc] 145 :: blk xm (.map (mE (List.map wK xs)) q) :: Own 153 2 (en2 S) xu xc :: Own 61 4 (ch4 acc) u d :: Own 61 4 (ch4 (M.map wC)) a1 c1 :: L) w := hS
                    refine WL.nil ?_
                    refine ⟨by exact trivial, ?_⟩
                    refine WQ.r 1 rfl ?_
                    refine WQ.nil ?_
                    intro m6
                    replace hS := hS.drewN m6; generalize hwm6 : World.drewN _ _ = w at *; clear hwm6
                    as_aux_lemma =>
                      refine WC.region ?_
                      refine WL.r 1 rfl ?_
                      refine WL.nw 142 rfl (w64 (by omega)) ?_
                      refine WL.r 1 rfl ?_
                      refine WL.nil ?_
                      exact ⟨_, by omega, k3 + 1, A1, j1, rfl, (hS.sel 2 [0] rfl), (by omega), (step_del he3 hp hT f2), rfl⟩
              · refine WC.exit ?_
                as_aux_lemma =>
                  refine WC.seq ?_
                  refine WC.region ?_
                  replace hS := St.exClose (f := txF x a rt xs q S) (L := Arn a B :: Own 61 4 (ch4 acc) u d :: Own 61 4 (ch4 (M.map wC)) a1 c1 :: L) ⟨xm, xu, xc⟩ ((hS.sel 4 [1, 1, 1, 0] rfl))
                  replace hS : St g (Tx x a rt xs q S :: Arn a B :: Own 61 4 (ch4 acc) u d :: Own 61 4 (ch4 (M.map wC)) a1 c1 :: L) w := hS
                  refine WL.r 1 rfl ?_
                  refine WL.call rfl rfl (tx_end (x := x) (a := a) (rt := rt) (xs := xs) (q := q) (S := S) (A := B) (R := o :: R) (hA := hT.ref.sw) (hR := (by simp only [List.length_cons]; omega)) (hS := hS)) rfl ?_
                  clear hS; rintro _ w ⟨A1, xm1, xu1, xc1, rfl, hS, f2⟩
                  replace hS : St g (cel x #[.pointer (some ⟨a, 0, none⟩), .int .u32 rt, .bool true, .map (some xm1), .slice xu1 (List.length (en2 S)) xc1] 145 :: Arn a A1 :: Own 61 4 (ch4 acc) u d :: Own 61 4 (ch4 (M.map wC)) a1 c1 :: L) w := hS
                  refine WL.nil ?_
                  refine WC.seq ?_
                  refine WC.region ?_
                  refine WL.r 3 rfl ?_
                  refine WL.nil ?_
                  refine WC.ret ?_
                  refine ⟨[.int .u32 o, .int .i64 0], ⟨rfl, rfl⟩, ?_⟩
                  replace hS := (hS.sel 4 [0, 0] rfl)
                  have hk9 : (wWork th M).take k3 = wWork th M := List.take_of_length_le (by omega); rw [hk9] at hT; exact ⟨_, _, _, _, _, rfl, hS, TOp.fin hT f2⟩
end Go.Proofs.Ytlnlnebibgdjdaa
