/-
  Transactions: Begin, set, Put, Delete, end, Abort.
  Conditions: the transaction has not ended.
-/
import Derived.Test.YtlnlnebibgdjdaaW1
import Derived.Test.YtlnlnebibgdjdaaTxb
namespace Go.Proofs.Ytlnlnebibgdjdaa
open Go Go.V Go.RowKit Go.Maps

theorem tx_begin {g w : World} {L : List HP} (a : Nat) (A : AM) (R : List Int) (i : Int) (hA : ARf A R) (hi : i = 0 ∨ (1 ≤ i ∧ A.s.ok i = true)) (hz : R.length ≤ 900000000) (hS : St g (Arn a A :: L) w) :
    Sp Try.prog 34 [.pointer (some ⟨a, 0, none⟩), .int .u32 i] w (fun v w' => ∃ (x : Nat), v = .tuple #[.pointer (some ⟨x, 0, none⟩), .int .i64 0] ∧ St g (Tx x a i [] 0 [] :: Arn a (A.ret i) :: L) w' ∧ (ARf (A.ret i) (i :: R))) := by
  refine Sp.enter Try.func34 rfl (by kernel_rfl) (by kernel_rfl) ?_
  have _ := hz
  refine WC.seq ?_
  refine WC.region ?_
  refine WL.r 2 rfl ?_
  refine WL.nil ?_
  refine WC.seq ?_
  refine WC.seq ?_
  refine WC.region ?_
  have hri := hA.okrng hi; have hre := AM.ret_eq hA hi (by omega)
  refine WL.r 2 rfl ?_
  refine WL.call rfl rfl (ar_retain (a := a) (A := A) (i := i) (hA := hA.toAWf) (hi := (by omega)) (hS := hS)) rfl ?_
  clear hS; rintro _ w ⟨rfl, hS⟩
  replace hS : St g (Arn a (A.ret i) :: L) w := hS
  refine WL.r 1 rfl ?_
  refine WL.nil ?_
  refine WC.ifF rfl (decide_eq_false ((by rw [hre.2]; decide))) ?_
  refine WC.skip ?_
  refine WC.seq ?_
  refine WC.region ?_
  replace hS : St g (Own 153 2 (en2 []) none 0 :: Arn a (A.ret i) :: L) w := hS.nil_ 153 2
  refine WL.r 2 rfl ?_
  refine WL.mkM rfl rfl hS (fun b1 w hS => ?_)
  refine WL.build rfl rfl (cs := [.pointer (some ⟨a, 0, none⟩), .int .u32 i, .bool false, .map (some b1), .slice none 0 0]) zv_145 rfl rfl ?_
  refine WL.box rfl rfl #[.pointer (some ⟨a, 0, none⟩), .int .u32 i, .bool false, .map (some b1), .slice none 0 0] hS rfl rfl (fun b2 w hS => ?_)
  refine WL.r 2 rfl ?_
  refine WL.nil ?_
  as_aux_lemma =>
    refine WC.ret ?_
    replace hS := St.exClose (f := txF b2 a i [] 0 []) (L := Arn a (A.ret i) :: L) ⟨b1, none, 0⟩ (hS)
    replace hS : St g (Tx b2 a i [] 0 [] :: Arn a (A.ret i) :: L) w := hS
    refine ⟨[.pointer (some ⟨b2, 0, none⟩), .int .i64 0], ⟨rfl, rfl⟩, ?_⟩
    exact ⟨_, rfl, hS, (AM.ret_eq hA hi (by omega)).1⟩
theorem tx_set_in {g w : World} {L : List HP} (x a : Nat) (rt : Int) (xs : List WE) (q : Nat) (S : Kvs) (M : Wrs) (j : Nat) (e : WE) (k z : Int) (p : Bool) (hW : WOk xs q M) (he : xs[j]? = some e) (hk : e.k = k) (hS : St g (Tx x a rt xs q S :: L) w) :
    Sp Try.prog 78 [.pointer (some ⟨x, 0, none⟩), .int .i64 k, .agg #[.bool p, .int .i64 z]] w (fun v w' => ∃ (xs2 : List WE) (q2 : Nat), v = .int .i64 0 ∧ St g (Tx x a rt xs2 q2 S :: L) w' ∧ (WOk xs2 q2 (wput k (p, z) M))) := by
  refine Sp.enter Try.func78 rfl (by kernel_rfl) (by kernel_rfl) ?_
  refine WC.seq ?_
  refine WC.region ?_
  refine WL.box rfl rfl #[.bool p, .int .i64 z] hS rfl rfl (fun b1 w hS => ?_)
  refine WL.r 1 rfl ?_
  refine WL.nil ?_
  refine WC.seq ?_
  refine WC.seq ?_
  refine WC.region ?_
  obtain ⟨⟨xm, xu, xc⟩, hS⟩ := St.exOpen (f := txF x a rt xs q S) (hS.at_ 1 rfl)
  replace hS : St g (cel x #[.pointer (some ⟨a, 0, none⟩), .int .u32 rt, .bool false, .map (some xm), .slice xu (List.length (en2 S)) xc] 145 :: blk xm (.map (mE (List.map wK xs)) q) :: Own 153 2 (en2 S) xu xc :: cel b1 #[.bool p, .int .i64 z] 148 :: L) w := hS
  refine WL.run 4 [.bool false] rfl (by exact hS.ld 0 rfl rfl) ?_
  refine WL.nil ?_
  refine WC.ifF rfl rfl ?_
  refine WC.skip ?_
  refine WC.seq ?_
  refine WC.seq ?_
  refine WC.region ?_
  refine WL.run 5 [.map (some xm)] rfl (by exact hS.ld 0 rfl rfl) ?_
  refine WL.lk rfl rfl mt_142 1 hS rfl rfl rfl (by first | trivial | rfl) (r := some (j, .agg #[.bool e.p, .int .i64 e.v])) (hk ▸ ki_in (f := wK) (n := WE.k) hW.k.key hW.k.uniq he) rfl ?_
  refine WL.r 3 rfl ?_
  refine WL.new rfl rfl zv_148 hS (fun b2 w hS => ?_)
  refine WL.stF rfl rfl rfl 0 hS rfl rfl rfl rfl rfl ag_148 (fun w hS => ?_)
  replace hS : St g (cel b2 #[.bool e.p, .int .i64 e.v] 148 :: cel x #[.pointer (some ⟨a, 0, none⟩), .int .u32 rt, .bool false, .map (some xm), .slice xu (List.length (en2 S)) xc] 145 :: blk xm (.map (mE (List.map wK xs)) q) :: Own 153 2 (en2 S) xu xc :: cel b1 #[.bool p, .int .i64 z] 148 :: L) w := hS
  refine WL.r 1 rfl ?_
  refine WL.nil ?_
  as_aux_lemma =>
    refine WC.seq ?_
    refine WC.region ?_
    refine WL.r 3 rfl ?_
    refine WL.skp rfl rfl rfl rfl ?_
    refine WL.skp rfl rfl rfl rfl ?_
    refine WL.skp rfl rfl rfl rfl ?_
    refine WL.skp rfl rfl rfl rfl ?_
    refine WL.skp rfl rfl rfl rfl ?_
    refine WL.skp rfl rfl rfl rfl ?_
    refine WL.r 1 rfl ?_
    refine WL.nil ?_
    refine WC.ifF rfl rfl ?_
    refine WC.skip ?_
    refine WC.seq ?_
    refine WC.plan [([0, 4, 1, 2, 3], some (5, [0, 1, 2, 3, 4])), ([], some (6, []))] (by kernel_rfl) (by kernel_rfl) ?_
    refine WQ.run 5 [.map (some xm)] rfl (by exact hS.ld 1 rfl rfl) ?_
    refine WQ.nil ?_
    intro m1
    replace hS := hS.drewN m1; generalize hwm1 : World.drewN _ _ = w at *; clear hwm1
    refine WL.ldF rfl rfl 4 hS rfl rfl ag_148 ?_
    refine WL.nil ?_
    refine ⟨by exact ⟨RQ.pure rfl rfl rfl rfl, RQ.pure rfl rfl rfl rfl, RQ.pure rfl rfl rfl rfl, RQ.load rfl rfl rfl rfl (hS.ld 1 rfl rfl), RQ.pure rfl rfl rfl rfl⟩, ?_⟩
    refine WQ.nil ?_
    intro m2
    replace hS := hS.drewN m2; generalize hwm2 : World.drewN _ _ = w at *; clear hwm2
    refine WL.muR (List.map wK (List.set xs j (WE.mk k p z e.b))) rfl rfl rfl mt_142 2 hS rfl (k := .int .i64 k) (v := .agg #[.bool p, .int .i64 z]) rfl rfl rfl (by first | trivial | rfl) (j := j) (u := (.agg #[.bool e.p, .int .i64 e.v])) (hk ▸ ki_in (f := wK) (n := WE.k) hW.k.key hW.k.uniq he) (by rw [List.getElem?_map, he, ← hk]; rfl) (List.map_set (f := wK) (l := xs) (i := j) (a := WE.mk k p z e.b)).symm (fun w hS => ?_)
    replace hS : St g (cel b2 #[.bool e.p, .int .i64 e.v] 148 :: cel x #[.pointer (some ⟨a, 0, none⟩), .int .u32 rt, .bool false, .map (some xm), .slice xu (List.length (en2 S)) xc] 145 :: blk xm (.map (mE (List.map wK (List.set xs j (WE.mk k p z e.b)))) q) :: Own 153 2 (en2 S) xu xc :: cel b1 #[.bool p, .int .i64 z] 148 :: L) w := hS
    refine WL.nil ?_
    refine ⟨by exact trivial, ?_⟩
    intro m3
    replace hS := hS.drewN m3; generalize hwm3 : World.drewN _ _ = w at *; clear hwm3
    as_aux_lemma =>
      refine WC.seq ?_
      refine WC.region ?_
      refine WL.r 1 rfl ?_
      refine WL.nil ?_
      refine WC.ret ?_
      replace hS := St.exClose (f := txF x a rt (List.set xs j (WE.mk k p z e.b)) q S) (L := cel b2 #[.bool e.p, .int .i64 e.v] 148 :: cel b1 #[.bool p, .int .i64 z] 148 :: L) ⟨xm, xu, xc⟩ ((hS.sel 4 [1, 1, 1, 0] rfl))
      replace hS : St g (Tx x a rt (List.set xs j (WE.mk k p z e.b)) q S :: cel b2 #[.bool e.p, .int .i64 e.v] 148 :: cel b1 #[.bool p, .int .i64 z] 148 :: L) w := hS
      refine ⟨[.int .i64 0], rfl, ?_⟩
      replace hS := (hS.sel 3 [0] rfl)
      exact ⟨_, _, rfl, hS, by have h9 := hW.set he p z; rw [hk] at h9; exact h9⟩
theorem tx_set_new {g w : World} {L : List HP} (x a : Nat) (rt : Int) (xs : List WE) (q : Nat) (S : Kvs) (M : Wrs) (k z : Int) (p : Bool) (hW : WOk xs q M) (hn : ∀ e ∈ xs, e.k ≠ k) (hl : M.length < 1000) (hr : i64R k) (hS : St g (Tx x a rt xs q S :: L) w) :
    Sp Try.prog 78 [.pointer (some ⟨x, 0, none⟩), .int .i64 k, .agg #[.bool p, .int .i64 z]] w (fun v w' => ∃ (xs2 : List WE) (q2 : Nat), v = .int .i64 0 ∧ St g (Tx x a rt xs2 q2 S :: L) w' ∧ (WOk xs2 q2 (wput k (p, z) M))) := by
  refine Sp.enter Try.func78 rfl (by kernel_rfl) (by kernel_rfl) ?_
  have _ := hl
  refine WC.seq ?_
  refine WC.region ?_
  refine WL.box rfl rfl #[.bool p, .int .i64 z] hS rfl rfl (fun b1 w hS => ?_)
  refine WL.r 1 rfl ?_
  refine WL.nil ?_
  refine WC.seq ?_
  refine WC.seq ?_
  refine WC.region ?_
  obtain ⟨⟨xm, xu, xc⟩, hS⟩ := St.exOpen (f := txF x a rt xs q S) (hS.at_ 1 rfl)
  replace hS : St g (cel x #[.pointer (some ⟨a, 0, none⟩), .int .u32 rt, .bool false, .map (some xm), .slice xu (List.length (en2 S)) xc] 145 :: blk xm (.map (mE (List.map wK xs)) q) :: Own 153 2 (en2 S) xu xc :: cel b1 #[.bool p, .int .i64 z] 148 :: L) w := hS
  have hll := hW.len
  refine WL.run 4 [.bool false] rfl (by exact hS.ld 0 rfl rfl) ?_
  refine WL.nil ?_
  refine WC.ifF rfl rfl ?_
  refine WC.skip ?_
  refine WC.seq ?_
  refine WC.seq ?_
  refine WC.region ?_
  refine WL.run 5 [.map (some xm)] rfl (by exact hS.ld 0 rfl rfl) ?_
  refine WL.lk rfl rfl mt_142 1 hS rfl rfl rfl (by first | trivial | rfl) (r := none) (ki_out (f := wK) (n := WE.k) hW.k.key hn) rfl ?_
  refine WL.r 3 rfl ?_
  refine WL.new rfl rfl zv_148 hS (fun b2 w hS => ?_)
  refine WL.stF rfl rfl rfl 0 hS rfl rfl rfl rfl rfl ag_148 (fun w hS => ?_)
  replace hS : St g (cel b2 #[.bool false, .int .i64 0] 148 :: cel x #[.pointer (some ⟨a, 0, none⟩), .int .u32 rt, .bool false, .map (some xm), .slice xu (List.length (en2 S)) xc] 145 :: blk xm (.map (mE (List.map wK xs)) q) :: Own 153 2 (en2 S) xu xc :: cel b1 #[.bool p, .int .i64 z] 148 :: L) w := hS
  refine WL.r 1 rfl ?_
  refine WL.nil ?_
  as_aux_lemma =>
    refine WC.seq ?_
    refine WC.region ?_
    refine WL.r 3 rfl ?_
    refine WL.ung rfl rfl rfl ?_
    refine WL.r 1 rfl ?_
    refine WL.ung rfl rfl rfl ?_
    refine WL.r 1 rfl ?_
    refine WL.ung rfl rfl rfl ?_
    refine WL.r 1 rfl ?_
    refine WL.ung rfl rfl rfl ?_
    refine WL.run 1 [.map (some xm)] rfl (by exact hS.ld 1 rfl rfl) ?_
    refine WL.ung rfl rfl rfl ?_
    refine WL.lenM rfl rfl mt_142 2 hS rfl rfl ?_
    refine WL.ung rfl rfl rfl ?_
    refine WL.r 2 rfl ?_
    refine WL.nil ?_
    refine WC.ifF rfl (decide_eq_false ((by rw [mE_size, List.length_map]; omega))) ?_
    refine WC.skip ?_
    refine WC.seq ?_
    refine WC.plan [([0, 4, 1, 2, 3], some (5, [0, 1, 2, 3, 4])), ([], some (6, []))] (by kernel_rfl) (by kernel_rfl) ?_
    refine WQ.run 5 [.map (some xm)] rfl (by exact hS.ld 1 rfl rfl) ?_
    refine WQ.nil ?_
    intro m1
    replace hS := hS.drewN m1; generalize hwm1 : World.drewN _ _ = w at *; clear hwm1
    refine WL.ldF rfl rfl 4 hS rfl rfl ag_148 ?_
    refine WL.nil ?_
    refine ⟨by exact ⟨RQ.pure rfl rfl rfl rfl, RQ.pure rfl rfl rfl rfl, RQ.pure rfl rfl rfl rfl, RQ.load rfl rfl rfl rfl (hS.ld 1 rfl rfl), RQ.pure rfl rfl rfl rfl⟩, ?_⟩
    refine WQ.nil ?_
    intro m2
    replace hS := hS.drewN m2; generalize hwm2 : World.drewN _ _ = w at *; clear hwm2
    refine WL.muN rfl rfl rfl mt_142 2 hS rfl rfl rfl rfl (by first | trivial | rfl) (ki_out (f := wK) (n := WE.k) hW.k.key hn) (fun w hS => ?_)
    replace hS : St g (cel b2 #[.bool false, .int .i64 0] 148 :: cel x #[.pointer (some ⟨a, 0, none⟩), .int .u32 rt, .bool false, .map (some xm), .slice xu (List.length (en2 S)) xc] 145 :: blk xm (.map (mE ((List.map wK xs) ++ [⟨.int .i64 k, .agg #[.bool p, .int .i64 z], q⟩])) (q + 1)) :: Own 153 2 (en2 S) xu xc :: cel b1 #[.bool p, .int .i64 z] 148 :: L) w := hS
    refine WL.nil ?_
    refine ⟨by exact trivial, ?_⟩
    intro m3
    replace hS := hS.drewN m3; generalize hwm3 : World.drewN _ _ = w at *; clear hwm3
    as_aux_lemma =>
      refine WC.seq ?_
      refine WC.region ?_
      refine WL.r 1 rfl ?_
      refine WL.nil ?_
      refine WC.ret ?_
      replace hS := St.exClose (f := txF x a rt (xs ++ [WE.mk k p z q]) (q + 1) S) (L := cel b2 #[.bool false, .int .i64 0] 148 :: cel b1 #[.bool p, .int .i64 z] 148 :: L) ⟨xm, xu, xc⟩ (by
        have hm : List.map wK xs ++ [(.int .i64 k, .agg #[.bool p, .int .i64 z], q)] = List.map wK (xs ++ [WE.mk k p z q]) := by simp [wK]
        rw [hm] at hS
        exact (hS.sel 4 [1, 1, 1, 0] rfl))
      replace hS : St g (Tx x a rt (xs ++ [WE.mk k p z q]) (q + 1) S :: cel b2 #[.bool false, .int .i64 0] 148 :: cel b1 #[.bool p, .int .i64 z] 148 :: L) w := hS
      refine ⟨[.int .i64 0], rfl, ?_⟩
      replace hS := (hS.sel 3 [0] rfl)
      exact ⟨_, _, rfl, hS, hW.snoc hn hr (by omega) p z⟩
theorem tx_set_full {g w : World} {L : List HP} (x a : Nat) (rt : Int) (xs : List WE) (q : Nat) (S : Kvs) (M : Wrs) (k z : Int) (p : Bool) (hW : WOk xs q M) (hn : ∀ e ∈ xs, e.k ≠ k) (hl : 1000 ≤ M.length) (hS : St g (Tx x a rt xs q S :: L) w) :
    Sp Try.prog 78 [.pointer (some ⟨x, 0, none⟩), .int .i64 k, .agg #[.bool p, .int .i64 z]] w (fun v w' => v = .int .i64 2 ∧ St g (Tx x a rt xs q S :: L) w') := by
  refine Sp.enter Try.func78 rfl (by kernel_rfl) (by kernel_rfl) ?_
  have _ := hl
  refine WC.seq ?_
  refine WC.region ?_
  refine WL.box rfl rfl #[.bool p, .int .i64 z] hS rfl rfl (fun b1 w hS => ?_)
  refine WL.r 1 rfl ?_
  refine WL.nil ?_
  refine WC.seq ?_
  refine WC.seq ?_
  refine WC.region ?_
  obtain ⟨⟨xm, xu, xc⟩, hS⟩ := St.exOpen (f := txF x a rt xs q S) (hS.at_ 1 rfl)
  replace hS : St g (cel x #[.pointer (some ⟨a, 0, none⟩), .int .u32 rt, .bool false, .map (some xm), .slice xu (List.length (en2 S)) xc] 145 :: blk xm (.map (mE (List.map wK xs)) q) :: Own 153 2 (en2 S) xu xc :: cel b1 #[.bool p, .int .i64 z] 148 :: L) w := hS
  have hll := hW.len
  refine WL.run 4 [.bool false] rfl (by exact hS.ld 0 rfl rfl) ?_
  refine WL.nil ?_
  refine WC.ifF rfl rfl ?_
  refine WC.skip ?_
  refine WC.seq ?_
  refine WC.seq ?_
  refine WC.region ?_
  refine WL.run 5 [.map (some xm)] rfl (by exact hS.ld 0 rfl rfl) ?_
  refine WL.lk rfl rfl mt_142 1 hS rfl rfl rfl (by first | trivial | rfl) (r := none) (ki_out (f := wK) (n := WE.k) hW.k.key hn) rfl ?_
  refine WL.r 3 rfl ?_
  refine WL.new rfl rfl zv_148 hS (fun b2 w hS => ?_)
  refine WL.stF rfl rfl rfl 0 hS rfl rfl rfl rfl rfl ag_148 (fun w hS => ?_)
  replace hS : St g (cel b2 #[.bool false, .int .i64 0] 148 :: cel x #[.pointer (some ⟨a, 0, none⟩), .int .u32 rt, .bool false, .map (some xm), .slice xu (List.length (en2 S)) xc] 145 :: blk xm (.map (mE (List.map wK xs)) q) :: Own 153 2 (en2 S) xu xc :: cel b1 #[.bool p, .int .i64 z] 148 :: L) w := hS
  refine WL.r 1 rfl ?_
  refine WL.nil ?_
  as_aux_lemma =>
    refine WC.seq ?_
    refine WC.region ?_
    refine WL.r 3 rfl ?_
    refine WL.ung rfl rfl rfl ?_
    refine WL.r 1 rfl ?_
    refine WL.ung rfl rfl rfl ?_
    refine WL.r 1 rfl ?_
    refine WL.ung rfl rfl rfl ?_
    refine WL.r 1 rfl ?_
    refine WL.ung rfl rfl rfl ?_
    refine WL.run 1 [.map (some xm)] rfl (by exact hS.ld 1 rfl rfl) ?_
    refine WL.ung rfl rfl rfl ?_
    refine WL.lenM rfl rfl mt_142 2 hS rfl rfl ?_
    refine WL.ung rfl rfl rfl ?_
    refine WL.r 2 rfl ?_
    refine WL.nil ?_
    refine WC.ifT rfl (decide_eq_true ((by rw [mE_size, List.length_map]; omega))) ?_
    refine WC.seq ?_
    refine WC.region ?_
    refine WL.r 1 rfl ?_
    refine WL.nil ?_
    refine WC.ret ?_
    replace hS := St.exClose (f := txF x a rt xs q S) (L := cel b2 #[.bool false, .int .i64 0] 148 :: cel b1 #[.bool p, .int .i64 z] 148 :: L) ⟨xm, xu, xc⟩ ((hS.sel 4 [1, 1, 1, 0] rfl))
    replace hS : St g (Tx x a rt xs q S :: cel b2 #[.bool false, .int .i64 0] 148 :: cel b1 #[.bool p, .int .i64 z] 148 :: L) w := hS
    refine ⟨[.int .i64 2], rfl, ?_⟩
    replace hS := (hS.sel 3 [0] rfl)
    exact ⟨rfl, hS⟩
theorem wkeys {xs : List WE} {q : Nat} {M : Wrs} (hW : WOk xs q M) (k : Int) : ((wget k M).isSome = true ∧ ∃ (j : Nat) (e : WE), xs[j]? = some e ∧ e.k = k) ∨ ((wget k M).isSome = false ∧ ∀ e ∈ xs, e.k ≠ k) := by
  rcases ki_cases WE.k xs k with ⟨j, e, hj, hk⟩ | hn
  · refine .inl ⟨?_, j, e, hj, hk⟩
    rw [← hk, hW.get hj]; rfl
  · exact .inr ⟨by rw [hW.no hn]; rfl, hn⟩
/-- the write is refused -/
def wFull (k : Int) (M : Wrs) : Prop := (wget k M).isSome = false ∧ 1000 ≤ M.length
instance (k : Int) (M : Wrs) : Decidable (wFull k M) := by unfold wFull; infer_instance
def wErr (k : Int) (M : Wrs) : Int := if wFull k M then 2 else 0
def wNew (k : Int) (y : Bool × Int) (M : Wrs) : Wrs := if wFull k M then M else wput k y M
theorem wErr_t {k : Int} {M : Wrs} (h : wFull k M) : wErr k M = 2 := if_pos h
theorem wErr_f {k : Int} {M : Wrs} (h : ¬ wFull k M) : wErr k M = 0 := if_neg h
theorem wNew_t {k : Int} {y : Bool × Int} {M : Wrs} (h : wFull k M) : wNew k y M = M := if_pos h
theorem wNew_f {k : Int} {y : Bool × Int} {M : Wrs} (h : ¬ wFull k M) : wNew k y M = wput k y M := if_neg h
theorem tx_set {g w : World} {L : List HP} (x a : Nat) (rt : Int) (xs : List WE) (q : Nat) (S : Kvs) (M : Wrs) (k z : Int) (p : Bool) (hW : WOk xs q M) (hr : i64R k) (hS : St g (Tx x a rt xs q S :: L) w) :
    Sp Try.prog 78 [.pointer (some ⟨x, 0, none⟩), .int .i64 k, .agg #[.bool p, .int .i64 z]] w (fun v w' => ∃ (xs2 : List WE) (q2 : Nat), v = .int .i64 (wErr k M) ∧ St g (Tx x a rt xs2 q2 S :: L) w' ∧ (WOk xs2 q2 (wNew k (p, z) M))) := by
  rcases wkeys hW k with ⟨h1, j, e, he, hk⟩ | ⟨h1, hn⟩
  · have hf : ¬ wFull k M := fun h => by have h9 := h.1; rw [h1] at h9; cases h9
    rw [wErr_f hf]
    refine (tx_set_in x a rt xs q S M j e k z p hW he hk hS).mono fun v w' ⟨xs2, q2, h1, h2, h3⟩ => ⟨xs2, q2, h1, h2, by rw [wNew_f hf]; exact h3⟩
  · by_cases hl : M.length < 1000
    · have hf : ¬ wFull k M := fun h => by have := h.2; omega
      rw [wErr_f hf]
      refine (tx_set_new x a rt xs q S M k z p hW hn hl hr hS).mono fun v w' ⟨xs2, q2, h1, h2, h3⟩ => ⟨xs2, q2, h1, h2, by rw [wNew_f hf]; exact h3⟩
    · have hf : wFull k M := ⟨h1, by omega⟩
      rw [wErr_t hf]
      refine (tx_set_full x a rt xs q S M k z p hW hn (by omega) hS).mono fun v w' ⟨h1, h2⟩ => ⟨xs, q, h1, h2, by rw [wNew_t hf]; exact hW⟩
theorem tx_put {g w : World} {L : List HP} (x a : Nat) (rt : Int) (xs : List WE) (q : Nat) (S : Kvs) (M : Wrs) (k z : Int) (hW : WOk xs q M) (hr : i64R k) (hS : St g (Tx x a rt xs q S :: L) w) :
    Sp Try.prog 35 [.pointer (some ⟨x, 0, none⟩), .int .i64 k, .int .i64 z] w (fun v w' => ∃ (xs2 : List WE) (q2 : Nat), v = .int .i64 (wErr k M) ∧ St g (Tx x a rt xs2 q2 S :: L) w' ∧ (WOk xs2 q2 (wNew k (true, z) M))) := by
  refine Sp.enter Try.func35 rfl (by kernel_rfl) (by kernel_rfl) ?_
  refine WC.seq ?_
  refine WC.region ?_
  refine WL.r 1 rfl ?_
  refine WL.nil ?_
  refine WC.seq ?_
  refine WC.region ?_
  refine WL.r 3 rfl ?_
  refine WL.build rfl rfl (cs := [.bool true, .int .i64 z]) zv_148 rfl rfl ?_
  refine WL.call rfl rfl (tx_set (x := x) (a := a) (rt := rt) (xs := xs) (q := q) (S := S) (M := M) (k := k) (z := z) (p := true) (hW := hW) (hr := hr) (hS := hS)) rfl ?_
  clear hS; rintro _ w ⟨xs1, q1, rfl, hS, f1⟩
  replace hS : St g (Tx x a rt xs1 q1 S :: L) w := hS
  refine WL.r 1 rfl ?_
  refine WL.nil ?_
  refine WC.ret ?_
  refine ⟨[.int .i64 (wErr k M)], rfl, ?_⟩
  exact ⟨_, _, rfl, hS, f1⟩
theorem tx_del {g w : World} {L : List HP} (x a : Nat) (rt : Int) (xs : List WE) (q : Nat) (S : Kvs) (M : Wrs) (k : Int) (hW : WOk xs q M) (hr : i64R k) (hS : St g (Tx x a rt xs q S :: L) w) :
    Sp Try.prog 36 [.pointer (some ⟨x, 0, none⟩), .int .i64 k] w (fun v w' => ∃ (xs2 : List WE) (q2 : Nat), v = .int .i64 (wErr k M) ∧ St g (Tx x a rt xs2 q2 S :: L) w' ∧ (WOk xs2 q2 (wNew k (false, 0) M))) := by
  refine Sp.enter Try.func36 rfl (by kernel_rfl) (by kernel_rfl) ?_
  refine WC.seq ?_
  refine WC.region ?_
  refine WL.r 1 rfl ?_
  refine WL.nil ?_
  refine WC.seq ?_
  refine WC.region ?_
  refine WL.r 2 rfl ?_
  refine WL.build rfl rfl (cs := [.bool false, .int .i64 0]) zv_148 rfl rfl ?_
  refine WL.call rfl rfl (tx_set (x := x) (a := a) (rt := rt) (xs := xs) (q := q) (S := S) (M := M) (k := k) (z := 0) (p := false) (hW := hW) (hr := hr) (hS := hS)) rfl ?_
  clear hS; rintro _ w ⟨xs1, q1, rfl, hS, f1⟩
  replace hS : St g (Tx x a rt xs1 q1 S :: L) w := hS
  refine WL.r 1 rfl ?_
  refine WL.nil ?_
  refine WC.ret ?_
  refine ⟨[.int .i64 (wErr k M)], rfl, ?_⟩
  exact ⟨_, _, rfl, hS, f1⟩
/-- a transaction that has ended -/
theorem tx_end {g w : World} {L : List HP} (x a : Nat) (rt : Int) (xs : List WE) (q : Nat) (S : Kvs) (A : AM) (R : List Int) (hA : ARf A (rt :: R)) (hR : R.length ≤ 900000000) (hS : St g (Tx x a rt xs q S :: Arn a A :: L) w) :
    Sp Try.prog 80 [.pointer (some ⟨x, 0, none⟩)] w (fun v w' => ∃ (A2 : AM) (xm : Nat) (xu : Option Addr) (xc : Nat), v = .tuple #[] ∧ St g (cel x #[.pointer (some ⟨a, 0, none⟩), .int .u32 rt, .bool true, .map (some xm), .slice xu (List.length (en2 S)) xc] 145 :: Arn a A2 :: L) w' ∧ (Rl A A2 R)) := by
  refine Sp.enter Try.func80 rfl (by kernel_rfl) (by kernel_rfl) ?_
  refine WC.seq ?_
  refine WC.region ?_
  obtain ⟨⟨xm, xu, xc⟩, hS⟩ := St.exOpen (f := txF x a rt xs q S) hS
  replace hS : St g (cel x #[.pointer (some ⟨a, 0, none⟩), .int .u32 rt, .bool false, .map (some xm), .slice xu (List.length (en2 S)) xc] 145 :: blk xm (.map (mE (List.map wK xs)) q) :: Own 153 2 (en2 S) xu xc :: Arn a A :: L) w := hS
  have hrr := hA.rng (r := rt) (by simp)
  refine WL.r 3 rfl ?_
  refine WL.st rfl rfl rfl 0 hS rfl rfl rfl rfl rfl rfl (fun w hS => ?_)
  replace hS : St g (cel x #[.pointer (some ⟨a, 0, none⟩), .int .u32 rt, .bool true, .map (some xm), .slice xu (List.length (en2 S)) xc] 145 :: blk xm (.map (mE (List.map wK xs)) q) :: Own 153 2 (en2 S) xu xc :: Arn a A :: L) w := hS
  refine WL.nil ?_
  refine WC.plan [([0, 4, 1, 5, 2, 6, 3, 7], some (8, []))] (by kernel_rfl) (by kernel_rfl) ?_
  refine WQ.run 8 [.pointer (some ⟨a, 0, none⟩), .int .u32 rt] rfl (by exact ⟨hS.ld 0 rfl rfl, hS.ld 0 rfl rfl⟩) ?_
  refine WQ.nil ?_
  intro m1
  replace hS := hS.drewN m1; generalize hwm1 : World.drewN _ _ = w at *; clear hwm1
  refine WL.call rfl rfl (tr_rel (a := a) (A := A) (R := R) (i := rt) (hA := hA) (hR := hR) (hS := (hS.sel 4 [3, 0, 0, 0] rfl))) rfl ?_
  clear hS; rintro _ w ⟨A1, f1, rfl, hS, f2, f3⟩
  replace hS : St g (Arn a A1 :: cel x #[.pointer (some ⟨a, 0, none⟩), .int .u32 rt, .bool true, .map (some xm), .slice xu (List.length (en2 S)) xc] 145 :: blk xm (.map (mE (List.map wK xs)) q) :: Own 153 2 (en2 S) xu xc :: L) w := hS
  refine WL.nil ?_
  refine ⟨by exact trivial, ?_⟩
  intro m2
  replace hS := hS.drewN m2; generalize hwm2 : World.drewN _ _ = w at *; clear hwm2
  refine ⟨[], trivial, ?_⟩
  replace hS := (hS.sel 4 [1, 0] rfl)
  exact ⟨_, _, _, _, rfl, hS, f2⟩
theorem tx_abort {g w : World} {L : List HP} (x a : Nat) (rt : Int) (xs : List WE) (q : Nat) (S : Kvs) (A : AM) (R : List Int) (hA : ARf A (rt :: R)) (hR : R.length ≤ 900000000) (hS : St g (Tx x a rt xs q S :: Arn a A :: L) w) :
    Sp Try.prog 38 [.pointer (some ⟨x, 0, none⟩)] w (fun v w' => ∃ (A2 : AM), v = .int .i64 0 ∧ St g (Arn a A2 :: L) w' ∧ (Rl A A2 R)) := by
  refine Sp.enter Try.func38 rfl (by kernel_rfl) (by kernel_rfl) ?_
  refine WC.seq ?_
  refine WC.region ?_
  refine WL.r 1 rfl ?_
  refine WL.nil ?_
  refine WC.seq ?_
  refine WC.seq ?_
  refine WC.region ?_
  obtain ⟨⟨xm, xu, xc⟩, hS⟩ := St.exOpen (f := txF x a rt xs q S) hS
  replace hS : St g (cel x #[.pointer (some ⟨a, 0, none⟩), .int .u32 rt, .bool false, .map (some xm), .slice xu (List.length (en2 S)) xc] 145 :: blk xm (.map (mE (List.map wK xs)) q) :: Own 153 2 (en2 S) xu xc :: Arn a A :: L) w := hS
  refine WL.run 4 [.bool false] rfl (by exact hS.ld 0 rfl rfl) ?_
  refine WL.nil ?_
  refine WC.ifF rfl rfl ?_
  refine WC.skip ?_
  refine WC.seq ?_
  refine WC.region ?_
  replace hS := St.exClose (f := txF x a rt xs q S) (L := Arn a A :: L) ⟨xm, xu, xc⟩ (hS)
  replace hS : St g (Tx x a rt xs q S :: Arn a A :: L) w := hS
  refine WL.r 1 rfl ?_
  refine WL.call rfl rfl (tx_end (x := x) (a := a) (rt := rt) (xs := xs) (q := q) (S := S) (A := A) (R := R) (hA := hA) (hR := hR) (hS := hS)) rfl ?_
  clear hS; rintro _ w ⟨A1, xm1, xu1, xc1, rfl, hS, f1⟩
  replace hS : St g (cel x #[.pointer (some ⟨a, 0, none⟩), .int .u32 rt, .bool true, .map (some xm1), .slice xu1 (List.length (en2 S)) xc1] 145 :: Arn a A1 :: L) w := hS
  refine WL.nil ?_
  refine WC.seq ?_
  refine WC.region ?_
  refine WL.r 1 rfl ?_
  refine WL.nil ?_
  as_aux_lemma =>
    refine WC.ret ?_
    refine ⟨[.int .i64 0], rfl, ?_⟩
    replace hS := (hS.sel 1 [] rfl)
    exact ⟨_, rfl, hS, f1⟩
end Go.Proofs.Ytlnlnebibgdjdaa
