/-
  The reference's table of names: Set.
  Conditions: no name stands twice.
-/
import Derived.Test.YtenkmjbghbegfaaDoorSet
import Derived.Test.YtenkmjbghbegfaaDoorVal2
import Derived.Test.YtenkmjbghbegfaaDoorRfs
namespace Go.Proofs.YtenkmjbghbegfaaDoor
open Go Go.V

theorem rset_bad {g w : World} {L : List HP} (R : List RW) (s : ByteArray) (x y : Int) (a : Option Addr) (c : Nat) (hb : ¬ (okRef (sb s) ∧ ¬ (x = 0 ∧ y = 0))) (hS : St g (Sh 72 3 (enR R) a c :: Shs rwF R :: L) w) :
    Sp Tryd.prog 17 [.agg #[.slice a (List.length (enR R)) c], .string s, .int .u64 x, .int .u64 y] w (fun v w' => v = .tuple #[.agg #[.slice a (List.length (enR R)) c], .int .i64 1] ∧ St g (Sh 72 3 (enR R) a c :: Shs rwF R :: L) w') := by
  refine Sp.enter Tryd.func17 rfl (by kernel_rfl) (by kernel_rfl) ?_
  refine WC.seq ?_
  refine WC.region ?_
  refine WL.box rfl rfl #[.slice a (List.length (enR R)) c] hS rfl rfl (fun b1 w hS => ?_)
  refine WL.new rfl rfl zv_38 hS (fun b2 w hS => ?_)
  refine WL.r 1 rfl ?_
  refine WL.nil ?_
  refine WC.seq ?_
  refine WC.seq ?_
  refine WC.region ?_
  refine WL.r 1 rfl ?_
  refine WL.call rfl rfl (rvalidName_spec (s := s)  (hS := hS)) rfl ?_
  clear hS; rintro _ w ⟨rfl, hS⟩
  replace hS : St g (cel b2 #[.slice none 0 0] 38 :: cel b1 #[.slice a (List.length (enR R)) c] 38 :: Sh 72 3 (enR R) a c :: Shs rwF R :: L) w := hS
  refine WL.r 1 rfl ?_
  refine WL.prop 19 rfl (bnot (dd _)) ?_
  refine WL.rG 8 rfl (fun j => ?_)
  refine WL.prop 27 rfl (bor (dd _) (band (dd _) (dd _))) ?_
  refine WL.nil ?_
  refine WC.ifT rfl (decide_eq_true ((bad_or hb))) ?_
  refine WC.seq ?_
  refine WC.region ?_
  refine WL.ldF rfl rfl 1 hS rfl rfl ag_38 ?_
  refine WL.stF rfl rfl rfl 0 hS rfl rfl rfl rfl rfl ag_38 (fun w hS => ?_)
  replace hS : St g (cel b2 #[.slice a (List.length (enR R)) c] 38 :: cel b1 #[.slice a (List.length (enR R)) c] 38 :: Sh 72 3 (enR R) a c :: Shs rwF R :: L) w := hS
  refine WL.r 1 rfl ?_
  refine WL.nil ?_
  as_aux_lemma =>
    refine WC.ret ?_
    refine ⟨[.agg #[.slice a (List.length (enR R)) c], .int .i64 1], ⟨⟨_, rfl, hS.lvF 0 rfl ag_38⟩, rfl⟩, ?_⟩
    replace hS := (hS.sel 2 [] rfl)
    exact ⟨rfl, hS⟩
theorem rset_staleO {g w : World} {L : List HP} (R : List RW) (s : ByteArray) (x y : Int) (a : Option Addr) (c : Nat) (hl : R.length ≤ 1000000) (hv : okRef (sb s)) (h0 : x ≠ 0) (hn : ∀ x ∈ R, x.name ≠ s) (hS : St g (Sh 72 3 (enR R) a c :: Shs rwF R :: L) w) :
    Sp Tryd.prog 17 [.agg #[.slice a (List.length (enR R)) c], .string s, .int .u64 x, .int .u64 y] w (fun v w' => v = .tuple #[.agg #[.slice a (List.length (enR R)) c], .int .i64 11] ∧ St g (Sh 72 3 (enR R) a c :: Shs rwF R :: L) w') := by
  refine Sp.enter Tryd.func17 rfl (by kernel_rfl) (by kernel_rfl) ?_
  refine WC.seq ?_
  refine WC.region ?_
  refine WL.box rfl rfl #[.slice a (List.length (enR R)) c] hS rfl rfl (fun b1 w hS => ?_)
  refine WL.new rfl rfl zv_38 hS (fun b2 w hS => ?_)
  refine WL.r 1 rfl ?_
  refine WL.nil ?_
  refine WC.seq ?_
  refine WC.seq ?_
  refine WC.region ?_
  refine WL.r 1 rfl ?_
  refine WL.call rfl rfl (rvalidName_spec (s := s)  (hS := hS)) rfl ?_
  clear hS; rintro _ w ⟨rfl, hS⟩
  replace hS : St g (cel b2 #[.slice none 0 0] 38 :: cel b1 #[.slice a (List.length (enR R)) c] 38 :: Sh 72 3 (enR R) a c :: Shs rwF R :: L) w := hS
  refine WL.r 1 rfl ?_
  refine WL.prop 19 rfl (bnot (dd _)) ?_
  refine WL.rG 8 rfl (fun j => ?_)
  refine WL.prop 27 rfl (bor (dd _) (band (dd _) (dd _))) ?_
  refine WL.nil ?_
  refine WC.ifF rfl (decide_eq_false ((fun h => h.elim (fun k => k hv) (fun k => h0 k.1)))) ?_
  refine WC.skip ?_
  refine WC.seq ?_
  refine WC.region ?_
  refine WL.ldF rfl rfl 1 hS rfl rfl ag_38 ?_
  refine WL.r 1 rfl ?_
  refine WL.call rfl rfl (rget_out (R := R) (s := s) (a := a) (c := c) (hl := hl) (hn := hn) (hS := (hS.sel 3 [2, 0, 0] rfl))) rfl ?_
  clear hS; rintro _ w ⟨rfl, hS⟩
  replace hS : St g (Sh 72 3 (enR R) a c :: cel b2 #[.slice none 0 0] 38 :: cel b1 #[.slice a (List.length (enR R)) c] 38 :: Shs rwF R :: L) w := hS
  refine WL.r 5 rfl ?_
  refine WL.nil ?_
  as_aux_lemma =>
    refine WC.seq ?_
    refine WC.seq ?_
    refine WC.region ?_
    refine WL.r 3 rfl ?_
    refine WL.nil ?_
    refine WC.ifT rfl (decide_eq_true ((fun h => h0 h.symm))) ?_
    refine WC.seq ?_
    refine WC.region ?_
    refine WL.ldF rfl rfl 2 hS rfl rfl ag_38 ?_
    refine WL.stF rfl rfl rfl 1 hS rfl rfl rfl rfl rfl ag_38 (fun w hS => ?_)
    replace hS : St g (Sh 72 3 (enR R) a c :: cel b2 #[.slice a (List.length (enR R)) c] 38 :: cel b1 #[.slice a (List.length (enR R)) c] 38 :: Shs rwF R :: L) w := hS
    refine WL.r 1 rfl ?_
    refine WL.nil ?_
    refine WC.ret ?_
    refine ⟨[.agg #[.slice a (List.length (enR R)) c], .int .i64 11], ⟨⟨_, rfl, hS.lvF 1 rfl ag_38⟩, rfl⟩, ?_⟩
    replace hS := (hS.sel 3 [0] rfl)
    exact ⟨rfl, hS⟩
theorem rset_staleI {g w : World} {L : List HP} (R : List RW) (s : ByteArray) (x y : Int) (a : Option Addr) (c i : Nat) (r : RW) (hl : R.length ≤ 1000000) (hv : okRef (sb s)) (h0 : ¬ (x = 0 ∧ y = 0)) (hr : R[i]? = some r) (hn : r.name = s) (hU : RUq R) (hh : r.h ≠ x) (hS : St g (Sh 72 3 (enR R) a c :: Shs rwF R :: L) w) :
    Sp Tryd.prog 17 [.agg #[.slice a (List.length (enR R)) c], .string s, .int .u64 x, .int .u64 y] w (fun v w' => v = .tuple #[.agg #[.slice a (List.length (enR R)) c], .int .i64 11] ∧ St g (Sh 72 3 (enR R) a c :: Shs rwF R :: L) w') := by
  refine Sp.enter Tryd.func17 rfl (by kernel_rfl) (by kernel_rfl) ?_
  refine WC.seq ?_
  refine WC.region ?_
  refine WL.box rfl rfl #[.slice a (List.length (enR R)) c] hS rfl rfl (fun b1 w hS => ?_)
  refine WL.new rfl rfl zv_38 hS (fun b2 w hS => ?_)
  refine WL.r 1 rfl ?_
  refine WL.nil ?_
  refine WC.seq ?_
  refine WC.seq ?_
  refine WC.region ?_
  refine WL.r 1 rfl ?_
  refine WL.call rfl rfl (rvalidName_spec (s := s)  (hS := hS)) rfl ?_
  clear hS; rintro _ w ⟨rfl, hS⟩
  replace hS : St g (cel b2 #[.slice none 0 0] 38 :: cel b1 #[.slice a (List.length (enR R)) c] 38 :: Sh 72 3 (enR R) a c :: Shs rwF R :: L) w := hS
  refine WL.r 1 rfl ?_
  refine WL.prop 19 rfl (bnot (dd _)) ?_
  refine WL.rG 8 rfl (fun j => ?_)
  refine WL.prop 27 rfl (bor (dd _) (band (dd _) (dd _))) ?_
  refine WL.nil ?_
  refine WC.ifF rfl (decide_eq_false ((fun h => h.elim (fun k => k hv) h0))) ?_
  refine WC.skip ?_
  refine WC.seq ?_
  refine WC.region ?_
  refine WL.ldF rfl rfl 1 hS rfl rfl ag_38 ?_
  refine WL.r 1 rfl ?_
  refine WL.call rfl rfl (rget_in (R := R) (s := s) (a := a) (c := c) (i := i) (r := r) (hl := hl) (hr := hr) (hn := hn) (hU := hU) (hS := (hS.sel 3 [2, 0, 0] rfl))) rfl ?_
  clear hS; rintro _ w ⟨rfl, hS⟩
  replace hS : St g (Sh 72 3 (enR R) a c :: cel b2 #[.slice none 0 0] 38 :: cel b1 #[.slice a (List.length (enR R)) c] 38 :: Shs rwF R :: L) w := hS
  refine WL.r 5 rfl ?_
  refine WL.nil ?_
  as_aux_lemma =>
    refine WC.seq ?_
    refine WC.seq ?_
    refine WC.region ?_
    refine WL.r 3 rfl ?_
    refine WL.nil ?_
    refine WC.ifT rfl (decide_eq_true (hh)) ?_
    refine WC.seq ?_
    refine WC.region ?_
    refine WL.ldF rfl rfl 2 hS rfl rfl ag_38 ?_
    refine WL.stF rfl rfl rfl 1 hS rfl rfl rfl rfl rfl ag_38 (fun w hS => ?_)
    replace hS : St g (Sh 72 3 (enR R) a c :: cel b2 #[.slice a (List.length (enR R)) c] 38 :: cel b1 #[.slice a (List.length (enR R)) c] 38 :: Shs rwF R :: L) w := hS
    refine WL.r 1 rfl ?_
    refine WL.nil ?_
    refine WC.ret ?_
    refine ⟨[.agg #[.slice a (List.length (enR R)) c], .int .i64 11], ⟨⟨_, rfl, hS.lvF 1 rfl ag_38⟩, rfl⟩, ?_⟩
    replace hS := (hS.sel 3 [0] rfl)
    exact ⟨rfl, hS⟩
theorem rset_full {g w : World} {L : List HP} (R : List RW) (s : ByteArray) (y : Int) (a : Option Addr) (c : Nat) (hl : R.length = 256) (hv : okRef (sb s)) (h0 : y ≠ 0) (hn : ∀ x ∈ R, x.name ≠ s) (hS : St g (Sh 72 3 (enR R) a c :: Shs rwF R :: L) w) :
    Sp Tryd.prog 17 [.agg #[.slice a (List.length (enR R)) c], .string s, .int .u64 0, .int .u64 y] w (fun v w' => v = .tuple #[.agg #[.slice a (List.length (enR R)) c], .int .i64 2] ∧ St g (Sh 72 3 (enR R) a c :: Shs rwF R :: L) w') := by
  refine Sp.enter Tryd.func17 rfl (by kernel_rfl) (by kernel_rfl) ?_
  have _ := hl
  refine WC.seq ?_
  refine WC.region ?_
  refine WL.box rfl rfl #[.slice a (List.length (enR R)) c] hS rfl rfl (fun b1 w hS => ?_)
  refine WL.new rfl rfl zv_38 hS (fun b2 w hS => ?_)
  refine WL.r 1 rfl ?_
  refine WL.nil ?_
  refine WC.seq ?_
  refine WC.seq ?_
  refine WC.region ?_
  refine WL.r 1 rfl ?_
  refine WL.call rfl rfl (rvalidName_spec (s := s)  (hS := hS)) rfl ?_
  clear hS; rintro _ w ⟨rfl, hS⟩
  replace hS : St g (cel b2 #[.slice none 0 0] 38 :: cel b1 #[.slice a (List.length (enR R)) c] 38 :: Sh 72 3 (enR R) a c :: Shs rwF R :: L) w := hS
  refine WL.r 1 rfl ?_
  refine WL.prop 19 rfl (bnot (dd _)) ?_
  refine WL.rG 8 rfl (fun j => ?_)
  refine WL.prop 27 rfl (bor (dd _) (band (dd _) (dd _))) ?_
  refine WL.nil ?_
  refine WC.ifF rfl (decide_eq_false ((fun h => h.elim (fun k => k hv) (fun k => h0 k.2)))) ?_
  refine WC.skip ?_
  refine WC.seq ?_
  refine WC.region ?_
  refine WL.ldF rfl rfl 1 hS rfl rfl ag_38 ?_
  refine WL.r 1 rfl ?_
  refine WL.call rfl rfl (rget_out (R := R) (s := s) (a := a) (c := c) (hl := (by omega)) (hn := hn) (hS := (hS.sel 3 [2, 0, 0] rfl))) rfl ?_
  clear hS; rintro _ w ⟨rfl, hS⟩
  replace hS : St g (Sh 72 3 (enR R) a c :: cel b2 #[.slice none 0 0] 38 :: cel b1 #[.slice a (List.length (enR R)) c] 38 :: Shs rwF R :: L) w := hS
  refine WL.r 5 rfl ?_
  refine WL.nil ?_
  as_aux_lemma =>
    refine WC.seq ?_
    refine WC.seq ?_
    refine WC.region ?_
    refine WL.r 3 rfl ?_
    refine WL.nil ?_
    refine WC.ifF rfl (decide_eq_false ((fun h => h rfl))) ?_
    refine WC.skip ?_
    refine WC.seq ?_
    refine WC.seq ?_
    refine WC.region ?_
    have hel := enR_len R
    refine WL.r 3 rfl ?_
    refine WL.ung rfl rfl rfl ?_
    refine WL.r 1 rfl ?_
    refine WL.ung rfl rfl rfl ?_
    refine WL.run 1 [.slice a (List.length (enR R)) c] rfl (by exact hS.ld 2 rfl rfl) ?_
    refine WL.ung rfl rfl rfl ?_
    refine WL.r 1 rfl ?_
    refine WL.ung rfl rfl rfl ?_
    refine WL.r 2 rfl ?_
    refine WL.nil ?_
    refine WC.ifT rfl (decide_eq_true ((show (256 : Int) ≤ ((enR R).length : Int) by omega))) ?_
    refine WC.seq ?_
    refine WC.region ?_
    refine WL.ldF rfl rfl 2 hS rfl rfl ag_38 ?_
    refine WL.stF rfl rfl rfl 1 hS rfl rfl rfl rfl rfl ag_38 (fun w hS => ?_)
    replace hS : St g (Sh 72 3 (enR R) a c :: cel b2 #[.slice a (List.length (enR R)) c] 38 :: cel b1 #[.slice a (List.length (enR R)) c] 38 :: Shs rwF R :: L) w := hS
    refine WL.r 1 rfl ?_
    refine WL.nil ?_
    as_aux_lemma =>
      refine WC.ret ?_
      refine ⟨[.agg #[.slice a (List.length (enR R)) c], .int .i64 2], ⟨⟨_, rfl, hS.lvF 1 rfl ag_38⟩, rfl⟩, ?_⟩
      replace hS := (hS.sel 3 [0] rfl)
      exact ⟨rfl, hS⟩
set_option maxHeartbeats 1000000 in
set_option maxRecDepth 8192 in
theorem rset_out {g w : World} {L : List HP} (R : List RW) (s : ByteArray) (y : Int) (a : Option Addr) (c : Nat) (hl : R.length ≤ 1000) (hl2 : R.length ≠ 256 ∧ R.length < 256) (hv : okRef (sb s)) (h0 : y ≠ 0) (hn : ∀ x ∈ R, x.name ≠ s) (hS : St g (Sh 72 3 (enR R) a c :: Shs rwF R :: L) w) :
    Sp Tryd.prog 17 [.agg #[.slice a (List.length (enR R)) c], .string s, .int .u64 0, .int .u64 y] w (fun v w' => ∃ (a2 : Option Addr) (c2 : Nat), v = .tuple #[.agg #[.slice a2 (List.length (enR (rins s (RW.mk s y [] none 0) (decide (y = 0)) R))) c2], .int .i64 0] ∧ St g (Sh 72 3 (enR (rins s (RW.mk s y [] none 0) (decide (y = 0)) R)) a2 c2 :: Shs rwF (rins s (RW.mk s y [] none 0) (decide (y = 0)) R) :: L) w') := by
  refine Sp.enter Tryd.func17 rfl (by kernel_rfl) (by kernel_rfl) ?_
  have _ := hl2
  have _ := hl
  refine WC.seq ?_
  refine WC.region ?_
  refine WL.box rfl rfl #[.slice a (List.length (enR R)) c] hS rfl rfl (fun b1 w hS => ?_)
  refine WL.new rfl rfl zv_38 hS (fun b2 w hS => ?_)
  refine WL.r 1 rfl ?_
  refine WL.nil ?_
  refine WC.seq ?_
  refine WC.seq ?_
  refine WC.region ?_
  refine WL.r 1 rfl ?_
  refine WL.call rfl rfl (rvalidName_spec (s := s)  (hS := hS)) rfl ?_
  clear hS; rintro _ w ⟨rfl, hS⟩
  replace hS : St g (cel b2 #[.slice none 0 0] 38 :: cel b1 #[.slice a (List.length (enR R)) c] 38 :: Sh 72 3 (enR R) a c :: Shs rwF R :: L) w := hS
  refine WL.r 1 rfl ?_
  refine WL.prop 19 rfl (bnot (dd _)) ?_
  refine WL.rG 8 rfl (fun j => ?_)
  refine WL.prop 27 rfl (bor (dd _) (band (dd _) (dd _))) ?_
  refine WL.nil ?_
  refine WC.ifF rfl (decide_eq_false ((fun h => h.elim (fun k => k hv) (fun k => h0 k.2)))) ?_
  refine WC.skip ?_
  refine WC.seq ?_
  refine WC.region ?_
  refine WL.ldF rfl rfl 1 hS rfl rfl ag_38 ?_
  refine WL.r 1 rfl ?_
  refine WL.call rfl rfl (rget_out (R := R) (s := s) (a := a) (c := c) (hl := (by omega)) (hn := hn) (hS := (hS.sel 3 [2, 0, 0] rfl))) rfl ?_
  clear hS; rintro _ w ⟨rfl, hS⟩
  replace hS : St g (Sh 72 3 (enR R) a c :: cel b2 #[.slice none 0 0] 38 :: cel b1 #[.slice a (List.length (enR R)) c] 38 :: Shs rwF R :: L) w := hS
  refine WL.r 5 rfl ?_
  refine WL.nil ?_
  as_aux_lemma =>
    refine WC.seq ?_
    refine WC.seq ?_
    refine WC.region ?_
    refine WL.r 3 rfl ?_
    refine WL.nil ?_
    refine WC.ifF rfl (decide_eq_false ((fun h => h rfl))) ?_
    refine WC.skip ?_
    refine WC.seq ?_
    refine WC.seq ?_
    refine WC.region ?_
    have hel := enR_len R
    refine WL.r 3 rfl ?_
    refine WL.ung rfl rfl rfl ?_
    refine WL.r 1 rfl ?_
    refine WL.ung rfl rfl rfl ?_
    refine WL.run 1 [.slice a (List.length (enR R)) c] rfl (by exact hS.ld 2 rfl rfl) ?_
    refine WL.ung rfl rfl rfl ?_
    refine WL.r 1 rfl ?_
    refine WL.ung rfl rfl rfl ?_
    refine WL.r 2 rfl ?_
    refine WL.nil ?_
    refine WC.ifF rfl (decide_eq_false ((fun h => by have h9 : (256 : Int) ≤ ((enR R).length : Int) := h; omega))) ?_
    refine WC.skip ?_
    refine WC.seq ?_
    refine WC.region ?_
    refine WL.r 1 rfl ?_
    refine WL.nil ?_
    as_aux_lemma =>
      refine WC.seq ?_
      refine WC.region ?_
      refine WL.ldF rfl rfl 2 hS rfl rfl ag_38 ?_
      refine WL.r 1 rfl ?_
      refine WL.call rfl rfl (rfind_out (R := R) (s := s) (a := a) (c := c) (hl := (by omega)) (hn := hn) (hS := hS)) rfl ?_
      clear hS; rintro _ w ⟨rfl, hS⟩
      replace hS : St g (Sh 72 3 (enR R) a c :: cel b2 #[.slice none 0 0] 38 :: cel b1 #[.slice a (List.length (enR R)) c] 38 :: Shs rwF R :: L) w := hS
      refine WL.r 1 rfl ?_
      refine WL.nil ?_
      refine WC.seq ?_
      refine WC.region ?_
      refine WL.r 2 rfl ?_
      refine WL.build rfl rfl (cs := [.string s, .int .u64 y, .slice none 0 0]) zv_72 rfl rfl ?_
      refine WL.new rfl rfl zv_72 hS (fun b3 w hS => ?_)
      refine WL.stF rfl rfl rfl 0 hS rfl rfl rfl rfl rfl ag_72 (fun w hS => ?_)
      replace hS : St g (cel b3 #[.string s, .int .u64 y, .slice none 0 0] 72 :: Sh 72 3 (enR R) a c :: cel b2 #[.slice none 0 0] 38 :: cel b1 #[.slice a (List.length (enR R)) c] 38 :: Shs rwF R :: L) w := hS
      refine WL.nil ?_
      refine WC.seq ?_
      refine WC.seq ?_
      refine WC.region ?_
      refine WL.r 1 rfl ?_
      refine WL.nil ?_
      refine WC.ifF rfl rfl ?_
      refine WC.skip ?_
      refine WC.seq ?_
      refine WC.region ?_
      refine WL.r 3 rfl ?_
      refine WL.nil ?_
      as_aux_lemma =>
        refine WC.seq ?_
        refine WC.seq ?_
        refine WC.region ?_
        refine WL.r 1 rfl ?_
        refine WL.nil ?_
        refine WC.block ?_
        replace hS := hS.nil_ 72 3
        refine WC.loop [1, 4, 8, 9, 12, 13, 14, 15, 16] (fun kM vs w => ∃ (k : Nat) (o : List RW) (pt : Bool) (u : Option Addr) (d : Nat), vs = [.string s, .pointer (some ⟨b1, 0, none⟩), .pointer (some ⟨b2, 0, none⟩), .int .i64 0, .slice u (List.length (enR o)) d, .int .i64 (-1), .pointer (some ⟨b3, 0, none⟩), .bool pt, .int .i64 (k : Int)] ∧ St g (Own 72 3 (enR o) u d :: cel b3 #[.string s, .int .u64 y, .slice none 0 0] 72 :: Sh 72 3 (enR R) a c :: cel b2 #[.slice none 0 0] 38 :: cel b1 #[.slice a (List.length (enR R)) c] 38 :: Shs rwF R :: L) w ∧ (k ≤ R.length) ∧ ((o, pt) = (List.take k R).foldl (rstep s (RW.mk s y [] none 0)) ([], decide (y = 0))) ∧ (o.length ≤ 2 * k) ∧ (R.length - k) = kM) ((List.length R) - 0) ⟨0, [], decide (y = 0), none, 0, rfl, hS, (Nat.zero_le _), (rfl), (Nat.le_refl _), rfl⟩ ?_
        clear hS; rintro _ _ w j ⟨k, o, pt, u, d, rfl, hS, hk, ho, hol, rfl⟩
        refine WC.seq ?_
        refine WC.seq ?_
        refine WC.region ?_
        refine WL.run 5 [.slice a (List.length (enR R)) c] rfl (by exact hS.ld 4 rfl rfl) ?_
        refine WL.nil ?_
        refine WC.ifP rfl (fun cd1 => ?_) (fun cd1 => ?_)
        · refine WC.skip ?_
          refine WC.seq ?_
          refine WC.block ?_
          refine WC.seq ?_
          refine WC.seq ?_
          refine WC.region ?_
          obtain ⟨r, hr⟩ : ∃ r, R[k]? = some r := ⟨_, List.getElem?_eq_getElem (by omega)⟩; have hrn := hn r (List.mem_of_getElem? hr); have heo := enR_len o; have hst := rstep_take ho hr
          refine WL.r 2 rfl ?_
          refine WL.r 1 rfl ?_
          by_cases cg1 : (! pt) = true
          · refine WL.reb 84 (.bool true) (congrArg Value.bool cg1) ?_
            refine WL.ung rfl rfl rfl ?_
            refine WL.r 1 rfl ?_
            refine WL.ung rfl rfl rfl ?_
            refine WL.run 1 [.slice a (List.length (enR R)) c] rfl (by exact hS.ld 4 rfl rfl) ?_
            refine WL.ung rfl rfl rfl ?_
            refine WL.r 1 rfl ?_
            refine WL.ung rfl rfl rfl ?_
            refine WL.ix rfl rfl (i := (k : Int)) (k) el_36 rfl rfl (by omega) (len_of (enR_at hr)) (hS.rdS 2 rfl (enR_at hr)).1 ?_
            refine WL.ung rfl rfl rfl ?_
            refine WL.r 1 rfl ?_
            refine WL.ung rfl rfl rfl ?_
            refine WL.run 1 [.string r.name] rfl (by exact (hS.rdS 2 rfl (enR_at hr)).2 0 _ rfl) ?_
            refine WL.ung rfl rfl rfl ?_
            refine WL.r 1 rfl ?_
            refine WL.ung rfl rfl rfl ?_
            refine WL.r 2 rfl ?_
            refine WL.nil ?_
            as_aux_lemma =>
              refine WC.if_ rfl (fun cd2 => ?_) (fun cd2 => ?_)
              · refine WC.seq ?_
                refine WC.region ?_
                refine WL.r 1 rfl ?_
                refine WL.ldF rfl rfl 1 hS rfl rfl ag_72 ?_
                refine WL.lit rfl rfl (enR [RW.mk s y [] none 0]) el_36 hS (by exact ⟨rfl, rfl⟩) (enR_ok _) rfl (by decide) (fun b4 w hS => ?_)
                refine WL.app rfl rfl 1 (enR (o ++ [RW.mk s y [] none 0])) el_36 hS rfl (hS.srcO 0 rfl) (enR_app _ _).symm (Rm.of (by first | omega | (simp <;> omega)) (by decide)) rfl rfl (fun a1 c1 w hS => ?_)
                replace hS : St g (Own 72 3 (enR [RW.mk s y [] none 0]) (some ⟨b4, 0, none⟩) (List.length (enR [RW.mk s y [] none 0])) :: Own 72 3 (enR (o ++ [RW.mk s y [] none 0])) a1 c1 :: cel b3 #[.string s, .int .u64 y, .slice none 0 0] 72 :: Sh 72 3 (enR R) a c :: cel b2 #[.slice none 0 0] 38 :: cel b1 #[.slice a (List.length (enR R)) c] 38 :: Shs rwF R :: L) w := hS
                refine WL.r 1 rfl ?_
                refine WL.nil ?_
                refine WC.region ?_
                refine WL.r 1 rfl ?_
                refine WL.nil ?_
                refine WC.seq ?_
                refine WC.region ?_
                refine WL.r 3 rfl ?_
                refine WL.nil ?_
                refine WC.ifT rfl (decide_eq_true ((by omega))) ?_
                refine WC.region ?_
                refine WL.run 4 [.slice a (List.length (enR R)) c] rfl (by exact hS.ld 5 rfl rfl) ?_
                refine WL.ix rfl rfl (i := (k : Int)) (k) el_36 rfl rfl (by omega) (len_of (enR_at hr)) (hS.rdS 3 rfl (enR_at hr)).1 ?_
                refine WL.ldC rfl rfl [.string r.name, .int .u64 r.h, .slice r.a (List.length (u64s r.lg)) r.c] ag_72 rfl (hS.rdS 3 rfl (enR_at hr)).2 ?_
                refine WL.lit rfl rfl (enR [r]) el_36 hS (by exact ⟨rfl, rfl⟩) (enR_ok _) rfl (by decide) (fun b5 w hS => ?_)
                refine WL.app rfl rfl 2 (enR ((o ++ [RW.mk s y [] none 0]) ++ [r])) el_36 hS rfl (hS.srcO 0 rfl) (enR_app _ _).symm (Rm.of (by first | omega | (simp <;> omega)) (by decide)) rfl rfl (fun a2 c2 w hS => ?_)
                replace hS : St g (Own 72 3 (enR [r]) (some ⟨b5, 0, none⟩) (List.length (enR [r])) :: Own 72 3 (enR [RW.mk s y [] none 0]) (some ⟨b4, 0, none⟩) (List.length (enR [RW.mk s y [] none 0])) :: Own 72 3 (enR ((o ++ [RW.mk s y [] none 0]) ++ [r])) a2 c2 :: cel b3 #[.string s, .int .u64 y, .slice none 0 0] 72 :: Sh 72 3 (enR R) a c :: cel b2 #[.slice none 0 0] 38 :: cel b1 #[.slice a (List.length (enR R)) c] 38 :: Shs rwF R :: L) w := hS
                refine WL.r 1 rfl ?_
                refine WL.nil ?_
                as_aux_lemma =>
                  refine WC.region ?_
                  refine WL.r 2 rfl ?_
                  refine WL.nw 81 rfl (w64 (by omega)) ?_
                  refine WL.r 1 rfl ?_
                  refine WL.nil ?_
                  exact ⟨_, by omega, k + 1, o ++ [RW.mk s y [] none 0] ++ [r], true, a2, c2, rfl, (hS.sel 2 [] rfl), (by omega), (by rw [← hst]; exact (rstep_1 cg1 cd2 hrn).symm), (by simp; omega), rfl⟩
              · refine WC.skip ?_
                refine WC.seq ?_
                refine WC.region ?_
                refine WL.r 3 rfl ?_
                refine WL.nil ?_
                refine WC.ifT rfl (decide_eq_true ((by omega))) ?_
                refine WC.region ?_
                refine WL.run 4 [.slice a (List.length (enR R)) c] rfl (by exact hS.ld 4 rfl rfl) ?_
                refine WL.ix rfl rfl (i := (k : Int)) (k) el_36 rfl rfl (by omega) (len_of (enR_at hr)) (hS.rdS 2 rfl (enR_at hr)).1 ?_
                refine WL.ldC rfl rfl [.string r.name, .int .u64 r.h, .slice r.a (List.length (u64s r.lg)) r.c] ag_72 rfl (hS.rdS 2 rfl (enR_at hr)).2 ?_
                refine WL.lit rfl rfl (enR [r]) el_36 hS (by exact ⟨rfl, rfl⟩) (enR_ok _) rfl (by decide) (fun b4 w hS => ?_)
                refine WL.app rfl rfl 1 (enR (o ++ [r])) el_36 hS rfl (hS.srcO 0 rfl) (enR_app _ _).symm (Rm.of (by first | omega | (simp <;> omega)) (by decide)) rfl rfl (fun a1 c1 w hS => ?_)
                replace hS : St g (Own 72 3 (enR [r]) (some ⟨b4, 0, none⟩) (List.length (enR [r])) :: Own 72 3 (enR (o ++ [r])) a1 c1 :: cel b3 #[.string s, .int .u64 y, .slice none 0 0] 72 :: Sh 72 3 (enR R) a c :: cel b2 #[.slice none 0 0] 38 :: cel b1 #[.slice a (List.length (enR R)) c] 38 :: Shs rwF R :: L) w := hS
                refine WL.r 1 rfl ?_
                refine WL.nil ?_
                refine WC.region ?_
                refine WL.r 2 rfl ?_
                refine WL.nw 81 rfl (w64 (by omega)) ?_
                refine WL.r 1 rfl ?_
                refine WL.nil ?_
                exact ⟨_, by omega, k + 1, o ++ [r], pt, a1, c1, rfl, (hS.sel 1 [] rfl), (by omega), (by rw [← hst]; exact (rstep_2 cd2 hrn).symm), (by simp; omega), rfl⟩
          · refine WL.reb 84 (.bool false) (congrArg Value.bool (Bool.eq_false_iff.2 cg1)) ?_
            refine WL.skp rfl rfl rfl rfl ?_
            refine WL.skp rfl rfl rfl rfl ?_
            refine WL.skp rfl rfl rfl rfl ?_
            refine WL.skp rfl rfl rfl rfl ?_
            refine WL.skp rfl rfl rfl rfl ?_
            refine WL.skp rfl rfl rfl rfl ?_
            refine WL.skp rfl rfl rfl rfl ?_
            refine WL.skp rfl rfl rfl rfl ?_
            refine WL.r 1 rfl ?_
            refine WL.nil ?_
            as_aux_lemma =>
              refine WC.ifF rfl rfl ?_
              refine WC.skip ?_
              refine WC.seq ?_
              refine WC.region ?_
              refine WL.r 3 rfl ?_
              refine WL.nil ?_
              refine WC.ifT rfl (decide_eq_true ((by omega))) ?_
              refine WC.region ?_
              refine WL.run 4 [.slice a (List.length (enR R)) c] rfl (by exact hS.ld 4 rfl rfl) ?_
              refine WL.ix rfl rfl (i := (k : Int)) (k) el_36 rfl rfl (by omega) (len_of (enR_at hr)) (hS.rdS 2 rfl (enR_at hr)).1 ?_
              refine WL.ldC rfl rfl [.string r.name, .int .u64 r.h, .slice r.a (List.length (u64s r.lg)) r.c] ag_72 rfl (hS.rdS 2 rfl (enR_at hr)).2 ?_
              refine WL.lit rfl rfl (enR [r]) el_36 hS (by exact ⟨rfl, rfl⟩) (enR_ok _) rfl (by decide) (fun b4 w hS => ?_)
              refine WL.app rfl rfl 1 (enR (o ++ [r])) el_36 hS rfl (hS.srcO 0 rfl) (enR_app _ _).symm (Rm.of (by first | omega | (simp <;> omega)) (by decide)) rfl rfl (fun a1 c1 w hS => ?_)
              replace hS : St g (Own 72 3 (enR [r]) (some ⟨b4, 0, none⟩) (List.length (enR [r])) :: Own 72 3 (enR (o ++ [r])) a1 c1 :: cel b3 #[.string s, .int .u64 y, .slice none 0 0] 72 :: Sh 72 3 (enR R) a c :: cel b2 #[.slice none 0 0] 38 :: cel b1 #[.slice a (List.length (enR R)) c] 38 :: Shs rwF R :: L) w := hS
              refine WL.r 1 rfl ?_
              refine WL.nil ?_
              refine WC.region ?_
              refine WL.r 2 rfl ?_
              refine WL.nw 81 rfl (w64 (by omega)) ?_
              refine WL.r 1 rfl ?_
              refine WL.nil ?_
              exact ⟨_, by omega, k + 1, o ++ [r], pt, a1, c1, rfl, (hS.sel 1 [] rfl), (by omega), (by rw [← hst]; exact (rstep_3 cg1 hrn).symm), (by simp; omega), rfl⟩
        · refine WC.exit ?_
          refine WC.seq ?_
          refine WC.seq ?_
          refine WC.region ?_
          refine WL.r 2 rfl ?_
          refine WL.nil ?_
          refine WC.cut [8, 9, 12] (fun vs w => ∃ (o2 : List RW) (u2 : Option Addr) (d2 : Nat), vs = [.pointer (some ⟨b2, 0, none⟩), .int .i64 0, .slice u2 (List.length (enR o2)) d2] ∧ St g (Own 72 3 (enR o2) u2 d2 :: cel b3 #[.string s, .int .u64 y, .slice none 0 0] 72 :: Sh 72 3 (enR R) a c :: cel b2 #[.slice none 0 0] 38 :: cel b1 #[.slice a (List.length (enR R)) c] 38 :: Shs rwF R :: L) w ∧ (rins s (RW.mk s y [] none 0) (decide (y = 0)) R = o2)) ?_ ?_
          · refine WC.if_ rfl (fun cd2 => ?_) (fun cd2 => ?_)
            · refine WC.region ?_
              have heo := enR_len o
              refine WL.r 1 rfl ?_
              refine WL.ldF rfl rfl 1 hS rfl rfl ag_72 ?_
              refine WL.lit rfl rfl (enR [RW.mk s y [] none 0]) el_36 hS (by exact ⟨rfl, rfl⟩) (enR_ok _) rfl (by decide) (fun b4 w hS => ?_)
              refine WL.app rfl rfl 1 (enR (o ++ [RW.mk s y [] none 0])) el_36 hS rfl (hS.srcO 0 rfl) (enR_app _ _).symm (Rm.of (by first | omega | (simp <;> omega)) (by decide)) rfl rfl (fun a1 c1 w hS => ?_)
              replace hS : St g (Own 72 3 (enR [RW.mk s y [] none 0]) (some ⟨b4, 0, none⟩) (List.length (enR [RW.mk s y [] none 0])) :: Own 72 3 (enR (o ++ [RW.mk s y [] none 0])) a1 c1 :: cel b3 #[.string s, .int .u64 y, .slice none 0 0] 72 :: Sh 72 3 (enR R) a c :: cel b2 #[.slice none 0 0] 38 :: cel b1 #[.slice a (List.length (enR R)) c] 38 :: Shs rwF R :: L) w := hS
              refine WL.r 1 rfl ?_
              refine WL.nil ?_
              exact ⟨o ++ [RW.mk s y [] none 0], a1, c1, rfl, (hS.sel 1 [] rfl), (by rw [rins_end ho (by omega), if_neg (by rw [Bool.not_eq_true' ] at cd2; rw [cd2]; decide)])⟩
            · refine WC.skip ?_
              exact ⟨o, u, d, rfl, hS, (by rw [rins_end ho (by omega), if_pos (by simpa using cd2)])⟩
          clear hS; rintro _ w j ⟨o2, u2, d2, rfl, hS, hr9⟩
          refine WC.seq ?_
          refine WC.region ?_
          subst hr9
          replace hS := St.shsSub (zs' := rins s (RW.mk s y [] none 0) (decide (y = 0)) R) (St.shsCons ((hS.share.nilS 31 1).sel 7 [6, 0, 0, 2] rfl) (z := RW.mk s y [] none 0) (rwF_sh _) [0] rfl) rins_mem
          replace hS := hS.sel 4 [2, 0, 1] rfl
          replace hS : St g (Sh 72 3 (enR (rins s (RW.mk s y [] none 0) (decide (y = 0)) R)) u2 d2 :: Shs rwF (rins s (RW.mk s y [] none 0) (decide (y = 0)) R) :: cel b2 #[.slice none 0 0] 38 :: L) w := hS
          skip
          refine WL.r 1 rfl ?_
          refine WL.build rfl rfl (cs := [.slice u2 (List.length (enR (rins s (RW.mk s y [] none 0) (decide (y = 0)) R))) d2]) zv_38 rfl rfl ?_
          refine WL.stF rfl rfl rfl 2 hS rfl rfl rfl rfl rfl ag_38 (fun w hS => ?_)
          replace hS : St g (Sh 72 3 (enR (rins s (RW.mk s y [] none 0) (decide (y = 0)) R)) u2 d2 :: Shs rwF (rins s (RW.mk s y [] none 0) (decide (y = 0)) R) :: cel b2 #[.slice u2 (List.length (enR (rins s (RW.mk s y [] none 0) (decide (y = 0)) R))) d2] 38 :: L) w := hS
          refine WL.r 1 rfl ?_
          refine WL.nil ?_
          as_aux_lemma =>
            refine WC.ret ?_
            refine ⟨[.agg #[.slice u2 (List.length (enR (rins s (RW.mk s y [] none 0) (decide (y = 0)) R))) d2], .int .i64 0], ⟨⟨_, rfl, hS.lvF 2 rfl ag_38⟩, rfl⟩, ?_⟩
            replace hS := (hS.sel 3 [0, 0] rfl)
            exact ⟨_, _, rfl, hS⟩
set_option maxHeartbeats 2000000 in
set_option maxRecDepth 8192 in
theorem rset_in {g w : World} {L : List HP} (R : List RW) (s : ByteArray) (x y : Int) (a : Option Addr) (c i : Nat) (r0 : RW) (hl : R.length ≤ 1000) (hv : okRef (sb s)) (h0 : x ≠ 0) (hr0 : R[i]? = some r0) (hn : r0.name = s) (hU : RUq R) (hh : r0.h = x) (hg : r0.lg.length ≤ 16) (hS : St g (Sh 72 3 (enR R) a c :: Shs rwF R :: L) w) :
    Sp Tryd.prog 17 [.agg #[.slice a (List.length (enR R)) c], .string s, .int .u64 x, .int .u64 y] w (fun v w' => ∃ (a2 : Option Addr) (c2 : Nat) (X : RW), v = .tuple #[.agg #[.slice a2 (List.length (enR (rins s X (decide (y = 0)) R))) c2], .int .i64 0] ∧ St g (Sh 72 3 (enR (rins s X (decide (y = 0)) R)) a2 c2 :: Shs rwF (rins s X (decide (y = 0)) R) :: L) w' ∧ ((X.name, X.h, X.lg) = (s, y, List.take (min (r0.lg.length + 1) 16) ([x] ++ r0.lg)))) := by
  refine Sp.enter Tryd.func17 rfl (by kernel_rfl) (by kernel_rfl) ?_
  have _ := hg
  have _ := hl
  refine WC.seq ?_
  refine WC.region ?_
  refine WL.box rfl rfl #[.slice a (List.length (enR R)) c] hS rfl rfl (fun b1 w hS => ?_)
  refine WL.new rfl rfl zv_38 hS (fun b2 w hS => ?_)
  refine WL.r 1 rfl ?_
  refine WL.nil ?_
  refine WC.seq ?_
  refine WC.seq ?_
  refine WC.region ?_
  refine WL.r 1 rfl ?_
  refine WL.call rfl rfl (rvalidName_spec (s := s)  (hS := hS)) rfl ?_
  clear hS; rintro _ w ⟨rfl, hS⟩
  replace hS : St g (cel b2 #[.slice none 0 0] 38 :: cel b1 #[.slice a (List.length (enR R)) c] 38 :: Sh 72 3 (enR R) a c :: Shs rwF R :: L) w := hS
  refine WL.r 1 rfl ?_
  refine WL.prop 19 rfl (bnot (dd _)) ?_
  refine WL.rG 8 rfl (fun j => ?_)
  refine WL.prop 27 rfl (bor (dd _) (band (dd _) (dd _))) ?_
  refine WL.nil ?_
  refine WC.ifF rfl (decide_eq_false ((fun h => h.elim (fun k => k hv) (fun k => h0 k.1)))) ?_
  refine WC.skip ?_
  refine WC.seq ?_
  refine WC.region ?_
  refine WL.ldF rfl rfl 1 hS rfl rfl ag_38 ?_
  refine WL.r 1 rfl ?_
  refine WL.call rfl rfl (rget_in (R := R) (s := s) (a := a) (c := c) (i := i) (r := r0) (hl := (by omega)) (hr := hr0) (hn := hn) (hU := hU) (hS := (hS.sel 3 [2, 0, 0] rfl))) rfl ?_
  clear hS; rintro _ w ⟨rfl, hS⟩
  replace hS : St g (Sh 72 3 (enR R) a c :: cel b2 #[.slice none 0 0] 38 :: cel b1 #[.slice a (List.length (enR R)) c] 38 :: Shs rwF R :: L) w := hS
  refine WL.r 5 rfl ?_
  refine WL.nil ?_
  as_aux_lemma =>
    refine WC.seq ?_
    refine WC.seq ?_
    refine WC.region ?_
    refine WL.r 3 rfl ?_
    refine WL.nil ?_
    refine WC.ifF rfl (decide_eq_false ((fun h => h hh))) ?_
    refine WC.skip ?_
    refine WC.seq ?_
    refine WC.seq ?_
    refine WC.region ?_
    refine WL.r 3 rfl ?_
    refine WL.skp rfl rfl rfl rfl ?_
    refine WL.skp rfl rfl rfl rfl ?_
    refine WL.skp rfl rfl rfl rfl ?_
    refine WL.skp rfl rfl rfl rfl ?_
    refine WL.r 1 rfl ?_
    refine WL.nil ?_
    refine WC.ifF rfl rfl ?_
    refine WC.skip ?_
    refine WC.seq ?_
    refine WC.region ?_
    refine WL.r 1 rfl ?_
    refine WL.nil ?_
    refine WC.seq ?_
    refine WC.region ?_
    refine WL.ldF rfl rfl 2 hS rfl rfl ag_38 ?_
    refine WL.r 1 rfl ?_
    refine WL.call rfl rfl (rfind_in (R := R) (s := s) (a := a) (c := c) (i := i) (r := r0) (hl := (by omega)) (hr := hr0) (hn := hn) (hU := hU) (hS := hS)) rfl ?_
    clear hS; rintro _ w ⟨rfl, hS⟩
    replace hS : St g (Sh 72 3 (enR R) a c :: cel b2 #[.slice none 0 0] 38 :: cel b1 #[.slice a (List.length (enR R)) c] 38 :: Shs rwF R :: L) w := hS
    refine WL.r 1 rfl ?_
    refine WL.nil ?_
    as_aux_lemma =>
      refine WC.seq ?_
      refine WC.region ?_
      refine WL.r 2 rfl ?_
      refine WL.build rfl rfl (cs := [.string s, .int .u64 y, .slice none 0 0]) zv_72 rfl rfl ?_
      refine WL.new rfl rfl zv_72 hS (fun b3 w hS => ?_)
      refine WL.stF rfl rfl rfl 0 hS rfl rfl rfl rfl rfl ag_72 (fun w hS => ?_)
      replace hS : St g (cel b3 #[.string s, .int .u64 y, .slice none 0 0] 72 :: Sh 72 3 (enR R) a c :: cel b2 #[.slice none 0 0] 38 :: cel b1 #[.slice a (List.length (enR R)) c] 38 :: Shs rwF R :: L) w := hS
      refine WL.nil ?_
      refine WC.seq ?_
      refine WC.seq ?_
      refine WC.region ?_
      refine WL.r 1 rfl ?_
      refine WL.nil ?_
      refine WC.ifT rfl rfl ?_
      refine WC.seq ?_
      refine WC.region ?_
      replace hS : St g (Sh 31 1 (u64s r0.lg) r0.a r0.c :: cel b3 #[.string s, .int .u64 y, .slice none 0 0] 72 :: Sh 72 3 (enR R) a c :: cel b2 #[.slice none 0 0] 38 :: cel b1 #[.slice a (List.length (enR R)) c] 38 :: Shs rwF R :: L) w := hS.shsGet 4 rfl (List.mem_of_getElem? hr0)
      refine WL.r 1 rfl ?_
      refine WL.lit rfl rfl (u64s [x]) el_26 hS (by exact ⟨rfl, rfl⟩) (u64s_ok _) rfl (by decide) (fun b4 w hS => ?_)
      refine WL.run 3 [.slice a (List.length (enR R)) c] rfl (by exact hS.ld 5 rfl rfl) ?_
      have hel := enR_len R; have hil := (List.getElem?_eq_some_iff.1 hr0).1; have hul := u64s_len r0.lg
      refine WL.ix rfl rfl (i := (i : Int)) (i) el_36 rfl rfl (by omega) (len_of (enR_at hr0)) (hS.rdS 3 rfl (enR_at hr0)).1 ?_
      refine WL.run 2 [.slice r0.a (List.length (u64s r0.lg)) r0.c] rfl (by exact (hS.rdS 3 rfl (enR_at hr0)).2 2 _ rfl) ?_
      refine WL.app rfl rfl 0 (u64s ([x] ++ r0.lg)) el_26 hS rfl (hS.srcS 1 rfl) (u64s_app _ _).symm (Rm.of (by first | omega | (simp <;> omega)) (by decide)) rfl rfl (fun a1 c1 w hS => ?_)
      replace hS : St g (Own 31 1 (u64s ([x] ++ r0.lg)) a1 c1 :: Sh 31 1 (u64s r0.lg) r0.a r0.c :: cel b3 #[.string s, .int .u64 y, .slice none 0 0] 72 :: Sh 72 3 (enR R) a c :: cel b2 #[.slice none 0 0] 38 :: cel b1 #[.slice a (List.length (enR R)) c] 38 :: Shs rwF R :: L) w := hS
      refine WL.r 1 rfl ?_
      refine WL.st rfl rfl rfl 2 hS rfl rfl rfl rfl rfl rfl (fun w hS => ?_)
      replace hS : St g (Own 31 1 (u64s ([x] ++ r0.lg)) a1 c1 :: Sh 31 1 (u64s r0.lg) r0.a r0.c :: cel b3 #[.string s, .int .u64 y, .slice a1 (List.length (u64s ([x] ++ r0.lg))) c1] 72 :: Sh 72 3 (enR R) a c :: cel b2 #[.slice none 0 0] 38 :: cel b1 #[.slice a (List.length (enR R)) c] 38 :: Shs rwF R :: L) w := hS
      refine WL.nil ?_
      as_aux_lemma =>
        refine WC.region ?_
        have hul2 := u64s_len ([x] ++ r0.lg); have hul3 : ([x] ++ r0.lg).length = r0.lg.length + 1 := by simp
        refine WL.run 6 [.slice a1 (List.length (u64s ([x] ++ r0.lg))) c1, .slice a1 (List.length (u64s ([x] ++ r0.lg))) c1] rfl (by exact ⟨hS.ld 2 rfl rfl, hS.ld 2 rfl rfl⟩) ?_
        refine WL.slOwn rfl rfl (v := min (List.length (u64s ([x] ++ r0.lg)) : Int) 16) 0 (min (r0.lg.length + 1) 16) (u64s (List.take (min (r0.lg.length + 1) 16) ([x] ++ r0.lg))) el_26 hS rfl rfl rfl (by omega) (by omega) (u64s_take _ _) (fun hS => ?_)
        replace hS : St g (Own 31 1 (u64s (List.take (min ((List.length r0.lg) + 1) 16) ([x] ++ r0.lg))) a1 c1 :: Sh 31 1 (u64s r0.lg) r0.a r0.c :: cel b3 #[.string s, .int .u64 y, .slice a1 (List.length (u64s ([x] ++ r0.lg))) c1] 72 :: Sh 72 3 (enR R) a c :: cel b2 #[.slice none 0 0] 38 :: cel b1 #[.slice a (List.length (enR R)) c] 38 :: Shs rwF R :: L) w := hS
        refine WL.r 1 rfl ?_
        refine WL.st rfl rfl rfl 2 hS rfl rfl rfl rfl rfl rfl (fun w hS => ?_)
        replace hS : St g (Own 31 1 (u64s (List.take (min ((List.length r0.lg) + 1) 16) ([x] ++ r0.lg))) a1 c1 :: Sh 31 1 (u64s r0.lg) r0.a r0.c :: cel b3 #[.string s, .int .u64 y, .slice a1 (List.length (u64s (List.take (min ((List.length r0.lg) + 1) 16) ([x] ++ r0.lg)))) c1] 72 :: Sh 72 3 (enR R) a c :: cel b2 #[.slice none 0 0] 38 :: cel b1 #[.slice a (List.length (enR R)) c] 38 :: Shs rwF R :: L) w := hS
        refine WL.nil ?_
        refine WC.seq ?_
        refine WC.region ?_
        replace hS := (hS.at_ 0 rfl).share
        replace hS : St g (Sh 31 1 (u64s (List.take (min ((List.length r0.lg) + 1) 16) ([x] ++ r0.lg))) a1 c1 :: Sh 31 1 (u64s r0.lg) r0.a r0.c :: cel b3 #[.string s, .int .u64 y, .slice a1 (List.length (u64s (List.take (min ((List.length r0.lg) + 1) 16) ([x] ++ r0.lg)))) c1] 72 :: Sh 72 3 (enR R) a c :: cel b2 #[.slice none 0 0] 38 :: cel b1 #[.slice a (List.length (enR R)) c] 38 :: Shs rwF R :: L) w := hS
        refine WL.r 3 rfl ?_
        refine WL.nil ?_
        refine WC.seq ?_
        refine WC.seq ?_
        refine WC.region ?_
        refine WL.r 1 rfl ?_
        refine WL.nil ?_
        refine WC.block ?_
        replace hS := hS.nil_ 72 3
        refine WC.loop [1, 4, 8, 9, 12, 13, 14, 15, 16] (fun kM vs w => ∃ (k : Nat) (o : List RW) (pt : Bool) (u : Option Addr) (d : Nat), vs = [.string s, .pointer (some ⟨b1, 0, none⟩), .pointer (some ⟨b2, 0, none⟩), .int .i64 0, .slice u (List.length (enR o)) d, .int .i64 (i : Int), .pointer (some ⟨b3, 0, none⟩), .bool pt, .int .i64 (k : Int)] ∧ St g (Own 72 3 (enR o) u d :: Sh 31 1 (u64s (List.take (min ((List.length r0.lg) + 1) 16) ([x] ++ r0.lg))) a1 c1 :: Sh 31 1 (u64s r0.lg) r0.a r0.c :: cel b3 #[.string s, .int .u64 y, .slice a1 (List.length (u64s (List.take (min ((List.length r0.lg) + 1) 16) ([x] ++ r0.lg)))) c1] 72 :: Sh 72 3 (enR R) a c :: cel b2 #[.slice none 0 0] 38 :: cel b1 #[.slice a (List.length (enR R)) c] 38 :: Shs rwF R :: L) w ∧ (k ≤ R.length) ∧ ((o, pt) = (List.take k R).foldl (rstep s (RW.mk s y (List.take (min (r0.lg.length + 1) 16) ([x] ++ r0.lg)) a1 c1)) ([], decide (y = 0))) ∧ (o.length ≤ 2 * k) ∧ (R.length - k) = kM) ((List.length R) - 0) ⟨0, [], decide (y = 0), none, 0, rfl, hS, (Nat.zero_le _), (rfl), (Nat.le_refl _), rfl⟩ ?_
        clear hS; rintro _ _ w j ⟨k, o, pt, u, d, rfl, hS, hk, ho, hol, rfl⟩
        refine WC.seq ?_
        refine WC.seq ?_
        refine WC.region ?_
        refine WL.run 5 [.slice a (List.length (enR R)) c] rfl (by exact hS.ld 6 rfl rfl) ?_
        refine WL.nil ?_
        as_aux_lemma =>
          refine WC.ifP rfl (fun cd1 => ?_) (fun cd1 => ?_)
          · refine WC.skip ?_
            refine WC.seq ?_
            refine WC.block ?_
            refine WC.seq ?_
            refine WC.seq ?_
            refine WC.region ?_
            obtain ⟨r, hr⟩ : ∃ r, R[k]? = some r := ⟨_, List.getElem?_eq_getElem (by omega)⟩; have heo := enR_len o; have hst := rstep_take ho hr; have hki := hU.at_ hr0 hn hr
            refine WL.r 2 rfl ?_
            refine WL.r 1 rfl ?_
            by_cases cg1 : (! pt) = true
            · refine WL.reb 84 (.bool true) (congrArg Value.bool cg1) ?_
              refine WL.ung rfl rfl rfl ?_
              refine WL.r 1 rfl ?_
              refine WL.ung rfl rfl rfl ?_
              refine WL.run 1 [.slice a (List.length (enR R)) c] rfl (by exact hS.ld 6 rfl rfl) ?_
              refine WL.ung rfl rfl rfl ?_
              refine WL.r 1 rfl ?_
              refine WL.ung rfl rfl rfl ?_
              refine WL.ix rfl rfl (i := (k : Int)) (k) el_36 rfl rfl (by omega) (len_of (enR_at hr)) (hS.rdS 4 rfl (enR_at hr)).1 ?_
              refine WL.ung rfl rfl rfl ?_
              refine WL.r 1 rfl ?_
              refine WL.ung rfl rfl rfl ?_
              refine WL.run 1 [.string r.name] rfl (by exact (hS.rdS 4 rfl (enR_at hr)).2 0 _ rfl) ?_
              refine WL.ung rfl rfl rfl ?_
              refine WL.r 1 rfl ?_
              refine WL.ung rfl rfl rfl ?_
              refine WL.r 2 rfl ?_
              refine WL.nil ?_
              as_aux_lemma =>
                refine WC.if_ rfl (fun cd2 => ?_) (fun cd2 => ?_)
                · refine WC.seq ?_
                  refine WC.region ?_
                  refine WL.r 1 rfl ?_
                  refine WL.ldF rfl rfl 3 hS rfl rfl ag_72 ?_
                  refine WL.lit rfl rfl (enR [RW.mk s y (List.take (min ((List.length r0.lg) + 1) 16) ([x] ++ r0.lg)) a1 c1]) el_36 hS (by exact ⟨rfl, rfl⟩) (enR_ok _) rfl (by decide) (fun b5 w hS => ?_)
                  refine WL.app rfl rfl 1 (enR (o ++ [RW.mk s y (List.take (min ((List.length r0.lg) + 1) 16) ([x] ++ r0.lg)) a1 c1])) el_36 hS rfl (hS.srcO 0 rfl) (enR_app _ _).symm (Rm.of (by first | omega | (simp <;> omega)) (by decide)) rfl rfl (fun a3 c2 w hS => ?_)
                  replace hS : St g (Own 72 3 (enR [RW.mk s y (List.take (min ((List.length r0.lg) + 1) 16) ([x] ++ r0.lg)) a1 c1]) (some ⟨b5, 0, none⟩) (List.length (enR [RW.mk s y (List.take (min ((List.length r0.lg) + 1) 16) ([x] ++ r0.lg)) a1 c1])) :: Own 72 3 (enR (o ++ [RW.mk s y (List.take (min ((List.length r0.lg) + 1) 16) ([x] ++ r0.lg)) a1 c1])) a3 c2 :: Sh 31 1 (u64s (List.take (min ((List.length r0.lg) + 1) 16) ([x] ++ r0.lg))) a1 c1 :: Sh 31 1 (u64s r0.lg) r0.a r0.c :: cel b3 #[.string s, .int .u64 y, .slice a1 (List.length (u64s (List.take (min ((List.length r0.lg) + 1) 16) ([x] ++ r0.lg)))) c1] 72 :: Sh 72 3 (enR R) a c :: cel b2 #[.slice none 0 0] 38 :: cel b1 #[.slice a (List.length (enR R)) c] 38 :: Shs rwF R :: L) w := hS
                  refine WL.r 1 rfl ?_
                  refine WL.nil ?_
                  refine WC.region ?_
                  refine WL.r 1 rfl ?_
                  refine WL.nil ?_
                  refine WC.seq ?_
                  refine WC.region ?_
                  refine WL.r 3 rfl ?_
                  refine WL.nil ?_
                  refine WC.ifP rfl (fun cd3 => ?_) (fun cd3 => ?_)
                  · refine WC.region ?_
                    refine WL.run 4 [.slice a (List.length (enR R)) c] rfl (by exact hS.ld 7 rfl rfl) ?_
                    refine WL.ix rfl rfl (i := (k : Int)) (k) el_36 rfl rfl (by omega) (len_of (enR_at hr)) (hS.rdS 5 rfl (enR_at hr)).1 ?_
                    refine WL.ldC rfl rfl [.string r.name, .int .u64 r.h, .slice r.a (List.length (u64s r.lg)) r.c] ag_72 rfl (hS.rdS 5 rfl (enR_at hr)).2 ?_
                    refine WL.lit rfl rfl (enR [r]) el_36 hS (by exact ⟨rfl, rfl⟩) (enR_ok _) rfl (by decide) (fun b6 w hS => ?_)
                    refine WL.app rfl rfl 2 (enR ((o ++ [RW.mk s y (List.take (min ((List.length r0.lg) + 1) 16) ([x] ++ r0.lg)) a1 c1]) ++ [r])) el_36 hS rfl (hS.srcO 0 rfl) (enR_app _ _).symm (Rm.of (by first | omega | (simp <;> omega)) (by decide)) rfl rfl (fun a4 c3 w hS => ?_)
                    replace hS : St g (Own 72 3 (enR [r]) (some ⟨b6, 0, none⟩) (List.length (enR [r])) :: Own 72 3 (enR [RW.mk s y (List.take (min ((List.length r0.lg) + 1) 16) ([x] ++ r0.lg)) a1 c1]) (some ⟨b5, 0, none⟩) (List.length (enR [RW.mk s y (List.take (min ((List.length r0.lg) + 1) 16) ([x] ++ r0.lg)) a1 c1])) :: Own 72 3 (enR ((o ++ [RW.mk s y (List.take (min ((List.length r0.lg) + 1) 16) ([x] ++ r0.lg)) a1 c1]) ++ [r])) a4 c3 :: Sh 31 1 (u64s (List.take (min ((List.length r0.lg) + 1) 16) ([x] ++ r0.lg))) a1 c1 :: Sh 31 1 (u64s r0.lg) r0.a r0.c :: cel b3 #[.string s, .int .u64 y, .slice a1 (List.length (u64s (List.take (min ((List.length r0.lg) + 1) 16) ([x] ++ r0.lg)))) c1] 72 :: Sh 72 3 (enR R) a c :: cel b2 #[.slice none 0 0] 38 :: cel b1 #[.slice a (List.length (enR R)) c] 38 :: Shs rwF R :: L) w := hS
                    refine WL.r 1 rfl ?_
                    refine WL.nil ?_
                    as_aux_lemma =>
                      refine WC.region ?_
                      refine WL.r 2 rfl ?_
                      refine WL.nw 81 rfl (w64 (by omega)) ?_
                      refine WL.r 1 rfl ?_
                      refine WL.nil ?_
                      exact ⟨_, by omega, k + 1, o ++ [(RW.mk s y (List.take (min (r0.lg.length + 1) 16) ([x] ++ r0.lg)) a1 c1)] ++ [r], true, a4, c3, rfl, (hS.sel 2 [] rfl), (by omega), (by rw [← hst]; exact (rstep_1 cg1 cd2 (fun e => cd3 (hki.2 e))).symm), (by simp; omega), rfl⟩
                  · refine WC.skip ?_
                    refine WC.region ?_
                    refine WL.r 2 rfl ?_
                    refine WL.nw 81 rfl (w64 (by omega)) ?_
                    refine WL.r 1 rfl ?_
                    refine WL.nil ?_
                    exact ⟨_, by omega, k + 1, o ++ [(RW.mk s y (List.take (min (r0.lg.length + 1) 16) ([x] ++ r0.lg)) a1 c1)], true, a3, c2, rfl, (hS.sel 1 [] rfl), (by omega), (by rw [← hst]; exact (rstep_1e cg1 cd2 (hki.1 (Classical.not_not.1 cd3))).symm), (by simp; omega), rfl⟩
                · refine WC.skip ?_
                  refine WC.seq ?_
                  refine WC.region ?_
                  refine WL.r 3 rfl ?_
                  refine WL.nil ?_
                  refine WC.ifP rfl (fun cd3 => ?_) (fun cd3 => ?_)
                  · refine WC.region ?_
                    refine WL.run 4 [.slice a (List.length (enR R)) c] rfl (by exact hS.ld 6 rfl rfl) ?_
                    refine WL.ix rfl rfl (i := (k : Int)) (k) el_36 rfl rfl (by omega) (len_of (enR_at hr)) (hS.rdS 4 rfl (enR_at hr)).1 ?_
                    refine WL.ldC rfl rfl [.string r.name, .int .u64 r.h, .slice r.a (List.length (u64s r.lg)) r.c] ag_72 rfl (hS.rdS 4 rfl (enR_at hr)).2 ?_
                    refine WL.lit rfl rfl (enR [r]) el_36 hS (by exact ⟨rfl, rfl⟩) (enR_ok _) rfl (by decide) (fun b5 w hS => ?_)
                    refine WL.app rfl rfl 1 (enR (o ++ [r])) el_36 hS rfl (hS.srcO 0 rfl) (enR_app _ _).symm (Rm.of (by first | omega | (simp <;> omega)) (by decide)) rfl rfl (fun a3 c2 w hS => ?_)
                    replace hS : St g (Own 72 3 (enR [r]) (some ⟨b5, 0, none⟩) (List.length (enR [r])) :: Own 72 3 (enR (o ++ [r])) a3 c2 :: Sh 31 1 (u64s (List.take (min ((List.length r0.lg) + 1) 16) ([x] ++ r0.lg))) a1 c1 :: Sh 31 1 (u64s r0.lg) r0.a r0.c :: cel b3 #[.string s, .int .u64 y, .slice a1 (List.length (u64s (List.take (min ((List.length r0.lg) + 1) 16) ([x] ++ r0.lg)))) c1] 72 :: Sh 72 3 (enR R) a c :: cel b2 #[.slice none 0 0] 38 :: cel b1 #[.slice a (List.length (enR R)) c] 38 :: Shs rwF R :: L) w := hS
                    refine WL.r 1 rfl ?_
                    refine WL.nil ?_
                    refine WC.region ?_
                    refine WL.r 2 rfl ?_
                    refine WL.nw 81 rfl (w64 (by omega)) ?_
                    refine WL.r 1 rfl ?_
                    refine WL.nil ?_
                    exact ⟨_, by omega, k + 1, o ++ [r], pt, a3, c2, rfl, (hS.sel 1 [] rfl), (by omega), (by rw [← hst]; exact (rstep_2 cd2 (less_ne0 cd2)).symm), (by simp; omega), rfl⟩
                  · refine WC.skip ?_
                    refine WC.region ?_
                    refine WL.r 2 rfl ?_
                    refine WL.nw 81 rfl (w64 (by omega)) ?_
                    refine WL.r 1 rfl ?_
                    refine WL.nil ?_
                    exact ⟨_, by omega, k + 1, o, pt, u, d, rfl, hS, (by omega), (absurd (hki.1 (Classical.not_not.1 cd3)) (less_ne0 cd2)), (by omega), rfl⟩
            · refine WL.reb 84 (.bool false) (congrArg Value.bool (Bool.eq_false_iff.2 cg1)) ?_
              refine WL.skp rfl rfl rfl rfl ?_
              refine WL.skp rfl rfl rfl rfl ?_
              refine WL.skp rfl rfl rfl rfl ?_
              refine WL.skp rfl rfl rfl rfl ?_
              refine WL.skp rfl rfl rfl rfl ?_
              refine WL.skp rfl rfl rfl rfl ?_
              refine WL.skp rfl rfl rfl rfl ?_
              refine WL.skp rfl rfl rfl rfl ?_
              refine WL.r 1 rfl ?_
              refine WL.nil ?_
              refine WC.ifF rfl rfl ?_
              refine WC.skip ?_
              refine WC.seq ?_
              refine WC.region ?_
              refine WL.r 3 rfl ?_
              refine WL.nil ?_
              as_aux_lemma =>
                refine WC.ifP rfl (fun cd2 => ?_) (fun cd2 => ?_)
                · refine WC.region ?_
                  refine WL.run 4 [.slice a (List.length (enR R)) c] rfl (by exact hS.ld 6 rfl rfl) ?_
                  refine WL.ix rfl rfl (i := (k : Int)) (k) el_36 rfl rfl (by omega) (len_of (enR_at hr)) (hS.rdS 4 rfl (enR_at hr)).1 ?_
                  refine WL.ldC rfl rfl [.string r.name, .int .u64 r.h, .slice r.a (List.length (u64s r.lg)) r.c] ag_72 rfl (hS.rdS 4 rfl (enR_at hr)).2 ?_
                  refine WL.lit rfl rfl (enR [r]) el_36 hS (by exact ⟨rfl, rfl⟩) (enR_ok _) rfl (by decide) (fun b5 w hS => ?_)
                  refine WL.app rfl rfl 1 (enR (o ++ [r])) el_36 hS rfl (hS.srcO 0 rfl) (enR_app _ _).symm (Rm.of (by first | omega | (simp <;> omega)) (by decide)) rfl rfl (fun a3 c2 w hS => ?_)
                  replace hS : St g (Own 72 3 (enR [r]) (some ⟨b5, 0, none⟩) (List.length (enR [r])) :: Own 72 3 (enR (o ++ [r])) a3 c2 :: Sh 31 1 (u64s (List.take (min ((List.length r0.lg) + 1) 16) ([x] ++ r0.lg))) a1 c1 :: Sh 31 1 (u64s r0.lg) r0.a r0.c :: cel b3 #[.string s, .int .u64 y, .slice a1 (List.length (u64s (List.take (min ((List.length r0.lg) + 1) 16) ([x] ++ r0.lg)))) c1] 72 :: Sh 72 3 (enR R) a c :: cel b2 #[.slice none 0 0] 38 :: cel b1 #[.slice a (List.length (enR R)) c] 38 :: Shs rwF R :: L) w := hS
                  refine WL.r 1 rfl ?_
                  refine WL.nil ?_
                  refine WC.region ?_
                  refine WL.r 2 rfl ?_
                  refine WL.nw 81 rfl (w64 (by omega)) ?_
                  refine WL.r 1 rfl ?_
                  refine WL.nil ?_
                  exact ⟨_, by omega, k + 1, o ++ [r], pt, a3, c2, rfl, (hS.sel 1 [] rfl), (by omega), (by rw [← hst]; exact (rstep_3 cg1 (fun e => cd2 (hki.2 e))).symm), (by simp; omega), rfl⟩
                · refine WC.skip ?_
                  refine WC.region ?_
                  refine WL.r 2 rfl ?_
                  refine WL.nw 81 rfl (w64 (by omega)) ?_
                  refine WL.r 1 rfl ?_
                  refine WL.nil ?_
                  exact ⟨_, by omega, k + 1, o, pt, u, d, rfl, hS, (by omega), (by rw [← hst]; exact (rstep_3e cg1 (hki.1 (Classical.not_not.1 cd2))).symm), (by omega), rfl⟩
          · refine WC.exit ?_
            refine WC.seq ?_
            refine WC.seq ?_
            refine WC.region ?_
            refine WL.r 2 rfl ?_
            refine WL.nil ?_
            refine WC.cut [8, 9, 12] (fun vs w => ∃ (o2 : List RW) (u2 : Option Addr) (d2 : Nat), vs = [.pointer (some ⟨b2, 0, none⟩), .int .i64 0, .slice u2 (List.length (enR o2)) d2] ∧ St g (Own 72 3 (enR o2) u2 d2 :: Sh 31 1 (u64s (List.take (min ((List.length r0.lg) + 1) 16) ([x] ++ r0.lg))) a1 c1 :: Sh 31 1 (u64s r0.lg) r0.a r0.c :: cel b3 #[.string s, .int .u64 y, .slice a1 (List.length (u64s (List.take (min ((List.length r0.lg) + 1) 16) ([x] ++ r0.lg)))) c1] 72 :: Sh 72 3 (enR R) a c :: cel b2 #[.slice none 0 0] 38 :: cel b1 #[.slice a (List.length (enR R)) c] 38 :: Shs rwF R :: L) w ∧ (rins s (RW.mk s y (List.take (min (r0.lg.length + 1) 16) ([x] ++ r0.lg)) a1 c1) (decide (y = 0)) R = o2)) ?_ ?_
            · refine WC.if_ rfl (fun cd2 => ?_) (fun cd2 => ?_)
              · refine WC.region ?_
                have heo := enR_len o
                refine WL.r 1 rfl ?_
                refine WL.ldF rfl rfl 3 hS rfl rfl ag_72 ?_
                refine WL.lit rfl rfl (enR [RW.mk s y (List.take (min ((List.length r0.lg) + 1) 16) ([x] ++ r0.lg)) a1 c1]) el_36 hS (by exact ⟨rfl, rfl⟩) (enR_ok _) rfl (by decide) (fun b5 w hS => ?_)
                refine WL.app rfl rfl 1 (enR (o ++ [RW.mk s y (List.take (min ((List.length r0.lg) + 1) 16) ([x] ++ r0.lg)) a1 c1])) el_36 hS rfl (hS.srcO 0 rfl) (enR_app _ _).symm (Rm.of (by first | omega | (simp <;> omega)) (by decide)) rfl rfl (fun a3 c2 w hS => ?_)
                replace hS : St g (Own 72 3 (enR [RW.mk s y (List.take (min ((List.length r0.lg) + 1) 16) ([x] ++ r0.lg)) a1 c1]) (some ⟨b5, 0, none⟩) (List.length (enR [RW.mk s y (List.take (min ((List.length r0.lg) + 1) 16) ([x] ++ r0.lg)) a1 c1])) :: Own 72 3 (enR (o ++ [RW.mk s y (List.take (min ((List.length r0.lg) + 1) 16) ([x] ++ r0.lg)) a1 c1])) a3 c2 :: Sh 31 1 (u64s (List.take (min ((List.length r0.lg) + 1) 16) ([x] ++ r0.lg))) a1 c1 :: Sh 31 1 (u64s r0.lg) r0.a r0.c :: cel b3 #[.string s, .int .u64 y, .slice a1 (List.length (u64s (List.take (min ((List.length r0.lg) + 1) 16) ([x] ++ r0.lg)))) c1] 72 :: Sh 72 3 (enR R) a c :: cel b2 #[.slice none 0 0] 38 :: cel b1 #[.slice a (List.length (enR R)) c] 38 :: Shs rwF R :: L) w := hS
                refine WL.r 1 rfl ?_
                refine WL.nil ?_
                exact ⟨o ++ [(RW.mk s y (List.take (min (r0.lg.length + 1) 16) ([x] ++ r0.lg)) a1 c1)], a3, c2, rfl, (hS.sel 1 [] rfl), (by rw [rins_end ho (by omega), if_neg (by rw [Bool.not_eq_true' ] at cd2; rw [cd2]; decide)])⟩
              · refine WC.skip ?_
                exact ⟨o, u, d, rfl, hS, (by rw [rins_end ho (by omega), if_pos (by simpa using cd2)])⟩
            clear hS; rintro _ w j ⟨o2, u2, d2, rfl, hS, hr9⟩
            refine WC.seq ?_
            refine WC.region ?_
            subst hr9
            replace hS := St.shsSub (zs' := rins s (RW.mk s y (List.take (min (r0.lg.length + 1) 16) ([x] ++ r0.lg)) a1 c1) (decide (y = 0)) R) (St.shsCons (hS.share.sel 8 [7, 1, 0, 3] rfl) (z := (RW.mk s y (List.take (min (r0.lg.length + 1) 16) ([x] ++ r0.lg)) a1 c1)) (rwF_sh _) [0] rfl) rins_mem
            replace hS := hS.sel 4 [2, 0, 1] rfl
            replace hS : St g (Sh 72 3 (enR (rins s (RW.mk s y (List.take (min ((List.length r0.lg) + 1) 16) ([x] ++ r0.lg)) a1 c1) (decide (y = 0)) R)) u2 d2 :: Shs rwF (rins s (RW.mk s y (List.take (min ((List.length r0.lg) + 1) 16) ([x] ++ r0.lg)) a1 c1) (decide (y = 0)) R) :: cel b2 #[.slice none 0 0] 38 :: L) w := hS
            skip
            refine WL.r 1 rfl ?_
            refine WL.build rfl rfl (cs := [.slice u2 (List.length (enR (rins s (RW.mk s y (List.take (min ((List.length r0.lg) + 1) 16) ([x] ++ r0.lg)) a1 c1) (decide (y = 0)) R))) d2]) zv_38 rfl rfl ?_
            refine WL.stF rfl rfl rfl 2 hS rfl rfl rfl rfl rfl ag_38 (fun w hS => ?_)
            replace hS : St g (Sh 72 3 (enR (rins s (RW.mk s y (List.take (min ((List.length r0.lg) + 1) 16) ([x] ++ r0.lg)) a1 c1) (decide (y = 0)) R)) u2 d2 :: Shs rwF (rins s (RW.mk s y (List.take (min ((List.length r0.lg) + 1) 16) ([x] ++ r0.lg)) a1 c1) (decide (y = 0)) R) :: cel b2 #[.slice u2 (List.length (enR (rins s (RW.mk s y (List.take (min ((List.length r0.lg) + 1) 16) ([x] ++ r0.lg)) a1 c1) (decide (y = 0)) R))) d2] 38 :: L) w := hS
            refine WL.r 1 rfl ?_
            refine WL.nil ?_
            refine WC.ret ?_
            refine ⟨[.agg #[.slice u2 (List.length (enR (rins s (RW.mk s y (List.take (min ((List.length r0.lg) + 1) 16) ([x] ++ r0.lg)) a1 c1) (decide (y = 0)) R))) d2], .int .i64 0], ⟨⟨_, rfl, hS.lvF 2 rfl ag_38⟩, rfl⟩, ?_⟩
            replace hS := (hS.sel 3 [0, 0] rfl)
            exact ⟨_, _, _, rfl, hS, rfl⟩
end Go.Proofs.YtenkmjbghbegfaaDoor
