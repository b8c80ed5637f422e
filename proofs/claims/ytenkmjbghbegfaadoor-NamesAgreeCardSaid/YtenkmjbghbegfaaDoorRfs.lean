/-
  The reference's table of names: find, Get, Log, Find.
  Conditions: no name stands twice.
-/
import Derived.Test.YtenkmjbghbegfaaDoorFi0
import Derived.Test.YtenkmjbghbegfaaDoorRfm
namespace Go.Proofs.YtenkmjbghbegfaaDoor
open Go Go.V

theorem rfind_in {g w : World} {L : List HP} (R : List RW) (s : ByteArray) (a : Option Addr) (c i : Nat) (r : RW) (hl : R.length ≤ 1000000) (hr : R[i]? = some r) (hn : r.name = s) (hU : RUq R) (hS : St g (Sh 72 3 (enR R) a c :: L) w) :
    Sp Tryd.prog 32 [.agg #[.slice a (List.length (enR R)) c], .string s] w (fun v w' => v = .int .i64 (i : Int) ∧ St g (Sh 72 3 (enR R) a c :: L) w') := by
  refine Sp.enter Tryd.func32 rfl (by kernel_rfl) (by kernel_rfl) ?_
  have _ := hl
  refine WC.seq ?_
  refine WC.region ?_
  refine WL.box rfl rfl #[.slice a (List.length (enR R)) c] hS rfl rfl (fun b1 w hS => ?_)
  refine WL.r 1 rfl ?_
  refine WL.nil ?_
  refine WC.seq ?_
  refine WC.seq ?_
  refine WC.region ?_
  have hel := enR_len R; have hil := (List.getElem?_eq_some_iff.1 hr).1
  refine WL.r 1 rfl ?_
  refine WL.nil ?_
  refine WC.block ?_
  refine WC.loop [1, 2, 5] (fun kM vs w => ∃ (k : Nat), vs = [.string s, .pointer (some ⟨b1, 0, none⟩), .int .i64 (k : Int)] ∧ St g (cel b1 #[.slice a (List.length (enR R)) c] 38 :: Sh 72 3 (enR R) a c :: L) w ∧ (k ≤ i) ∧ (R.length - k) = kM) ((List.length R) - 0) ⟨0, rfl, hS, (by omega), rfl⟩ ?_
  clear hS; rintro _ _ w j ⟨k, rfl, hS, hk, rfl⟩
  refine WC.seq ?_
  refine WC.seq ?_
  refine WC.region ?_
  have hel := enR_len R; have hil := (List.getElem?_eq_some_iff.1 hr).1
  refine WL.run 5 [.slice a (List.length (enR R)) c] rfl (by exact hS.ld 0 rfl rfl) ?_
  refine WL.nil ?_
  refine WC.ifP rfl (fun cd1 => ?_) (fun cd1 => ?_)
  · refine WC.skip ?_
    refine WC.seq ?_
    refine WC.block ?_
    refine WC.seq ?_
    refine WC.region ?_
    refine WL.run 3 [.slice a (List.length (enR R)) c] rfl (by exact hS.ld 0 rfl rfl) ?_
    obtain ⟨z, hz⟩ : ∃ z, R[k]? = some z := ⟨_, List.getElem?_eq_getElem (by omega)⟩
    refine WL.ix rfl rfl (i := (k : Int)) (k) el_36 rfl rfl (by omega) (len_of (enR_at hz)) (hS.rdS 1 rfl (enR_at hz)).1 ?_
    refine WL.run 4 [.string z.name] rfl (by exact (hS.rdS 1 rfl (enR_at hz)).2 0 _ rfl) ?_
    refine WL.nil ?_
    as_aux_lemma =>
      refine WC.ifP rfl (fun cd2 => ?_) (fun cd2 => ?_)
      · refine WC.seq ?_
        refine WC.region ?_
        refine WL.r 2 rfl ?_
        refine WL.nil ?_
        refine WC.ret ?_
        refine ⟨[.int .i64 (k : Int)], rfl, ?_⟩
        replace hS := (hS.sel 1 [] rfl)
        exact ⟨congrArg (Value.int .i64) (by rw [hU.one hz hr (by rw [cd2, hn])]), hS⟩
      · refine WC.skip ?_
        refine WC.region ?_
        refine WL.r 2 rfl ?_
        refine WL.nw 12 rfl (w64 (by omega)) ?_
        refine WL.r 1 rfl ?_
        refine WL.nil ?_
        exact ⟨_, by omega, k + 1, rfl, hS, (Nat.lt_of_le_of_ne hk (fun e => cd2 (by subst e; rw [hr] at hz; cases hz; exact hn))), rfl⟩
  · refine WC.exit ?_
    refine WC.seq ?_
    refine WC.region ?_
    refine WL.r 1 rfl ?_
    refine WL.nil ?_
    as_aux_lemma =>
      refine WC.ret ?_
      refine ⟨[.int .i64 (-1)], rfl, ?_⟩
      replace hS := (hS.sel 1 [] rfl)
      exact absurd cd1 (by omega)
theorem rfind_out {g w : World} {L : List HP} (R : List RW) (s : ByteArray) (a : Option Addr) (c : Nat) (hl : R.length ≤ 1000000) (hn : ∀ x ∈ R, x.name ≠ s) (hS : St g (Sh 72 3 (enR R) a c :: L) w) :
    Sp Tryd.prog 32 [.agg #[.slice a (List.length (enR R)) c], .string s] w (fun v w' => v = .int .i64 (-1) ∧ St g (Sh 72 3 (enR R) a c :: L) w') := by
  refine Sp.enter Tryd.func32 rfl (by kernel_rfl) (by kernel_rfl) ?_
  have _ := hl
  refine WC.seq ?_
  refine WC.region ?_
  refine WL.box rfl rfl #[.slice a (List.length (enR R)) c] hS rfl rfl (fun b1 w hS => ?_)
  refine WL.r 1 rfl ?_
  refine WL.nil ?_
  refine WC.seq ?_
  refine WC.seq ?_
  refine WC.region ?_
  have hel := enR_len R
  refine WL.r 1 rfl ?_
  refine WL.nil ?_
  refine WC.block ?_
  refine WC.loop [1, 2, 5] (fun kM vs w => ∃ (k : Nat), vs = [.string s, .pointer (some ⟨b1, 0, none⟩), .int .i64 (k : Int)] ∧ St g (cel b1 #[.slice a (List.length (enR R)) c] 38 :: Sh 72 3 (enR R) a c :: L) w ∧ (k ≤ R.length) ∧ (R.length - k) = kM) ((List.length R) - 0) ⟨0, rfl, hS, (by omega), rfl⟩ ?_
  clear hS; rintro _ _ w j ⟨k, rfl, hS, hk, rfl⟩
  refine WC.seq ?_
  refine WC.seq ?_
  refine WC.region ?_
  have hel := enR_len R
  refine WL.run 5 [.slice a (List.length (enR R)) c] rfl (by exact hS.ld 0 rfl rfl) ?_
  refine WL.nil ?_
  refine WC.ifP rfl (fun cd1 => ?_) (fun cd1 => ?_)
  · refine WC.skip ?_
    refine WC.seq ?_
    refine WC.block ?_
    refine WC.seq ?_
    refine WC.region ?_
    refine WL.run 3 [.slice a (List.length (enR R)) c] rfl (by exact hS.ld 0 rfl rfl) ?_
    obtain ⟨z, hz⟩ : ∃ z, R[k]? = some z := ⟨_, List.getElem?_eq_getElem (by omega)⟩
    refine WL.ix rfl rfl (i := (k : Int)) (k) el_36 rfl rfl (by omega) (len_of (enR_at hz)) (hS.rdS 1 rfl (enR_at hz)).1 ?_
    refine WL.run 4 [.string z.name] rfl (by exact (hS.rdS 1 rfl (enR_at hz)).2 0 _ rfl) ?_
    refine WL.nil ?_
    as_aux_lemma =>
      refine WC.ifP rfl (fun cd2 => ?_) (fun cd2 => ?_)
      · refine WC.seq ?_
        refine WC.region ?_
        refine WL.r 2 rfl ?_
        refine WL.nil ?_
        refine WC.ret ?_
        refine ⟨[.int .i64 (k : Int)], rfl, ?_⟩
        replace hS := (hS.sel 1 [] rfl)
        exact absurd cd2 (hn z (List.mem_of_getElem? hz))
      · refine WC.skip ?_
        refine WC.region ?_
        refine WL.r 2 rfl ?_
        refine WL.nw 12 rfl (w64 (by omega)) ?_
        refine WL.r 1 rfl ?_
        refine WL.nil ?_
        exact ⟨_, by omega, k + 1, rfl, hS, (by omega), rfl⟩
  · refine WC.exit ?_
    refine WC.seq ?_
    refine WC.region ?_
    refine WL.r 1 rfl ?_
    refine WL.nil ?_
    as_aux_lemma =>
      refine WC.ret ?_
      refine ⟨[.int .i64 (-1)], rfl, ?_⟩
      replace hS := (hS.sel 1 [] rfl)
      exact ⟨rfl, hS⟩
theorem rget_in {g w : World} {L : List HP} (R : List RW) (s : ByteArray) (a : Option Addr) (c i : Nat) (r : RW) (hl : R.length ≤ 1000000) (hr : R[i]? = some r) (hn : r.name = s) (hU : RUq R) (hS : St g (Sh 72 3 (enR R) a c :: L) w) :
    Sp Tryd.prog 16 [.agg #[.slice a (List.length (enR R)) c], .string s] w (fun v w' => v = .tuple #[.int .u64 r.h, .bool true] ∧ St g (Sh 72 3 (enR R) a c :: L) w') := by
  refine Sp.enter Tryd.func16 rfl (by kernel_rfl) (by kernel_rfl) ?_
  refine WC.seq ?_
  refine WC.region ?_
  refine WL.box rfl rfl #[.slice a (List.length (enR R)) c] hS rfl rfl (fun b1 w hS => ?_)
  refine WL.r 2 rfl ?_
  refine WL.nil ?_
  refine WC.seq ?_
  refine WC.region ?_
  refine WL.ldF rfl rfl 0 hS rfl rfl ag_38 ?_
  refine WL.r 1 rfl ?_
  refine WL.call rfl rfl (rfind_in (R := R) (s := s) (a := a) (c := c) (i := i) (r := r) (hl := hl) (hr := hr) (hn := hn) (hU := hU) (hS := (hS.sel 2 [1, 0] rfl))) rfl ?_
  clear hS; rintro _ w ⟨rfl, hS⟩
  replace hS : St g (Sh 72 3 (enR R) a c :: cel b1 #[.slice a (List.length (enR R)) c] 38 :: L) w := hS
  refine WL.r 1 rfl ?_
  refine WL.nil ?_
  refine WC.seq ?_
  refine WC.seq ?_
  refine WC.region ?_
  refine WL.r 2 rfl ?_
  refine WL.nil ?_
  refine WC.ifF rfl (decide_eq_false ((by omega))) ?_
  refine WC.skip ?_
  refine WC.seq ?_
  refine WC.region ?_
  refine WL.run 3 [.slice a (List.length (enR R)) c] rfl (by exact hS.ld 1 rfl rfl) ?_
  have hel := enR_len R; have hil := (List.getElem?_eq_some_iff.1 hr).1
  refine WL.ix rfl rfl (i := (i : Int)) (i) el_36 rfl rfl (by omega) (len_of (enR_at hr)) (hS.rdS 0 rfl (enR_at hr)).1 ?_
  refine WL.run 4 [.int .u64 r.h] rfl (by exact (hS.rdS 0 rfl (enR_at hr)).2 1 _ rfl) ?_
  refine WL.nil ?_
  as_aux_lemma =>
    refine WC.ret ?_
    refine ⟨[.int .u64 r.h, .bool true], ⟨rfl, rfl⟩, ?_⟩
    replace hS := (hS.sel 2 [0] rfl)
    exact ⟨rfl, hS⟩
theorem rget_out {g w : World} {L : List HP} (R : List RW) (s : ByteArray) (a : Option Addr) (c : Nat) (hl : R.length ≤ 1000000) (hn : ∀ x ∈ R, x.name ≠ s) (hS : St g (Sh 72 3 (enR R) a c :: L) w) :
    Sp Tryd.prog 16 [.agg #[.slice a (List.length (enR R)) c], .string s] w (fun v w' => v = .tuple #[.int .u64 0, .bool false] ∧ St g (Sh 72 3 (enR R) a c :: L) w') := by
  refine Sp.enter Tryd.func16 rfl (by kernel_rfl) (by kernel_rfl) ?_
  refine WC.seq ?_
  refine WC.region ?_
  refine WL.box rfl rfl #[.slice a (List.length (enR R)) c] hS rfl rfl (fun b1 w hS => ?_)
  refine WL.r 2 rfl ?_
  refine WL.nil ?_
  refine WC.seq ?_
  refine WC.region ?_
  refine WL.ldF rfl rfl 0 hS rfl rfl ag_38 ?_
  refine WL.r 1 rfl ?_
  refine WL.call rfl rfl (rfind_out (R := R) (s := s) (a := a) (c := c) (hl := hl) (hn := hn) (hS := (hS.sel 2 [1, 0] rfl))) rfl ?_
  clear hS; rintro _ w ⟨rfl, hS⟩
  replace hS : St g (Sh 72 3 (enR R) a c :: cel b1 #[.slice a (List.length (enR R)) c] 38 :: L) w := hS
  refine WL.r 1 rfl ?_
  refine WL.nil ?_
  refine WC.seq ?_
  refine WC.seq ?_
  refine WC.region ?_
  refine WL.r 2 rfl ?_
  refine WL.nil ?_
  refine WC.ifT rfl (by decide) ?_
  refine WC.seq ?_
  refine WC.region ?_
  refine WL.r 2 rfl ?_
  refine WL.nil ?_
  as_aux_lemma =>
    refine WC.ret ?_
    refine ⟨[.int .u64 0, .bool false], ⟨rfl, rfl⟩, ?_⟩
    replace hS := (hS.sel 2 [0] rfl)
    exact ⟨rfl, hS⟩
theorem rlog_in {g w : World} {L : List HP} (R : List RW) (s : ByteArray) (a : Option Addr) (c i : Nat) (r : RW) (hl : R.length ≤ 1000000) (hr : R[i]? = some r) (hn : r.name = s) (hU : RUq R) (hg : r.lg.length ≤ 1000000) (hS : St g (Sh 72 3 (enR R) a c :: Shs rwF R :: L) w) :
    Sp Tryd.prog 19 [.agg #[.slice a (List.length (enR R)) c], .string s] w (fun v w' => ∃ (a2 : Option Addr) (c2 : Nat), v = .slice a2 (List.length (u64s r.lg)) c2 ∧ St g (Own 31 1 (u64s r.lg) a2 c2 :: Sh 72 3 (enR R) a c :: Shs rwF R :: L) w') := by
  refine Sp.enter Tryd.func19 rfl (by kernel_rfl) (by kernel_rfl) ?_
  have _ := hg
  refine WC.seq ?_
  refine WC.region ?_
  refine WL.box rfl rfl #[.slice a (List.length (enR R)) c] hS rfl rfl (fun b1 w hS => ?_)
  refine WL.r 1 rfl ?_
  refine WL.nil ?_
  refine WC.seq ?_
  refine WC.region ?_
  refine WL.ldF rfl rfl 0 hS rfl rfl ag_38 ?_
  refine WL.r 1 rfl ?_
  refine WL.call rfl rfl (rfind_in (R := R) (s := s) (a := a) (c := c) (i := i) (r := r) (hl := hl) (hr := hr) (hn := hn) (hU := hU) (hS := (hS.sel 2 [1, 0] rfl))) rfl ?_
  clear hS; rintro _ w ⟨rfl, hS⟩
  replace hS : St g (Sh 72 3 (enR R) a c :: cel b1 #[.slice a (List.length (enR R)) c] 38 :: Shs rwF R :: L) w := hS
  refine WL.r 1 rfl ?_
  refine WL.nil ?_
  refine WC.seq ?_
  refine WC.seq ?_
  refine WC.region ?_
  refine WL.r 2 rfl ?_
  refine WL.nil ?_
  refine WC.ifF rfl (decide_eq_false ((by omega))) ?_
  refine WC.skip ?_
  refine WC.seq ?_
  refine WC.region ?_
  replace hS : St g (Sh 31 1 (u64s r.lg) r.a r.c :: Sh 72 3 (enR R) a c :: cel b1 #[.slice a (List.length (enR R)) c] 38 :: Shs rwF R :: L) w := hS.shsGet 2 rfl (List.mem_of_getElem? hr)
  refine WL.run 3 [.slice a (List.length (enR R)) c] rfl (by exact hS.ld 2 rfl rfl) ?_
  have hel := enR_len R; have hil := (List.getElem?_eq_some_iff.1 hr).1; have hul := u64s_len r.lg
  refine WL.ix rfl rfl (i := (i : Int)) (i) el_36 rfl rfl (by omega) (len_of (enR_at hr)) (hS.rdS 1 rfl (enR_at hr)).1 ?_
  refine WL.run 2 [.slice r.a (List.length (u64s r.lg)) r.c] rfl (by exact (hS.rdS 1 rfl (enR_at hr)).2 2 _ rfl) ?_
  replace hS := hS.nil_ 31 1
  refine WL.app rfl rfl 0 (u64s r.lg) el_26 hS rfl (hS.srcS 1 rfl) (List.nil_append _) (Rm.of (by first | omega | (simp <;> omega)) (by decide)) rfl rfl (fun a1 c1 w hS => ?_)
  replace hS : St g (Own 31 1 (u64s r.lg) a1 c1 :: Sh 31 1 (u64s r.lg) r.a r.c :: Sh 72 3 (enR R) a c :: cel b1 #[.slice a (List.length (enR R)) c] 38 :: Shs rwF R :: L) w := hS
  refine WL.r 1 rfl ?_
  refine WL.nil ?_
  as_aux_lemma =>
    refine WC.ret ?_
    refine ⟨[.slice a1 (List.length (u64s r.lg)) c1], rfl, ?_⟩
    replace hS := (hS.sel 4 [0, 1] rfl)
    exact ⟨_, _, rfl, hS⟩
theorem rlog_out {g w : World} {L : List HP} (R : List RW) (s : ByteArray) (a : Option Addr) (c : Nat) (hl : R.length ≤ 1000000) (hn : ∀ x ∈ R, x.name ≠ s) (hS : St g (Sh 72 3 (enR R) a c :: Shs rwF R :: L) w) :
    Sp Tryd.prog 19 [.agg #[.slice a (List.length (enR R)) c], .string s] w (fun v w' => v = .slice none 0 0 ∧ St g (Sh 72 3 (enR R) a c :: Shs rwF R :: L) w') := by
  refine Sp.enter Tryd.func19 rfl (by kernel_rfl) (by kernel_rfl) ?_
  refine WC.seq ?_
  refine WC.region ?_
  refine WL.box rfl rfl #[.slice a (List.length (enR R)) c] hS rfl rfl (fun b1 w hS => ?_)
  refine WL.r 1 rfl ?_
  refine WL.nil ?_
  refine WC.seq ?_
  refine WC.region ?_
  refine WL.ldF rfl rfl 0 hS rfl rfl ag_38 ?_
  refine WL.r 1 rfl ?_
  refine WL.call rfl rfl (rfind_out (R := R) (s := s) (a := a) (c := c) (hl := hl) (hn := hn) (hS := (hS.sel 2 [1, 0] rfl))) rfl ?_
  clear hS; rintro _ w ⟨rfl, hS⟩
  replace hS : St g (Sh 72 3 (enR R) a c :: cel b1 #[.slice a (List.length (enR R)) c] 38 :: Shs rwF R :: L) w := hS
  refine WL.r 1 rfl ?_
  refine WL.nil ?_
  refine WC.seq ?_
  refine WC.seq ?_
  refine WC.region ?_
  refine WL.r 2 rfl ?_
  refine WL.nil ?_
  refine WC.ifT rfl (by decide) ?_
  refine WC.seq ?_
  refine WC.region ?_
  refine WL.r 1 rfl ?_
  refine WL.nil ?_
  as_aux_lemma =>
    refine WC.ret ?_
    refine ⟨[.slice none 0 0], rfl, ?_⟩
    replace hS := (hS.sel 2 [0] rfl)
    exact ⟨rfl, hS⟩
theorem rFind_spec {g w : World} {L : List HP} (R : List RW) (p : ByteArray) (a : Option Addr) (c : Nat) (hl : R.length ≤ 1000000) (hS : St g (Sh 72 3 (enR R) a c :: L) w) :
    Sp Tryd.prog 22 [.agg #[.slice a (List.length (enR R)) c], .string p] w (fun v w' => ∃ (a2 : Option Addr) (c2 : Nat), v = .slice a2 (List.length (nhs (fil p (rN R)))) c2 ∧ St g (Own 48 2 (nhs (fil p (rN R))) a2 c2 :: Sh 72 3 (enR R) a c :: L) w') := by
  refine Sp.enter Tryd.func22 rfl (by kernel_rfl) (by kernel_rfl) ?_
  have _ := hl
  refine WC.seq ?_
  refine WC.region ?_
  refine WL.box rfl rfl #[.slice a (List.length (enR R)) c] hS rfl rfl (fun b1 w hS => ?_)
  refine WL.r 1 rfl ?_
  refine WL.nil ?_
  refine WC.seq ?_
  refine WC.region ?_
  refine WL.r 1 rfl ?_
  refine WL.nil ?_
  refine WC.seq ?_
  refine WC.seq ?_
  refine WC.region ?_
  have hel := enR_len R; have hnl := rN_len R
  refine WL.r 1 rfl ?_
  refine WL.nil ?_
  refine WC.block ?_
  replace hS := hS.nil_ 48 2
  refine WC.loop [1, 2, 4, 5, 6] (fun kM vs w => ∃ (k : Nat) (o : List (ByteArray × Int)) (u : Option Addr) (d : Nat), vs = [.string p, .pointer (some ⟨b1, 0, none⟩), .slice none 0 0, .slice u (List.length (nhs o)) d, .int .i64 (k : Int)] ∧ St g (Own 48 2 (nhs o) u d :: cel b1 #[.slice a (List.length (enR R)) c] 38 :: Sh 72 3 (enR R) a c :: L) w ∧ (k ≤ R.length) ∧ (o = fil p (List.take k (rN R))) ∧ (R.length - k) = kM) ((List.length R) - 0) ⟨0, [], none, 0, rfl, hS, (Nat.zero_le _), (rfl), rfl⟩ ?_
  clear hS; rintro _ _ w j ⟨k, o, u, d, rfl, hS, hk, hf, rfl⟩
  refine WC.seq ?_
  refine WC.seq ?_
  refine WC.region ?_
  have hel := enR_len R; have hnl := rN_len R
  refine WL.run 5 [.slice a (List.length (enR R)) c] rfl (by exact hS.ld 1 rfl rfl) ?_
  refine WL.nil ?_
  as_aux_lemma =>
    refine WC.ifP rfl (fun cd1 => ?_) (fun cd1 => ?_)
    · refine WC.skip ?_
      refine WC.seq ?_
      refine WC.block ?_
      refine WC.seq ?_
      refine WC.region ?_
      refine WL.run 3 [.slice a (List.length (enR R)) c] rfl (by exact hS.ld 1 rfl rfl) ?_
      obtain ⟨z, hz⟩ : ∃ z, R[k]? = some z := ⟨_, List.getElem?_eq_getElem (by omega)⟩; have hz2 := rN_at hz; have hsl := sb_len z.name; have hpl := sb_len p
      refine WL.ix rfl rfl (i := (k : Int)) (k) el_36 rfl rfl (by omega) (len_of (enR_at hz)) (hS.rdS 2 rfl (enR_at hz)).1 ?_
      refine WL.run 3 [.string z.name] rfl (by exact (hS.rdS 2 rfl (enR_at hz)).2 0 _ rfl) ?_
      refine WL.nil ?_
      refine WC.seq ?_
      refine WC.region ?_
      refine WL.r 6 rfl ?_
      by_cases cg1 : (ByteArray.size p : Int) ≤ (ByteArray.size z.name : Int)
      · refine WL.reb 26 (.bool true) (congrArg Value.bool (decide_eq_true cg1)) ?_
        refine WL.ung rfl rfl rfl ?_
        refine WL.r 1 rfl ?_
        refine WL.ung rfl rfl rfl ?_
        refine WL.r 1 rfl ?_
        refine WL.ung rfl rfl rfl ?_
        refine WL.r 1 rfl ?_
        refine WL.ung rfl rfl rfl ?_
        refine WL.ssHi rfl rfl (v := (ByteArray.size p : Int)) (p.size) rfl rfl rfl (by omega) (by omega) ?_
        refine WL.ung rfl rfl rfl ?_
        refine WL.r 1 rfl ?_
        refine WL.ung rfl rfl rfl ?_
        refine WL.r 2 rfl ?_
        refine WL.nil ?_
        as_aux_lemma =>
          refine WC.ifP rfl (fun cd2 => ?_) (fun cd2 => ?_)
          · refine WC.region ?_
            have hnl2 := nhs_len o
            refine WL.run 5 [.slice a (List.length (enR R)) c] rfl (by exact hS.ld 1 rfl rfl) ?_
            have hfl : o.length ≤ k := by rw [hf]; exact Nat.le_trans fil_len (by rw [List.length_take]; omega)
            refine WL.ix rfl rfl (i := (k : Int)) (k) el_36 rfl rfl (by omega) (len_of (enR_at hz)) (hS.rdS 2 rfl (enR_at hz)).1 ?_
            refine WL.run 2 [.int .u64 z.h] rfl (by exact (hS.rdS 2 rfl (enR_at hz)).2 1 _ rfl) ?_
            refine WL.build rfl rfl (cs := [.string z.name, .int .u64 z.h]) zv_48 rfl rfl ?_
            refine WL.lit rfl rfl (nhs [(z.name, z.h)]) el_49 hS (by exact ⟨rfl, rfl⟩) (nhs_ok _) rfl (by decide) (fun b2 w hS => ?_)
            refine WL.app rfl rfl 1 (nhs (o ++ [(z.name, z.h)])) el_49 hS rfl (hS.srcO 0 rfl) (nhs_app _ _).symm (Rm.of (by first | omega | (simp <;> omega)) (by decide)) rfl rfl (fun a1 c1 w hS => ?_)
            replace hS : St g (Own 48 2 (nhs [(z.name, z.h)]) (some ⟨b2, 0, none⟩) (List.length (nhs [(z.name, z.h)])) :: Own 48 2 (nhs (o ++ [(z.name, z.h)])) a1 c1 :: cel b1 #[.slice a (List.length (enR R)) c] 38 :: Sh 72 3 (enR R) a c :: L) w := hS
            refine WL.r 1 rfl ?_
            refine WL.nil ?_
            refine WC.region ?_
            refine WL.r 2 rfl ?_
            refine WL.nw 14 rfl (w64 (by omega)) ?_
            refine WL.r 1 rfl ?_
            refine WL.nil ?_
            exact ⟨_, by omega, k + 1, o ++ [(z.name, z.h)], a1, c1, rfl, (hS.sel 1 [] rfl), (by omega), (by rw [hf]; exact fil_take hz2 ⟨show p.size ≤ z.name.size by omega, cd2⟩), rfl⟩
          · refine WC.skip ?_
            refine WC.region ?_
            refine WL.r 2 rfl ?_
            refine WL.nw 14 rfl (w64 (by omega)) ?_
            refine WL.r 1 rfl ?_
            refine WL.nil ?_
            exact ⟨_, by omega, k + 1, o, u, d, rfl, hS, (by omega), (by rw [hf]; exact fil_skip hz2 (fun h => cd2 h.2)), rfl⟩
      · refine WL.reb 26 (.bool false) (congrArg Value.bool (decide_eq_false cg1)) ?_
        refine WL.skp rfl rfl rfl rfl ?_
        refine WL.skp rfl rfl rfl rfl ?_
        refine WL.skp rfl rfl rfl rfl ?_
        refine WL.skp rfl rfl rfl rfl ?_
        refine WL.skp rfl rfl rfl rfl ?_
        refine WL.skp rfl rfl rfl rfl ?_
        refine WL.r 1 rfl ?_
        refine WL.nil ?_
        refine WC.ifF rfl rfl ?_
        refine WC.skip ?_
        as_aux_lemma =>
          refine WC.region ?_
          refine WL.r 2 rfl ?_
          refine WL.nw 14 rfl (w64 (by omega)) ?_
          refine WL.r 1 rfl ?_
          refine WL.nil ?_
          exact ⟨_, by omega, k + 1, o, u, d, rfl, hS, (by omega), (by rw [hf]; exact fil_skip hz2 (fun h => by have h9 : p.size ≤ z.name.size := h.1; omega)), rfl⟩
    · refine WC.exit ?_
      refine WC.seq ?_
      refine WC.region ?_
      obtain rfl : o = fil p (rN R) := by rw [hf, List.take_of_length_le (by omega)]
      refine WL.r 2 rfl ?_
      refine WL.nil ?_
      refine WC.ret ?_
      refine ⟨[.slice u (List.length (nhs (fil p (rN R)))) d], rfl, ?_⟩
      replace hS := (hS.sel 2 [0] rfl)
      exact ⟨_, _, rfl, hS⟩
end Go.Proofs.YtenkmjbghbegfaaDoor
