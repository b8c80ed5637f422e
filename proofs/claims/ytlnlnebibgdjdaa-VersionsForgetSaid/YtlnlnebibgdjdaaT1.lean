/-
  Words of a slot and its generation; tables of handles.
  Conditions: the table is in order.
-/
import Derived.Test.YtlnlnebibgdjdaaS2
import Derived.Test.YtlnlnebibgdjdaaTra
namespace Go.Proofs.Ytlnlnebibgdjdaa
open Go Go.V

theorem pack_spec {g w : World} {L : List HP} (i n : Int) (hi : 0 ≤ i ∧ i < 4294967296) (hn : 0 ≤ n ∧ n < 4294967296) (hS : St g (L) w) :
    Sp Try.prog 117 [.int .u32 i, .int .u32 n] w (fun v w' => v = .int .u64 (n * 4294967296 + i) ∧ St g (L) w') := by
  refine Sp.enter Try.func117 rfl (by kernel_rfl) (by kernel_rfl) ?_
  refine WC.seq ?_
  refine WC.region ?_
  refine WL.r 1 rfl ?_
  refine WL.nil ?_
  refine WC.seq ?_
  refine WC.region ?_
  refine WL.r 2 rfl ?_
  refine WL.nw 6 rfl (wu64 (by omega)) ?_
  refine WL.r 1 rfl ?_
  refine WL.r 2 rfl ?_
  refine WL.nw 9 rfl (wu64 (by omega)) ?_
  refine WL.r 1 rfl ?_
  refine WL.reb 10 (.int .u64 (n * 4294967296 + i)) (congrArg (Value.int .u64) (by exact pack_or hi hn)) ?_
  refine WL.r 1 rfl ?_
  refine WL.nil ?_
  refine WC.ret ?_
  refine ⟨[.int .u64 (n * 4294967296 + i)], rfl, ?_⟩
  exact ⟨rfl, hS⟩
theorem unpack_spec {g w : World} {L : List HP} (h : Int) (hh : 0 ≤ h ∧ h ≤ 18446744073709551615) (hS : St g (L) w) :
    Sp Try.prog 125 [.int .u64 h] w (fun v w' => v = .tuple #[.int .u32 (h % 4294967296), .int .u32 (h / 4294967296)] ∧ St g (L) w') := by
  refine Sp.enter Try.func125 rfl (by kernel_rfl) (by kernel_rfl) ?_
  have _ := hh
  refine WC.seq ?_
  refine WC.region ?_
  refine WL.r 2 rfl ?_
  refine WL.nil ?_
  refine WC.seq ?_
  refine WC.region ?_
  refine WL.r 2 rfl ?_
  refine WL.reb 5 (.int .u32 (h % 4294967296)) (congrArg (Value.int .u32) (by rfl)) ?_
  refine WL.r 2 rfl ?_
  refine WL.reb 7 (.int .u64 (h / 4294967296)) (congrArg (Value.int .u64) (by rfl)) ?_
  refine WL.r 1 rfl ?_
  refine WL.reb 8 (.int .u32 (h / 4294967296)) (congrArg (Value.int .u32) (by show (h / 4294967296) % 4294967296 = h / 4294967296; omega)) ?_
  refine WL.r 2 rfl ?_
  refine WL.nil ?_
  refine WC.ret ?_
  refine ⟨[.int .u32 (h % 4294967296), .int .u32 (h / 4294967296)], ⟨rfl, rfl⟩, ?_⟩
  exact ⟨rfl, hS⟩
theorem hd0 {g w : World} {L : List HP} (t p : Nat) (S : SM) (va : Option Addr) (n vc : Nat) (i : Int) (hO : SOk S) (hi : 0 ≤ i ∧ i < 4294967296) (hS : St g (cel t #[.pointer (some ⟨p, 0, none⟩), .slice va n vc] 158 :: Slt p S :: L) w) :
    Sp Try.prog 87 [.pointer (some ⟨t, 0, none⟩), .int .u32 i] w (fun v w' => v = .int .u64 (S.hd i) ∧ St g (cel t #[.pointer (some ⟨p, 0, none⟩), .slice va n vc] 158 :: Slt p S :: L) w') := by
  refine Sp.enter Try.func87 rfl (by kernel_rfl) (by kernel_rfl) ?_
  have _ := hi
  refine WC.seq ?_
  refine WC.region ?_
  have hg := hO.gen_rng i
  refine WL.r 1 rfl ?_
  refine WL.nil ?_
  refine WC.seq ?_
  refine WC.region ?_
  refine WL.run 6 [.pointer (some ⟨p, 0, none⟩)] rfl (by exact hS.ld 0 rfl rfl) ?_
  refine WL.call rfl rfl (sl_gen (s := p) (S := S) (i := i) (hl := (by first | assumption | exact SOk.gle (by assumption))) (hi := (by omega)) (hS := (hS.sel 2 [1, 0] rfl))) rfl ?_
  clear hS; rintro _ w ⟨rfl, hS⟩
  replace hS : St g (Slt p S :: cel t #[.pointer (some ⟨p, 0, none⟩), .slice va n vc] 158 :: L) w := hS
  refine WL.call rfl rfl (pack_spec (i := i) (n := S.genOf i) (hi := (by omega)) (hn := (by first | omega | exact SOk.gen_rng (by assumption) _)) (hS := hS)) rfl ?_
  clear hS; rintro _ w ⟨rfl, hS⟩
  replace hS : St g (Slt p S :: cel t #[.pointer (some ⟨p, 0, none⟩), .slice va n vc] 158 :: L) w := hS
  refine WL.r 1 rfl ?_
  refine WL.nil ?_
  refine WC.ret ?_
  refine ⟨[.int .u64 ((S.genOf i) * 4294967296 + i)], rfl, ?_⟩
  replace hS := (hS.sel 2 [1, 0] rfl)
  exact ⟨rfl, hS⟩
theorem ent0 {g w : World} {L : List HP} (t p : Nat) (S : SM) (va : Option Addr) (n vc : Nat) (h : Int) (hO : SOk S) (hh : 0 ≤ h ∧ h ≤ 18446744073709551615) (hS : St g (cel t #[.pointer (some ⟨p, 0, none⟩), .slice va n vc] 158 :: Slt p S :: L) w) :
    Sp Try.prog 100 [.pointer (some ⟨t, 0, none⟩), .int .u64 h] w (fun v w' => v = .tuple #[.int .u32 (h % 4294967296), .bool (S.opn h)] ∧ St g (cel t #[.pointer (some ⟨p, 0, none⟩), .slice va n vc] 158 :: Slt p S :: L) w') := by
  refine Sp.enter Try.func100 rfl (by kernel_rfl) (by kernel_rfl) ?_
  have _ := hh
  have _ := hO
  refine WC.seq ?_
  refine WC.region ?_
  refine WL.r 2 rfl ?_
  refine WL.nil ?_
  refine WC.seq ?_
  refine WC.region ?_
  refine WL.r 1 rfl ?_
  refine WL.call rfl rfl (unpack_spec (h := h) (hh := (by omega)) (hS := hS)) rfl ?_
  clear hS; rintro _ w ⟨rfl, hS⟩
  replace hS : St g (cel t #[.pointer (some ⟨p, 0, none⟩), .slice va n vc] 158 :: Slt p S :: L) w := hS
  refine WL.r 5 rfl ?_
  refine WL.nil ?_
  refine WC.seq ?_
  refine WC.region ?_
  refine WL.run 6 [.pointer (some ⟨p, 0, none⟩)] rfl (by exact hS.ld 0 rfl rfl) ?_
  refine WL.call rfl rfl (sl_ok (s := p) (S := S) (i := h % 4294967296) (hl := (by first | assumption | exact SOk.le (by assumption))) (hi := (by omega)) (hS := (hS.sel 2 [1, 0] rfl))) rfl ?_
  clear hS; rintro _ w ⟨rfl, hS⟩
  replace hS : St g (Slt p S :: cel t #[.pointer (some ⟨p, 0, none⟩), .slice va n vc] 158 :: L) w := hS
  refine WL.r 1 rfl ?_
  by_cases cg1 : (S.ok (h % 4294967296)) = true
  · refine WL.reb 20 (.bool true) (congrArg Value.bool cg1) ?_
    refine WL.ung rfl rfl rfl ?_
    refine WL.r 1 rfl ?_
    refine WL.ung rfl rfl rfl ?_
    refine WL.r 1 rfl ?_
    refine WL.ung rfl rfl rfl ?_
    refine WL.call rfl rfl (hd0 (t := t) (p := p) (S := S) (va := va) (n := n) (vc := vc) (i := h % 4294967296) (hO := (by assumption)) (hi := (by omega)) (hS := (hS.sel 2 [1, 0] rfl))) rfl ?_
    clear hS; rintro _ w ⟨rfl, hS⟩
    replace hS : St g (cel t #[.pointer (some ⟨p, 0, none⟩), .slice va n vc] 158 :: Slt p S :: L) w := hS
    refine WL.ung rfl rfl rfl ?_
    refine WL.r 1 rfl ?_
    refine WL.ung rfl rfl rfl ?_
    refine WL.r 4 rfl ?_
    refine WL.nil ?_
    as_aux_lemma =>
      refine WC.ret ?_
      refine ⟨[.int .u32 (h % 4294967296), .bool (decide ((S.hd (h % 4294967296)) = h))], ⟨rfl, rfl⟩, ?_⟩
      first | exact ⟨congrArg (fun b => Value.tuple #[.int .u32 (h % 4294967296), .bool b]) (by unfold SM.opn; rw [show S.ok (h % 4294967296) = true from cg1]; rfl), hS⟩ | exact ⟨congrArg (fun b => Value.tuple #[.int .u32 (h % 4294967296), .bool b]) (by unfold SM.opn; rw [Bool.eq_false_iff.2 cg1]; rfl), hS⟩
  · refine WL.reb 20 (.bool false) (congrArg Value.bool (Bool.eq_false_iff.2 cg1)) ?_
    refine WL.skp rfl rfl rfl rfl ?_
    refine WL.skp rfl rfl rfl rfl ?_
    refine WL.skp rfl rfl rfl rfl ?_
    refine WL.skp rfl rfl rfl rfl ?_
    refine WL.skp rfl rfl rfl rfl ?_
    refine WL.r 3 rfl ?_
    refine WL.nil ?_
    as_aux_lemma =>
      refine WC.ret ?_
      refine ⟨[.int .u32 (h % 4294967296), .bool false], ⟨rfl, rfl⟩, ?_⟩
      replace hS := (hS.sel 2 [1, 0] rfl)
      first | exact ⟨congrArg (fun b => Value.tuple #[.int .u32 (h % 4294967296), .bool b]) (by unfold SM.opn; rw [show S.ok (h % 4294967296) = true from cg1]; rfl), hS⟩ | exact ⟨congrArg (fun b => Value.tuple #[.int .u32 (h % 4294967296), .bool b]) (by unfold SM.opn; rw [Bool.eq_false_iff.2 cg1]; rfl), hS⟩
theorem tb_lookup_bad {g w : World} {L : List HP} (t : Nat) (T : TM) (h : Int) (hT : TOk T) (hh : 0 ≤ h ∧ h ≤ 18446744073709551615) (hn : T.s.opn h = false) (hS : St g (Tbl t T :: L) w) :
    Sp Try.prog 85 [.pointer (some ⟨t, 0, none⟩), .int .u64 h] w (fun v w' => v = .tuple #[.int .u32 0, .int .i64 5] ∧ St g (Tbl t T :: L) w') := by
  refine Sp.enter Try.func85 rfl (by kernel_rfl) (by kernel_rfl) ?_
  refine WC.seq ?_
  refine WC.region ?_
  refine WL.r 2 rfl ?_
  refine WL.nil ?_
  refine WC.seq ?_
  refine WC.region ?_
  obtain ⟨⟨p, va, vc⟩, hS⟩ := St.exOpen (f := tblF t T) hS; have hbv := u32s_len T.vals; have hTs := hT.s; have hvl := hT.vl; have hcp := hTs.cap
  replace hS : St g (cel t #[.pointer (some ⟨p, 0, none⟩), .slice va (List.length (u32s T.vals)) vc] 158 :: Slt p T.s :: Own 40 1 (u32s T.vals) va vc :: L) w := hS
  refine WL.r 2 rfl ?_
  refine WL.call rfl rfl (ent0 (t := t) (p := p) (S := T.s) (va := va) (n := List.length (u32s T.vals)) (vc := vc) (h := h) (hO := (by assumption)) (hh := hh) (hS := hS)) rfl ?_
  clear hS; rintro _ w ⟨rfl, hS⟩
  replace hS : St g (cel t #[.pointer (some ⟨p, 0, none⟩), .slice va (List.length (u32s T.vals)) vc] 158 :: Slt p T.s :: Own 40 1 (u32s T.vals) va vc :: L) w := hS
  refine WL.r 5 rfl ?_
  refine WL.nil ?_
  refine WC.seq ?_
  refine WC.seq ?_
  refine WC.region ?_
  refine WL.r 2 rfl ?_
  refine WL.nil ?_
  refine WC.ifT rfl (by rw [hn]; rfl) ?_
  refine WC.seq ?_
  refine WC.region ?_
  refine WL.r 2 rfl ?_
  refine WL.nil ?_
  as_aux_lemma =>
    refine WC.ret ?_
    replace hS := St.exClose (f := tblF t T) ⟨p, va, vc⟩ hS
    replace hS : St g (Tbl t T :: L) w := hS
    refine ⟨[.int .u32 0, .int .i64 5], ⟨rfl, rfl⟩, ?_⟩
    exact ⟨rfl, hS⟩
theorem tb_lookup_ok {g w : World} {L : List HP} (t : Nat) (T : TM) (h : Int) (hT : TOk T) (hh : 0 ≤ h ∧ h ≤ 18446744073709551615) (hn : T.s.opn h = true) (hS : St g (Tbl t T :: L) w) :
    Sp Try.prog 85 [.pointer (some ⟨t, 0, none⟩), .int .u64 h] w (fun v w' => v = .tuple #[.int .u32 (T.val h), .int .i64 0] ∧ St g (Tbl t T :: L) w') := by
  refine Sp.enter Try.func85 rfl (by kernel_rfl) (by kernel_rfl) ?_
  refine WC.seq ?_
  refine WC.region ?_
  refine WL.r 2 rfl ?_
  refine WL.nil ?_
  refine WC.seq ?_
  refine WC.region ?_
  obtain ⟨⟨p, va, vc⟩, hS⟩ := St.exOpen (f := tblF t T) hS; have hbv := u32s_len T.vals; have hTs := hT.s; have hvl := hT.vl; have hcp := hTs.cap
  replace hS : St g (cel t #[.pointer (some ⟨p, 0, none⟩), .slice va (List.length (u32s T.vals)) vc] 158 :: Slt p T.s :: Own 40 1 (u32s T.vals) va vc :: L) w := hS
  refine WL.r 2 rfl ?_
  refine WL.call rfl rfl (ent0 (t := t) (p := p) (S := T.s) (va := va) (n := List.length (u32s T.vals)) (vc := vc) (h := h) (hO := (by assumption)) (hh := hh) (hS := hS)) rfl ?_
  clear hS; rintro _ w ⟨rfl, hS⟩
  replace hS : St g (cel t #[.pointer (some ⟨p, 0, none⟩), .slice va (List.length (u32s T.vals)) vc] 158 :: Slt p T.s :: Own 40 1 (u32s T.vals) va vc :: L) w := hS
  refine WL.r 5 rfl ?_
  refine WL.nil ?_
  refine WC.seq ?_
  refine WC.seq ?_
  refine WC.region ?_
  refine WL.r 2 rfl ?_
  refine WL.nil ?_
  refine WC.ifF rfl (by rw [hn]; decide) ?_
  refine WC.skip ?_
  refine WC.seq ?_
  refine WC.region ?_
  have hrg := SM.ok_rng hTs (by omega) (SM.opn_ok hn).1
  refine WL.run 5 [.slice va (List.length (u32s T.vals)) vc] rfl (by exact hS.ld 0 rfl rfl) ?_
  obtain ⟨v, hv⟩ : ∃ v, T.vals[(h % 4294967296).toNat]? = some v := ⟨_, List.getElem?_eq_getElem (by omega)⟩
  refine WL.ix rfl rfl (i := h % 4294967296) ((h % 4294967296).toNat) el_54 rfl rfl (by omega) (by omega) (hS.rdO 2 rfl (u32s_at hv)).1 ?_
  refine WL.run 3 [.int .u32 v] rfl (by exact (hS.rdO 2 rfl (u32s_at hv)).2 0 _ rfl) ?_
  refine WL.nil ?_
  as_aux_lemma =>
    refine WC.ret ?_
    replace hS := St.exClose (f := tblF t T) ⟨p, va, vc⟩ hS
    replace hS : St g (Tbl t T :: L) w := hS
    refine ⟨[.int .u32 v, .int .i64 0], ⟨rfl, rfl⟩, ?_⟩
    exact ⟨by rw [TM.val, hv]; rfl, hS⟩
theorem tb_close_bad {g w : World} {L : List HP} (t : Nat) (T : TM) (h : Int) (hT : TOk T) (hh : 0 ≤ h ∧ h ≤ 18446744073709551615) (hn : T.s.opn h = false) (hS : St g (Tbl t T :: L) w) :
    Sp Try.prog 65 [.pointer (some ⟨t, 0, none⟩), .int .u64 h] w (fun v w' => v = .tuple #[.int .u32 0, .int .i64 5] ∧ St g (Tbl t T :: L) w') := by
  refine Sp.enter Try.func65 rfl (by kernel_rfl) (by kernel_rfl) ?_
  refine WC.seq ?_
  refine WC.region ?_
  refine WL.r 2 rfl ?_
  refine WL.nil ?_
  refine WC.seq ?_
  refine WC.region ?_
  obtain ⟨⟨p, va, vc⟩, hS⟩ := St.exOpen (f := tblF t T) hS; have hbv := u32s_len T.vals; have hTs := hT.s; have hvl := hT.vl; have hcp := hTs.cap
  replace hS : St g (cel t #[.pointer (some ⟨p, 0, none⟩), .slice va (List.length (u32s T.vals)) vc] 158 :: Slt p T.s :: Own 40 1 (u32s T.vals) va vc :: L) w := hS
  refine WL.r 2 rfl ?_
  refine WL.call rfl rfl (ent0 (t := t) (p := p) (S := T.s) (va := va) (n := List.length (u32s T.vals)) (vc := vc) (h := h) (hO := (by assumption)) (hh := hh) (hS := hS)) rfl ?_
  clear hS; rintro _ w ⟨rfl, hS⟩
  replace hS : St g (cel t #[.pointer (some ⟨p, 0, none⟩), .slice va (List.length (u32s T.vals)) vc] 158 :: Slt p T.s :: Own 40 1 (u32s T.vals) va vc :: L) w := hS
  refine WL.r 5 rfl ?_
  refine WL.nil ?_
  refine WC.seq ?_
  refine WC.seq ?_
  refine WC.region ?_
  refine WL.r 2 rfl ?_
  refine WL.nil ?_
  refine WC.ifT rfl (by rw [hn]; rfl) ?_
  refine WC.seq ?_
  refine WC.region ?_
  refine WL.r 2 rfl ?_
  refine WL.nil ?_
  as_aux_lemma =>
    refine WC.ret ?_
    replace hS := St.exClose (f := tblF t T) ⟨p, va, vc⟩ hS
    replace hS : St g (Tbl t T :: L) w := hS
    refine ⟨[.int .u32 0, .int .i64 5], ⟨rfl, rfl⟩, ?_⟩
    exact ⟨rfl, hS⟩
theorem tb_close_ok {g w : World} {L : List HP} (t : Nat) (T : TM) (h : Int) (hT : TOk T) (hh : 0 ≤ h ∧ h ≤ 18446744073709551615) (hn : T.s.opn h = true) (hS : St g (Tbl t T :: L) w) :
    Sp Try.prog 65 [.pointer (some ⟨t, 0, none⟩), .int .u64 h] w (fun v w' => v = .tuple #[.int .u32 (T.val h), .int .i64 0] ∧ St g (Tbl t (T.close h) :: L) w') := by
  refine Sp.enter Try.func65 rfl (by kernel_rfl) (by kernel_rfl) ?_
  refine WC.seq ?_
  refine WC.region ?_
  refine WL.r 2 rfl ?_
  refine WL.nil ?_
  refine WC.seq ?_
  refine WC.region ?_
  obtain ⟨⟨p, va, vc⟩, hS⟩ := St.exOpen (f := tblF t T) hS; have hbv := u32s_len T.vals; have hTs := hT.s; have hvl := hT.vl; have hcp := hTs.cap
  replace hS : St g (cel t #[.pointer (some ⟨p, 0, none⟩), .slice va (List.length (u32s T.vals)) vc] 158 :: Slt p T.s :: Own 40 1 (u32s T.vals) va vc :: L) w := hS
  refine WL.r 2 rfl ?_
  refine WL.call rfl rfl (ent0 (t := t) (p := p) (S := T.s) (va := va) (n := List.length (u32s T.vals)) (vc := vc) (h := h) (hO := (by assumption)) (hh := hh) (hS := hS)) rfl ?_
  clear hS; rintro _ w ⟨rfl, hS⟩
  replace hS : St g (cel t #[.pointer (some ⟨p, 0, none⟩), .slice va (List.length (u32s T.vals)) vc] 158 :: Slt p T.s :: Own 40 1 (u32s T.vals) va vc :: L) w := hS
  refine WL.r 5 rfl ?_
  refine WL.nil ?_
  refine WC.seq ?_
  refine WC.seq ?_
  refine WC.region ?_
  refine WL.r 2 rfl ?_
  refine WL.nil ?_
  refine WC.ifF rfl (by rw [hn]; decide) ?_
  refine WC.skip ?_
  refine WC.seq ?_
  refine WC.region ?_
  have hrg := SM.ok_rng hTs (by omega) (SM.opn_ok hn).1
  refine WL.run 5 [.pointer (some ⟨p, 0, none⟩)] rfl (by exact hS.ld 0 rfl rfl) ?_
  refine WL.call rfl rfl (sl_release_ok (s := p) (S := T.s) (i := h % 4294967296) (hO := (by assumption)) (hi := (by omega)) (hn := (SM.opn_ok hn).1) (hS := (hS.sel 2 [1, 0] rfl))) rfl ?_
  clear hS; rintro _ w ⟨rfl, hS⟩
  replace hS : St g (Slt p (T.s.release (h % 4294967296)) :: cel t #[.pointer (some ⟨p, 0, none⟩), .slice va (List.length (u32s T.vals)) vc] 158 :: Own 40 1 (u32s T.vals) va vc :: L) w := hS
  refine WL.nil ?_
  as_aux_lemma =>
    refine WC.seq ?_
    refine WC.region ?_
    refine WL.run 5 [.slice va (List.length (u32s T.vals)) vc] rfl (by exact hS.ld 1 rfl rfl) ?_
    obtain ⟨v, hv⟩ : ∃ v, T.vals[(h % 4294967296).toNat]? = some v := ⟨_, List.getElem?_eq_getElem (by omega)⟩
    refine WL.ix rfl rfl (i := h % 4294967296) ((h % 4294967296).toNat) el_54 rfl rfl (by omega) (by omega) (hS.rdO 2 rfl (u32s_at hv)).1 ?_
    refine WL.run 3 [.int .u32 v] rfl (by exact (hS.rdO 2 rfl (u32s_at hv)).2 0 _ rfl) ?_
    refine WL.nil ?_
    refine WC.ret ?_
    replace hS := St.exClose (f := tblF t (T.close h)) ⟨p, va, vc⟩ (by first | exact hS | exact hS.sel 3 [1, 0, 0] rfl)
    replace hS : St g (Tbl t (T.close h) :: L) w := hS
    refine ⟨[.int .u32 v, .int .i64 0], ⟨rfl, rfl⟩, ?_⟩
    exact ⟨by rw [TM.val, hv]; rfl, hS⟩
theorem tb_len {g w : World} {L : List HP} (t : Nat) (T : TM) (hT : TOk T) (hS : St g (Tbl t T :: L) w) :
    Sp Try.prog 50 [.pointer (some ⟨t, 0, none⟩)] w (fun v w' => v = .int .i64 (T.s.cap - T.s.free) ∧ St g (Tbl t T :: L) w') := by
  refine Sp.enter Try.func50 rfl (by kernel_rfl) (by kernel_rfl) ?_
  refine WC.seq ?_
  refine WC.region ?_
  have hfr := hT.s.fr; have hrl := hT.s.rle; have hcp0 := hT.s.cap; have e1 : T.s.cap = (T.s.used.length : Int) - 1 := rfl; have e2 : T.s.free = (T.s.rel.length : Int) + T.s.cap - T.s.fresh := rfl
  obtain ⟨⟨p, va, vc⟩, hS⟩ := St.exOpen (f := tblF t T) hS; have hbv := u32s_len T.vals; have hTs := hT.s; have hvl := hT.vl; have hcp := hTs.cap
  replace hS : St g (cel t #[.pointer (some ⟨p, 0, none⟩), .slice va (List.length (u32s T.vals)) vc] 158 :: Slt p T.s :: Own 40 1 (u32s T.vals) va vc :: L) w := hS
  refine WL.r 1 rfl ?_
  refine WL.nil ?_
  refine WC.seq ?_
  refine WC.plan [([0, 5, 1, 6, 2, 7, 3, 8], some (4, [5, 6, 7, 8])), ([], some (9, [])), ([10, 11], none)] (by kernel_rfl) (by kernel_rfl) ?_
  refine WQ.run 8 [.pointer (some ⟨p, 0, none⟩), .pointer (some ⟨p, 0, none⟩)] rfl (by exact ⟨hS.ld 0 rfl rfl, hS.ld 0 rfl rfl⟩) ?_
  refine WQ.nil ?_
  intro m1
  replace hS := hS.drewN m1; generalize hwm1 : World.drewN _ _ = w at *; clear hwm1
  refine WL.call rfl rfl (sl_cap (s := p) (S := T.s) (hl := (by first | assumption | exact SOk.le (by assumption))) (hS := (hS.sel 2 [1, 0] rfl))) rfl ?_
  clear hS; rintro _ w ⟨rfl, hS⟩
  replace hS : St g (Slt p T.s :: cel t #[.pointer (some ⟨p, 0, none⟩), .slice va (List.length (u32s T.vals)) vc] 158 :: Own 40 1 (u32s T.vals) va vc :: L) w := hS
  refine WL.nil ?_
  refine ⟨by exact ⟨RQ.pure rfl rfl rfl rfl, RQ.pure rfl rfl rfl rfl, RQ.pure rfl rfl rfl rfl, RQ.load rfl rfl rfl rfl (hS.ld 1 rfl rfl)⟩, ?_⟩
  refine WQ.nil ?_
  intro m2
  replace hS := hS.drewN m2; generalize hwm2 : World.drewN _ _ = w at *; clear hwm2
  refine WL.call rfl rfl (sl_free (s := p) (S := T.s) (hO := (by assumption)) (hS := hS)) rfl ?_
  clear hS; rintro _ w ⟨rfl, hS⟩
  replace hS : St g (Slt p T.s :: cel t #[.pointer (some ⟨p, 0, none⟩), .slice va (List.length (u32s T.vals)) vc] 158 :: Own 40 1 (u32s T.vals) va vc :: L) w := hS
  refine WL.nil ?_
  refine ⟨by exact trivial, ?_⟩
  refine WQ.r 1 rfl ?_
  refine WQ.nw 13 rfl (w64 (by omega)) ?_
  refine WQ.r 1 rfl ?_
  refine WQ.nil ?_
  intro m3
  replace hS := hS.drewN m3; generalize hwm3 : World.drewN _ _ = w at *; clear hwm3
  as_aux_lemma =>
    refine WC.ret ?_
    replace hS := St.exClose (f := tblF t T) ⟨p, va, vc⟩ (by first | exact hS | exact hS.sel 3 [1, 0, 0] rfl)
    replace hS : St g (Tbl t T :: L) w := hS
    refine ⟨[.int .i64 (T.s.cap - T.s.free)], rfl, ?_⟩
    exact ⟨rfl, hS⟩
theorem tb_open_full {g w : World} {L : List HP} (t : Nat) (T : TM) (y : Int) (hT : TOk T) (hf : T.s.free = 0) (hS : St g (Tbl t T :: L) w) :
    Sp Try.prog 62 [.pointer (some ⟨t, 0, none⟩), .int .u32 y] w (fun v w' => v = .tuple #[.int .u64 0, .int .i64 2] ∧ St g (Tbl t T :: L) w') := by
  refine Sp.enter Try.func62 rfl (by kernel_rfl) (by kernel_rfl) ?_
  refine WC.seq ?_
  refine WC.region ?_
  refine WL.r 2 rfl ?_
  refine WL.nil ?_
  refine WC.seq ?_
  refine WC.region ?_
  obtain ⟨⟨p, va, vc⟩, hS⟩ := St.exOpen (f := tblF t T) hS; have hbv := u32s_len T.vals; have hTs := hT.s; have hvl := hT.vl; have hcp := hTs.cap
  replace hS : St g (cel t #[.pointer (some ⟨p, 0, none⟩), .slice va (List.length (u32s T.vals)) vc] 158 :: Slt p T.s :: Own 40 1 (u32s T.vals) va vc :: L) w := hS
  refine WL.run 4 [.pointer (some ⟨p, 0, none⟩)] rfl (by exact hS.ld 0 rfl rfl) ?_
  refine WL.call rfl rfl (sl_alloc_full (s := p) (S := T.s) (hO := (by assumption)) (hf := hf) (hS := (hS.sel 2 [1, 0] rfl))) rfl ?_
  clear hS; rintro _ w ⟨rfl, hS⟩
  replace hS : St g (Slt p T.s :: cel t #[.pointer (some ⟨p, 0, none⟩), .slice va (List.length (u32s T.vals)) vc] 158 :: Own 40 1 (u32s T.vals) va vc :: L) w := hS
  refine WL.r 5 rfl ?_
  refine WL.nil ?_
  refine WC.seq ?_
  refine WC.seq ?_
  refine WC.region ?_
  refine WL.r 2 rfl ?_
  refine WL.nil ?_
  refine WC.ifT rfl (decide_eq_true ((by decide))) ?_
  refine WC.seq ?_
  refine WC.region ?_
  refine WL.r 3 rfl ?_
  refine WL.nil ?_
  as_aux_lemma =>
    refine WC.ret ?_
    replace hS := St.exClose (f := tblF t T) ⟨p, va, vc⟩ (by first | exact hS | exact hS.sel 3 [1, 0, 0] rfl)
    replace hS : St g (Tbl t T :: L) w := hS
    refine ⟨[.int .u64 0, .int .i64 2], ⟨rfl, rfl⟩, ?_⟩
    exact ⟨rfl, hS⟩
theorem tb_open_ok {g w : World} {L : List HP} (t : Nat) (T : TM) (y : Int) (hT : TOk T) (hf : 0 < T.s.free) (hS : St g (Tbl t T :: L) w) :
    Sp Try.prog 62 [.pointer (some ⟨t, 0, none⟩), .int .u32 y] w (fun v w' => v = .tuple #[.int .u64 T.newH, .int .i64 0] ∧ St g (Tbl t (T.open y) :: L) w') := by
  refine Sp.enter Try.func62 rfl (by kernel_rfl) (by kernel_rfl) ?_
  refine WC.seq ?_
  refine WC.region ?_
  refine WL.r 2 rfl ?_
  refine WL.nil ?_
  refine WC.seq ?_
  refine WC.region ?_
  obtain ⟨⟨p, va, vc⟩, hS⟩ := St.exOpen (f := tblF t T) hS; have hbv := u32s_len T.vals; have hTs := hT.s; have hvl := hT.vl; have hcp := hTs.cap
  replace hS : St g (cel t #[.pointer (some ⟨p, 0, none⟩), .slice va (List.length (u32s T.vals)) vc] 158 :: Slt p T.s :: Own 40 1 (u32s T.vals) va vc :: L) w := hS
  refine WL.run 4 [.pointer (some ⟨p, 0, none⟩)] rfl (by exact hS.ld 0 rfl rfl) ?_
  refine WL.call rfl rfl (sl_alloc_ok (s := p) (S := T.s) (hO := (by assumption)) (hf := hf) (hS := (hS.sel 2 [1, 0] rfl))) rfl ?_
  clear hS; rintro _ w ⟨rfl, hS⟩
  replace hS : St g (Slt p T.s.alloc :: cel t #[.pointer (some ⟨p, 0, none⟩), .slice va (List.length (u32s T.vals)) vc] 158 :: Own 40 1 (u32s T.vals) va vc :: L) w := hS
  refine WL.r 5 rfl ?_
  refine WL.nil ?_
  refine WC.seq ?_
  refine WC.seq ?_
  refine WC.region ?_
  refine WL.r 2 rfl ?_
  refine WL.nil ?_
  refine WC.ifF rfl (decide_eq_false ((by decide))) ?_
  refine WC.skip ?_
  refine WC.seq ?_
  refine WC.region ?_
  have hnx := T.s.next_rng hTs hf; have hO2 := SM.alloc_sok hTs hf
  refine WL.run 6 [.slice va (List.length (u32s T.vals)) vc] rfl (by exact hS.ld 1 rfl rfl) ?_
  obtain ⟨u, hv⟩ : ∃ u, T.vals[T.s.next.toNat]? = some u := ⟨_, List.getElem?_eq_getElem (by omega)⟩
  refine WL.ix rfl rfl (i := T.s.next) (T.s.next.toNat) el_54 rfl rfl (by omega) (by omega) (hS.rdO 2 rfl (u32s_at hv)).1 ?_
  refine WL.stE rfl rfl rfl 2 (T.s.next.toNat) 0 [.int .u32 u] (u32s (T.vals.set T.s.next.toNat y)) hS rfl (u32s_at hv) rfl rfl rfl rfl rfl (u32s_set _ _ _) (fun w hS => ?_)
  replace hS : St g (Slt p T.s.alloc :: cel t #[.pointer (some ⟨p, 0, none⟩), .slice va (List.length (u32s T.vals)) vc] 158 :: Own 40 1 (u32s (T.vals.set T.s.next.toNat y)) va vc :: L) w := hS
  refine WL.nil ?_
  as_aux_lemma =>
    refine WC.seq ?_
    refine WC.region ?_
    refine WL.r 2 rfl ?_
    refine WL.call rfl rfl (hd0 (t := t) (p := p) (S := T.s.alloc) (va := va) (n := List.length (u32s T.vals)) (vc := vc) (i := T.s.next) (hO := (by assumption)) (hi := (by omega)) (hS := (hS.sel 2 [1, 0] rfl))) rfl ?_
    clear hS; rintro _ w ⟨rfl, hS⟩
    replace hS : St g (cel t #[.pointer (some ⟨p, 0, none⟩), .slice va (List.length (u32s T.vals)) vc] 158 :: Slt p T.s.alloc :: Own 40 1 (u32s (T.vals.set T.s.next.toNat y)) va vc :: L) w := hS
    refine WL.r 2 rfl ?_
    refine WL.nil ?_
    refine WC.ret ?_
    replace hS := St.exClose (f := tblF t (T.open y)) ⟨p, va, vc⟩ (by
      have e1 : (u32s (T.open y).vals).length = (u32s T.vals).length := by simp [TM.open]
      unfold tblF
      rw [e1]
      first | exact hS | exact hS.sel 3 [1, 0, 0] rfl)
    replace hS : St g (Tbl t (T.open y) :: L) w := hS
    refine ⟨[.int .u64 (T.s.alloc.hd T.s.next), .int .i64 0], ⟨rfl, rfl⟩, ?_⟩
    exact ⟨rfl, hS⟩
theorem tb_new_bad {g w : World} {L : List HP} (cap : Int) (hc : ¬ (1 ≤ cap ∧ cap ≤ 4096)) (hS : St g (L) w) :
    Sp Try.prog 43 [.int .i64 cap] w (fun v w' => v = .tuple #[.pointer none, .int .i64 1] ∧ St g (L) w') := by
  refine Sp.enter Try.func43 rfl (by kernel_rfl) (by kernel_rfl) ?_
  have _ := hc
  refine WC.seq ?_
  refine WC.region ?_
  refine WL.r 2 rfl ?_
  refine WL.nil ?_
  refine WC.seq ?_
  refine WC.seq ?_
  refine WC.region ?_
  refine WL.r 2 rfl ?_
  refine WL.rG 4 rfl (fun j => ?_)
  refine WL.prop 11 rfl (bor (dd _) (dd _)) ?_
  refine WL.nil ?_
  refine WC.ifT rfl (decide_eq_true ((by omega))) ?_
  refine WC.seq ?_
  refine WC.region ?_
  refine WL.r 2 rfl ?_
  refine WL.nil ?_
  refine WC.ret ?_
  refine ⟨[.pointer none, .int .i64 1], ⟨rfl, rfl⟩, ?_⟩
  exact ⟨rfl, hS⟩
theorem tb_new_ok {g w : World} {L : List HP} (cap : Int) (hc : 1 ≤ cap ∧ cap ≤ 4096) (hS : St g (L) w) :
    Sp Try.prog 43 [.int .i64 cap] w (fun v w' => ∃ (t : Nat), v = .tuple #[.pointer (some ⟨t, 0, none⟩), .int .i64 0] ∧ St g (Tbl t (TM.new cap.toNat) :: L) w') := by
  refine Sp.enter Try.func43 rfl (by kernel_rfl) (by kernel_rfl) ?_
  have _ := hc
  refine WC.seq ?_
  refine WC.region ?_
  refine WL.r 2 rfl ?_
  refine WL.nil ?_
  refine WC.seq ?_
  refine WC.seq ?_
  refine WC.region ?_
  refine WL.r 2 rfl ?_
  refine WL.rG 4 rfl (fun j => ?_)
  refine WL.prop 11 rfl (bor (dd _) (dd _)) ?_
  refine WL.nil ?_
  refine WC.ifF rfl (decide_eq_false ((by omega))) ?_
  refine WC.skip ?_
  refine WC.seq ?_
  refine WC.region ?_
  refine WL.r 1 rfl ?_
  refine WL.call rfl rfl (sl_new_ok (cap := cap) (hc := (by omega)) (hS := hS)) rfl ?_
  clear hS; rintro _ w ⟨s1, rfl, hS⟩
  replace hS : St g (Slt s1 (SM.new cap.toNat) :: L) w := hS
  refine WL.r 5 rfl ?_
  refine WL.nil ?_
  refine WC.seq ?_
  refine WC.seq ?_
  refine WC.region ?_
  refine WL.r 2 rfl ?_
  refine WL.nil ?_
  as_aux_lemma =>
    refine WC.ifF rfl (decide_eq_false ((by decide))) ?_
    refine WC.skip ?_
    refine WC.seq ?_
    refine WC.region ?_
    refine WL.r 3 rfl ?_
    refine WL.nw 22 rfl (w64 (by omega)) ?_
    refine WL.make rfl rfl (v := cap + 1) (v' := cap + 1) (cap.toNat + 1) (cap.toNat + 1) el_54 hS rfl (by omega) rfl (by omega) (by omega) (Rm.of (by omega) (by decide)) (fun b1 w hS => ?_)
    replace hS : St g (Own 40 1 (List.replicate (cap.toNat + 1) [.int .u32 0]) (some ⟨b1, 0, none⟩) (cap.toNat + 1) :: Slt s1 (SM.new cap.toNat) :: L) w := hS
    refine WL.build rfl rfl (cs := [.pointer (some ⟨s1, 0, none⟩), .slice (some ⟨b1, 0, none⟩) (cap.toNat + 1) (cap.toNat + 1)]) zv_158 rfl rfl ?_
    refine WL.box rfl rfl #[.pointer (some ⟨s1, 0, none⟩), .slice (some ⟨b1, 0, none⟩) (cap.toNat + 1) (cap.toNat + 1)] hS rfl rfl (fun b2 w hS => ?_)
    refine WL.r 2 rfl ?_
    refine WL.nil ?_
    refine WC.ret ?_
    rw [u32s_rep] at hS
    replace hS := St.exClose (f := tblF b2 (TM.new cap.toNat)) ⟨s1, some ⟨b1, 0, none⟩, cap.toNat + 1⟩ (by
      have e1 : (u32s (TM.new cap.toNat).vals).length = cap.toNat + 1 := by simp [TM.new]
      unfold tblF
      rw [e1]
      exact hS.sel 3 [0, 1, 0] rfl)
    replace hS : St g (Tbl b2 (TM.new cap.toNat) :: L) w := hS
    refine ⟨[.pointer (some ⟨b2, 0, none⟩), .int .i64 0], ⟨rfl, rfl⟩, ?_⟩
    exact ⟨_, rfl, hS⟩
end Go.Proofs.Ytlnlnebibgdjdaa
