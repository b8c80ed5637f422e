/-
  The differences of two trees: each, Range.
  Conditions: counts are numbers of references; the keys of both trees are ascending.
-/
import Derived.Test.YtlnlnebibgdjdaaP2
namespace Go.Proofs.Ytlnlnebibgdjdaa
open Go Go.V

theorem dif_self (l : Kvs) : dif l l = [] := by
  have h := dif_common [] [] l
  rw [List.append_nil, dif] at h
  exact h
theorem df_each {g w : World} {L : List HP} (a : Nat) (A : AM) (R : List Int) (x y lo hi : Int) (lb hb ob : Nat) (tx ty : Tr) (hA : ARf A R) (hx : Is A tx x) (hy : Is A ty y) (hsx : Srt tx.ls) (hsy : Srt ty.ls) (hl : tx.n + ty.n ≤ 100000000) (hS : St g (Arn a A :: cel lb #[.int .i64 lo] 2 :: cel hb #[.int .i64 hi] 2 :: cel ob #[.slice none 0 0] 79 :: L) w) :
    Sp Try.prog 109 [.pointer (some ⟨a, 0, none⟩), .int .u32 x, .int .u32 y, .func (.func 110) #[] #[.pointer (some ⟨lb, 0, none⟩), .pointer (some ⟨hb, 0, none⟩), .pointer (some ⟨ob, 0, none⟩)]] w (fun v w' => ∃ (vb : Nat), v = .tuple #[] ∧ St g (Arn a A :: Dfs vb ob lo hi (inR lo hi (dif tx.ls ty.ls)) :: L) w') := by
  refine Sp.enter Try.func109 rfl (by kernel_rfl) (by kernel_rfl) ?_
  refine WC.seq ?_
  refine WC.region ?_
  replace hS : St g (Own 61 4 (ch4 []) none 0 :: Arn a A :: cel lb #[.int .i64 lo] 2 :: cel hb #[.int .i64 hi] 2 :: cel ob #[.slice none 0 0] 79 :: L) w := hS.nil_ 61 4
  refine WL.box rfl rfl #[.func (.func 110) #[] #[.pointer (some ⟨lb, 0, none⟩), .pointer (some ⟨hb, 0, none⟩), .pointer (some ⟨ob, 0, none⟩)]] hS rfl rfl (fun b1 w hS => ?_)
  refine WL.nil ?_
  refine WC.seq ?_
  refine WC.seq ?_
  refine WC.region ?_
  replace hS := St.exClose (f := dfsF b1 ob lo hi []) (L := Arn a A :: L) ⟨lb, hb, none, 0⟩ ((hS.sel 6 [0, 2, 2, 2, 0, 0] rfl))
  replace hS : St g (Dfs b1 ob lo hi [] :: Arn a A :: L) w := hS
  refine WL.r 3 rfl ?_
  refine WL.nil ?_
  refine WC.ifP rfl (fun he => ?_) (fun he => ?_)
  · refine WC.ret ?_
    refine ⟨[], trivial, ?_⟩
    replace hS := (hS.sel 2 [1, 0] rfl)
    subst he; have e9 := Is.fn hx hy; subst e9; rw [dif_self]; exact ⟨_, rfl, hS⟩
  · refine WC.skip ?_
    refine WC.seq ?_
    refine WC.region ?_
    refine WL.r 1 rfl ?_
    refine WL.nil ?_
    refine WC.region ?_
    refine WL.r 4 rfl ?_
    refine WL.mkF rfl rfl (vs := [.pointer (some ⟨b1, 0, none⟩)]) rfl ?_
    refine WL.call rfl rfl (tw_pairs (a := a) (A := A) (R := R) (x := x) (y := y) (lo := lo) (hi := hi) (vb := b1) (ob := ob) (tx := tx) (ty := ty) (hA := hA) (hx := hx) (hy := hy) (hsx := hsx) (hsy := hsy) (hl := hl) (hS := (hS.sel 2 [1, 0] rfl))) rfl ?_
    clear hS; rintro _ w ⟨rfl, hS⟩
    replace hS : St g (Arn a A :: Dfs b1 ob lo hi (inR lo hi (dif tx.ls ty.ls)) :: L) w := hS
    refine WL.nil ?_
    refine ⟨[], trivial, ?_⟩
    exact ⟨_, rfl, hS⟩
theorem df_range {g w : World} {L : List HP} (a : Nat) (A : AM) (R : List Int) (x y lo hi : Int) (tx ty : Tr) (hA : ARf A R) (hx : Is A tx x) (hy : Is A ty y) (hsx : Srt tx.ls) (hsy : Srt ty.ls) (hl : tx.n + ty.n ≤ 100000000) (hS : St g (Arn a A :: L) w) :
    Sp Try.prog 73 [.pointer (some ⟨a, 0, none⟩), .int .u32 x, .int .u32 y, .int .i64 lo, .int .i64 hi] w (fun v w' => ∃ (a2 : Option Addr) (c2 : Nat), v = .slice a2 (List.length (ch4 (inR lo hi (dif tx.ls ty.ls)))) c2 ∧ St g (Own 61 4 (ch4 (inR lo hi (dif tx.ls ty.ls))) a2 c2 :: Arn a A :: L) w') := by
  refine Sp.enter Try.func73 rfl (by kernel_rfl) (by kernel_rfl) ?_
  refine WC.seq ?_
  refine WC.region ?_
  refine WL.box rfl rfl #[.int .i64 lo] hS rfl rfl (fun b1 w hS => ?_)
  refine WL.box rfl rfl #[.int .i64 hi] hS rfl rfl (fun b2 w hS => ?_)
  refine WL.r 1 rfl ?_
  refine WL.nil ?_
  refine WC.seq ?_
  refine WC.region ?_
  refine WL.new rfl rfl zv_79 hS (fun b3 w hS => ?_)
  refine WL.nil ?_
  refine WC.seq ?_
  refine WC.region ?_
  refine WL.r 3 rfl ?_
  refine WL.mkF rfl rfl (vs := [.pointer (some ⟨b1, 0, none⟩), .pointer (some ⟨b2, 0, none⟩), .pointer (some ⟨b3, 0, none⟩)]) rfl ?_
  refine WL.call rfl rfl (df_each (a := a) (A := A) (R := R) (x := x) (y := y) (lo := lo) (hi := hi) (lb := b1) (hb := b2) (ob := b3) (tx := tx) (ty := ty) (hA := hA) (hx := hx) (hy := hy) (hsx := hsx) (hsy := hsy) (hl := hl) (hS := (hS.sel 4 [3, 2, 1, 0] rfl))) rfl ?_
  clear hS; rintro _ w ⟨vb1, rfl, hS⟩
  replace hS : St g (Arn a A :: Dfs vb1 b3 lo hi (inR lo hi (dif tx.ls ty.ls)) :: L) w := hS
  refine WL.nil ?_
  refine WC.seq ?_
  refine WC.region ?_
  obtain ⟨⟨xl, xh, xu, xc⟩, hS⟩ := St.exOpen (f := dfsF vb1 b3 lo hi (inR lo hi (dif tx.ls ty.ls))) (hS.at_ 1 rfl)
  replace hS : St g (cel vb1 #[.func (.func 110) #[] #[.pointer (some ⟨xl, 0, none⟩), .pointer (some ⟨xh, 0, none⟩), .pointer (some ⟨b3, 0, none⟩)]] 187 :: cel xl #[.int .i64 lo] 2 :: cel xh #[.int .i64 hi] 2 :: cel b3 #[.slice xu (List.length (ch4 (inR lo hi (dif tx.ls ty.ls)))) xc] 79 :: Own 61 4 (ch4 (inR lo hi (dif tx.ls ty.ls))) xu xc :: Arn a A :: L) w := hS
  refine WL.run 2 [.slice xu (List.length (ch4 (inR lo hi (dif tx.ls ty.ls)))) xc] rfl (by exact hS.ld 3 rfl rfl) ?_
  refine WL.nil ?_
  as_aux_lemma =>
    refine WC.ret ?_
    refine ⟨[.slice xu (List.length (ch4 (inR lo hi (dif tx.ls ty.ls)))) xc], rfl, ?_⟩
    replace hS := (hS.sel 4 [] rfl)
    exact ⟨_, _, rfl, hS⟩
end Go.Proofs.Ytlnlnebibgdjdaa
