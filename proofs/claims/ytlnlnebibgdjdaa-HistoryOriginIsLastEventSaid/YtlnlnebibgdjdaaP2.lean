/-
  The differences of two trees: the visit, the traversal.
  Conditions: counts are numbers of references; the keys of both trees are ascending.
-/
import Derived.Test.YtlnlnebibgdjdaaP1
namespace Go.Proofs.Ytlnlnebibgdjdaa
open Go Go.V

theorem df_visit {g w : World} {L : List HP} (lb hb ob : Nat) (lo hi x y z q : Int) (out : List Chg) (u : Option Addr) (d : Nat) (hl : out.length ≤ 900000000) (hS : St g (cel lb #[.int .i64 lo] 2 :: cel hb #[.int .i64 hi] 2 :: cel ob #[.slice u (List.length (ch4 out)) d] 79 :: Own 61 4 (ch4 out) u d :: L) w) :
    Sp Try.prog 110 [.agg #[.int .i64 x, .int .i64 y, .int .i64 z, .int .i64 q], .pointer (some ⟨lb, 0, none⟩), .pointer (some ⟨hb, 0, none⟩), .pointer (some ⟨ob, 0, none⟩)] w (fun v w' => ∃ (a2 : Option Addr) (c2 : Nat), v = .bool (decide (y < hi)) ∧ St g (cel lb #[.int .i64 lo] 2 :: cel hb #[.int .i64 hi] 2 :: cel ob #[.slice a2 (List.length (ch4 (out ++ oneR lo hi (some (x, y, z, q))))) c2] 79 :: Own 61 4 (ch4 (out ++ oneR lo hi (some (x, y, z, q)))) a2 c2 :: L) w') := by
  refine Sp.enter Try.func110 rfl (by kernel_rfl) (by kernel_rfl) ?_
  have _ := hl
  refine WC.seq ?_
  refine WC.region ?_
  have hol := ch4_len out
  refine WL.box rfl rfl #[.int .i64 x, .int .i64 y, .int .i64 z, .int .i64 q] hS rfl rfl (fun b1 w hS => ?_)
  refine WL.r 1 rfl ?_
  refine WL.nil ?_
  refine WC.seq ?_
  refine WC.seq ?_
  refine WC.region ?_
  refine WL.run 4 [.int .i64 y, .int .i64 lo] rfl (by exact ⟨hS.ld 0 rfl rfl, hS.ld 1 rfl rfl⟩) ?_
  refine WL.runG 6 [.int .i64 y, .int .i64 hi] rfl (by exact ⟨fun _ => hS.ld 0 rfl rfl, fun _ => hS.ld 2 rfl rfl⟩) (fun j => ?_)
  refine WL.prop 15 rfl (band (dd _) (dd _)) ?_
  refine WL.nil ?_
  refine WC.ifP rfl (fun hc => ?_) (fun hc => ?_)
  · refine WC.region ?_
    refine WL.run 1 [.slice u (List.length (ch4 out)) d] rfl (by exact hS.ld 3 rfl rfl) ?_
    refine WL.ldF rfl rfl 0 hS rfl rfl ag_61 ?_
    refine WL.lit rfl rfl (ch4 [(x, y, z, q)]) el_79 hS (by exact ⟨rfl, rfl⟩) (ch4_ok _) rfl (by decide) (fun b2 w hS => ?_)
    refine WL.app rfl rfl 5 (ch4 (out ++ [(x, y, z, q)])) el_79 hS rfl (hS.srcO 0 rfl) (ch4_app _ _).symm (Rm.of (by first | omega | (simp <;> omega)) (by decide)) rfl rfl (fun a1 c1 w hS => ?_)
    replace hS : St g (Own 61 4 (ch4 [(x, y, z, q)]) (some ⟨b2, 0, none⟩) (List.length (ch4 [(x, y, z, q)])) :: cel b1 #[.int .i64 x, .int .i64 y, .int .i64 z, .int .i64 q] 61 :: cel lb #[.int .i64 lo] 2 :: cel hb #[.int .i64 hi] 2 :: cel ob #[.slice u (List.length (ch4 out)) d] 79 :: Own 61 4 (ch4 (out ++ [(x, y, z, q)])) a1 c1 :: L) w := hS
    refine WL.st rfl rfl rfl 4 hS rfl rfl rfl rfl rfl rfl (fun w hS => ?_)
    replace hS : St g (Own 61 4 (ch4 [(x, y, z, q)]) (some ⟨b2, 0, none⟩) (List.length (ch4 [(x, y, z, q)])) :: cel b1 #[.int .i64 x, .int .i64 y, .int .i64 z, .int .i64 q] 61 :: cel lb #[.int .i64 lo] 2 :: cel hb #[.int .i64 hi] 2 :: cel ob #[.slice a1 (List.length (ch4 (out ++ [(x, y, z, q)]))) c1] 79 :: Own 61 4 (ch4 (out ++ [(x, y, z, q)])) a1 c1 :: L) w := hS
    refine WL.nil ?_
    refine WC.seq ?_
    refine WC.region ?_
    refine WL.run 5 [.int .i64 y, .int .i64 hi] rfl (by exact ⟨hS.ld 1 rfl rfl, hS.ld 3 rfl rfl⟩) ?_
    refine WL.nil ?_
    as_aux_lemma =>
      refine WC.ret ?_
      refine ⟨[.bool (decide (y < hi))], rfl, ?_⟩
      replace hS := (hS.sel 2 [] rfl)
      have e9 : oneR lo hi (some (x, y, z, q)) = [(x, y, z, q)] := if_pos hc; rw [e9]; exact ⟨_, _, rfl, hS⟩
  · refine WC.skip ?_
    refine WC.seq ?_
    refine WC.region ?_
    refine WL.run 5 [.int .i64 y, .int .i64 hi] rfl (by exact ⟨hS.ld 0 rfl rfl, hS.ld 2 rfl rfl⟩) ?_
    refine WL.nil ?_
    refine WC.ret ?_
    refine ⟨[.bool (decide (y < hi))], rfl, ?_⟩
    replace hS := (hS.sel 1 [] rfl)
    have e9 : oneR lo hi (some (x, y, z, q)) = [] := if_neg hc; rw [e9, List.append_nil]; exact ⟨_, _, rfl, hS⟩
theorem df_each2 {g w : World} {L : List HP} (vb ob : Nat) (lo hi k z q : Int) (out : List Chg) (il ir ml mr : Bool) (hl : out.length ≤ 900000000) (hS : St g (Dfs vb ob lo hi out :: L) w) :
    Sp Try.prog 133 [.agg #[.int .i64 k, .int .i64 z, .int .i64 q, .bool il, .bool ir, .bool ml, .bool mr], .pointer (some ⟨vb, 0, none⟩)] w (fun v w' => v = .bool (goOn hi (pChg k z q il ir)) ∧ St g (Dfs vb ob lo hi (out ++ oneR lo hi (pChg k z q il ir)) :: L) w') := by
  refine Sp.enter Try.func133 rfl (by kernel_rfl) (by kernel_rfl) ?_
  have _ := hl
  refine WC.seq ?_
  refine WC.region ?_
  obtain ⟨⟨xl, xh, xu, xc⟩, hS⟩ := St.exOpen (f := dfsF vb ob lo hi out) hS
  replace hS : St g (cel vb #[.func (.func 110) #[] #[.pointer (some ⟨xl, 0, none⟩), .pointer (some ⟨xh, 0, none⟩), .pointer (some ⟨ob, 0, none⟩)]] 187 :: cel xl #[.int .i64 lo] 2 :: cel xh #[.int .i64 hi] 2 :: cel ob #[.slice xu (List.length (ch4 out)) xc] 79 :: Own 61 4 (ch4 out) xu xc :: L) w := hS
  refine WL.box rfl rfl #[.int .i64 k, .int .i64 z, .int .i64 q, .bool il, .bool ir, .bool ml, .bool mr] hS rfl rfl (fun b1 w hS => ?_)
  refine WL.r 1 rfl ?_
  refine WL.nil ?_
  refine WC.seq ?_
  refine WC.block ?_
  refine WC.seq ?_
  refine WC.region ?_
  refine WL.run 3 [.bool il] rfl (by exact hS.ld 0 rfl rfl) ?_
  refine WL.r 1 rfl ?_
  refine WL.nil ?_
  refine WC.if_ rfl (fun hil => ?_) (fun hil => ?_)
  · refine WC.seq ?_
    refine WC.region ?_
    have hch : pChg k z q il ir = some (1, k, 0, q) := if_pos (by simpa using hil)
    refine WL.run 5 [.func (.func 110) #[] #[.pointer (some ⟨xl, 0, none⟩), .pointer (some ⟨xh, 0, none⟩), .pointer (some ⟨ob, 0, none⟩)], .int .i64 k, .int .i64 q] rfl (by exact ⟨hS.ld 1 rfl rfl, hS.ld 0 rfl rfl, hS.ld 0 rfl rfl⟩) ?_
    refine WL.build rfl rfl (cs := [.int .i64 1, .int .i64 k, .int .i64 0, .int .i64 q]) zv_61 rfl rfl ?_
    refine WL.callV (bs := [.pointer (some ⟨xl, 0, none⟩), .pointer (some ⟨xh, 0, none⟩), .pointer (some ⟨ob, 0, none⟩)]) rfl rfl rfl (df_visit (lb := xl) (hb := xh) (ob := ob) (lo := lo) (hi := hi) (x := 1) (y := k) (z := 0) (q := q) (out := out) (u := xu) (d := xc) (hl := (by omega)) (hS := (hS.sel 6 [2, 2, 2, 2, 0, 0] rfl))) rfl ?_
    clear hS; rintro _ w ⟨a1, c1, rfl, hS⟩
    replace hS : St g (cel xl #[.int .i64 lo] 2 :: cel xh #[.int .i64 hi] 2 :: cel ob #[.slice a1 (List.length (ch4 (out ++ oneR lo hi (some (1, k, 0, q))))) c1] 79 :: Own 61 4 (ch4 (out ++ oneR lo hi (some (1, k, 0, q)))) a1 c1 :: cel b1 #[.int .i64 k, .int .i64 z, .int .i64 q, .bool il, .bool ir, .bool ml, .bool mr] 205 :: cel vb #[.func (.func 110) #[] #[.pointer (some ⟨xl, 0, none⟩), .pointer (some ⟨xh, 0, none⟩), .pointer (some ⟨ob, 0, none⟩)]] 187 :: L) w := hS
    refine WL.r 1 rfl ?_
    refine WL.nil ?_
    as_aux_lemma =>
      refine WC.ret ?_
      replace hS := St.exClose (f := dfsF vb ob lo hi (out ++ oneR lo hi (some (1, k, 0, q)))) (L := cel b1 #[.int .i64 k, .int .i64 z, .int .i64 q, .bool il, .bool ir, .bool ml, .bool mr] 205 :: L) ⟨xl, xh, a1, c1⟩ ((hS.sel 6 [5, 0, 0, 0, 0, 0] rfl))
      replace hS : St g (Dfs vb ob lo hi (out ++ oneR lo hi (some (1, k, 0, q))) :: cel b1 #[.int .i64 k, .int .i64 z, .int .i64 q, .bool il, .bool ir, .bool ml, .bool mr] 205 :: L) w := hS
      refine ⟨[.bool (decide (k < hi))], rfl, ?_⟩
      replace hS := (hS.sel 2 [0] rfl)
      exact ⟨by rw [hch]; rfl, by rw [hch]; exact hS⟩
  · refine WC.seq ?_
    refine WC.region ?_
    refine WL.run 3 [.bool ir] rfl (by exact hS.ld 0 rfl rfl) ?_
    refine WL.r 1 rfl ?_
    refine WL.nil ?_
    refine WC.if_ rfl (fun hir => ?_) (fun hir => ?_)
    · refine WC.seq ?_
      refine WC.region ?_
      have hch : pChg k z q il ir = some (2, k, z, 0) := (by unfold pChg; rw [if_neg (by simpa using hil), if_pos (by simpa using hir)])
      refine WL.run 5 [.func (.func 110) #[] #[.pointer (some ⟨xl, 0, none⟩), .pointer (some ⟨xh, 0, none⟩), .pointer (some ⟨ob, 0, none⟩)], .int .i64 k, .int .i64 z] rfl (by exact ⟨hS.ld 1 rfl rfl, hS.ld 0 rfl rfl, hS.ld 0 rfl rfl⟩) ?_
      refine WL.build rfl rfl (cs := [.int .i64 2, .int .i64 k, .int .i64 z, .int .i64 0]) zv_61 rfl rfl ?_
      refine WL.callV (bs := [.pointer (some ⟨xl, 0, none⟩), .pointer (some ⟨xh, 0, none⟩), .pointer (some ⟨ob, 0, none⟩)]) rfl rfl rfl (df_visit (lb := xl) (hb := xh) (ob := ob) (lo := lo) (hi := hi) (x := 2) (y := k) (z := z) (q := 0) (out := out) (u := xu) (d := xc) (hl := (by omega)) (hS := (hS.sel 6 [2, 2, 2, 2, 0, 0] rfl))) rfl ?_
      clear hS; rintro _ w ⟨a1, c1, rfl, hS⟩
      replace hS : St g (cel xl #[.int .i64 lo] 2 :: cel xh #[.int .i64 hi] 2 :: cel ob #[.slice a1 (List.length (ch4 (out ++ oneR lo hi (some (2, k, z, 0))))) c1] 79 :: Own 61 4 (ch4 (out ++ oneR lo hi (some (2, k, z, 0)))) a1 c1 :: cel b1 #[.int .i64 k, .int .i64 z, .int .i64 q, .bool il, .bool ir, .bool ml, .bool mr] 205 :: cel vb #[.func (.func 110) #[] #[.pointer (some ⟨xl, 0, none⟩), .pointer (some ⟨xh, 0, none⟩), .pointer (some ⟨ob, 0, none⟩)]] 187 :: L) w := hS
      refine WL.r 1 rfl ?_
      refine WL.nil ?_
      as_aux_lemma =>
        refine WC.ret ?_
        replace hS := St.exClose (f := dfsF vb ob lo hi (out ++ oneR lo hi (some (2, k, z, 0)))) (L := cel b1 #[.int .i64 k, .int .i64 z, .int .i64 q, .bool il, .bool ir, .bool ml, .bool mr] 205 :: L) ⟨xl, xh, a1, c1⟩ ((hS.sel 6 [5, 0, 0, 0, 0, 0] rfl))
        replace hS : St g (Dfs vb ob lo hi (out ++ oneR lo hi (some (2, k, z, 0))) :: cel b1 #[.int .i64 k, .int .i64 z, .int .i64 q, .bool il, .bool ir, .bool ml, .bool mr] 205 :: L) w := hS
        refine ⟨[.bool (decide (k < hi))], rfl, ?_⟩
        replace hS := (hS.sel 2 [0] rfl)
        exact ⟨by rw [hch]; rfl, by rw [hch]; exact hS⟩
    · refine WC.seq ?_
      refine WC.region ?_
      refine WL.run 6 [.int .i64 z, .int .i64 q] rfl (by exact ⟨hS.ld 0 rfl rfl, hS.ld 0 rfl rfl⟩) ?_
      refine WL.nil ?_
      as_aux_lemma =>
        refine WC.ifP rfl (fun hvw => ?_) (fun hvw => ?_)
        · refine WC.seq ?_
          refine WC.region ?_
          have hch : pChg k z q il ir = some (3, k, z, q) := (by unfold pChg; rw [if_neg (by simpa using hil), if_neg (by simpa using hir), if_pos hvw])
          refine WL.run 7 [.func (.func 110) #[] #[.pointer (some ⟨xl, 0, none⟩), .pointer (some ⟨xh, 0, none⟩), .pointer (some ⟨ob, 0, none⟩)], .int .i64 k, .int .i64 z, .int .i64 q] rfl (by exact ⟨hS.ld 1 rfl rfl, hS.ld 0 rfl rfl, hS.ld 0 rfl rfl, hS.ld 0 rfl rfl⟩) ?_
          refine WL.build rfl rfl (cs := [.int .i64 3, .int .i64 k, .int .i64 z, .int .i64 q]) zv_61 rfl rfl ?_
          refine WL.callV (bs := [.pointer (some ⟨xl, 0, none⟩), .pointer (some ⟨xh, 0, none⟩), .pointer (some ⟨ob, 0, none⟩)]) rfl rfl rfl (df_visit (lb := xl) (hb := xh) (ob := ob) (lo := lo) (hi := hi) (x := 3) (y := k) (z := z) (q := q) (out := out) (u := xu) (d := xc) (hl := (by omega)) (hS := (hS.sel 6 [2, 2, 2, 2, 0, 0] rfl))) rfl ?_
          clear hS; rintro _ w ⟨a1, c1, rfl, hS⟩
          replace hS : St g (cel xl #[.int .i64 lo] 2 :: cel xh #[.int .i64 hi] 2 :: cel ob #[.slice a1 (List.length (ch4 (out ++ oneR lo hi (some (3, k, z, q))))) c1] 79 :: Own 61 4 (ch4 (out ++ oneR lo hi (some (3, k, z, q)))) a1 c1 :: cel b1 #[.int .i64 k, .int .i64 z, .int .i64 q, .bool il, .bool ir, .bool ml, .bool mr] 205 :: cel vb #[.func (.func 110) #[] #[.pointer (some ⟨xl, 0, none⟩), .pointer (some ⟨xh, 0, none⟩), .pointer (some ⟨ob, 0, none⟩)]] 187 :: L) w := hS
          refine WL.r 1 rfl ?_
          refine WL.nil ?_
          refine WC.ret ?_
          replace hS := St.exClose (f := dfsF vb ob lo hi (out ++ oneR lo hi (some (3, k, z, q)))) (L := cel b1 #[.int .i64 k, .int .i64 z, .int .i64 q, .bool il, .bool ir, .bool ml, .bool mr] 205 :: L) ⟨xl, xh, a1, c1⟩ ((hS.sel 6 [5, 0, 0, 0, 0, 0] rfl))
          replace hS : St g (Dfs vb ob lo hi (out ++ oneR lo hi (some (3, k, z, q))) :: cel b1 #[.int .i64 k, .int .i64 z, .int .i64 q, .bool il, .bool ir, .bool ml, .bool mr] 205 :: L) w := hS
          refine ⟨[.bool (decide (k < hi))], rfl, ?_⟩
          replace hS := (hS.sel 2 [0] rfl)
          exact ⟨by rw [hch]; rfl, by rw [hch]; exact hS⟩
        · refine WC.skip ?_
          refine WC.seq ?_
          refine WC.region ?_
          have hch : pChg k z q il ir = none := (by unfold pChg; rw [if_neg (by simpa using hil), if_neg (by simpa using hir), if_neg hvw])
          refine WL.r 1 rfl ?_
          refine WL.nil ?_
          refine WC.ret ?_
          replace hS := St.exClose (f := dfsF vb ob lo hi out) (L := cel b1 #[.int .i64 k, .int .i64 z, .int .i64 q, .bool il, .bool ir, .bool ml, .bool mr] 205 :: L) ⟨xl, xh, xu, xc⟩ ((hS.sel 6 [1, 1, 1, 1, 1, 0] rfl))
          replace hS : St g (Dfs vb ob lo hi out :: cel b1 #[.int .i64 k, .int .i64 z, .int .i64 q, .bool il, .bool ir, .bool ml, .bool mr] 205 :: L) w := hS
          refine ⟨[.bool true], rfl, ?_⟩
          replace hS := (hS.sel 2 [0] rfl)
          exact ⟨by rw [hch]; rfl, by rw [hch]; exact (by simpa [oneR] using hS)⟩
theorem kEq {a b : Prop} {x y : Int} (h : a ∧ (¬ b ∨ x ≤ y)) (k : b ∧ (¬ a ∨ y ≤ x)) : x = y := by
  have h1 := h.2.resolve_left (fun n => n k.1)
  have h2 := k.2.resolve_left (fun n => n h.1)
  omega
theorem kR {a b : Prop} {x y : Int} (k : ¬ (b ∧ (¬ a ∨ y ≤ x))) (hb : b) : x < y := Int.not_le.1 fun h => k ⟨hb, .inr h⟩
theorem kL {a b : Prop} {x y : Int} (h : ¬ (a ∧ (¬ b ∨ x ≤ y))) (ha : a) : y < x := Int.not_le.1 fun k => h ⟨ha, .inr k⟩
theorem kNo {a b : Bool} {x y : Int} (h : ¬ (a = true ∧ (¬ b = true ∨ x ≤ y))) (k : ¬ (b = true ∧ (¬ a = true ∨ y ≤ x))) (o : a = false → b = true) : False := by
  cases ha : a with
  | false => exact k ⟨o ha, .inl (by rw [ha]; decide)⟩
  | true =>
    cases hb : b with
    | false => exact h ⟨ha, .inl (by rw [hb]; decide)⟩
    | true =>
      have := kL h ha
      exact k ⟨hb, .inr (Int.le_of_lt this)⟩
theorem b_none {a b : Bool} (h : (bif (!a) then (!b) else false) = true) : a = false ∧ b = false := by
  cases a <;> cases b <;> simp_all
theorem df_skip {g w : World} {L : List HP} (hS : St g (L) w) :
    Sp Try.prog 131 [] w (fun v w' => v = .bool true ∧ St g (L) w') := by
  refine Sp.enter Try.func131 rfl (by kernel_rfl) (by kernel_rfl) ?_
  refine WC.seq ?_
  refine WC.region ?_
  refine WL.r 1 rfl ?_
  refine WL.nil ?_
  refine WC.seq ?_
  refine WC.region ?_
  refine WL.r 1 rfl ?_
  refine WL.nil ?_
  refine WC.ret ?_
  refine ⟨[.bool true], rfl, ?_⟩
  exact ⟨rfl, hS⟩
set_option maxHeartbeats 2000000 in
set_option maxRecDepth 8192 in
theorem tw_pairs {g w : World} {L : List HP} (a : Nat) (A : AM) (R : List Int) (x y lo hi : Int) (vb ob : Nat) (tx ty : Tr) (hA : ARf A R) (hx : Is A tx x) (hy : Is A ty y) (hsx : Srt tx.ls) (hsy : Srt ty.ls) (hl : tx.n + ty.n ≤ 100000000) (hS : St g (Arn a A :: Dfs vb ob lo hi [] :: L) w) :
    Sp Try.prog 132 [.pointer (some ⟨a, 0, none⟩), .int .u32 x, .int .u32 y, .func (.func 131) #[] #[], .func (.func 133) #[] #[.pointer (some ⟨vb, 0, none⟩)]] w (fun v w' => v = .tuple #[] ∧ St g (Arn a A :: Dfs vb ob lo hi (inR lo hi (dif tx.ls ty.ls)) :: L) w') := by
  refine Sp.enter Try.func132 rfl (by kernel_rfl) (by kernel_rfl) ?_
  have _ := hl
  refine WC.seq ?_
  refine WC.region ?_
  replace hS : St g (Own 228 5 (pts []) none 0 :: Own 228 5 (pts []) none 0 :: Arn a A :: Dfs vb ob lo hi [] :: L) w := (hS.nil_ 228 5).nil_ 228 5
  refine WL.new rfl rfl zv_225 hS (fun b1 w hS => ?_)
  refine WL.new rfl rfl zv_225 hS (fun b2 w hS => ?_)
  refine WL.nil ?_
  refine WC.seq ?_
  refine WC.region ?_
  replace hS := St.exClose (f := sidF b1 []) (L := cel b2 #[.slice none 0 0] 225 :: Own 228 5 (pts []) none 0 :: Arn a A :: Dfs vb ob lo hi [] :: L) ⟨none, 0⟩ ((hS.sel 3 [1, 1, 0] rfl))
  replace hS : St g (Sid b1 [] :: cel b2 #[.slice none 0 0] 225 :: Own 228 5 (pts []) none 0 :: Arn a A :: Dfs vb ob lo hi [] :: L) w := hS
  replace hS := St.exClose (f := sidF b2 []) (L := Sid b1 [] :: Arn a A :: Dfs vb ob lo hi [] :: L) ⟨none, 0⟩ ((hS.sel 3 [1, 1, 0] rfl))
  replace hS : St g (Sid b2 [] :: Sid b1 [] :: Arn a A :: Dfs vb ob lo hi [] :: L) w := hS
  refine WL.r 2 rfl ?_
  refine WL.call rfl rfl (sd_push (s := b1) (a := a) (P := []) (A := A) (R := R) (i := x) (t := tx) (hA := hA) (hi := hx) (hl := (by simp)) (hS := (hS.sel 3 [1, 1, 0] rfl))) rfl ?_
  clear hS; rintro _ w ⟨rfl, hS⟩
  replace hS : St g (Sid b1 (pushP [] x tx) :: Arn a A :: Sid b2 [] :: Dfs vb ob lo hi [] :: L) w := hS
  refine WL.nil ?_
  refine WC.seq ?_
  refine WC.region ?_
  refine WL.r 2 rfl ?_
  refine WL.call rfl rfl (sd_push (s := b2) (a := a) (P := []) (A := A) (R := R) (i := y) (t := ty) (hA := hA) (hi := hy) (hl := (by simp)) (hS := (hS.sel 3 [2, 1, 0] rfl))) rfl ?_
  clear hS; rintro _ w ⟨rfl, hS⟩
  replace hS : St g (Sid b2 (pushP [] y ty) :: Arn a A :: Sid b1 (pushP [] x tx) :: Dfs vb ob lo hi [] :: L) w := hS
  refine WL.nil ?_
  as_aux_lemma =>
    refine WC.block ?_
    refine WC.loop [0, 3, 4, 10, 11] (fun kM vs w => ∃ (PL PR : List Pt) (out : List Chg), vs = [.pointer (some ⟨a, 0, none⟩), .func (.func 131) #[] #[], .func (.func 133) #[] #[.pointer (some ⟨vb, 0, none⟩)], .pointer (some ⟨b1, 0, none⟩), .pointer (some ⟨b2, 0, none⟩)] ∧ St g (Sid b2 PR :: Arn a A :: Sid b1 PL :: Dfs vb ob lo hi out :: L) w ∧ (Pv A lo hi (inR lo hi (dif tx.ls ty.ls)) (3 * (tx.n + ty.n)) PL PR out) ∧ (wgt PL + wgt PR) = kM) (wgt (pushP [] x tx) + wgt (pushP [] y ty)) ⟨pushP [] x tx, pushP [] y ty, [], rfl, hS, (⟨pushP_ok ⟨fun _ h => by cases h⟩ hx, pushP_ok ⟨fun _ h => by cases h⟩ hy, by rw [pushP_rem hx]; simpa [rem] using hsx, by rw [pushP_rem hy]; simpa [rem] using hsy, by rw [pushP_rem hx, pushP_rem hy]; simp [rem], by rw [pushP_wgt hx, pushP_wgt hy]; simp [wgt]; omega⟩), rfl⟩ ?_
    clear hS; rintro _ _ w j ⟨PL, PR, out, rfl, hS, hP, rfl⟩
    refine WC.block ?_
    refine WC.seq ?_
    refine WC.region ?_
    have hlL := wgt_len hP.oL; have hlR := wgt_len hP.oR; have hpw := hP.w
    refine WL.call rfl rfl (sd_top (s := b1) (P := PL) (hl := (by omega)) (hS := (hS.sel 3 [2, 0, 0] rfl))) rfl ?_
    clear hS; rintro _ w ⟨rfl, hS⟩
    replace hS : St g (Sid b1 PL :: Sid b2 PR :: Arn a A :: Dfs vb ob lo hi out :: L) w := hS
    refine WL.r 3 rfl ?_
    refine WL.new rfl rfl zv_228 hS (fun b3 w hS => ?_)
    refine WL.stF rfl rfl rfl 0 hS rfl rfl rfl rfl rfl ag_228 (fun w hS => ?_)
    replace hS : St g (cel b3 #[.int .u32 (pI (topP PL)), .int .i64 (pN (topP PL)), .int .i64 (pK (topP PL)), .int .i64 (pV (topP PL)), .bool (pS (topP PL))] 228 :: Sid b1 PL :: Sid b2 PR :: Arn a A :: Dfs vb ob lo hi out :: L) w := hS
    refine WL.r 1 rfl ?_
    refine WL.nil ?_
    refine WC.seq ?_
    refine WC.region ?_
    refine WL.call rfl rfl (sd_top (s := b2) (P := PR) (hl := (by omega)) (hS := (hS.sel 3 [2, 0, 0] rfl))) rfl ?_
    clear hS; rintro _ w ⟨rfl, hS⟩
    replace hS : St g (Sid b2 PR :: cel b3 #[.int .u32 (pI (topP PL)), .int .i64 (pN (topP PL)), .int .i64 (pK (topP PL)), .int .i64 (pV (topP PL)), .bool (pS (topP PL))] 228 :: Sid b1 PL :: Arn a A :: Dfs vb ob lo hi out :: L) w := hS
    refine WL.r 3 rfl ?_
    refine WL.new rfl rfl zv_228 hS (fun b4 w hS => ?_)
    refine WL.stF rfl rfl rfl 0 hS rfl rfl rfl rfl rfl ag_228 (fun w hS => ?_)
    replace hS : St g (cel b4 #[.int .u32 (pI (topP PR)), .int .i64 (pN (topP PR)), .int .i64 (pK (topP PR)), .int .i64 (pV (topP PR)), .bool (pS (topP PR))] 228 :: Sid b2 PR :: cel b3 #[.int .u32 (pI (topP PL)), .int .i64 (pN (topP PL)), .int .i64 (pK (topP PL)), .int .i64 (pV (topP PL)), .bool (pS (topP PL))] 228 :: Sid b1 PL :: Arn a A :: Dfs vb ob lo hi out :: L) w := hS
    refine WL.r 1 rfl ?_
    refine WL.nil ?_
    as_aux_lemma =>
      refine WC.block ?_
      refine WC.seq ?_
      refine WC.region ?_
      refine WL.r 2 rfl ?_
      refine WL.rG 5 rfl (fun j => ?_)
      refine WL.prop 96 rfl (band (bnot (dv _)) (bnot (dv _))) ?_
      refine WL.nil ?_
      refine WC.if_ rfl (fun cd1 => ?_) (fun cd1 => ?_)
      · refine WC.ret ?_
        refine ⟨[], trivial, ?_⟩
        replace hS := (hS.sel 4 [] rfl)
        obtain ⟨n1, n2⟩ := b_none cd1; have m1 := top_none n1; have m2 := top_none n2; subst m1; subst m2; rw [hP.done] at hS; exact ⟨rfl, hS⟩
      · refine WC.seq ?_
        refine WC.region ?_
        refine WL.r 1 rfl ?_
        refine WL.runG 21 [.bool (pS (topP PL)), .bool (pS (topP PR)), .int .u32 (pI (topP PL)), .int .u32 (pI (topP PR))] rfl (by exact ⟨fun _ => hS.ld 2 rfl rfl, fun _ => hS.ld 0 rfl rfl, fun _ => hS.ld 2 rfl rfl, fun _ => hS.ld 0 rfl rfl⟩) (fun j => ?_)
        refine WL.prop 118 rfl (band (band (band (band (dv _) (dv _)) (bnot (dv _))) (bnot (dv _))) (dd _)) ?_
        refine WL.nil ?_
        refine WC.if_ rfl (fun cd2 => ?_) (fun cd2 => ?_)
        · refine WC.seq ?_
          refine WC.region ?_
          obtain ⟨q1, q2, q3, q4, q5⟩ := b_both cd2; obtain ⟨i0, t0, ht⟩ := top_sub q1 q3; obtain ⟨j0, u0, hu⟩ := top_sub q2 q4; have hij : i0 = j0 := (by rw [ht, hu] at q5; exact q5); subst hij; obtain ⟨hb1, hb2⟩ := hP.both ht hu
          refine WL.call rfl rfl (sd_pop (s := b1) (P := PL) (hl := (by omega)) (hne := top_ne q1) (hS := (hS.sel 4 [3, 0, 0, 0] rfl))) rfl ?_
          clear hS; rintro _ w ⟨rfl, hS⟩
          replace hS : St g (Sid b1 PL.dropLast :: cel b4 #[.int .u32 (pI (topP PR)), .int .i64 (pN (topP PR)), .int .i64 (pK (topP PR)), .int .i64 (pV (topP PR)), .bool (pS (topP PR))] 228 :: Sid b2 PR :: cel b3 #[.int .u32 (pI (topP PL)), .int .i64 (pN (topP PL)), .int .i64 (pK (topP PL)), .int .i64 (pV (topP PL)), .bool (pS (topP PL))] 228 :: Arn a A :: Dfs vb ob lo hi out :: L) w := hS
          refine WL.nil ?_
          refine WC.seq ?_
          refine WC.region ?_
          refine WL.call rfl rfl (sd_pop (s := b2) (P := PR) (hl := (by omega)) (hne := top_ne q2) (hS := (hS.sel 3 [2, 0, 0] rfl))) rfl ?_
          clear hS; rintro _ w ⟨rfl, hS⟩
          replace hS : St g (Sid b2 PR.dropLast :: Sid b1 PL.dropLast :: cel b4 #[.int .u32 (pI (topP PR)), .int .i64 (pN (topP PR)), .int .i64 (pK (topP PR)), .int .i64 (pV (topP PR)), .bool (pS (topP PR))] 228 :: cel b3 #[.int .u32 (pI (topP PL)), .int .i64 (pN (topP PL)), .int .i64 (pK (topP PL)), .int .i64 (pV (topP PL)), .bool (pS (topP PL))] 228 :: Arn a A :: Dfs vb ob lo hi out :: L) w := hS
          refine WL.nil ?_
          as_aux_lemma =>
            refine WC.seq ?_
            refine WC.region ?_
            refine WL.r 1 rfl ?_
            refine WL.callV (bs := []) rfl rfl rfl (df_skip   (hS := hS)) rfl ?_
            clear hS; rintro _ w ⟨rfl, hS⟩
            replace hS : St g (Sid b2 PR.dropLast :: Sid b1 PL.dropLast :: cel b4 #[.int .u32 (pI (topP PR)), .int .i64 (pN (topP PR)), .int .i64 (pK (topP PR)), .int .i64 (pV (topP PR)), .bool (pS (topP PR))] 228 :: cel b3 #[.int .u32 (pI (topP PL)), .int .i64 (pN (topP PL)), .int .i64 (pK (topP PL)), .int .i64 (pV (topP PL)), .bool (pS (topP PL))] 228 :: Arn a A :: Dfs vb ob lo hi out :: L) w := hS
            refine WL.r 1 rfl ?_
            refine WL.nil ?_
            refine WC.ifF rfl rfl ?_
            refine WC.skip ?_
            exact ⟨_, (by first | omega | exact (hP.vLR cd5.1 (o1 cd5.1) cd6.1 (o2 cd6.1) (kEq cd5 cd6) rfl rfl rfl).2.1 | exact (hP.vL (w := 0) cd5.1 (o1 cd5.1) (fun hb => ⟨o2 hb, kR cd6 hb⟩) rfl rfl).2.1 | exact (hP.vR (v := 0) cd6.1 (o2 cd6.1) (fun ha => ⟨o1 ha, kL cd5 ha⟩) rfl rfl).2.1 | exact (kNo cd5 cd6 o3).elim), PL.dropLast, PR.dropLast, out, rfl, (hS.sel 5 [0, 3, 0] rfl), (hb1), rfl⟩
        · refine WC.seq ?_
          refine WC.region ?_
          refine WL.r 1 rfl ?_
          refine WL.runG 21 [.bool (pS (topP PL)), .bool (pS (topP PR)), .int .i64 (pN (topP PL)), .int .i64 (pN (topP PR))] rfl (by exact ⟨fun _ => hS.ld 2 rfl rfl, fun _ => hS.ld 0 rfl rfl, fun _ => hS.ld 2 rfl rfl, fun _ => hS.ld 0 rfl rfl⟩) (fun j => ?_)
          refine WL.prop 145 rfl (band (band (dv _) (bnot (dv _))) (bor (bor (bnot (dv _)) (dv _)) (dd _))) ?_
          refine WL.nil ?_
          refine WC.if_ rfl (fun cd3 => ?_) (fun cd3 => ?_)
          · refine WC.region ?_
            obtain ⟨q1, q2⟩ := b_left cd3; obtain ⟨i0, t0, ht⟩ := top_sub q1 q2; obtain ⟨k0, z0, tl0, tr0, ht2, hi0, hp2, hw2⟩ := hP.expL ht
            refine WL.r 1 rfl ?_
            refine WL.call rfl rfl (sd_exp (s := b1) (a := a) (P := PL) (A := A) (R := R) (i := i0) (k := k0) (z := z0) (tl := tl0) (tr := tr0) (hA := hA) (hP := ht2) (hi := hi0) (hl := (by omega)) (hS := (hS.sel 5 [3, 3, 0, 0, 0] rfl))) rfl ?_
            clear hS; rintro _ w ⟨rfl, hS⟩
            replace hS : St g (Sid b1 (expP PL.dropLast A i0 k0 z0 tl0 tr0) :: Arn a A :: cel b4 #[.int .u32 (pI (topP PR)), .int .i64 (pN (topP PR)), .int .i64 (pK (topP PR)), .int .i64 (pV (topP PR)), .bool (pS (topP PR))] 228 :: Sid b2 PR :: cel b3 #[.int .u32 (pI (topP PL)), .int .i64 (pN (topP PL)), .int .i64 (pK (topP PL)), .int .i64 (pV (topP PL)), .bool (pS (topP PL))] 228 :: Dfs vb ob lo hi out :: L) w := hS
            refine WL.nil ?_
            exact ⟨_, (by first | omega | exact (hP.vLR cd5.1 (o1 cd5.1) cd6.1 (o2 cd6.1) (kEq cd5 cd6) rfl rfl rfl).2.1 | exact (hP.vL (w := 0) cd5.1 (o1 cd5.1) (fun hb => ⟨o2 hb, kR cd6 hb⟩) rfl rfl).2.1 | exact (hP.vR (v := 0) cd6.1 (o2 cd6.1) (fun ha => ⟨o1 ha, kL cd5 ha⟩) rfl rfl).2.1 | exact (kNo cd5 cd6 o3).elim), expP PL.dropLast A i0 k0 z0 tl0 tr0, PR, out, rfl, (hS.sel 5 [3, 1, 0] rfl), (hp2), rfl⟩
          · refine WC.seq ?_
            refine WC.region ?_
            refine WL.r 1 rfl ?_
            refine WL.runG 6 [.bool (pS (topP PR))] rfl (by exact (fun _ => hS.ld 0 rfl rfl)) (fun j => ?_)
            refine WL.prop 154 rfl (band (dv _) (bnot (dv _))) ?_
            refine WL.nil ?_
            as_aux_lemma =>
              refine WC.if_ rfl (fun cd4 => ?_) (fun cd4 => ?_)
              · refine WC.region ?_
                obtain ⟨q1, q2⟩ := b_right cd4; obtain ⟨i0, t0, ht⟩ := top_sub q1 q2; obtain ⟨k0, z0, tl0, tr0, ht2, hi0, hp2, hw2⟩ := hP.expR ht
                refine WL.r 1 rfl ?_
                refine WL.call rfl rfl (sd_exp (s := b2) (a := a) (P := PR) (A := A) (R := R) (i := i0) (k := k0) (z := z0) (tl := tl0) (tr := tr0) (hA := hA) (hP := ht2) (hi := hi0) (hl := (by omega)) (hS := (hS.sel 5 [1, 3, 0, 0, 0] rfl))) rfl ?_
                clear hS; rintro _ w ⟨rfl, hS⟩
                replace hS : St g (Sid b2 (expP PR.dropLast A i0 k0 z0 tl0 tr0) :: Arn a A :: cel b4 #[.int .u32 (pI (topP PR)), .int .i64 (pN (topP PR)), .int .i64 (pK (topP PR)), .int .i64 (pV (topP PR)), .bool (pS (topP PR))] 228 :: cel b3 #[.int .u32 (pI (topP PL)), .int .i64 (pN (topP PL)), .int .i64 (pK (topP PL)), .int .i64 (pV (topP PL)), .bool (pS (topP PL))] 228 :: Sid b1 PL :: Dfs vb ob lo hi out :: L) w := hS
                refine WL.nil ?_
                exact ⟨_, (by first | omega | exact (hP.vLR cd5.1 (o1 cd5.1) cd6.1 (o2 cd6.1) (kEq cd5 cd6) rfl rfl rfl).2.1 | exact (hP.vL (w := 0) cd5.1 (o1 cd5.1) (fun hb => ⟨o2 hb, kR cd6 hb⟩) rfl rfl).2.1 | exact (hP.vR (v := 0) cd6.1 (o2 cd6.1) (fun ha => ⟨o1 ha, kL cd5 ha⟩) rfl rfl).2.1 | exact (kNo cd5 cd6 o3).elim), PL, expP PR.dropLast A i0 k0 z0 tl0 tr0, out, rfl, (hS.sel 4 [0, 0] rfl), (hp2), rfl⟩
              · refine WC.seq ?_
                refine WC.region ?_
                obtain ⟨o1, o2, o3⟩ := b_ones cd1 cd3 cd4
                refine WL.r 2 rfl ?_
                refine WL.build rfl rfl (cs := [.int .i64 0, .int .i64 0, .int .i64 0, .bool false, .bool false, .bool (topP PL).isSome, .bool (topP PR).isSome]) zv_205 rfl rfl ?_
                refine WL.new rfl rfl zv_205 hS (fun b5 w hS => ?_)
                refine WL.stF rfl rfl rfl 0 hS rfl rfl rfl rfl rfl ag_205 (fun w hS => ?_)
                replace hS : St g (cel b5 #[.int .i64 0, .int .i64 0, .int .i64 0, .bool false, .bool false, .bool (topP PL).isSome, .bool (topP PR).isSome] 205 :: cel b4 #[.int .u32 (pI (topP PR)), .int .i64 (pN (topP PR)), .int .i64 (pK (topP PR)), .int .i64 (pV (topP PR)), .bool (pS (topP PR))] 228 :: Sid b2 PR :: cel b3 #[.int .u32 (pI (topP PL)), .int .i64 (pN (topP PL)), .int .i64 (pK (topP PL)), .int .i64 (pV (topP PL)), .bool (pS (topP PL))] 228 :: Sid b1 PL :: Arn a A :: Dfs vb ob lo hi out :: L) w := hS
                refine WL.nil ?_
                refine WC.seq ?_
                refine WC.region ?_
                refine WL.r 1 rfl ?_
                refine WL.runG 14 [.int .i64 (pK (topP PL)), .int .i64 (pK (topP PR))] rfl (by exact ⟨fun _ => hS.ld 3 rfl rfl, fun _ => hS.ld 1 rfl rfl⟩) (fun j => ?_)
                refine WL.prop 47 rfl (band (dv _) (bor (bnot (dv _)) (dd _))) ?_
                refine WL.st rfl rfl rfl 0 hS rfl rfl rfl rfl rfl rfl (fun w hS => ?_)
                replace hS : St g (cel b5 #[.int .i64 0, .int .i64 0, .int .i64 0, .bool (decide (((topP PL).isSome = true) ∧ ((¬ ((topP PR).isSome = true)) ∨ ((pK (topP PL)) ≤ (pK (topP PR)))))), .bool false, .bool (topP PL).isSome, .bool (topP PR).isSome] 205 :: cel b4 #[.int .u32 (pI (topP PR)), .int .i64 (pN (topP PR)), .int .i64 (pK (topP PR)), .int .i64 (pV (topP PR)), .bool (pS (topP PR))] 228 :: Sid b2 PR :: cel b3 #[.int .u32 (pI (topP PL)), .int .i64 (pN (topP PL)), .int .i64 (pK (topP PL)), .int .i64 (pV (topP PL)), .bool (pS (topP PL))] 228 :: Sid b1 PL :: Arn a A :: Dfs vb ob lo hi out :: L) w := hS
                refine WL.nil ?_
                refine WC.seq ?_
                refine WC.region ?_
                refine WL.r 1 rfl ?_
                refine WL.runG 14 [.int .i64 (pK (topP PR)), .int .i64 (pK (topP PL))] rfl (by exact ⟨fun _ => hS.ld 1 rfl rfl, fun _ => hS.ld 3 rfl rfl⟩) (fun j => ?_)
                refine WL.prop 62 rfl (band (dv _) (bor (bnot (dv _)) (dd _))) ?_
                refine WL.st rfl rfl rfl 0 hS rfl rfl rfl rfl rfl rfl (fun w hS => ?_)
                replace hS : St g (cel b5 #[.int .i64 0, .int .i64 0, .int .i64 0, .bool (decide (((topP PL).isSome = true) ∧ ((¬ ((topP PR).isSome = true)) ∨ ((pK (topP PL)) ≤ (pK (topP PR)))))), .bool (decide (((topP PR).isSome = true) ∧ ((¬ ((topP PL).isSome = true)) ∨ ((pK (topP PR)) ≤ (pK (topP PL)))))), .bool (topP PL).isSome, .bool (topP PR).isSome] 205 :: cel b4 #[.int .u32 (pI (topP PR)), .int .i64 (pN (topP PR)), .int .i64 (pK (topP PR)), .int .i64 (pV (topP PR)), .bool (pS (topP PR))] 228 :: Sid b2 PR :: cel b3 #[.int .u32 (pI (topP PL)), .int .i64 (pN (topP PL)), .int .i64 (pK (topP PL)), .int .i64 (pV (topP PL)), .bool (pS (topP PL))] 228 :: Sid b1 PL :: Arn a A :: Dfs vb ob lo hi out :: L) w := hS
                refine WL.nil ?_
                as_aux_lemma =>
                  refine WC.seq ?_
                  refine WC.seq ?_
                  refine WC.region ?_
                  refine WL.run 2 [.bool (decide (((topP PL).isSome = true) ∧ ((¬ ((topP PR).isSome = true)) ∨ ((pK (topP PL)) ≤ (pK (topP PR))))))] rfl (by exact hS.ld 0 rfl rfl) ?_
                  refine WL.nil ?_
                  refine WC.ifP rfl (fun cd5 => ?_) (fun cd5 => ?_)
                  · refine WC.seq ?_
                    refine WC.plan [([0, 3, 1, 4, 2, 5, 6], some (7, [3, 4, 5])), ([8], some (9, []))] (by kernel_rfl) (by kernel_rfl) ?_
                    refine WQ.run 7 [.int .i64 (pK (topP PL)), .int .i64 (pV (topP PL))] rfl (by exact ⟨hS.ld 3 rfl rfl, hS.ld 3 rfl rfl⟩) ?_
                    refine WQ.nil ?_
                    intro m1
                    replace hS := hS.drewN m1; generalize hwm1 : World.drewN _ _ = w at *; clear hwm1
                    refine WL.st rfl rfl rfl 0 hS rfl rfl rfl rfl rfl rfl (fun w hS => ?_)
                    replace hS : St g (cel b5 #[.int .i64 (pK (topP PL)), .int .i64 0, .int .i64 0, .bool (decide (((topP PL).isSome = true) ∧ ((¬ ((topP PR).isSome = true)) ∨ ((pK (topP PL)) ≤ (pK (topP PR)))))), .bool (decide (((topP PR).isSome = true) ∧ ((¬ ((topP PL).isSome = true)) ∨ ((pK (topP PR)) ≤ (pK (topP PL)))))), .bool (topP PL).isSome, .bool (topP PR).isSome] 205 :: cel b4 #[.int .u32 (pI (topP PR)), .int .i64 (pN (topP PR)), .int .i64 (pK (topP PR)), .int .i64 (pV (topP PR)), .bool (pS (topP PR))] 228 :: Sid b2 PR :: cel b3 #[.int .u32 (pI (topP PL)), .int .i64 (pN (topP PL)), .int .i64 (pK (topP PL)), .int .i64 (pV (topP PL)), .bool (pS (topP PL))] 228 :: Sid b1 PL :: Arn a A :: Dfs vb ob lo hi out :: L) w := hS
                    refine WL.nil ?_
                    refine ⟨by exact ⟨RQ.pure rfl rfl rfl rfl, RQ.pure rfl rfl rfl rfl, RQ.load rfl rfl rfl rfl (hS.ld 3 rfl rfl)⟩, ?_⟩
                    refine WQ.r 1 rfl ?_
                    refine WQ.nil ?_
                    intro m2
                    replace hS := hS.drewN m2; generalize hwm2 : World.drewN _ _ = w at *; clear hwm2
                    refine WL.st rfl rfl rfl 0 hS rfl rfl rfl rfl rfl rfl (fun w hS => ?_)
                    replace hS : St g (cel b5 #[.int .i64 (pK (topP PL)), .int .i64 (pV (topP PL)), .int .i64 0, .bool (decide (((topP PL).isSome = true) ∧ ((¬ ((topP PR).isSome = true)) ∨ ((pK (topP PL)) ≤ (pK (topP PR)))))), .bool (decide (((topP PR).isSome = true) ∧ ((¬ ((topP PL).isSome = true)) ∨ ((pK (topP PR)) ≤ (pK (topP PL)))))), .bool (topP PL).isSome, .bool (topP PR).isSome] 205 :: cel b4 #[.int .u32 (pI (topP PR)), .int .i64 (pN (topP PR)), .int .i64 (pK (topP PR)), .int .i64 (pV (topP PR)), .bool (pS (topP PR))] 228 :: Sid b2 PR :: cel b3 #[.int .u32 (pI (topP PL)), .int .i64 (pN (topP PL)), .int .i64 (pK (topP PL)), .int .i64 (pV (topP PL)), .bool (pS (topP PL))] 228 :: Sid b1 PL :: Arn a A :: Dfs vb ob lo hi out :: L) w := hS
                    refine WL.nil ?_
                    refine ⟨by exact trivial, ?_⟩
                    intro m3
                    replace hS := hS.drewN m3; generalize hwm3 : World.drewN _ _ = w at *; clear hwm3
                    as_aux_lemma =>
                      refine WC.region ?_
                      refine WL.call rfl rfl (sd_pop (s := b1) (P := PL) (hl := (by omega)) (hne := top_ne cd5.1) (hS := (hS.sel 5 [4, 0, 0, 0, 0] rfl))) rfl ?_
                      clear hS; rintro _ w ⟨rfl, hS⟩
                      replace hS : St g (Sid b1 PL.dropLast :: cel b5 #[.int .i64 (pK (topP PL)), .int .i64 (pV (topP PL)), .int .i64 0, .bool (decide (((topP PL).isSome = true) ∧ ((¬ ((topP PR).isSome = true)) ∨ ((pK (topP PL)) ≤ (pK (topP PR)))))), .bool (decide (((topP PR).isSome = true) ∧ ((¬ ((topP PL).isSome = true)) ∨ ((pK (topP PR)) ≤ (pK (topP PL)))))), .bool (topP PL).isSome, .bool (topP PR).isSome] 205 :: cel b4 #[.int .u32 (pI (topP PR)), .int .i64 (pN (topP PR)), .int .i64 (pK (topP PR)), .int .i64 (pV (topP PR)), .bool (pS (topP PR))] 228 :: Sid b2 PR :: cel b3 #[.int .u32 (pI (topP PL)), .int .i64 (pN (topP PL)), .int .i64 (pK (topP PL)), .int .i64 (pV (topP PL)), .bool (pS (topP PL))] 228 :: Arn a A :: Dfs vb ob lo hi out :: L) w := hS
                      refine WL.nil ?_
                      refine WC.seq ?_
                      refine WC.seq ?_
                      refine WC.region ?_
                      refine WL.run 2 [.bool (decide (((topP PR).isSome = true) ∧ ((¬ ((topP PL).isSome = true)) ∨ ((pK (topP PR)) ≤ (pK (topP PL))))))] rfl (by exact hS.ld 1 rfl rfl) ?_
                      refine WL.nil ?_
                      refine WC.ifP rfl (fun cd6 => ?_) (fun cd6 => ?_)
                      · refine WC.seq ?_
                        refine WC.plan [([0, 3, 1, 4, 2, 5, 6], some (7, [3, 4, 5])), ([8], some (9, []))] (by kernel_rfl) (by kernel_rfl) ?_
                        refine WQ.run 7 [.int .i64 (pK (topP PR)), .int .i64 (pV (topP PR))] rfl (by exact ⟨hS.ld 2 rfl rfl, hS.ld 2 rfl rfl⟩) ?_
                        refine WQ.nil ?_
                        intro m4
                        replace hS := hS.drewN m4; generalize hwm4 : World.drewN _ _ = w at *; clear hwm4
                        refine WL.st rfl rfl rfl 1 hS rfl rfl rfl rfl rfl rfl (fun w hS => ?_)
                        replace hS : St g (Sid b1 PL.dropLast :: cel b5 #[.int .i64 (pK (topP PR)), .int .i64 (pV (topP PL)), .int .i64 0, .bool (decide (((topP PL).isSome = true) ∧ ((¬ ((topP PR).isSome = true)) ∨ ((pK (topP PL)) ≤ (pK (topP PR)))))), .bool (decide (((topP PR).isSome = true) ∧ ((¬ ((topP PL).isSome = true)) ∨ ((pK (topP PR)) ≤ (pK (topP PL)))))), .bool (topP PL).isSome, .bool (topP PR).isSome] 205 :: cel b4 #[.int .u32 (pI (topP PR)), .int .i64 (pN (topP PR)), .int .i64 (pK (topP PR)), .int .i64 (pV (topP PR)), .bool (pS (topP PR))] 228 :: Sid b2 PR :: cel b3 #[.int .u32 (pI (topP PL)), .int .i64 (pN (topP PL)), .int .i64 (pK (topP PL)), .int .i64 (pV (topP PL)), .bool (pS (topP PL))] 228 :: Arn a A :: Dfs vb ob lo hi out :: L) w := hS
                        refine WL.nil ?_
                        refine ⟨by exact ⟨RQ.pure rfl rfl rfl rfl, RQ.pure rfl rfl rfl rfl, RQ.load rfl rfl rfl rfl (hS.ld 2 rfl rfl)⟩, ?_⟩
                        refine WQ.r 1 rfl ?_
                        refine WQ.nil ?_
                        intro m5
                        replace hS := hS.drewN m5; generalize hwm5 : World.drewN _ _ = w at *; clear hwm5
                        refine WL.st rfl rfl rfl 1 hS rfl rfl rfl rfl rfl rfl (fun w hS => ?_)
                        replace hS : St g (Sid b1 PL.dropLast :: cel b5 #[.int .i64 (pK (topP PR)), .int .i64 (pV (topP PL)), .int .i64 (pV (topP PR)), .bool (decide (((topP PL).isSome = true) ∧ ((¬ ((topP PR).isSome = true)) ∨ ((pK (topP PL)) ≤ (pK (topP PR)))))), .bool (decide (((topP PR).isSome = true) ∧ ((¬ ((topP PL).isSome = true)) ∨ ((pK (topP PR)) ≤ (pK (topP PL)))))), .bool (topP PL).isSome, .bool (topP PR).isSome] 205 :: cel b4 #[.int .u32 (pI (topP PR)), .int .i64 (pN (topP PR)), .int .i64 (pK (topP PR)), .int .i64 (pV (topP PR)), .bool (pS (topP PR))] 228 :: Sid b2 PR :: cel b3 #[.int .u32 (pI (topP PL)), .int .i64 (pN (topP PL)), .int .i64 (pK (topP PL)), .int .i64 (pV (topP PL)), .bool (pS (topP PL))] 228 :: Arn a A :: Dfs vb ob lo hi out :: L) w := hS
                        refine WL.nil ?_
                        refine ⟨by exact trivial, ?_⟩
                        intro m6
                        replace hS := hS.drewN m6; generalize hwm6 : World.drewN _ _ = w at *; clear hwm6
                        as_aux_lemma =>
                          refine WC.region ?_
                          refine WL.call rfl rfl (sd_pop (s := b2) (P := PR) (hl := (by omega)) (hne := top_ne cd6.1) (hS := (hS.sel 4 [3, 0, 0, 0] rfl))) rfl ?_
                          clear hS; rintro _ w ⟨rfl, hS⟩
                          replace hS : St g (Sid b2 PR.dropLast :: Sid b1 PL.dropLast :: cel b5 #[.int .i64 (pK (topP PR)), .int .i64 (pV (topP PL)), .int .i64 (pV (topP PR)), .bool (decide (((topP PL).isSome = true) ∧ ((¬ ((topP PR).isSome = true)) ∨ ((pK (topP PL)) ≤ (pK (topP PR)))))), .bool (decide (((topP PR).isSome = true) ∧ ((¬ ((topP PL).isSome = true)) ∨ ((pK (topP PR)) ≤ (pK (topP PL)))))), .bool (topP PL).isSome, .bool (topP PR).isSome] 205 :: cel b4 #[.int .u32 (pI (topP PR)), .int .i64 (pN (topP PR)), .int .i64 (pK (topP PR)), .int .i64 (pV (topP PR)), .bool (pS (topP PR))] 228 :: cel b3 #[.int .u32 (pI (topP PL)), .int .i64 (pN (topP PL)), .int .i64 (pK (topP PL)), .int .i64 (pV (topP PL)), .bool (pS (topP PL))] 228 :: Arn a A :: Dfs vb ob lo hi out :: L) w := hS
                          refine WL.nil ?_
                          refine WC.seq ?_
                          refine WC.region ?_
                          refine WL.r 1 rfl ?_
                          refine WL.ldF rfl rfl 2 hS rfl rfl ag_205 ?_
                          refine WL.callV (bs := [.pointer (some ⟨vb, 0, none⟩)]) rfl rfl rfl (df_each2 (vb := vb) (ob := ob) (lo := lo) (hi := hi) (k := pK (topP PR)) (z := pV (topP PL)) (q := pV (topP PR)) (out := out) (il := decide (((topP PL).isSome = true) ∧ ((¬ ((topP PR).isSome = true)) ∨ ((pK (topP PL)) ≤ (pK (topP PR)))))) (ir := decide (((topP PR).isSome = true) ∧ ((¬ ((topP PL).isSome = true)) ∨ ((pK (topP PR)) ≤ (pK (topP PL)))))) (ml := (topP PL).isSome) (mr := (topP PR).isSome) (hl := (by omega)) (hS := (hS.sel 7 [6, 0, 0, 0, 0, 0, 0] rfl))) rfl ?_
                          clear hS; rintro _ w ⟨rfl, hS⟩
                          replace hS : St g (Dfs vb ob lo hi (out ++ oneR lo hi (pChg (pK (topP PR)) (pV (topP PL)) (pV (topP PR)) (decide (((topP PL).isSome = true) ∧ ((¬ ((topP PR).isSome = true)) ∨ ((pK (topP PL)) ≤ (pK (topP PR)))))) (decide (((topP PR).isSome = true) ∧ ((¬ ((topP PL).isSome = true)) ∨ ((pK (topP PR)) ≤ (pK (topP PL)))))))) :: Sid b2 PR.dropLast :: Sid b1 PL.dropLast :: cel b5 #[.int .i64 (pK (topP PR)), .int .i64 (pV (topP PL)), .int .i64 (pV (topP PR)), .bool (decide (((topP PL).isSome = true) ∧ ((¬ ((topP PR).isSome = true)) ∨ ((pK (topP PL)) ≤ (pK (topP PR)))))), .bool (decide (((topP PR).isSome = true) ∧ ((¬ ((topP PL).isSome = true)) ∨ ((pK (topP PR)) ≤ (pK (topP PL)))))), .bool (topP PL).isSome, .bool (topP PR).isSome] 205 :: cel b4 #[.int .u32 (pI (topP PR)), .int .i64 (pN (topP PR)), .int .i64 (pK (topP PR)), .int .i64 (pV (topP PR)), .bool (pS (topP PR))] 228 :: cel b3 #[.int .u32 (pI (topP PL)), .int .i64 (pN (topP PL)), .int .i64 (pK (topP PL)), .int .i64 (pV (topP PL)), .bool (pS (topP PL))] 228 :: Arn a A :: L) w := hS
                          refine WL.r 1 rfl ?_
                          refine WL.nil ?_
                          refine WC.if_ rfl (fun cd7 => ?_) (fun cd7 => ?_)
                          · refine WC.ret ?_
                            refine ⟨[], trivial, ?_⟩
                            replace hS := (hS.sel 7 [6, 0] rfl)
                            rw [decide_eq_true cd5, decide_eq_true cd6] at cd7 hS; rw [(hP.vLR cd5.1 (o1 cd5.1) cd6.1 (o2 cd6.1) (kEq cd5 cd6) rfl rfl rfl).2.2 (by simpa using cd7)] at hS; exact ⟨rfl, hS⟩
                          · refine WC.skip ?_
                            exact ⟨_, (by first | omega | exact (hP.vLR cd5.1 (o1 cd5.1) cd6.1 (o2 cd6.1) (kEq cd5 cd6) rfl rfl rfl).2.1 | exact (hP.vL (w := 0) cd5.1 (o1 cd5.1) (fun hb => ⟨o2 hb, kR cd6 hb⟩) rfl rfl).2.1 | exact (hP.vR (v := 0) cd6.1 (o2 cd6.1) (fun ha => ⟨o1 ha, kL cd5 ha⟩) rfl rfl).2.1 | exact (kNo cd5 cd6 o3).elim), PL.dropLast, PR.dropLast, _, rfl, (hS.sel 7 [1, 5, 1, 0] rfl), (by rw [decide_eq_true cd5, decide_eq_true cd6] at cd7 ⊢; exact (hP.vLR cd5.1 (o1 cd5.1) cd6.1 (o2 cd6.1) (kEq cd5 cd6) rfl rfl rfl).1 (by simpa using cd7)), rfl⟩
                      · refine WC.skip ?_
                        refine WC.seq ?_
                        refine WC.region ?_
                        refine WL.r 1 rfl ?_
                        refine WL.ldF rfl rfl 1 hS rfl rfl ag_205 ?_
                        refine WL.callV (bs := [.pointer (some ⟨vb, 0, none⟩)]) rfl rfl rfl (df_each2 (vb := vb) (ob := ob) (lo := lo) (hi := hi) (k := pK (topP PL)) (z := pV (topP PL)) (q := 0) (out := out) (il := decide (((topP PL).isSome = true) ∧ ((¬ ((topP PR).isSome = true)) ∨ ((pK (topP PL)) ≤ (pK (topP PR)))))) (ir := decide (((topP PR).isSome = true) ∧ ((¬ ((topP PL).isSome = true)) ∨ ((pK (topP PR)) ≤ (pK (topP PL)))))) (ml := (topP PL).isSome) (mr := (topP PR).isSome) (hl := (by omega)) (hS := (hS.sel 7 [6, 0, 0, 0, 0, 0, 0] rfl))) rfl ?_
                        clear hS; rintro _ w ⟨rfl, hS⟩
                        replace hS : St g (Dfs vb ob lo hi (out ++ oneR lo hi (pChg (pK (topP PL)) (pV (topP PL)) 0 (decide (((topP PL).isSome = true) ∧ ((¬ ((topP PR).isSome = true)) ∨ ((pK (topP PL)) ≤ (pK (topP PR)))))) (decide (((topP PR).isSome = true) ∧ ((¬ ((topP PL).isSome = true)) ∨ ((pK (topP PR)) ≤ (pK (topP PL)))))))) :: Sid b1 PL.dropLast :: cel b5 #[.int .i64 (pK (topP PL)), .int .i64 (pV (topP PL)), .int .i64 0, .bool (decide (((topP PL).isSome = true) ∧ ((¬ ((topP PR).isSome = true)) ∨ ((pK (topP PL)) ≤ (pK (topP PR)))))), .bool (decide (((topP PR).isSome = true) ∧ ((¬ ((topP PL).isSome = true)) ∨ ((pK (topP PR)) ≤ (pK (topP PL)))))), .bool (topP PL).isSome, .bool (topP PR).isSome] 205 :: cel b4 #[.int .u32 (pI (topP PR)), .int .i64 (pN (topP PR)), .int .i64 (pK (topP PR)), .int .i64 (pV (topP PR)), .bool (pS (topP PR))] 228 :: Sid b2 PR :: cel b3 #[.int .u32 (pI (topP PL)), .int .i64 (pN (topP PL)), .int .i64 (pK (topP PL)), .int .i64 (pV (topP PL)), .bool (pS (topP PL))] 228 :: Arn a A :: L) w := hS
                        refine WL.r 1 rfl ?_
                        refine WL.nil ?_
                        refine WC.if_ rfl (fun cd7 => ?_) (fun cd7 => ?_)
                        · refine WC.ret ?_
                          refine ⟨[], trivial, ?_⟩
                          replace hS := (hS.sel 7 [6, 0] rfl)
                          rw [decide_eq_true cd5, decide_eq_false cd6] at cd7 hS; rw [(hP.vL (w := 0) cd5.1 (o1 cd5.1) (fun hb => ⟨o2 hb, kR cd6 hb⟩) rfl rfl).2.2 (by simpa using cd7)] at hS; exact ⟨rfl, hS⟩
                        · refine WC.skip ?_
                          exact ⟨_, (by first | omega | exact (hP.vLR cd5.1 (o1 cd5.1) cd6.1 (o2 cd6.1) (kEq cd5 cd6) rfl rfl rfl).2.1 | exact (hP.vL (w := 0) cd5.1 (o1 cd5.1) (fun hb => ⟨o2 hb, kR cd6 hb⟩) rfl rfl).2.1 | exact (hP.vR (v := 0) cd6.1 (o2 cd6.1) (fun ha => ⟨o1 ha, kL cd5 ha⟩) rfl rfl).2.1 | exact (kNo cd5 cd6 o3).elim), PL.dropLast, PR, _, rfl, (hS.sel 7 [4, 5, 1, 0] rfl), (by rw [decide_eq_true cd5, decide_eq_false cd6] at cd7 ⊢; exact (hP.vL (w := 0) cd5.1 (o1 cd5.1) (fun hb => ⟨o2 hb, kR cd6 hb⟩) rfl rfl).1 (by simpa using cd7)), rfl⟩
                  · refine WC.skip ?_
                    refine WC.seq ?_
                    refine WC.seq ?_
                    refine WC.region ?_
                    refine WL.run 2 [.bool (decide (((topP PR).isSome = true) ∧ ((¬ ((topP PL).isSome = true)) ∨ ((pK (topP PR)) ≤ (pK (topP PL))))))] rfl (by exact hS.ld 0 rfl rfl) ?_
                    refine WL.nil ?_
                    refine WC.ifP rfl (fun cd6 => ?_) (fun cd6 => ?_)
                    · refine WC.seq ?_
                      refine WC.plan [([0, 3, 1, 4, 2, 5, 6], some (7, [3, 4, 5])), ([8], some (9, []))] (by kernel_rfl) (by kernel_rfl) ?_
                      refine WQ.run 7 [.int .i64 (pK (topP PR)), .int .i64 (pV (topP PR))] rfl (by exact ⟨hS.ld 1 rfl rfl, hS.ld 1 rfl rfl⟩) ?_
                      refine WQ.nil ?_
                      intro m1
                      replace hS := hS.drewN m1; generalize hwm1 : World.drewN _ _ = w at *; clear hwm1
                      refine WL.st rfl rfl rfl 0 hS rfl rfl rfl rfl rfl rfl (fun w hS => ?_)
                      replace hS : St g (cel b5 #[.int .i64 (pK (topP PR)), .int .i64 0, .int .i64 0, .bool (decide (((topP PL).isSome = true) ∧ ((¬ ((topP PR).isSome = true)) ∨ ((pK (topP PL)) ≤ (pK (topP PR)))))), .bool (decide (((topP PR).isSome = true) ∧ ((¬ ((topP PL).isSome = true)) ∨ ((pK (topP PR)) ≤ (pK (topP PL)))))), .bool (topP PL).isSome, .bool (topP PR).isSome] 205 :: cel b4 #[.int .u32 (pI (topP PR)), .int .i64 (pN (topP PR)), .int .i64 (pK (topP PR)), .int .i64 (pV (topP PR)), .bool (pS (topP PR))] 228 :: Sid b2 PR :: cel b3 #[.int .u32 (pI (topP PL)), .int .i64 (pN (topP PL)), .int .i64 (pK (topP PL)), .int .i64 (pV (topP PL)), .bool (pS (topP PL))] 228 :: Sid b1 PL :: Arn a A :: Dfs vb ob lo hi out :: L) w := hS
                      refine WL.nil ?_
                      refine ⟨by exact ⟨RQ.pure rfl rfl rfl rfl, RQ.pure rfl rfl rfl rfl, RQ.load rfl rfl rfl rfl (hS.ld 1 rfl rfl)⟩, ?_⟩
                      refine WQ.r 1 rfl ?_
                      refine WQ.nil ?_
                      intro m2
                      replace hS := hS.drewN m2; generalize hwm2 : World.drewN _ _ = w at *; clear hwm2
                      refine WL.st rfl rfl rfl 0 hS rfl rfl rfl rfl rfl rfl (fun w hS => ?_)
                      replace hS : St g (cel b5 #[.int .i64 (pK (topP PR)), .int .i64 0, .int .i64 (pV (topP PR)), .bool (decide (((topP PL).isSome = true) ∧ ((¬ ((topP PR).isSome = true)) ∨ ((pK (topP PL)) ≤ (pK (topP PR)))))), .bool (decide (((topP PR).isSome = true) ∧ ((¬ ((topP PL).isSome = true)) ∨ ((pK (topP PR)) ≤ (pK (topP PL)))))), .bool (topP PL).isSome, .bool (topP PR).isSome] 205 :: cel b4 #[.int .u32 (pI (topP PR)), .int .i64 (pN (topP PR)), .int .i64 (pK (topP PR)), .int .i64 (pV (topP PR)), .bool (pS (topP PR))] 228 :: Sid b2 PR :: cel b3 #[.int .u32 (pI (topP PL)), .int .i64 (pN (topP PL)), .int .i64 (pK (topP PL)), .int .i64 (pV (topP PL)), .bool (pS (topP PL))] 228 :: Sid b1 PL :: Arn a A :: Dfs vb ob lo hi out :: L) w := hS
                      refine WL.nil ?_
                      refine ⟨by exact trivial, ?_⟩
                      intro m3
                      replace hS := hS.drewN m3; generalize hwm3 : World.drewN _ _ = w at *; clear hwm3
                      as_aux_lemma =>
                        refine WC.region ?_
                        refine WL.call rfl rfl (sd_pop (s := b2) (P := PR) (hl := (by omega)) (hne := top_ne cd6.1) (hS := (hS.sel 3 [2, 0, 0] rfl))) rfl ?_
                        clear hS; rintro _ w ⟨rfl, hS⟩
                        replace hS : St g (Sid b2 PR.dropLast :: cel b5 #[.int .i64 (pK (topP PR)), .int .i64 0, .int .i64 (pV (topP PR)), .bool (decide (((topP PL).isSome = true) ∧ ((¬ ((topP PR).isSome = true)) ∨ ((pK (topP PL)) ≤ (pK (topP PR)))))), .bool (decide (((topP PR).isSome = true) ∧ ((¬ ((topP PL).isSome = true)) ∨ ((pK (topP PR)) ≤ (pK (topP PL)))))), .bool (topP PL).isSome, .bool (topP PR).isSome] 205 :: cel b4 #[.int .u32 (pI (topP PR)), .int .i64 (pN (topP PR)), .int .i64 (pK (topP PR)), .int .i64 (pV (topP PR)), .bool (pS (topP PR))] 228 :: cel b3 #[.int .u32 (pI (topP PL)), .int .i64 (pN (topP PL)), .int .i64 (pK (topP PL)), .int .i64 (pV (topP PL)), .bool (pS (topP PL))] 228 :: Sid b1 PL :: Arn a A :: Dfs vb ob lo hi out :: L) w := hS
                        refine WL.nil ?_
                        refine WC.seq ?_
                        refine WC.region ?_
                        refine WL.r 1 rfl ?_
                        refine WL.ldF rfl rfl 1 hS rfl rfl ag_205 ?_
                        refine WL.callV (bs := [.pointer (some ⟨vb, 0, none⟩)]) rfl rfl rfl (df_each2 (vb := vb) (ob := ob) (lo := lo) (hi := hi) (k := pK (topP PR)) (z := 0) (q := pV (topP PR)) (out := out) (il := decide (((topP PL).isSome = true) ∧ ((¬ ((topP PR).isSome = true)) ∨ ((pK (topP PL)) ≤ (pK (topP PR)))))) (ir := decide (((topP PR).isSome = true) ∧ ((¬ ((topP PL).isSome = true)) ∨ ((pK (topP PR)) ≤ (pK (topP PL)))))) (ml := (topP PL).isSome) (mr := (topP PR).isSome) (hl := (by omega)) (hS := (hS.sel 7 [6, 0, 0, 0, 0, 0, 0] rfl))) rfl ?_
                        clear hS; rintro _ w ⟨rfl, hS⟩
                        replace hS : St g (Dfs vb ob lo hi (out ++ oneR lo hi (pChg (pK (topP PR)) 0 (pV (topP PR)) (decide (((topP PL).isSome = true) ∧ ((¬ ((topP PR).isSome = true)) ∨ ((pK (topP PL)) ≤ (pK (topP PR)))))) (decide (((topP PR).isSome = true) ∧ ((¬ ((topP PL).isSome = true)) ∨ ((pK (topP PR)) ≤ (pK (topP PL)))))))) :: Sid b2 PR.dropLast :: cel b5 #[.int .i64 (pK (topP PR)), .int .i64 0, .int .i64 (pV (topP PR)), .bool (decide (((topP PL).isSome = true) ∧ ((¬ ((topP PR).isSome = true)) ∨ ((pK (topP PL)) ≤ (pK (topP PR)))))), .bool (decide (((topP PR).isSome = true) ∧ ((¬ ((topP PL).isSome = true)) ∨ ((pK (topP PR)) ≤ (pK (topP PL)))))), .bool (topP PL).isSome, .bool (topP PR).isSome] 205 :: cel b4 #[.int .u32 (pI (topP PR)), .int .i64 (pN (topP PR)), .int .i64 (pK (topP PR)), .int .i64 (pV (topP PR)), .bool (pS (topP PR))] 228 :: cel b3 #[.int .u32 (pI (topP PL)), .int .i64 (pN (topP PL)), .int .i64 (pK (topP PL)), .int .i64 (pV (topP PL)), .bool (pS (topP PL))] 228 :: Sid b1 PL :: Arn a A :: L) w := hS
                        refine WL.r 1 rfl ?_
                        refine WL.nil ?_
                        refine WC.if_ rfl (fun cd7 => ?_) (fun cd7 => ?_)
                        · refine WC.ret ?_
                          refine ⟨[], trivial, ?_⟩
                          replace hS := (hS.sel 7 [6, 0] rfl)
                          rw [decide_eq_false cd5, decide_eq_true cd6] at cd7 hS; rw [(hP.vR (v := 0) cd6.1 (o2 cd6.1) (fun ha => ⟨o1 ha, kL cd5 ha⟩) rfl rfl).2.2 (by simpa using cd7)] at hS; exact ⟨rfl, hS⟩
                        · refine WC.skip ?_
                          exact ⟨_, (by first | omega | exact (hP.vLR cd5.1 (o1 cd5.1) cd6.1 (o2 cd6.1) (kEq cd5 cd6) rfl rfl rfl).2.1 | exact (hP.vL (w := 0) cd5.1 (o1 cd5.1) (fun hb => ⟨o2 hb, kR cd6 hb⟩) rfl rfl).2.1 | exact (hP.vR (v := 0) cd6.1 (o2 cd6.1) (fun ha => ⟨o1 ha, kL cd5 ha⟩) rfl rfl).2.1 | exact (kNo cd5 cd6 o3).elim), PL, PR.dropLast, _, rfl, (hS.sel 7 [1, 5, 4, 0] rfl), (by rw [decide_eq_false cd5, decide_eq_true cd6] at cd7 ⊢; exact (hP.vR (v := 0) cd6.1 (o2 cd6.1) (fun ha => ⟨o1 ha, kL cd5 ha⟩) rfl rfl).1 (by simpa using cd7)), rfl⟩
                    · refine WC.skip ?_
                      refine WC.seq ?_
                      refine WC.region ?_
                      refine WL.r 1 rfl ?_
                      refine WL.ldF rfl rfl 0 hS rfl rfl ag_205 ?_
                      refine WL.callV (bs := [.pointer (some ⟨vb, 0, none⟩)]) rfl rfl rfl (df_each2 (vb := vb) (ob := ob) (lo := lo) (hi := hi) (k := 0) (z := 0) (q := 0) (out := out) (il := decide (((topP PL).isSome = true) ∧ ((¬ ((topP PR).isSome = true)) ∨ ((pK (topP PL)) ≤ (pK (topP PR)))))) (ir := decide (((topP PR).isSome = true) ∧ ((¬ ((topP PL).isSome = true)) ∨ ((pK (topP PR)) ≤ (pK (topP PL)))))) (ml := (topP PL).isSome) (mr := (topP PR).isSome) (hl := (by omega)) (hS := (hS.sel 7 [6, 0, 0, 0, 0, 0, 0] rfl))) rfl ?_
                      clear hS; rintro _ w ⟨rfl, hS⟩
                      replace hS : St g (Dfs vb ob lo hi (out ++ oneR lo hi (pChg 0 0 0 (decide (((topP PL).isSome = true) ∧ ((¬ ((topP PR).isSome = true)) ∨ ((pK (topP PL)) ≤ (pK (topP PR)))))) (decide (((topP PR).isSome = true) ∧ ((¬ ((topP PL).isSome = true)) ∨ ((pK (topP PR)) ≤ (pK (topP PL)))))))) :: cel b5 #[.int .i64 0, .int .i64 0, .int .i64 0, .bool (decide (((topP PL).isSome = true) ∧ ((¬ ((topP PR).isSome = true)) ∨ ((pK (topP PL)) ≤ (pK (topP PR)))))), .bool (decide (((topP PR).isSome = true) ∧ ((¬ ((topP PL).isSome = true)) ∨ ((pK (topP PR)) ≤ (pK (topP PL)))))), .bool (topP PL).isSome, .bool (topP PR).isSome] 205 :: cel b4 #[.int .u32 (pI (topP PR)), .int .i64 (pN (topP PR)), .int .i64 (pK (topP PR)), .int .i64 (pV (topP PR)), .bool (pS (topP PR))] 228 :: Sid b2 PR :: cel b3 #[.int .u32 (pI (topP PL)), .int .i64 (pN (topP PL)), .int .i64 (pK (topP PL)), .int .i64 (pV (topP PL)), .bool (pS (topP PL))] 228 :: Sid b1 PL :: Arn a A :: L) w := hS
                      refine WL.r 1 rfl ?_
                      refine WL.nil ?_
                      refine WC.if_ rfl (fun cd7 => ?_) (fun cd7 => ?_)
                      · refine WC.ret ?_
                        refine ⟨[], trivial, ?_⟩
                        replace hS := (hS.sel 7 [6, 0] rfl)
                        exact (kNo cd5 cd6 o3).elim
                      · refine WC.skip ?_
                        exact ⟨_, (by first | omega | exact (hP.vLR cd5.1 (o1 cd5.1) cd6.1 (o2 cd6.1) (kEq cd5 cd6) rfl rfl rfl).2.1 | exact (hP.vL (w := 0) cd5.1 (o1 cd5.1) (fun hb => ⟨o2 hb, kR cd6 hb⟩) rfl rfl).2.1 | exact (hP.vR (v := 0) cd6.1 (o2 cd6.1) (fun ha => ⟨o1 ha, kL cd5 ha⟩) rfl rfl).2.1 | exact (kNo cd5 cd6 o3).elim), PL, PR, _, rfl, (hS.sel 7 [3, 5, 4, 0] rfl), (kNo cd5 cd6 o3).elim, rfl⟩
end Go.Proofs.Ytlnlnebibgdjdaa
