/-
  What the proof of Jta stands on, part 4.
  Conditions: none.
-/
import Derived.Test.YtbeacjcmdijdmaaGreatZtaC
/-! ## P2 -/
namespace Go.Proofs.YtbeacjcmdijdmaaGreat
open Go Go.V
set_option maxRecDepth 8192 in
theorem df_visit {g w : World} {L : List HP} (lb hb ob : Nat) (lo hi x y z q : Int) (out : List Chg) (u : Option Addr) (d : Nat) (hl : out.length ≤ 900000000) (hS : St g (cel lb #[.int .i64 lo] 2 :: cel hb #[.int .i64 hi] 2 :: cel ob #[.slice u (List.length (ch4 out)) d] 111 :: Own 110 4 (ch4 out) u d :: L) w) :
    Sp Tryz.prog 170 [.agg #[.int .i64 x, .int .i64 y, .int .i64 z, .int .i64 q], .pointer (some ⟨lb, 0, none⟩), .pointer (some ⟨hb, 0, none⟩), .pointer (some ⟨ob, 0, none⟩)] w (fun v w' => ∃ (a2 : Option Addr) (c2 : Nat), v = .bool (decide (y < hi)) ∧ St g (cel lb #[.int .i64 lo] 2 :: cel hb #[.int .i64 hi] 2 :: cel ob #[.slice a2 (List.length (ch4 (out ++ oneR lo hi (some (x, y, z, q))))) c2] 111 :: Own 110 4 (ch4 (out ++ oneR lo hi (some (x, y, z, q)))) a2 c2 :: L) w') := by
  refine Sp.enter Tryz.func170 rfl (by kernel_rfl) (by kernel_rfl) ?_
  have _ := hl
  refine WC.seq <| WC.region ?_
  have hol := ch4_len out
  refine WL.box rfl rfl #[.int .i64 x, .int .i64 y, .int .i64 z, .int .i64 q] hS rfl rfl (fun b1 w hS => ?_)
  refine WL.r 1 rfl <| WL.nil <| WC.seq <| WC.seq <| WC.region <| WL.run 4 [.int .i64 y, .int .i64 lo] rfl (by exact ⟨hS.ld 0 rfl rfl, hS.ld 1 rfl rfl⟩) ?_
  refine WL.runG 6 [.int .i64 y, .int .i64 hi] rfl (by exact ⟨fun _ => hS.ld 0 rfl rfl, fun _ => hS.ld 2 rfl rfl⟩) (fun j => ?_)
  refine WL.prop 15 rfl (band (dd _) (dd _)) <| WL.nil <| WC.ifP rfl (fun hc => ?_) (fun hc => ?_)
  · refine WC.region <| WL.run 1 [.slice u (List.length (ch4 out)) d] rfl (by exact hS.ld 3 rfl rfl) ?_
    refine WL.ldF rfl rfl 0 hS rfl rfl ag_110 <| WL.lit rfl rfl (ch4 [(x, y, z, q)]) el_111 hS (by exact ⟨rfl, rfl⟩) (ch4_ok _) rfl (Nat.le_of_ble_eq_true rfl) (fun b2 w hS => ?_)
    refine WL.app rfl rfl 5 (ch4 (out ++ [(x, y, z, q)])) el_111 hS rfl (hS.srcO 0 rfl) (ch4_app _ _).symm (Rm.of (by first | omega | (simp <;> omega)) (by decide)) rfl rfl (fun a1 c1 w hS => ?_)
    replace hS := hS.n6 L (a0 := Own 110 4 (ch4 [(x, y, z, q)]) (some ⟨b2, 0, none⟩) (List.length (ch4 [(x, y, z, q)]))) (a1 := cel b1 #[.int .i64 x, .int .i64 y, .int .i64 z, .int .i64 q] 110) (a5 := Own 110 4 (ch4 (out ++ [(x, y, z, q)])) a1 c1) rfl
    refine WL.st rfl rfl rfl 4 hS rfl rfl rfl rfl rfl rfl (fun w hS => ?_)
    replace hS := hS.n6 L (a4 := cel ob #[.slice a1 (List.length (ch4 (out ++ [(x, y, z, q)]))) c1] 111) rfl
    refine WL.nil <| WC.seq <| WC.region <| WL.run 5 [.int .i64 y, .int .i64 hi] rfl (by exact ⟨hS.ld 1 rfl rfl, hS.ld 3 rfl rfl⟩) ?_
    refine WL.nil ?_
    as_aux_lemma =>
    refine WC.ret ?_
    refine ⟨[.bool (decide (y < hi))], rfl, ?_⟩
    replace hS := (hS.sel 2 [] rfl)
    have e9 : oneR lo hi (some (x, y, z, q)) = [(x, y, z, q)] := if_pos hc; rw [e9]; exact ⟨_, _, rfl, hS⟩
  · refine WC.skip <| WC.seq <| WC.region <| WL.run 5 [.int .i64 y, .int .i64 hi] rfl (by exact ⟨hS.ld 0 rfl rfl, hS.ld 2 rfl rfl⟩) ?_
    refine WL.nil <| WC.ret ?_
    refine ⟨[.bool (decide (y < hi))], rfl, ?_⟩
    replace hS := (hS.sel 1 [] rfl)
    have e9 : oneR lo hi (some (x, y, z, q)) = [] := if_neg hc; rw [e9, List.append_nil]; exact ⟨_, _, rfl, hS⟩
set_option maxRecDepth 8192 in
theorem df_each2 {g w : World} {L : List HP} (vb ob : Nat) (lo hi k z q : Int) (out : List Chg) (il ir ml mr : Bool) (hl : out.length ≤ 900000000) (hS : St g (Dfs vb ob lo hi out :: L) w) :
    Sp Tryz.prog 207 [.agg #[.int .i64 k, .int .i64 z, .int .i64 q, .bool il, .bool ir, .bool ml, .bool mr], .pointer (some ⟨vb, 0, none⟩)] w (fun v w' => v = .bool (goOn hi (pChg k z q il ir)) ∧ St g (Dfs vb ob lo hi (out ++ oneR lo hi (pChg k z q il ir)) :: L) w') := by
  refine Sp.enter Tryz.func207 rfl (by kernel_rfl) (by kernel_rfl) ?_
  have _ := hl
  refine WC.seq <| WC.region ?_
  obtain ⟨⟨xl, xh, xu, xc⟩, hS⟩ := St.exOpen (f := dfsF vb ob lo hi out) hS
  replace hS : St g (cel vb #[.func (.func 170) #[] #[.pointer (some ⟨xl, 0, none⟩), .pointer (some ⟨xh, 0, none⟩), .pointer (some ⟨ob, 0, none⟩)]] 272 :: cel xl #[.int .i64 lo] 2 :: cel xh #[.int .i64 hi] 2 :: cel ob #[.slice xu (List.length (ch4 out)) xc] 111 :: Own 110 4 (ch4 out) xu xc :: L) w := hS
  refine WL.box rfl rfl #[.int .i64 k, .int .i64 z, .int .i64 q, .bool il, .bool ir, .bool ml, .bool mr] hS rfl rfl (fun b1 w hS => ?_)
  refine WL.r 1 rfl <| WL.nil <| WC.seq <| WC.block <| WC.seq <| WC.region <| WL.run 3 [.bool il] rfl (by exact hS.ld 0 rfl rfl) ?_
  refine WL.r 1 rfl <| WL.nil <| WC.if_ rfl (fun hil => ?_) (fun hil => ?_)
  · refine WC.seq <| WC.region ?_
    have hch : pChg k z q il ir = some (1, k, 0, q) := if_pos (by simpa using hil)
    refine WL.run 5 [.func (.func 170) #[] #[.pointer (some ⟨xl, 0, none⟩), .pointer (some ⟨xh, 0, none⟩), .pointer (some ⟨ob, 0, none⟩)], .int .i64 k, .int .i64 q] rfl (by exact ⟨hS.ld 1 rfl rfl, hS.ld 0 rfl rfl, hS.ld 0 rfl rfl⟩) ?_
    refine WL.build rfl rfl (cs := [.int .i64 1, .int .i64 k, .int .i64 0, .int .i64 q]) zv_110 rfl rfl <| WL.callV (bs := [.pointer (some ⟨xl, 0, none⟩), .pointer (some ⟨xh, 0, none⟩), .pointer (some ⟨ob, 0, none⟩)]) rfl rfl rfl (df_visit (lo := lo) (hi := hi) (x := 1) (y := k) (z := 0) (q := q) (hl := (by omega)) (hS := (hS.sel 6 [2, 2, 2, 2, 0, 0] rfl))) rfl ?_
    clear hS; rintro _ w ⟨a1, c1, rfl, hS⟩
    replace hS := hS.n6 L (a2 := cel ob #[.slice a1 (List.length (ch4 (out ++ oneR lo hi (some (1, k, 0, q))))) c1] 111) (a3 := Own 110 4 (ch4 (out ++ oneR lo hi (some (1, k, 0, q)))) a1 c1) (a4 := cel b1 #[.int .i64 k, .int .i64 z, .int .i64 q, .bool il, .bool ir, .bool ml, .bool mr] 312) rfl
    refine WL.r 1 rfl <| WL.nil ?_
    as_aux_lemma =>
    refine WC.ret ?_
    replace hS := St.exClose (f := dfsF vb ob lo hi (out ++ oneR lo hi (some (1, k, 0, q)))) (L := cel b1 #[.int .i64 k, .int .i64 z, .int .i64 q, .bool il, .bool ir, .bool ml, .bool mr] 312 :: L) ⟨xl, xh, a1, c1⟩ ((hS.sel 6 [5, 0, 0, 0, 0, 0] rfl))
    replace hS := hS.n2 L (a0 := Dfs vb ob lo hi (out ++ oneR lo hi (some (1, k, 0, q)))) rfl
    refine ⟨[.bool (decide (k < hi))], rfl, ?_⟩
    replace hS := (hS.sel 2 [0] rfl)
    exact ⟨by rw [hch]; rfl, by rw [hch]; exact hS⟩
  · refine WC.seq <| WC.region <| WL.run 3 [.bool ir] rfl (by exact hS.ld 0 rfl rfl) ?_
    refine WL.r 1 rfl <| WL.nil <| WC.if_ rfl (fun hir => ?_) (fun hir => ?_)
    · refine WC.seq <| WC.region ?_
      have hch : pChg k z q il ir = some (2, k, z, 0) := (by unfold pChg; rw [if_neg (by simpa using hil), if_pos (by simpa using hir)])
      refine WL.run 5 [.func (.func 170) #[] #[.pointer (some ⟨xl, 0, none⟩), .pointer (some ⟨xh, 0, none⟩), .pointer (some ⟨ob, 0, none⟩)], .int .i64 k, .int .i64 z] rfl (by exact ⟨hS.ld 1 rfl rfl, hS.ld 0 rfl rfl, hS.ld 0 rfl rfl⟩) ?_
      refine WL.build rfl rfl (cs := [.int .i64 2, .int .i64 k, .int .i64 z, .int .i64 0]) zv_110 rfl rfl <| WL.callV (bs := [.pointer (some ⟨xl, 0, none⟩), .pointer (some ⟨xh, 0, none⟩), .pointer (some ⟨ob, 0, none⟩)]) rfl rfl rfl (df_visit (lo := lo) (hi := hi) (x := 2) (y := k) (z := z) (q := 0) (hl := (by omega)) (hS := (hS.sel 6 [2, 2, 2, 2, 0, 0] rfl))) rfl ?_
      clear hS; rintro _ w ⟨a1, c1, rfl, hS⟩
      replace hS := hS.n6 L (a2 := cel ob #[.slice a1 (List.length (ch4 (out ++ oneR lo hi (some (2, k, z, 0))))) c1] 111) (a3 := Own 110 4 (ch4 (out ++ oneR lo hi (some (2, k, z, 0)))) a1 c1) (a4 := cel b1 #[.int .i64 k, .int .i64 z, .int .i64 q, .bool il, .bool ir, .bool ml, .bool mr] 312) rfl
      refine WL.r 1 rfl <| WL.nil ?_
      as_aux_lemma =>
      refine WC.ret ?_
      replace hS := St.exClose (f := dfsF vb ob lo hi (out ++ oneR lo hi (some (2, k, z, 0)))) (L := cel b1 #[.int .i64 k, .int .i64 z, .int .i64 q, .bool il, .bool ir, .bool ml, .bool mr] 312 :: L) ⟨xl, xh, a1, c1⟩ ((hS.sel 6 [5, 0, 0, 0, 0, 0] rfl))
      replace hS := hS.n2 L (a0 := Dfs vb ob lo hi (out ++ oneR lo hi (some (2, k, z, 0)))) rfl
      refine ⟨[.bool (decide (k < hi))], rfl, ?_⟩
      replace hS := (hS.sel 2 [0] rfl)
      exact ⟨by rw [hch]; rfl, by rw [hch]; exact hS⟩
    · refine WC.seq <| WC.region <| WL.run 6 [.int .i64 z, .int .i64 q] rfl (by exact ⟨hS.ld 0 rfl rfl, hS.ld 0 rfl rfl⟩) ?_
      refine WL.nil ?_
      as_aux_lemma =>
      refine WC.ifP rfl (fun hvw => ?_) (fun hvw => ?_)
      · refine WC.seq <| WC.region ?_
        have hch : pChg k z q il ir = some (3, k, z, q) := (by unfold pChg; rw [if_neg (by simpa using hil), if_neg (by simpa using hir), if_pos hvw])
        refine WL.run 7 [.func (.func 170) #[] #[.pointer (some ⟨xl, 0, none⟩), .pointer (some ⟨xh, 0, none⟩), .pointer (some ⟨ob, 0, none⟩)], .int .i64 k, .int .i64 z, .int .i64 q] rfl (by exact ⟨hS.ld 1 rfl rfl, hS.ld 0 rfl rfl, hS.ld 0 rfl rfl, hS.ld 0 rfl rfl⟩) ?_
        refine WL.build rfl rfl (cs := [.int .i64 3, .int .i64 k, .int .i64 z, .int .i64 q]) zv_110 rfl rfl <| WL.callV (bs := [.pointer (some ⟨xl, 0, none⟩), .pointer (some ⟨xh, 0, none⟩), .pointer (some ⟨ob, 0, none⟩)]) rfl rfl rfl (df_visit (lo := lo) (hi := hi) (x := 3) (y := k) (z := z) (q := q) (hl := (by omega)) (hS := (hS.sel 6 [2, 2, 2, 2, 0, 0] rfl))) rfl ?_
        clear hS; rintro _ w ⟨a1, c1, rfl, hS⟩
        replace hS := hS.n6 L (a2 := cel ob #[.slice a1 (List.length (ch4 (out ++ oneR lo hi (some (3, k, z, q))))) c1] 111) (a3 := Own 110 4 (ch4 (out ++ oneR lo hi (some (3, k, z, q)))) a1 c1) (a4 := cel b1 #[.int .i64 k, .int .i64 z, .int .i64 q, .bool il, .bool ir, .bool ml, .bool mr] 312) rfl
        refine WL.r 1 rfl <| WL.nil <| WC.ret ?_
        replace hS := St.exClose (f := dfsF vb ob lo hi (out ++ oneR lo hi (some (3, k, z, q)))) (L := cel b1 #[.int .i64 k, .int .i64 z, .int .i64 q, .bool il, .bool ir, .bool ml, .bool mr] 312 :: L) ⟨xl, xh, a1, c1⟩ ((hS.sel 6 [5, 0, 0, 0, 0, 0] rfl))
        replace hS := hS.n2 L (a0 := Dfs vb ob lo hi (out ++ oneR lo hi (some (3, k, z, q)))) rfl
        refine ⟨[.bool (decide (k < hi))], rfl, ?_⟩
        replace hS := (hS.sel 2 [0] rfl)
        exact ⟨by rw [hch]; rfl, by rw [hch]; exact hS⟩
      · refine WC.skip <| WC.seq <| WC.region ?_
        have hch : pChg k z q il ir = none := (by unfold pChg; rw [if_neg (by simpa using hil), if_neg (by simpa using hir), if_neg hvw])
        refine WL.r 1 rfl <| WL.nil <| WC.ret ?_
        replace hS := St.exClose (f := dfsF vb ob lo hi out) (L := cel b1 #[.int .i64 k, .int .i64 z, .int .i64 q, .bool il, .bool ir, .bool ml, .bool mr] 312 :: L) ⟨xl, xh, xu, xc⟩ ((hS.sel 6 [1, 1, 1, 1, 1, 0] rfl))
        replace hS : St g (Dfs vb ob lo hi out :: cel b1 #[.int .i64 k, .int .i64 z, .int .i64 q, .bool il, .bool ir, .bool ml, .bool mr] 312 :: L) w := hS
        refine ⟨[.bool true], rfl, ?_⟩
        replace hS := (hS.sel 2 [0] rfl)
        exact ⟨by rw [hch]; rfl, by rw [hch]; exact (by simpa [oneR] using hS)⟩
theorem kEq {a b : Prop} {x y : Int} (h : a ∧ (¬ b ∨ x ≤ y)) (k : b ∧ (¬ a ∨ y ≤ x)) : x = y := by
  have h1 := h.2.resolve_left (fun n => n k.1)
  have h2 := k.2.resolve_left (fun n => n h.1)
  omega
theorem kR {a b : Prop} {x y : Int} (k : ¬ (b ∧ (¬ a ∨ y ≤ x))) (hb : b) : x < y := Int.not_le.1 fun h => k ⟨hb, .inr h⟩
theorem kL {a b : Prop} {x y : Int} (h : ¬ (a ∧ (¬ b ∨ x ≤ y))) (ha : a) : y < x := Int.not_le.1 fun k => h ⟨ha, .inr k⟩
theorem kNo {a b : Bool} {x y : Int} (h : ¬ (a = true ∧ (¬ b = true ∨ x ≤ y))) (k : ¬ (b = true ∧ (¬ a = true ∨ y ≤ x))) (o : a = false → b = true) : False := by
  cases ha : a with
  | false => exact k ⟨o ha, .inl (by rw [ha]; decide)⟩
  | true =>
    cases hb : b with
    | false => exact h ⟨ha, .inl (by rw [hb]; decide)⟩
    | true =>
      have := kL h ha
      exact k ⟨hb, .inr (Int.le_of_lt this)⟩
theorem b_none {a b : Bool} (h : (bif (!a) then (!b) else false) = true) : a = false ∧ b = false := by
  cases a <;> cases b <;> simp_all
set_option maxRecDepth 8192 in
theorem df_skip {g w : World} {L : List HP} (hS : St g (L) w) :
    Sp Tryz.prog 205 [] w (fun v w' => v = .bool true ∧ St g (L) w') := by
  refine Sp.enter Tryz.func205 rfl (by kernel_rfl) (by kernel_rfl) ?_
  refine WC.seq <| WC.region <| WL.r 1 rfl <| WL.nil <| WC.seq <| WC.region <| WL.r 1 rfl <| WL.nil <| WC.ret ?_
  refine ⟨[.bool true], rfl, ?_⟩
  exact ⟨rfl, hS⟩
set_option maxHeartbeats 2000000 in
set_option maxRecDepth 8192 in
theorem tw_pairs {g w : World} {L : List HP} (a : Nat) (A : AM) (R : List Int) (x y lo hi : Int) (vb ob : Nat) (tx ty : Tr) (hA : ARf A R) (hx : Is A tx x) (hy : Is A ty y) (hsx : Srt tx.ls) (hsy : Srt ty.ls) (hl : tx.n + ty.n ≤ 100000000) (hS : St g (Arn a A :: Dfs vb ob lo hi [] :: L) w) :
    Sp Tryz.prog 206 [.pointer (some ⟨a, 0, none⟩), .int .u32 x, .int .u32 y, .func (.func 205) #[] #[], .func (.func 207) #[] #[.pointer (some ⟨vb, 0, none⟩)]] w (fun v w' => v = .tuple #[] ∧ St g (Arn a A :: Dfs vb ob lo hi (inR lo hi (dif tx.ls ty.ls)) :: L) w') := by
  refine Sp.enter Tryz.func206 rfl (by kernel_rfl) (by kernel_rfl) ?_
  have _ := hl
  refine WC.seq <| WC.region ?_
  replace hS : St g (Own 345 5 (pts []) none 0 :: Own 345 5 (pts []) none 0 :: Arn a A :: Dfs vb ob lo hi [] :: L) w := (hS.nil_ 345 5).nil_ 345 5
  refine WL.new rfl rfl zv_342 hS (fun b1 w hS => ?_)
  refine WL.new rfl rfl zv_342 hS (fun b2 w hS => ?_)
  refine WL.nil <| WC.seq <| WC.region ?_
  replace hS := St.exClose (f := sidF b1 []) (L := cel b2 #[.slice none 0 0] 342 :: Own 345 5 (pts []) none 0 :: Arn a A :: Dfs vb ob lo hi [] :: L) ⟨none, 0⟩ ((hS.sel 3 [1, 1, 0] rfl))
  replace hS := hS.n5 L (a0 := Sid b1 []) (a1 := cel b2 #[.slice none 0 0] 342) (a2 := Own 345 5 (pts []) none 0) rfl
  replace hS := St.exClose (f := sidF b2 []) (L := Sid b1 [] :: Arn a A :: Dfs vb ob lo hi [] :: L) ⟨none, 0⟩ ((hS.sel 3 [1, 1, 0] rfl))
  replace hS := hS.n4 L (a0 := Sid b2 []) rfl
  refine WL.r 2 rfl <| WL.call rfl rfl (sd_push (P := []) (R := R) (i := x) (t := tx) (hA := hA) (hi := hx) (hl := (by simp)) (hS := (hS.sel 3 [1, 1, 0] rfl))) rfl ?_
  clear hS; rintro _ w ⟨rfl, hS⟩
  replace hS := hS.n4 L (a0 := Sid b1 (pushP [] x tx)) rfl
  refine WL.nil <| WC.seq <| WC.region <| WL.r 2 rfl <| WL.call rfl rfl (sd_push (P := []) (R := R) (i := y) (t := ty) (hA := hA) (hi := hy) (hl := (by simp)) (hS := (hS.sel 3 [2, 1, 0] rfl))) rfl ?_
  clear hS; rintro _ w ⟨rfl, hS⟩
  replace hS := hS.n4 L (a0 := Sid b2 (pushP [] y ty)) rfl
  refine WL.nil ?_
  as_aux_lemma =>
  refine WC.block <| WC.loop [0, 3, 4, 10, 11] (fun kM vs w => ∃ (PL PR : List Pt) (out : List Chg), vs = [.pointer (some ⟨a, 0, none⟩), .func (.func 205) #[] #[], .func (.func 207) #[] #[.pointer (some ⟨vb, 0, none⟩)], .pointer (some ⟨b1, 0, none⟩), .pointer (some ⟨b2, 0, none⟩)] ∧ St g (Sid b2 PR :: Arn a A :: Sid b1 PL :: Dfs vb ob lo hi out :: L) w ∧ (Pv A lo hi (inR lo hi (dif tx.ls ty.ls)) (3 * (tx.n + ty.n)) PL PR out) ∧ (wgt PL + wgt PR) = kM) (wgt (pushP [] x tx) + wgt (pushP [] y ty)) ⟨pushP [] x tx, pushP [] y ty, [], rfl, hS, (⟨pushP_ok ⟨fun _ h => by cases h⟩ hx, pushP_ok ⟨fun _ h => by cases h⟩ hy, by rw [pushP_rem hx]; simpa [rem] using hsx, by rw [pushP_rem hy]; simpa [rem] using hsy, by rw [pushP_rem hx, pushP_rem hy]; simp [rem], by rw [pushP_wgt hx, pushP_wgt hy]; simp [wgt]; omega⟩), rfl⟩ ?_
  clear hS; rintro _ _ w j ⟨PL, PR, out, rfl, hS, hP, rfl⟩
  refine WC.block <| WC.seq <| WC.region ?_
  have hlL := wgt_len hP.oL; have hlR := wgt_len hP.oR; have hpw := hP.w
  refine WL.call rfl rfl (sd_top  (hl := (by omega)) (hS := (hS.sel 3 [2, 0, 0] rfl))) rfl ?_
  clear hS; rintro _ w ⟨rfl, hS⟩
  replace hS := hS.n4 L rfl
  refine WL.r 3 rfl <| WL.new rfl rfl zv_345 hS (fun b3 w hS => ?_)
  refine WL.stF rfl rfl rfl 0 hS rfl rfl rfl rfl rfl ag_345 (fun w hS => ?_)
  replace hS := hS.n5 L (a0 := cel b3 #[.int .u32 (pI (topP PL)), .int .i64 (pN (topP PL)), .int .i64 (pK (topP PL)), .int .i64 (pV (topP PL)), .bool (pS (topP PL))] 345) rfl
  refine WL.r 1 rfl <| WL.nil <| WC.seq <| WC.region <| WL.call rfl rfl (sd_top  (hl := (by omega)) (hS := (hS.sel 3 [2, 0, 0] rfl))) rfl ?_
  clear hS; rintro _ w ⟨rfl, hS⟩
  replace hS := hS.n5 L rfl
  refine WL.r 3 rfl <| WL.new rfl rfl zv_345 hS (fun b4 w hS => ?_)
  refine WL.stF rfl rfl rfl 0 hS rfl rfl rfl rfl rfl ag_345 (fun w hS => ?_)
  replace hS := hS.n6 L (a0 := cel b4 #[.int .u32 (pI (topP PR)), .int .i64 (pN (topP PR)), .int .i64 (pK (topP PR)), .int .i64 (pV (topP PR)), .bool (pS (topP PR))] 345) rfl
  refine WL.r 1 rfl <| WL.nil ?_
  as_aux_lemma =>
  refine WC.block <| WC.seq <| WC.region <| WL.r 2 rfl <| WL.rG 5 rfl (fun j => ?_)
  refine WL.prop 96 rfl (band (bnot (dv _)) (bnot (dv _))) <| WL.nil <| WC.if_ rfl (fun cd1 => ?_) (fun cd1 => ?_)
  · refine WC.ret ?_
    refine ⟨[], trivial, ?_⟩
    replace hS := (hS.sel 4 [] rfl)
    obtain ⟨n1, n2⟩ := b_none cd1; have m1 := top_none n1; have m2 := top_none n2; subst m1; subst m2; rw [hP.done] at hS; exact ⟨rfl, hS⟩
  · refine WC.seq <| WC.region <| WL.r 1 rfl <| WL.runG 21 [.bool (pS (topP PL)), .bool (pS (topP PR)), .int .u32 (pI (topP PL)), .int .u32 (pI (topP PR))] rfl (by exact ⟨fun _ => hS.ld 2 rfl rfl, fun _ => hS.ld 0 rfl rfl, fun _ => hS.ld 2 rfl rfl, fun _ => hS.ld 0 rfl rfl⟩) (fun j => ?_)
    refine WL.prop 118 rfl (band (band (band (band (dv _) (dv _)) (bnot (dv _))) (bnot (dv _))) (dd _)) <| WL.nil <| WC.if_ rfl (fun cd2 => ?_) (fun cd2 => ?_)
    · refine WC.seq <| WC.region ?_
      obtain ⟨q1, q2, q3, q4, q5⟩ := b_both cd2; obtain ⟨i0, t0, ht⟩ := top_sub q1 q3; obtain ⟨j0, u0, hu⟩ := top_sub q2 q4; have hij : i0 = j0 := (by rw [ht, hu] at q5; exact q5); subst hij; obtain ⟨hb1, hb2⟩ := hP.both ht hu
      refine WL.call rfl rfl (sd_pop  (hl := (by omega)) (hne := top_ne q1) (hS := (hS.sel 4 [3, 0, 0, 0] rfl))) rfl ?_
      clear hS; rintro _ w ⟨rfl, hS⟩
      replace hS := hS.n6 L (a0 := Sid b1 PL.dropLast) rfl
      refine WL.nil <| WC.seq <| WC.region <| WL.call rfl rfl (sd_pop  (hl := (by omega)) (hne := top_ne q2) (hS := (hS.sel 3 [2, 0, 0] rfl))) rfl ?_
      clear hS; rintro _ w ⟨rfl, hS⟩
      replace hS := hS.n6 L (a0 := Sid b2 PR.dropLast) rfl
      refine WL.nil ?_
      as_aux_lemma =>
      refine WC.seq <| WC.region <| WL.r 1 rfl <| WL.callV (bs := []) rfl rfl rfl (df_skip   (hS := hS)) rfl ?_
      clear hS; rintro _ w ⟨rfl, hS⟩
      replace hS := hS.n6 L rfl
      refine WL.r 1 rfl <| WL.nil <| WC.ifF rfl rfl <| WC.skip ?_
      exact ⟨_, (by first | omega | exact (hP.vLR cd5.1 (o1 cd5.1) cd6.1 (o2 cd6.1) (kEq cd5 cd6) rfl rfl rfl).2.1 | exact (hP.vL (w := 0) cd5.1 (o1 cd5.1) (fun hb => ⟨o2 hb, kR cd6 hb⟩) rfl rfl).2.1 | exact (hP.vR (v := 0) cd6.1 (o2 cd6.1) (fun ha => ⟨o1 ha, kL cd5 ha⟩) rfl rfl).2.1 | exact (kNo cd5 cd6 o3).elim), PL.dropLast, PR.dropLast, out, rfl, (hS.sel 5 [0, 3, 0] rfl), (hb1), rfl⟩
    · refine WC.seq <| WC.region <| WL.r 1 rfl <| WL.runG 21 [.bool (pS (topP PL)), .bool (pS (topP PR)), .int .i64 (pN (topP PL)), .int .i64 (pN (topP PR))] rfl (by exact ⟨fun _ => hS.ld 2 rfl rfl, fun _ => hS.ld 0 rfl rfl, fun _ => hS.ld 2 rfl rfl, fun _ => hS.ld 0 rfl rfl⟩) (fun j => ?_)
      refine WL.prop 145 rfl (band (band (dv _) (bnot (dv _))) (bor (bor (bnot (dv _)) (dv _)) (dd _))) <| WL.nil <| WC.if_ rfl (fun cd3 => ?_) (fun cd3 => ?_)
      · refine WC.region ?_
        obtain ⟨q1, q2⟩ := b_left cd3; obtain ⟨i0, t0, ht⟩ := top_sub q1 q2; obtain ⟨k0, z0, tl0, tr0, ht2, hi0, hp2, hw2⟩ := hP.expL ht
        refine WL.r 1 rfl <| WL.call rfl rfl (sd_exp (R := R) (i := i0) (k := k0) (z := z0) (tl := tl0) (tr := tr0) (hA := hA) (hP := ht2) (hi := hi0) (hl := (by omega)) (hS := (hS.sel 5 [3, 3, 0, 0, 0] rfl))) rfl ?_
        clear hS; rintro _ w ⟨rfl, hS⟩
        replace hS := hS.n6 L (a0 := Sid b1 (expP PL.dropLast A i0 k0 z0 tl0 tr0)) rfl
        refine WL.nil ?_
        exact ⟨_, (by first | omega | exact (hP.vLR cd5.1 (o1 cd5.1) cd6.1 (o2 cd6.1) (kEq cd5 cd6) rfl rfl rfl).2.1 | exact (hP.vL (w := 0) cd5.1 (o1 cd5.1) (fun hb => ⟨o2 hb, kR cd6 hb⟩) rfl rfl).2.1 | exact (hP.vR (v := 0) cd6.1 (o2 cd6.1) (fun ha => ⟨o1 ha, kL cd5 ha⟩) rfl rfl).2.1 | exact (kNo cd5 cd6 o3).elim), expP PL.dropLast A i0 k0 z0 tl0 tr0, PR, out, rfl, (hS.sel 5 [3, 1, 0] rfl), (hp2), rfl⟩
      · refine WC.seq <| WC.region <| WL.r 1 rfl <| WL.runG 6 [.bool (pS (topP PR))] rfl (by exact (fun _ => hS.ld 0 rfl rfl)) (fun j => ?_)
        refine WL.prop 154 rfl (band (dv _) (bnot (dv _))) <| WL.nil ?_
        as_aux_lemma =>
        refine WC.if_ rfl (fun cd4 => ?_) (fun cd4 => ?_)
        · refine WC.region ?_
          obtain ⟨q1, q2⟩ := b_right cd4; obtain ⟨i0, t0, ht⟩ := top_sub q1 q2; obtain ⟨k0, z0, tl0, tr0, ht2, hi0, hp2, hw2⟩ := hP.expR ht
          refine WL.r 1 rfl <| WL.call rfl rfl (sd_exp (R := R) (i := i0) (k := k0) (z := z0) (tl := tl0) (tr := tr0) (hA := hA) (hP := ht2) (hi := hi0) (hl := (by omega)) (hS := (hS.sel 5 [1, 3, 0, 0, 0] rfl))) rfl ?_
          clear hS; rintro _ w ⟨rfl, hS⟩
          replace hS := hS.n6 L (a0 := Sid b2 (expP PR.dropLast A i0 k0 z0 tl0 tr0)) rfl
          refine WL.nil ?_
          exact ⟨_, (by first | omega | exact (hP.vLR cd5.1 (o1 cd5.1) cd6.1 (o2 cd6.1) (kEq cd5 cd6) rfl rfl rfl).2.1 | exact (hP.vL (w := 0) cd5.1 (o1 cd5.1) (fun hb => ⟨o2 hb, kR cd6 hb⟩) rfl rfl).2.1 | exact (hP.vR (v := 0) cd6.1 (o2 cd6.1) (fun ha => ⟨o1 ha, kL cd5 ha⟩) rfl rfl).2.1 | exact (kNo cd5 cd6 o3).elim), PL, expP PR.dropLast A i0 k0 z0 tl0 tr0, out, rfl, (hS.sel 4 [0, 0] rfl), (hp2), rfl⟩
        · refine WC.seq <| WC.region ?_
          obtain ⟨o1, o2, o3⟩ := b_ones cd1 cd3 cd4
          refine WL.r 2 rfl <| WL.build rfl rfl (cs := [.int .i64 0, .int .i64 0, .int .i64 0, .bool false, .bool false, .bool (topP PL).isSome, .bool (topP PR).isSome]) zv_312 rfl rfl <| WL.new rfl rfl zv_312 hS (fun b5 w hS => ?_)
          refine WL.stF rfl rfl rfl 0 hS rfl rfl rfl rfl rfl ag_312 (fun w hS => ?_)
          replace hS := hS.n7 L (a0 := cel b5 #[.int .i64 0, .int .i64 0, .int .i64 0, .bool false, .bool false, .bool (topP PL).isSome, .bool (topP PR).isSome] 312) rfl
          refine WL.nil <| WC.seq <| WC.region <| WL.r 1 rfl <| WL.runG 14 [.int .i64 (pK (topP PL)), .int .i64 (pK (topP PR))] rfl (by exact ⟨fun _ => hS.ld 3 rfl rfl, fun _ => hS.ld 1 rfl rfl⟩) (fun j => ?_)
          refine WL.prop 47 rfl (band (dv _) (bor (bnot (dv _)) (dd _))) <| WL.st rfl rfl rfl 0 hS rfl rfl rfl rfl rfl rfl (fun w hS => ?_)
          replace hS := hS.n7 L (a0 := cel b5 #[.int .i64 0, .int .i64 0, .int .i64 0, .bool (decide (((topP PL).isSome = true) ∧ ((¬ ((topP PR).isSome = true)) ∨ ((pK (topP PL)) ≤ (pK (topP PR)))))), .bool false, .bool (topP PL).isSome, .bool (topP PR).isSome] 312) rfl
          refine WL.nil <| WC.seq <| WC.region <| WL.r 1 rfl <| WL.runG 14 [.int .i64 (pK (topP PR)), .int .i64 (pK (topP PL))] rfl (by exact ⟨fun _ => hS.ld 1 rfl rfl, fun _ => hS.ld 3 rfl rfl⟩) (fun j => ?_)
          refine WL.prop 62 rfl (band (dv _) (bor (bnot (dv _)) (dd _))) <| WL.st rfl rfl rfl 0 hS rfl rfl rfl rfl rfl rfl (fun w hS => ?_)
          replace hS := hS.n7 L (a0 := cel b5 #[.int .i64 0, .int .i64 0, .int .i64 0, .bool (decide (((topP PL).isSome = true) ∧ ((¬ ((topP PR).isSome = true)) ∨ ((pK (topP PL)) ≤ (pK (topP PR)))))), .bool (decide (((topP PR).isSome = true) ∧ ((¬ ((topP PL).isSome = true)) ∨ ((pK (topP PR)) ≤ (pK (topP PL)))))), .bool (topP PL).isSome, .bool (topP PR).isSome] 312) rfl
          refine WL.nil ?_
          as_aux_lemma =>
          refine WC.seq <| WC.seq <| WC.region <| WL.run 2 [.bool (decide (((topP PL).isSome = true) ∧ ((¬ ((topP PR).isSome = true)) ∨ ((pK (topP PL)) ≤ (pK (topP PR))))))] rfl (by exact hS.ld 0 rfl rfl) ?_
          refine WL.nil <| WC.ifP rfl (fun cd5 => ?_) (fun cd5 => ?_)
          · refine WC.seq <| WC.plan [([0, 3, 1, 4, 2, 5, 6], some (7, [3, 4, 5])), ([8], some (9, []))] (by kernel_rfl) (by kernel_rfl) ?_
            refine WQ.run 7 [.int .i64 (pK (topP PL)), .int .i64 (pV (topP PL))] rfl (by exact ⟨hS.ld 3 rfl rfl, hS.ld 3 rfl rfl⟩) ?_
            refine WQ.nil ?_
            intro m1
            replace hS := hS.drewN m1; generalize hwm1 : World.drewN _ _ = w at *; clear hwm1
            refine WL.st rfl rfl rfl 0 hS rfl rfl rfl rfl rfl rfl (fun w hS => ?_)
            replace hS := hS.n7 L (a0 := cel b5 #[.int .i64 (pK (topP PL)), .int .i64 0, .int .i64 0, .bool (decide (((topP PL).isSome = true) ∧ ((¬ ((topP PR).isSome = true)) ∨ ((pK (topP PL)) ≤ (pK (topP PR)))))), .bool (decide (((topP PR).isSome = true) ∧ ((¬ ((topP PL).isSome = true)) ∨ ((pK (topP PR)) ≤ (pK (topP PL)))))), .bool (topP PL).isSome, .bool (topP PR).isSome] 312) rfl
            refine WL.nil ?_
            refine ⟨by exact ⟨RQ.pure rfl rfl rfl rfl, RQ.pure rfl rfl rfl rfl, RQ.load rfl rfl rfl rfl (hS.ld 3 rfl rfl)⟩, ?_⟩
            refine WQ.r 1 rfl <| WQ.nil ?_
            intro m2
            replace hS := hS.drewN m2; generalize hwm2 : World.drewN _ _ = w at *; clear hwm2
            refine WL.st rfl rfl rfl 0 hS rfl rfl rfl rfl rfl rfl (fun w hS => ?_)
            replace hS := hS.n7 L (a0 := cel b5 #[.int .i64 (pK (topP PL)), .int .i64 (pV (topP PL)), .int .i64 0, .bool (decide (((topP PL).isSome = true) ∧ ((¬ ((topP PR).isSome = true)) ∨ ((pK (topP PL)) ≤ (pK (topP PR)))))), .bool (decide (((topP PR).isSome = true) ∧ ((¬ ((topP PL).isSome = true)) ∨ ((pK (topP PR)) ≤ (pK (topP PL)))))), .bool (topP PL).isSome, .bool (topP PR).isSome] 312) rfl
            refine WL.nil ?_
            refine ⟨by exact trivial, ?_⟩
            intro m3
            replace hS := hS.drewN m3; generalize hwm3 : World.drewN _ _ = w at *; clear hwm3
            as_aux_lemma =>
            refine WC.region <| WL.call rfl rfl (sd_pop  (hl := (by omega)) (hne := top_ne cd5.1) (hS := (hS.sel 5 [4, 0, 0, 0, 0] rfl))) rfl ?_
            clear hS; rintro _ w ⟨rfl, hS⟩
            replace hS := hS.n7 L (a0 := Sid b1 PL.dropLast) rfl
            refine WL.nil <| WC.seq <| WC.seq <| WC.region <| WL.run 2 [.bool (decide (((topP PR).isSome = true) ∧ ((¬ ((topP PL).isSome = true)) ∨ ((pK (topP PR)) ≤ (pK (topP PL))))))] rfl (by exact hS.ld 1 rfl rfl) ?_
            refine WL.nil <| WC.ifP rfl (fun cd6 => ?_) (fun cd6 => ?_)
            · refine WC.seq <| WC.plan [([0, 3, 1, 4, 2, 5, 6], some (7, [3, 4, 5])), ([8], some (9, []))] (by kernel_rfl) (by kernel_rfl) ?_
              refine WQ.run 7 [.int .i64 (pK (topP PR)), .int .i64 (pV (topP PR))] rfl (by exact ⟨hS.ld 2 rfl rfl, hS.ld 2 rfl rfl⟩) ?_
              refine WQ.nil ?_
              intro m4
              replace hS := hS.drewN m4; generalize hwm4 : World.drewN _ _ = w at *; clear hwm4
              refine WL.st rfl rfl rfl 1 hS rfl rfl rfl rfl rfl rfl (fun w hS => ?_)
              replace hS := hS.n7 L (a1 := cel b5 #[.int .i64 (pK (topP PR)), .int .i64 (pV (topP PL)), .int .i64 0, .bool (decide (((topP PL).isSome = true) ∧ ((¬ ((topP PR).isSome = true)) ∨ ((pK (topP PL)) ≤ (pK (topP PR)))))), .bool (decide (((topP PR).isSome = true) ∧ ((¬ ((topP PL).isSome = true)) ∨ ((pK (topP PR)) ≤ (pK (topP PL)))))), .bool (topP PL).isSome, .bool (topP PR).isSome] 312) rfl
              refine WL.nil ?_
              refine ⟨by exact ⟨RQ.pure rfl rfl rfl rfl, RQ.pure rfl rfl rfl rfl, RQ.load rfl rfl rfl rfl (hS.ld 2 rfl rfl)⟩, ?_⟩
              refine WQ.r 1 rfl <| WQ.nil ?_
              intro m5
              replace hS := hS.drewN m5; generalize hwm5 : World.drewN _ _ = w at *; clear hwm5
              refine WL.st rfl rfl rfl 1 hS rfl rfl rfl rfl rfl rfl (fun w hS => ?_)
              replace hS := hS.n7 L (a1 := cel b5 #[.int .i64 (pK (topP PR)), .int .i64 (pV (topP PL)), .int .i64 (pV (topP PR)), .bool (decide (((topP PL).isSome = true) ∧ ((¬ ((topP PR).isSome = true)) ∨ ((pK (topP PL)) ≤ (pK (topP PR)))))), .bool (decide (((topP PR).isSome = true) ∧ ((¬ ((topP PL).isSome = true)) ∨ ((pK (topP PR)) ≤ (pK (topP PL)))))), .bool (topP PL).isSome, .bool (topP PR).isSome] 312) rfl
              refine WL.nil ?_
              refine ⟨by exact trivial, ?_⟩
              intro m6
              replace hS := hS.drewN m6; generalize hwm6 : World.drewN _ _ = w at *; clear hwm6
              as_aux_lemma =>
              refine WC.region <| WL.call rfl rfl (sd_pop  (hl := (by omega)) (hne := top_ne cd6.1) (hS := (hS.sel 4 [3, 0, 0, 0] rfl))) rfl ?_
              clear hS; rintro _ w ⟨rfl, hS⟩
              replace hS := hS.n7 L (a0 := Sid b2 PR.dropLast) rfl
              refine WL.nil <| WC.seq <| WC.region <| WL.r 1 rfl <| WL.ldF rfl rfl 2 hS rfl rfl ag_312 <| WL.callV (bs := [.pointer (some ⟨vb, 0, none⟩)]) rfl rfl rfl (df_each2 (k := pK (topP PR)) (z := pV (topP PL)) (q := pV (topP PR)) (il := decide (((topP PL).isSome = true) ∧ ((¬ ((topP PR).isSome = true)) ∨ ((pK (topP PL)) ≤ (pK (topP PR)))))) (ir := decide (((topP PR).isSome = true) ∧ ((¬ ((topP PL).isSome = true)) ∨ ((pK (topP PR)) ≤ (pK (topP PL)))))) (ml := (topP PL).isSome) (mr := (topP PR).isSome) (hl := (by omega)) (hS := (hS.sel 7 [6, 0, 0, 0, 0, 0, 0] rfl))) rfl ?_
              clear hS; rintro _ w ⟨rfl, hS⟩
              replace hS := hS.n7 L (a0 := Dfs vb ob lo hi (out ++ oneR lo hi (pChg (pK (topP PR)) (pV (topP PL)) (pV (topP PR)) (decide (((topP PL).isSome = true) ∧ ((¬ ((topP PR).isSome = true)) ∨ ((pK (topP PL)) ≤ (pK (topP PR)))))) (decide (((topP PR).isSome = true) ∧ ((¬ ((topP PL).isSome = true)) ∨ ((pK (topP PR)) ≤ (pK (topP PL))))))))) rfl
              refine WL.r 1 rfl <| WL.nil <| WC.if_ rfl (fun cd7 => ?_) (fun cd7 => ?_)
              · refine WC.ret ?_
                refine ⟨[], trivial, ?_⟩
                replace hS := (hS.sel 7 [6, 0] rfl)
                rw [decide_eq_true cd5, decide_eq_true cd6] at cd7 hS; rw [(hP.vLR cd5.1 (o1 cd5.1) cd6.1 (o2 cd6.1) (kEq cd5 cd6) rfl rfl rfl).2.2 (by simpa using cd7)] at hS; exact ⟨rfl, hS⟩
              · refine WC.skip ?_
                exact ⟨_, (by first | omega | exact (hP.vLR cd5.1 (o1 cd5.1) cd6.1 (o2 cd6.1) (kEq cd5 cd6) rfl rfl rfl).2.1 | exact (hP.vL (w := 0) cd5.1 (o1 cd5.1) (fun hb => ⟨o2 hb, kR cd6 hb⟩) rfl rfl).2.1 | exact (hP.vR (v := 0) cd6.1 (o2 cd6.1) (fun ha => ⟨o1 ha, kL cd5 ha⟩) rfl rfl).2.1 | exact (kNo cd5 cd6 o3).elim), PL.dropLast, PR.dropLast, _, rfl, (hS.sel 7 [1, 5, 1, 0] rfl), (by rw [decide_eq_true cd5, decide_eq_true cd6] at cd7 ⊢; exact (hP.vLR cd5.1 (o1 cd5.1) cd6.1 (o2 cd6.1) (kEq cd5 cd6) rfl rfl rfl).1 (by simpa using cd7)), rfl⟩
            · refine WC.skip <| WC.seq <| WC.region <| WL.r 1 rfl <| WL.ldF rfl rfl 1 hS rfl rfl ag_312 <| WL.callV (bs := [.pointer (some ⟨vb, 0, none⟩)]) rfl rfl rfl (df_each2 (k := pK (topP PL)) (z := pV (topP PL)) (q := 0) (il := decide (((topP PL).isSome = true) ∧ ((¬ ((topP PR).isSome = true)) ∨ ((pK (topP PL)) ≤ (pK (topP PR)))))) (ir := decide (((topP PR).isSome = true) ∧ ((¬ ((topP PL).isSome = true)) ∨ ((pK (topP PR)) ≤ (pK (topP PL)))))) (ml := (topP PL).isSome) (mr := (topP PR).isSome) (hl := (by omega)) (hS := (hS.sel 7 [6, 0, 0, 0, 0, 0, 0] rfl))) rfl ?_
              clear hS; rintro _ w ⟨rfl, hS⟩
              replace hS := hS.n7 L (a0 := Dfs vb ob lo hi (out ++ oneR lo hi (pChg (pK (topP PL)) (pV (topP PL)) 0 (decide (((topP PL).isSome = true) ∧ ((¬ ((topP PR).isSome = true)) ∨ ((pK (topP PL)) ≤ (pK (topP PR)))))) (decide (((topP PR).isSome = true) ∧ ((¬ ((topP PL).isSome = true)) ∨ ((pK (topP PR)) ≤ (pK (topP PL))))))))) rfl
              refine WL.r 1 rfl <| WL.nil <| WC.if_ rfl (fun cd7 => ?_) (fun cd7 => ?_)
              · refine WC.ret ?_
                refine ⟨[], trivial, ?_⟩
                replace hS := (hS.sel 7 [6, 0] rfl)
                rw [decide_eq_true cd5, decide_eq_false cd6] at cd7 hS; rw [(hP.vL (w := 0) cd5.1 (o1 cd5.1) (fun hb => ⟨o2 hb, kR cd6 hb⟩) rfl rfl).2.2 (by simpa using cd7)] at hS; exact ⟨rfl, hS⟩
              · refine WC.skip ?_
                exact ⟨_, (by first | omega | exact (hP.vLR cd5.1 (o1 cd5.1) cd6.1 (o2 cd6.1) (kEq cd5 cd6) rfl rfl rfl).2.1 | exact (hP.vL (w := 0) cd5.1 (o1 cd5.1) (fun hb => ⟨o2 hb, kR cd6 hb⟩) rfl rfl).2.1 | exact (hP.vR (v := 0) cd6.1 (o2 cd6.1) (fun ha => ⟨o1 ha, kL cd5 ha⟩) rfl rfl).2.1 | exact (kNo cd5 cd6 o3).elim), PL.dropLast, PR, _, rfl, (hS.sel 7 [4, 5, 1, 0] rfl), (by rw [decide_eq_true cd5, decide_eq_false cd6] at cd7 ⊢; exact (hP.vL (w := 0) cd5.1 (o1 cd5.1) (fun hb => ⟨o2 hb, kR cd6 hb⟩) rfl rfl).1 (by simpa using cd7)), rfl⟩
          · refine WC.skip <| WC.seq <| WC.seq <| WC.region <| WL.run 2 [.bool (decide (((topP PR).isSome = true) ∧ ((¬ ((topP PL).isSome = true)) ∨ ((pK (topP PR)) ≤ (pK (topP PL))))))] rfl (by exact hS.ld 0 rfl rfl) ?_
            refine WL.nil <| WC.ifP rfl (fun cd6 => ?_) (fun cd6 => ?_)
            · refine WC.seq <| WC.plan [([0, 3, 1, 4, 2, 5, 6], some (7, [3, 4, 5])), ([8], some (9, []))] (by kernel_rfl) (by kernel_rfl) ?_
              refine WQ.run 7 [.int .i64 (pK (topP PR)), .int .i64 (pV (topP PR))] rfl (by exact ⟨hS.ld 1 rfl rfl, hS.ld 1 rfl rfl⟩) ?_
              refine WQ.nil ?_
              intro m1
              replace hS := hS.drewN m1; generalize hwm1 : World.drewN _ _ = w at *; clear hwm1
              refine WL.st rfl rfl rfl 0 hS rfl rfl rfl rfl rfl rfl (fun w hS => ?_)
              replace hS := hS.n7 L (a0 := cel b5 #[.int .i64 (pK (topP PR)), .int .i64 0, .int .i64 0, .bool (decide (((topP PL).isSome = true) ∧ ((¬ ((topP PR).isSome = true)) ∨ ((pK (topP PL)) ≤ (pK (topP PR)))))), .bool (decide (((topP PR).isSome = true) ∧ ((¬ ((topP PL).isSome = true)) ∨ ((pK (topP PR)) ≤ (pK (topP PL)))))), .bool (topP PL).isSome, .bool (topP PR).isSome] 312) rfl
              refine WL.nil ?_
              refine ⟨by exact ⟨RQ.pure rfl rfl rfl rfl, RQ.pure rfl rfl rfl rfl, RQ.load rfl rfl rfl rfl (hS.ld 1 rfl rfl)⟩, ?_⟩
              refine WQ.r 1 rfl <| WQ.nil ?_
              intro m2
              replace hS := hS.drewN m2; generalize hwm2 : World.drewN _ _ = w at *; clear hwm2
              refine WL.st rfl rfl rfl 0 hS rfl rfl rfl rfl rfl rfl (fun w hS => ?_)
              replace hS := hS.n7 L (a0 := cel b5 #[.int .i64 (pK (topP PR)), .int .i64 0, .int .i64 (pV (topP PR)), .bool (decide (((topP PL).isSome = true) ∧ ((¬ ((topP PR).isSome = true)) ∨ ((pK (topP PL)) ≤ (pK (topP PR)))))), .bool (decide (((topP PR).isSome = true) ∧ ((¬ ((topP PL).isSome = true)) ∨ ((pK (topP PR)) ≤ (pK (topP PL)))))), .bool (topP PL).isSome, .bool (topP PR).isSome] 312) rfl
              refine WL.nil ?_
              refine ⟨by exact trivial, ?_⟩
              intro m3
              replace hS := hS.drewN m3; generalize hwm3 : World.drewN _ _ = w at *; clear hwm3
              as_aux_lemma =>
              refine WC.region <| WL.call rfl rfl (sd_pop  (hl := (by omega)) (hne := top_ne cd6.1) (hS := (hS.sel 3 [2, 0, 0] rfl))) rfl ?_
              clear hS; rintro _ w ⟨rfl, hS⟩
              replace hS := hS.n7 L (a0 := Sid b2 PR.dropLast) rfl
              refine WL.nil <| WC.seq <| WC.region <| WL.r 1 rfl <| WL.ldF rfl rfl 1 hS rfl rfl ag_312 <| WL.callV (bs := [.pointer (some ⟨vb, 0, none⟩)]) rfl rfl rfl (df_each2 (k := pK (topP PR)) (z := 0) (q := pV (topP PR)) (il := decide (((topP PL).isSome = true) ∧ ((¬ ((topP PR).isSome = true)) ∨ ((pK (topP PL)) ≤ (pK (topP PR)))))) (ir := decide (((topP PR).isSome = true) ∧ ((¬ ((topP PL).isSome = true)) ∨ ((pK (topP PR)) ≤ (pK (topP PL)))))) (ml := (topP PL).isSome) (mr := (topP PR).isSome) (hl := (by omega)) (hS := (hS.sel 7 [6, 0, 0, 0, 0, 0, 0] rfl))) rfl ?_
              clear hS; rintro _ w ⟨rfl, hS⟩
              replace hS := hS.n7 L (a0 := Dfs vb ob lo hi (out ++ oneR lo hi (pChg (pK (topP PR)) 0 (pV (topP PR)) (decide (((topP PL).isSome = true) ∧ ((¬ ((topP PR).isSome = true)) ∨ ((pK (topP PL)) ≤ (pK (topP PR)))))) (decide (((topP PR).isSome = true) ∧ ((¬ ((topP PL).isSome = true)) ∨ ((pK (topP PR)) ≤ (pK (topP PL))))))))) rfl
              refine WL.r 1 rfl <| WL.nil <| WC.if_ rfl (fun cd7 => ?_) (fun cd7 => ?_)
              · refine WC.ret ?_
                refine ⟨[], trivial, ?_⟩
                replace hS := (hS.sel 7 [6, 0] rfl)
                rw [decide_eq_false cd5, decide_eq_true cd6] at cd7 hS; rw [(hP.vR (v := 0) cd6.1 (o2 cd6.1) (fun ha => ⟨o1 ha, kL cd5 ha⟩) rfl rfl).2.2 (by simpa using cd7)] at hS; exact ⟨rfl, hS⟩
              · refine WC.skip ?_
                exact ⟨_, (by first | omega | exact (hP.vLR cd5.1 (o1 cd5.1) cd6.1 (o2 cd6.1) (kEq cd5 cd6) rfl rfl rfl).2.1 | exact (hP.vL (w := 0) cd5.1 (o1 cd5.1) (fun hb => ⟨o2 hb, kR cd6 hb⟩) rfl rfl).2.1 | exact (hP.vR (v := 0) cd6.1 (o2 cd6.1) (fun ha => ⟨o1 ha, kL cd5 ha⟩) rfl rfl).2.1 | exact (kNo cd5 cd6 o3).elim), PL, PR.dropLast, _, rfl, (hS.sel 7 [1, 5, 4, 0] rfl), (by rw [decide_eq_false cd5, decide_eq_true cd6] at cd7 ⊢; exact (hP.vR (v := 0) cd6.1 (o2 cd6.1) (fun ha => ⟨o1 ha, kL cd5 ha⟩) rfl rfl).1 (by simpa using cd7)), rfl⟩
            · refine WC.skip <| WC.seq <| WC.region <| WL.r 1 rfl <| WL.ldF rfl rfl 0 hS rfl rfl ag_312 <| WL.callV (bs := [.pointer (some ⟨vb, 0, none⟩)]) rfl rfl rfl (df_each2 (k := 0) (z := 0) (q := 0) (il := decide (((topP PL).isSome = true) ∧ ((¬ ((topP PR).isSome = true)) ∨ ((pK (topP PL)) ≤ (pK (topP PR)))))) (ir := decide (((topP PR).isSome = true) ∧ ((¬ ((topP PL).isSome = true)) ∨ ((pK (topP PR)) ≤ (pK (topP PL)))))) (ml := (topP PL).isSome) (mr := (topP PR).isSome) (hl := (by omega)) (hS := (hS.sel 7 [6, 0, 0, 0, 0, 0, 0] rfl))) rfl ?_
              clear hS; rintro _ w ⟨rfl, hS⟩
              replace hS := hS.n7 L (a0 := Dfs vb ob lo hi (out ++ oneR lo hi (pChg 0 0 0 (decide (((topP PL).isSome = true) ∧ ((¬ ((topP PR).isSome = true)) ∨ ((pK (topP PL)) ≤ (pK (topP PR)))))) (decide (((topP PR).isSome = true) ∧ ((¬ ((topP PL).isSome = true)) ∨ ((pK (topP PR)) ≤ (pK (topP PL))))))))) rfl
              refine WL.r 1 rfl <| WL.nil <| WC.if_ rfl (fun cd7 => ?_) (fun cd7 => ?_)
              · refine WC.ret ?_
                refine ⟨[], trivial, ?_⟩
                replace hS := (hS.sel 7 [6, 0] rfl)
                exact (kNo cd5 cd6 o3).elim
              · refine WC.skip ?_
                exact ⟨_, (by first | omega | exact (hP.vLR cd5.1 (o1 cd5.1) cd6.1 (o2 cd6.1) (kEq cd5 cd6) rfl rfl rfl).2.1 | exact (hP.vL (w := 0) cd5.1 (o1 cd5.1) (fun hb => ⟨o2 hb, kR cd6 hb⟩) rfl rfl).2.1 | exact (hP.vR (v := 0) cd6.1 (o2 cd6.1) (fun ha => ⟨o1 ha, kL cd5 ha⟩) rfl rfl).2.1 | exact (kNo cd5 cd6 o3).elim), PL, PR, _, rfl, (hS.sel 7 [3, 5, 4, 0] rfl), (kNo cd5 cd6 o3).elim, rfl⟩
end Go.Proofs.YtbeacjcmdijdmaaGreat
/-! ## P3 -/
namespace Go.Proofs.YtbeacjcmdijdmaaGreat
open Go Go.V
theorem dif_self (l : Kvs) : dif l l = [] := by
  have h := dif_common [] [] l
  rw [List.append_nil, dif] at h
  exact h
set_option maxRecDepth 8192 in
theorem df_each {g w : World} {L : List HP} (a : Nat) (A : AM) (R : List Int) (x y lo hi : Int) (lb hb ob : Nat) (tx ty : Tr) (hA : ARf A R) (hx : Is A tx x) (hy : Is A ty y) (hsx : Srt tx.ls) (hsy : Srt ty.ls) (hl : tx.n + ty.n ≤ 100000000) (hS : St g (Arn a A :: cel lb #[.int .i64 lo] 2 :: cel hb #[.int .i64 hi] 2 :: cel ob #[.slice none 0 0] 111 :: L) w) :
    Sp Tryz.prog 169 [.pointer (some ⟨a, 0, none⟩), .int .u32 x, .int .u32 y, .func (.func 170) #[] #[.pointer (some ⟨lb, 0, none⟩), .pointer (some ⟨hb, 0, none⟩), .pointer (some ⟨ob, 0, none⟩)]] w (fun v w' => ∃ (vb : Nat), v = .tuple #[] ∧ St g (Arn a A :: Dfs vb ob lo hi (inR lo hi (dif tx.ls ty.ls)) :: L) w') := by
  refine Sp.enter Tryz.func169 rfl (by kernel_rfl) (by kernel_rfl) ?_
  refine WC.seq <| WC.region ?_
  replace hS : St g (Own 110 4 (ch4 []) none 0 :: Arn a A :: cel lb #[.int .i64 lo] 2 :: cel hb #[.int .i64 hi] 2 :: cel ob #[.slice none 0 0] 111 :: L) w := hS.nil_ 110 4
  refine WL.box rfl rfl #[.func (.func 170) #[] #[.pointer (some ⟨lb, 0, none⟩), .pointer (some ⟨hb, 0, none⟩), .pointer (some ⟨ob, 0, none⟩)]] hS rfl rfl (fun b1 w hS => ?_)
  refine WL.nil <| WC.seq <| WC.seq <| WC.region ?_
  replace hS := St.exClose (f := dfsF b1 ob lo hi []) (L := Arn a A :: L) ⟨lb, hb, none, 0⟩ ((hS.sel 6 [0, 2, 2, 2, 0, 0] rfl))
  replace hS := hS.n2 L (a0 := Dfs b1 ob lo hi []) rfl
  refine WL.r 3 rfl <| WL.nil <| WC.ifP rfl (fun he => ?_) (fun he => ?_)
  · refine WC.ret ?_
    refine ⟨[], trivial, ?_⟩
    replace hS := (hS.sel 2 [1, 0] rfl)
    subst he; have e9 := Is.fn hx hy; subst e9; rw [dif_self]; exact ⟨_, rfl, hS⟩
  · refine WC.skip <| WC.seq <| WC.region <| WL.r 1 rfl <| WL.nil <| WC.region <| WL.r 4 rfl <| WL.mkF rfl rfl (vs := [.pointer (some ⟨b1, 0, none⟩)]) rfl <| WL.call rfl rfl (tw_pairs (R := R) (x := x) (y := y) (tx := tx) (ty := ty) (hA := hA) (hx := hx) (hy := hy) (hsx := hsx) (hsy := hsy) (hl := hl) (hS := (hS.sel 2 [1, 0] rfl))) rfl ?_
    clear hS; rintro _ w ⟨rfl, hS⟩
    replace hS := hS.n2 L (a1 := Dfs b1 ob lo hi (inR lo hi (dif tx.ls ty.ls))) rfl
    refine WL.nil ?_
    refine ⟨[], trivial, ?_⟩
    exact ⟨_, rfl, hS⟩
set_option maxRecDepth 8192 in
theorem df_range {g w : World} {L : List HP} (a : Nat) (A : AM) (R : List Int) (x y lo hi : Int) (tx ty : Tr) (hA : ARf A R) (hx : Is A tx x) (hy : Is A ty y) (hsx : Srt tx.ls) (hsy : Srt ty.ls) (hl : tx.n + ty.n ≤ 100000000) (hS : St g (Arn a A :: L) w) :
    Sp Tryz.prog 100 [.pointer (some ⟨a, 0, none⟩), .int .u32 x, .int .u32 y, .int .i64 lo, .int .i64 hi] w (fun v w' => ∃ (a2 : Option Addr) (c2 : Nat), v = .slice a2 (List.length (ch4 (inR lo hi (dif tx.ls ty.ls)))) c2 ∧ St g (Own 110 4 (ch4 (inR lo hi (dif tx.ls ty.ls))) a2 c2 :: Arn a A :: L) w') := by
  refine Sp.enter Tryz.func100 rfl (by kernel_rfl) (by kernel_rfl) ?_
  refine WC.seq <| WC.region <| WL.box rfl rfl #[.int .i64 lo] hS rfl rfl (fun b1 w hS => ?_)
  refine WL.box rfl rfl #[.int .i64 hi] hS rfl rfl (fun b2 w hS => ?_)
  refine WL.r 1 rfl <| WL.nil <| WC.seq <| WC.region <| WL.new rfl rfl zv_111 hS (fun b3 w hS => ?_)
  refine WL.nil <| WC.seq <| WC.region <| WL.r 3 rfl <| WL.mkF rfl rfl (vs := [.pointer (some ⟨b1, 0, none⟩), .pointer (some ⟨b2, 0, none⟩), .pointer (some ⟨b3, 0, none⟩)]) rfl <| WL.call rfl rfl (df_each (R := R) (x := x) (y := y) (lo := lo) (hi := hi) (tx := tx) (ty := ty) (hA := hA) (hx := hx) (hy := hy) (hsx := hsx) (hsy := hsy) (hl := hl) (hS := (hS.sel 4 [3, 2, 1, 0] rfl))) rfl ?_
  clear hS; rintro _ w ⟨vb1, rfl, hS⟩
  replace hS := hS.n2 L (a1 := Dfs vb1 b3 lo hi (inR lo hi (dif tx.ls ty.ls))) rfl
  refine WL.nil <| WC.seq <| WC.region ?_
  obtain ⟨⟨xl, xh, xu, xc⟩, hS⟩ := St.exOpen (f := dfsF vb1 b3 lo hi (inR lo hi (dif tx.ls ty.ls))) (hS.at_ 1 rfl)
  replace hS := hS.n6 L (a0 := cel vb1 #[.func (.func 170) #[] #[.pointer (some ⟨xl, 0, none⟩), .pointer (some ⟨xh, 0, none⟩), .pointer (some ⟨b3, 0, none⟩)]] 272) (a1 := cel xl #[.int .i64 lo] 2) (a2 := cel xh #[.int .i64 hi] 2) (a3 := cel b3 #[.slice xu (List.length (ch4 (inR lo hi (dif tx.ls ty.ls)))) xc] 111) (a4 := Own 110 4 (ch4 (inR lo hi (dif tx.ls ty.ls))) xu xc) rfl
  refine WL.run 2 [.slice xu (List.length (ch4 (inR lo hi (dif tx.ls ty.ls)))) xc] rfl (by exact hS.ld 3 rfl rfl) ?_
  refine WL.nil ?_
  as_aux_lemma =>
  refine WC.ret ?_
  refine ⟨[.slice xu (List.length (ch4 (inR lo hi (dif tx.ls ty.ls)))) xc], rfl, ?_⟩
  replace hS := (hS.sel 4 [] rfl)
  exact ⟨_, _, rfl, hS⟩
end Go.Proofs.YtbeacjcmdijdmaaGreat
/-! ## Tx4 -/
namespace Go.Proofs.YtbeacjcmdijdmaaGreat
open Go Go.V Go.RowKit Go.Maps
set_option maxRecDepth 8192 in
theorem rs_apply {g w : World} {L : List HP} (n m : Nat) (hn : n + m ≤ 65536) (hS : St g (L) w) :
    Sp Tryz.prog 102 [.int .i64 (n : Int), .int .i64 (m : Int)] w (fun v w' => v = .int .i64 ((n : Int) + m + 4 * ((Tr.mxH (n + m) : Int) + 2)) ∧ St g (L) w') := by
  refine Sp.enter Tryz.func102 rfl (by kernel_rfl) (by kernel_rfl) ?_
  have _ := hn
  refine WC.seq <| WC.region <| WL.r 1 rfl <| WL.nil <| WC.seq <| WC.seq <| WC.region <| WL.r 2 rfl <| WL.lit rfl rfl (i64s [(n : Int), (m : Int)]) el_56 hS (by exact ⟨rfl, rfl, rfl, rfl⟩) (i64s_ok _) rfl (Nat.le_of_ble_eq_true rfl) (fun b1 w hS => ?_)
  replace hS := (hS.at_ 0 rfl).share
  replace hS : St g (Sh 3 1 (i64s [(n : Int), (m : Int)]) (some ⟨b1, 0, none⟩) (List.length (i64s [(n : Int), (m : Int)])) :: L) w := hS
  refine WL.call rfl rfl (rs_valid (l := [(n : Int), (m : Int)]) (b := some ⟨b1, 0, none⟩) (c := List.length (i64s [(n : Int), (m : Int)])) (hl := (by simp)) (hS := hS)) rfl ?_
  clear hS; rintro _ w ⟨rfl, hS⟩
  replace hS := hS.n1 L rfl
  refine WL.r 1 rfl <| WL.nil <| WC.ifF rfl (by simp; omega) ?_
  refine WC.skip <| WC.seq <| WC.region ?_
  have hmx := Tr.mxH_le (n + m)
  refine WL.r 3 rfl <| WL.nw 12 rfl (w64 (by omega)) ?_
  refine WL.r 3 rfl <| WL.reb 15 (.int .i64 ((n + m : Nat) : Int)) (congrArg (Value.int .i64) (by rw [w64 (by omega)]; omega)) ?_
  refine WL.call rfl rfl (rs_path (f := 4) (n := (n + m : Nat)) (hf := (by omega)) (hn := (by omega)) (hS := hS)) rfl ?_
  clear hS; rintro _ w ⟨rfl, hS⟩
  replace hS := hS.n1 L rfl
  refine WL.r 1 rfl <| WL.nw 17 rfl (w64 (by omega)) ?_
  refine WL.r 1 rfl <| WL.nil ?_
  as_aux_lemma =>
  refine WC.ret ?_
  refine ⟨[.int .i64 (((n : Int) + (m : Int)) + (4 * ((Tr.mxH (n + m : Nat) : Int) + 2)))], rfl, ?_⟩
  replace hS := (hS.sel 1 [] rfl)
  exact ⟨rfl, hS⟩
def wNeed (t : Tr) (e : Int × Bool × Int) : Bool := (e.2.1 != (Tr.get e.1 t).isSome) || (e.2.1 && decide ((Tr.get e.1 t).getD 0 ≠ e.2.2))
def wWork (t : Tr) (M : Wrs) : Wrs := M.filter (wNeed t)
def wOne (u : Tr) (e : Int × Bool × Int) : Tr := if e.2.1 then Tr.ins e.1 e.2.2 u else Tr.del e.1 u
def wCost (u : Tr) (e : Int × Bool × Int) : Nat := if e.2.1 then Tr.ic e.1 e.2.2 u else Tr.dc e.1 u
def wAll (W : Wrs) (t : Tr) : Tr := W.foldl wOne t
def wSum : Wrs → Tr → Nat
  | [], _ => 0
  | e :: l, t => wCost t e + wSum l (wOne t e)
theorem wAll_snoc {W : Wrs} {k : Nat} {e : Int × Bool × Int} {t : Tr} (h : W[k]? = some e) : wAll (W.take (k + 1)) t = wOne (wAll (W.take k) t) e := by
  unfold wAll; rw [List.take_add_one, h, List.foldl_append]; rfl
theorem wSum_app (e : Int × Bool × Int) : ∀ (W : Wrs) (t : Tr), wSum (W ++ [e]) t = wSum W t + wCost (wAll W t) e
  | [], t => by simp [wSum, wAll]
  | f :: l, t => by
    have h := wSum_app e l (wOne t f)
    show wCost t f + wSum (l ++ [e]) (wOne t f) = wCost t f + wSum l (wOne t f) + wCost (wAll l (wOne t f)) e
    omega
theorem wSum_snoc {W : Wrs} {k : Nat} {e : Int × Bool × Int} {t : Tr} (h : W[k]? = some e) : wSum (W.take (k + 1)) t = wSum (W.take k) t + wCost (wAll (W.take k) t) e := by
  rw [List.take_add_one, h]; exact wSum_app e _ t
theorem wOne_n (u : Tr) (e : Int × Bool × Int) : (wOne u e).n ≤ u.n + 1 := by
  unfold wOne
  split
  · have := Tr.ins_n e.1 e.2.2 u; split at this <;> omega
  · have := Tr.del_n e.1 u; split at this <;> omega
theorem wAll_n : ∀ (W : Wrs) (t : Tr), (wAll W t).n ≤ t.n + W.length
  | [], t => Nat.le_refl _
  | e :: l, t => by
    have h1 := wAll_n l (wOne t e)
    have h2 := wOne_n t e
    show (wAll l (wOne t e)).n ≤ t.n + (l.length + 1)
    omega
theorem drop_lt {S : Kvs} {k : Nat} {p : Int × Int → Prop} (h : ¬ ∀ s ∈ S.drop k, p s) : k < S.length := by
  rcases Nat.lt_or_ge k S.length with h1 | h1
  · exact h1
  · exact (h (by rw [List.drop_eq_nil_of_le h1]; intro s hs; cases hs)).elim
theorem drop_next {S : Kvs} {k : Nat} {p : Int × Int → Prop} {e : Int × Int} (h : ¬ ∀ s ∈ S.drop k, p s) (he : S[k]? = some e) (hp : p e) : ¬ ∀ s ∈ S.drop (k + 1), p s := fun hq => h (by
  obtain ⟨hl, rfl⟩ := List.getElem?_eq_some_iff.1 he
  rw [List.drop_eq_getElem_cons hl]
  intro s hs
  rcases List.mem_cons.1 hs with rfl | hs
  · exact hp
  · exact hq s hs)
set_option maxRecDepth 8192 in
theorem tx_conflict {g w : World} {L : List HP} (x a : Nat) (rt : Int) (xs : List WE) (q : Nat) (S : Kvs) (A : AM) (R : List Int) (hd : Int) (ts th : Tr) (hA : ARf A R) (hts : Is A ts rt) (hth : Is A th hd) (hss : Srt ts.ls) (hsh : Srt th.ls) (hn : ts.n + th.n ≤ 60000) (hSl : S.length ≤ 100000) (hcf : ¬ ∀ s ∈ S, inR s.1 s.2 (dif ts.ls th.ls) = []) (hS : St g (Tx x a rt xs q S :: Arn a A :: L) w) :
    Sp Tryz.prog 31 [.pointer (some ⟨x, 0, none⟩), .int .u32 hd] w (fun v w' => v = .tuple #[.int .u32 0, .int .i64 10] ∧ St g (Tx x a rt xs q S :: Arn a A :: L) w') := by
  refine Sp.enter Tryz.func31 rfl (by kernel_rfl) (by kernel_rfl) ?_
  have _ := hSl
  have _ := hn
  refine WC.seq <| WC.region <| WL.r 2 rfl <| WL.nil <| WC.seq <| WC.seq <| WC.region ?_
  obtain ⟨⟨xm, xu, xc⟩, hS⟩ := St.exOpen (f := txF x a rt xs q S) hS
  replace hS := hS.n4 L (a0 := cel x #[.pointer (some ⟨a, 0, none⟩), .int .u32 rt, .bool false, .map (some xm), .slice xu (List.length (en2 S)) xc] 188) (a1 := blk xm (.map (mE (List.map wK xs)) q)) (a2 := Own 106 2 (en2 S) xu xc) rfl
  have hll := en2_len S
  refine WL.run 4 [.bool false] rfl (by exact hS.ld 0 rfl rfl) ?_
  refine WL.nil <| WC.ifF rfl rfl <| WC.skip <| WC.seq <| WC.seq <| WC.region <| WL.run 6 [.slice xu (List.length (en2 S)) xc] rfl (by exact hS.ld 0 rfl rfl) ?_
  refine WL.nil <| WC.block <| WC.loop [0, 1, 24, 25, 26] (fun kM vs w => ∃ (k : Nat), vs = [.pointer (some ⟨x, 0, none⟩), .int .u32 hd, .slice xu (List.length (en2 S)) xc, .int .i64 (List.length (en2 S) : Int), .int .i64 (k : Int)] ∧ St g (cel x #[.pointer (some ⟨a, 0, none⟩), .int .u32 rt, .bool false, .map (some xm), .slice xu (List.length (en2 S)) xc] 188 :: blk xm (.map (mE (List.map wK xs)) q) :: Own 106 2 (en2 S) xu xc :: Arn a A :: L) w ∧ (¬ ∀ s ∈ S.drop k, inR s.1 s.2 (dif ts.ls th.ls) = []) ∧ (S.length - k) = kM) ((List.length S) - 0) ⟨0, rfl, hS, (hcf), rfl⟩ ?_
  clear hS; rintro _ _ w j ⟨k, rfl, hS, hk, rfl⟩
  refine WC.seq <| WC.region <| WL.r 1 rfl <| WL.nil ?_
  as_aux_lemma =>
  refine WC.seq <| WC.ifT rfl (decide_eq_true ((by have := drop_lt hk; omega))) ?_
  refine WC.skip <| WC.seq <| WC.block <| WC.seq <| WC.region ?_
  obtain ⟨e, he⟩ : ∃ e, S[k]? = some e := ⟨_, List.getElem?_eq_getElem (drop_lt hk)⟩; have hlt := drop_lt hk
  refine WL.ix rfl rfl (i := (k : Int)) (k) el_98 rfl rfl (by omega) (by omega) (hS.rdO 2 rfl (en2_at he)).1 ?_
  refine WL.ldC rfl rfl [.int .i64 e.1, .int .i64 e.2] ag_106 rfl (hS.rdO 2 rfl (en2_at he)).2 <| WL.new rfl rfl zv_106 hS (fun b1 w hS => ?_)
  refine WL.stF rfl rfl rfl 0 hS rfl rfl rfl rfl rfl ag_106 (fun w hS => ?_)
  replace hS := hS.n5 L (a0 := cel b1 #[.int .i64 e.1, .int .i64 e.2] 106) rfl
  refine WL.nil <| WC.seq <| WC.plan [([0, 4, 8, 9, 11, 1, 5, 10, 12, 2, 6, 3, 7], some (13, [])), ([14, 15], none)] (by kernel_rfl) (by kernel_rfl) ?_
  refine WQ.run 13 [.int .i64 e.1, .int .i64 e.2, .pointer (some ⟨a, 0, none⟩), .int .u32 rt] rfl (by exact ⟨hS.ld 0 rfl rfl, hS.ld 0 rfl rfl, hS.ld 1 rfl rfl, hS.ld 1 rfl rfl⟩) ?_
  refine WQ.nil ?_
  intro m1
  replace hS := hS.drewN m1; generalize hwm1 : World.drewN _ _ = w at *; clear hwm1
  refine WL.call rfl rfl (df_range (R := R) (x := rt) (y := hd) (lo := e.1) (hi := e.2) (tx := ts) (ty := th) (hA := hA) (hx := hts) (hy := hth) (hsx := hss) (hsy := hsh) (hl := (by omega)) (hS := (hS.sel 5 [4, 0, 0, 0, 0] rfl))) rfl ?_
  clear hS; rintro _ w ⟨a1, c1, rfl, hS⟩
  replace hS := hS.n6 L (a0 := Own 110 4 (ch4 (inR e.1 e.2 (dif ts.ls th.ls))) a1 c1) rfl
  refine WL.nil ?_
  refine ⟨by exact trivial, ?_⟩
  refine WQ.r 2 rfl <| WQ.nil ?_
  intro m2
  replace hS := hS.drewN m2; generalize hwm2 : World.drewN _ _ = w at *; clear hwm2
  as_aux_lemma =>
  refine WC.ifP rfl (fun hc => ?_) (fun hc => ?_)
  · refine WC.seq <| WC.region <| WL.r 2 rfl <| WL.nil <| WC.ret ?_
    replace hS := St.exClose (f := txF x a rt xs q S) (L := Own 110 4 (ch4 (inR e.1 e.2 (dif ts.ls th.ls))) a1 c1 :: Arn a A :: cel b1 #[.int .i64 e.1, .int .i64 e.2] 106 :: L) ⟨xm, xu, xc⟩ ((hS.sel 6 [3, 3, 3, 0, 0, 0] rfl))
    replace hS := hS.n4 L (a0 := Tx x a rt xs q S) rfl
    refine ⟨[.int .u32 0, .int .i64 10], ⟨rfl, rfl⟩, ?_⟩
    replace hS := (hS.sel 4 [0, 1] rfl)
    exact ⟨rfl, hS⟩
  · refine WC.skip <| WC.region <| WL.r 1 rfl <| WL.nw 46 rfl (w64 (by omega)) ?_
    refine WL.r 1 rfl <| WL.nil ?_
    exact ⟨_, by omega, k + 1, rfl, (hS.sel 6 [3, 3, 3, 1] rfl), (drop_next hk he (List.length_eq_zero_iff.1 (by have := ch4_len (inR e.1 e.2 (dif ts.ls th.ls)); omega))), rfl⟩
end Go.Proofs.YtbeacjcmdijdmaaGreat
/-! ## Y2 -/
namespace Go.Proofs.YtbeacjcmdijdmaaGreat
open Go Go.V Go.RowKit
def put3 (k : Int) (x : W3) (M : Wrs) : List W3 := if wFull k M then M.map wr3 else ins3 x (M.map wr3)
theorem put3_wr (k : Int) (y : Bool × Int) (M : Wrs) : put3 k (wr3 (k, y)) M = (wNew k y M).map wr3 := by
  unfold put3 wNew
  split
  · rfl
  · exact (ins3_wr k y M).symm
theorem full_no {k : Int} {M : Wrs} {i : Int} (h : (0 ≤ i ∧ (wget k M).isSome = true) ∨ (i = -1 ∧ (wget k M).isSome = false)) (hn : ¬ (i < 0 ∧ 1000 ≤ (M.length : Int))) : ¬ wFull k M := fun hf => hn (by
  have h1 := hf.2
  rcases h with h | h
  · have h2 := hf.1; rw [h.2] at h2; cases h2
  · exact ⟨by rw [h.1]; decide, by omega⟩)
set_option maxHeartbeats 1000000 in
set_option maxRecDepth 8192 in
theorem r26_put {g w : World} {L : List HP} (l R : Kvs) (M : Wrs) (sa wa ra : Option Addr) (sc wc rc : Nat) (k z : Int) (b : Bool) (hs : wSrt M) (hm : M.length ≤ 2000) (hS : St g (Sh 219 3 (w3s (M.map wr3)) wa wc :: L) w) :
    Sp Tryz.prog 179 [.agg #[.slice sa (List.length (en2 l)) sc, .slice wa (List.length (w3s (M.map wr3))) wc, .slice ra (List.length (en2 R)) rc, .bool false], .agg #[.int .i64 k, .int .i64 z, .bool b]] w (fun v w' => ∃ (wa2 : Option Addr) (wc2 : Nat), v = .tuple #[.agg #[.slice sa (List.length (en2 l)) sc, .slice wa2 (List.length (w3s (put3 k (k, z, b) M))) wc2, .slice ra (List.length (en2 R)) rc, .bool false], .int .i64 (wErr k M)] ∧ St g (Sh 219 3 (w3s (put3 k (k, z, b) M)) wa2 wc2 :: L) w') := by
  refine Sp.enter Tryz.func179 rfl (by kernel_rfl) (by kernel_rfl) ?_
  have _ := hm
  refine WC.seq <| WC.region <| WL.box rfl rfl #[.slice sa (List.length (en2 l)) sc, .slice wa (List.length (w3s (M.map wr3))) wc, .slice ra (List.length (en2 R)) rc, .bool false] hS rfl rfl (fun b1 w hS => ?_)
  refine WL.box rfl rfl #[.int .i64 k, .int .i64 z, .bool b] hS rfl rfl (fun b2 w hS => ?_)
  refine WL.new rfl rfl zv_100 hS (fun b3 w hS => ?_)
  refine WL.r 1 rfl <| WL.nil <| WC.seq <| WC.seq <| WC.region <| WL.run 2 [.bool false] rfl (by exact hS.ld 2 rfl rfl) ?_
  refine WL.nil <| WC.ifF rfl rfl <| WC.skip <| WC.seq <| WC.seq <| WC.region ?_
  have hwl := w3s_len (M.map wr3); have hml : (M.map wr3).length = M.length := List.length_map ..; have hs3 := srt3_wr hs
  refine WL.ldF rfl rfl 2 hS rfl rfl ag_100 <| WL.run 2 [.int .i64 k] rfl (by exact hS.ld 1 rfl rfl) ?_
  refine WL.call rfl rfl (r26_find (l := l) (R := R) (M := M) (sa := sa) (ra := ra) (sc := sc) (rc := rc) (k := k) (hs := hs) (hm := (by omega)) (hS := (hS.sel 4 [3, 0, 0, 0] rfl))) rfl ?_
  clear hS; rintro _ w ⟨i1, rfl, hS, f1⟩
  replace hS := hS.n4 L (a1 := cel b3 #[.slice none 0 0, .slice none 0 0, .slice none 0 0, .bool false] 100) (a2 := cel b2 #[.int .i64 k, .int .i64 z, .bool b] 219) (a3 := cel b1 #[.slice sa (List.length (en2 l)) sc, .slice wa (List.length (w3s (M.map wr3))) wc, .slice ra (List.length (en2 R)) rc, .bool false] 100) rfl
  refine WL.r 1 rfl <| WL.runG 6 [.slice wa (List.length (w3s (M.map wr3))) wc] rfl (by exact (fun _ => hS.ld 3 rfl rfl)) (fun j => ?_)
  refine WL.prop 22 rfl (band (dd _) (dd _)) <| WL.nil ?_
  as_aux_lemma =>
  refine WC.ifP rfl (fun hfl => ?_) (fun hfl => ?_)
  · refine WC.seq <| WC.region <| WL.ldF rfl rfl 3 hS rfl rfl ag_100 <| WL.stF rfl rfl rfl 1 hS rfl rfl rfl rfl rfl ag_100 (fun w hS => ?_)
    replace hS := hS.n4 L (a1 := cel b3 #[.slice sa (List.length (en2 l)) sc, .slice wa (List.length (w3s (M.map wr3))) wc, .slice ra (List.length (en2 R)) rc, .bool false] 100) rfl
    refine WL.r 1 rfl <| WL.nil <| WC.ret ?_
    refine ⟨[.agg #[.slice sa (List.length (en2 l)) sc, .slice wa (List.length (w3s (M.map wr3))) wc, .slice ra (List.length (en2 R)) rc, .bool false], .int .i64 2], ⟨⟨_, rfl, hS.lvF 1 rfl ag_100⟩, rfl⟩, ?_⟩
    replace hS := (hS.sel 4 [0] rfl)
    have e9 : wFull k M := (by rcases f1 with h | h; omega; exact ⟨h.2, by omega⟩); have e8 : put3 k (k, z, b) M = M.map wr3 := if_pos e9; rw [e8, wErr_t e9]; exact ⟨_, _, rfl, hS⟩
  · refine WC.skip <| WC.seq <| WC.region <| WL.r 1 rfl <| WL.nil <| WC.seq <| WC.region <| WL.r 1 rfl <| WL.nil <| WC.seq <| WC.seq <| WC.region ?_
    have hnf : ¬ wFull k M := full_no f1 (fun h => hfl ⟨h.1, by omega⟩)
    refine WL.r 1 rfl <| WL.nil <| WC.block ?_
    replace hS := hS.nil_ 219 3
    refine WC.loop [2, 3, 4, 5, 6, 7, 8] (fun kM vs w => ∃ (j : Nat) (put : Bool) (out : List W3) (ua : Option Addr) (uc : Nat), vs = [.pointer (some ⟨b1, 0, none⟩), .pointer (some ⟨b2, 0, none⟩), .pointer (some ⟨b3, 0, none⟩), .int .i64 0, .slice ua (List.length (w3s out)) uc, .bool put, .int .i64 (j : Int)] ∧ St g (Own 219 3 (w3s out) ua uc :: Sh 219 3 (w3s (M.map wr3)) wa wc :: cel b3 #[.slice none 0 0, .slice none 0 0, .slice none 0 0, .bool false] 100 :: cel b2 #[.int .i64 k, .int .i64 z, .bool b] 219 :: cel b1 #[.slice sa (List.length (en2 l)) sc, .slice wa (List.length (w3s (M.map wr3))) wc, .slice ra (List.length (en2 R)) rc, .bool false] 100 :: L) w ∧ (j ≤ M.length) ∧ (L3 (k, z, b) (M.map wr3) j put out) ∧ (M.length - j) = kM) ((List.length M) - 0) ⟨0, false, [], none, 0, rfl, hS, (Nat.zero_le _), (L3.zero (k, z, b) (M.map wr3)), rfl⟩ ?_
    clear hS; rintro _ _ w j ⟨j, put, out, ua, uc, rfl, hS, hj, hP, rfl⟩
    refine WC.seq <| WC.seq <| WC.region ?_
    have hnf : ¬ wFull k M := full_no f1 (fun h => hfl ⟨h.1, by omega⟩)
    refine WL.run 5 [.slice wa (List.length (w3s (M.map wr3))) wc] rfl (by exact hS.ld 4 rfl rfl) ?_
    refine WL.nil ?_
    as_aux_lemma =>
    refine WC.ifP rfl (fun cd1 => ?_) (fun cd1 => ?_)
    · refine WC.skip <| WC.seq <| WC.block <| WC.seq <| WC.seq <| WC.plan [([0, 1, 2, 3, 5, 9, 4, 10, 6, 7, 8, 11, 12], none)] (by kernel_rfl) (by kernel_rfl) ?_
      obtain ⟨e, he⟩ : ∃ e, (M.map wr3)[j]? = some e := ⟨_, List.getElem?_eq_getElem (by omega)⟩; have hol := hP.len; have hoe := w3s_len out
      refine WQ.r 2 rfl <| WQ.r 1 rfl ?_
      by_cases cg1 : (! put) = true
      · refine WQ.reb 33 (.bool true) (congrArg Value.bool cg1) <| WQ.ung rfl rfl rfl <| WQ.r 1 rfl <| WQ.ung rfl rfl rfl <| WQ.r 1 rfl <| WQ.ung rfl rfl rfl <| WQ.r 1 rfl <| WQ.ung rfl rfl rfl <| WQ.run 1 [.slice wa (List.length (w3s (M.map wr3))) wc] rfl (by exact hS.ld 4 rfl rfl) ?_
        refine WQ.ung rfl rfl rfl <| WQ.run 1 [.int .i64 k] rfl (by exact hS.ld 3 rfl rfl) ?_
        refine WQ.ung rfl rfl rfl <| WQ.ix rfl rfl (i := (j : Int)) (j) el_97 rfl rfl (by omega) (by omega) (hS.rdS 1 rfl (w3s_at he)).1 ?_
        refine WQ.ung rfl rfl rfl <| WQ.r 1 rfl <| WQ.ung rfl rfl rfl <| WQ.run 1 [.int .i64 e.1] rfl (by exact (hS.rdS 1 rfl (w3s_at he)).2 0 _ rfl) ?_
        refine WQ.ung rfl rfl rfl <| WQ.r 2 rfl <| WQ.nil ?_
        intro m1
        replace hS := hS.drewN m1; generalize hwm1 : World.drewN _ _ = w at *; clear hwm1
        as_aux_lemma =>
        refine WC.ifP rfl (fun cd2 => ?_) (fun cd2 => ?_)
        · refine WC.seq <| WC.region <| WL.r 1 rfl <| WL.ldF rfl rfl 3 hS rfl rfl ag_219 <| WL.lit rfl rfl (w3s [(k, z, b)]) el_97 hS (by exact ⟨rfl, rfl⟩) (w3s_ok _) rfl (Nat.le_of_ble_eq_true rfl) (fun b4 w hS => ?_)
          refine WL.app rfl rfl 1 (w3s (out ++ [(k, z, b)])) el_97 hS rfl (hS.srcO 0 rfl) (w3s_app _ _).symm (Rm.of (by first | omega | (simp <;> omega)) (by decide)) rfl rfl (fun a1 c1 w hS => ?_)
          replace hS := hS.n6 L (a0 := Own 219 3 (w3s [(k, z, b)]) (some ⟨b4, 0, none⟩) (List.length (w3s [(k, z, b)]))) (a1 := Own 219 3 (w3s (out ++ [(k, z, b)])) a1 c1) rfl
          refine WL.r 1 rfl <| WL.nil <| WC.region <| WL.r 1 rfl <| WL.nil <| WC.seq <| WC.plan [([0, 2, 6, 1, 7], some (3, [6, 7])), ([4, 5, 8], none)] (by kernel_rfl) (by kernel_rfl) ?_
          refine WQ.run 5 [.slice wa (List.length (w3s (M.map wr3))) wc, .int .i64 k] rfl (by exact ⟨hS.ld 5 rfl rfl, hS.ld 4 rfl rfl⟩) ?_
          refine WQ.nil ?_
          intro m2
          replace hS := hS.drewN m2; generalize hwm2 : World.drewN _ _ = w at *; clear hwm2
          refine WL.ix rfl rfl (i := (j : Int)) (j) el_97 rfl rfl (by omega) (by omega) (hS.rdS 2 rfl (w3s_at he)).1 ?_
          refine WL.nil ?_
          refine ⟨by exact ⟨RQ.pure rfl rfl rfl rfl, RQ.load rfl rfl rfl rfl (hS.ld 4 rfl rfl)⟩, ?_⟩
          refine WQ.run 3 [.int .i64 e.1] rfl (by exact (hS.rdS 2 rfl (w3s_at he)).2 0 _ rfl) ?_
          refine WQ.nil ?_
          intro m3
          replace hS := hS.drewN m3; generalize hwm3 : World.drewN _ _ = w at *; clear hwm3
          as_aux_lemma =>
          refine WC.ifP rfl (fun cd3 => ?_) (fun cd3 => ?_)
          · refine WC.region <| WL.run 4 [.slice wa (List.length (w3s (M.map wr3))) wc] rfl (by exact hS.ld 5 rfl rfl) ?_
            refine WL.ix rfl rfl (i := (j : Int)) (j) el_97 rfl rfl (by omega) (by omega) (hS.rdS 2 rfl (w3s_at he)).1 ?_
            refine WL.ldC rfl rfl [.int .i64 e.1, .int .i64 e.2.1, .bool e.2.2] ag_219 rfl (hS.rdS 2 rfl (w3s_at he)).2 <| WL.lit rfl rfl (w3s [(e.1, e.2.1, e.2.2)]) el_97 hS (by exact ⟨rfl, rfl⟩) (w3s_ok _) rfl (Nat.le_of_ble_eq_true rfl) (fun b5 w hS => ?_)
            refine WL.app rfl rfl 2 (w3s ((out ++ [(k, z, b)]) ++ [(e.1, e.2.1, e.2.2)])) el_97 hS rfl (hS.srcO 0 rfl) (w3s_app _ _).symm (Rm.of (by first | omega | (simp <;> omega)) (by decide)) rfl rfl (fun a2 c2 w hS => ?_)
            replace hS := hS.n7 L (a0 := Own 219 3 (w3s [(e.1, e.2.1, e.2.2)]) (some ⟨b5, 0, none⟩) (List.length (w3s [(e.1, e.2.1, e.2.2)]))) (a2 := Own 219 3 (w3s ((out ++ [(k, z, b)]) ++ [(e.1, e.2.1, e.2.2)])) a2 c2) rfl
            refine WL.r 1 rfl <| WL.nil <| WC.region <| WL.r 2 rfl <| WL.nw 30 rfl (w64 (by omega)) ?_
            refine WL.r 1 rfl <| WL.nil ?_
            exact ⟨_, by omega, j + 1, true, out ++ [(k, z, b)] ++ [(e.1, e.2.1, e.2.2)], a2, c2, rfl, (hS.sel 2 [] rfl), (by omega), (by have hp : put = false := (by simpa using cg1); subst hp; exact hP.more he (by show k < e.1; omega)), rfl⟩
          · refine WC.skip <| WC.region <| WL.r 2 rfl <| WL.nw 30 rfl (w64 (by omega)) ?_
            refine WL.r 1 rfl <| WL.nil ?_
            exact ⟨_, by omega, j + 1, true, out ++ [(k, z, b)], a1, c1, rfl, (hS.sel 1 [] rfl), (by omega), (by have hp : put = false := (by simpa using cg1); subst hp; exact hP.eq_ he (by show e.1 = k; omega)), rfl⟩
        · refine WC.skip <| WC.seq <| WC.plan [([0, 2, 6, 1, 7], some (3, [6, 7])), ([4, 5, 8], none)] (by kernel_rfl) (by kernel_rfl) ?_
          refine WQ.run 5 [.slice wa (List.length (w3s (M.map wr3))) wc, .int .i64 k] rfl (by exact ⟨hS.ld 4 rfl rfl, hS.ld 3 rfl rfl⟩) ?_
          refine WQ.nil ?_
          intro m2
          replace hS := hS.drewN m2; generalize hwm2 : World.drewN _ _ = w at *; clear hwm2
          refine WL.ix rfl rfl (i := (j : Int)) (j) el_97 rfl rfl (by omega) (by omega) (hS.rdS 1 rfl (w3s_at he)).1 ?_
          refine WL.nil ?_
          refine ⟨by exact ⟨RQ.pure rfl rfl rfl rfl, RQ.load rfl rfl rfl rfl (hS.ld 3 rfl rfl)⟩, ?_⟩
          refine WQ.run 3 [.int .i64 e.1] rfl (by exact (hS.rdS 1 rfl (w3s_at he)).2 0 _ rfl) ?_
          refine WQ.nil ?_
          intro m3
          replace hS := hS.drewN m3; generalize hwm3 : World.drewN _ _ = w at *; clear hwm3
          refine WC.ifP rfl (fun cd3 => ?_) (fun cd3 => ?_)
          · refine WC.region <| WL.run 4 [.slice wa (List.length (w3s (M.map wr3))) wc] rfl (by exact hS.ld 4 rfl rfl) ?_
            refine WL.ix rfl rfl (i := (j : Int)) (j) el_97 rfl rfl (by omega) (by omega) (hS.rdS 1 rfl (w3s_at he)).1 ?_
            refine WL.ldC rfl rfl [.int .i64 e.1, .int .i64 e.2.1, .bool e.2.2] ag_219 rfl (hS.rdS 1 rfl (w3s_at he)).2 <| WL.lit rfl rfl (w3s [(e.1, e.2.1, e.2.2)]) el_97 hS (by exact ⟨rfl, rfl⟩) (w3s_ok _) rfl (Nat.le_of_ble_eq_true rfl) (fun b4 w hS => ?_)
            refine WL.app rfl rfl 1 (w3s (out ++ [(e.1, e.2.1, e.2.2)])) el_97 hS rfl (hS.srcO 0 rfl) (w3s_app _ _).symm (Rm.of (by first | omega | (simp <;> omega)) (by decide)) rfl rfl (fun a1 c1 w hS => ?_)
            replace hS := hS.n6 L (a0 := Own 219 3 (w3s [(e.1, e.2.1, e.2.2)]) (some ⟨b4, 0, none⟩) (List.length (w3s [(e.1, e.2.1, e.2.2)]))) (a1 := Own 219 3 (w3s (out ++ [(e.1, e.2.1, e.2.2)])) a1 c1) rfl
            refine WL.r 1 rfl <| WL.nil ?_
            as_aux_lemma =>
            refine WC.region <| WL.r 2 rfl <| WL.nw 30 rfl (w64 (by omega)) ?_
            refine WL.r 1 rfl <| WL.nil ?_
            exact ⟨_, by omega, j + 1, put, out ++ [(e.1, e.2.1, e.2.2)], a1, c1, rfl, (hS.sel 1 [] rfl), (by omega), (by have hp : put = false := (by simpa using cg1); subst hp; exact hP.less he (by show e.1 < k; omega)), rfl⟩
          · refine WC.skip <| WC.region <| WL.r 2 rfl <| WL.nw 30 rfl (w64 (by omega)) ?_
            refine WL.r 1 rfl <| WL.nil ?_
            exact ⟨_, by omega, j + 1, put, out, ua, uc, rfl, hS, (by omega), (by exfalso; omega), rfl⟩
      · refine WQ.reb 33 (.bool false) (congrArg Value.bool (Bool.eq_false_iff.2 cg1)) <| WQ.skp rfl rfl rfl rfl <| WQ.skp rfl rfl rfl rfl <| WQ.skp rfl rfl rfl rfl <| WQ.skp rfl rfl rfl rfl <| WQ.skp rfl rfl rfl rfl <| WQ.skp rfl rfl rfl rfl <| WQ.skp rfl rfl rfl rfl <| WQ.skp rfl rfl rfl rfl <| WQ.skp rfl rfl rfl rfl <| WQ.r 1 rfl <| WQ.nil ?_
        intro m1
        replace hS := hS.drewN m1; generalize hwm1 : World.drewN _ _ = w at *; clear hwm1
        as_aux_lemma =>
        refine WC.ifF rfl rfl <| WC.skip <| WC.seq <| WC.plan [([0, 2, 6, 1, 7], some (3, [6, 7])), ([4, 5, 8], none)] (by kernel_rfl) (by kernel_rfl) ?_
        refine WQ.run 5 [.slice wa (List.length (w3s (M.map wr3))) wc, .int .i64 k] rfl (by exact ⟨hS.ld 4 rfl rfl, hS.ld 3 rfl rfl⟩) ?_
        refine WQ.nil ?_
        intro m2
        replace hS := hS.drewN m2; generalize hwm2 : World.drewN _ _ = w at *; clear hwm2
        refine WL.ix rfl rfl (i := (j : Int)) (j) el_97 rfl rfl (by omega) (by omega) (hS.rdS 1 rfl (w3s_at he)).1 ?_
        refine WL.nil ?_
        refine ⟨by exact ⟨RQ.pure rfl rfl rfl rfl, RQ.load rfl rfl rfl rfl (hS.ld 3 rfl rfl)⟩, ?_⟩
        refine WQ.run 3 [.int .i64 e.1] rfl (by exact (hS.rdS 1 rfl (w3s_at he)).2 0 _ rfl) ?_
        refine WQ.nil ?_
        intro m3
        replace hS := hS.drewN m3; generalize hwm3 : World.drewN _ _ = w at *; clear hwm3
        refine WC.ifP rfl (fun cd2 => ?_) (fun cd2 => ?_)
        · refine WC.region <| WL.run 4 [.slice wa (List.length (w3s (M.map wr3))) wc] rfl (by exact hS.ld 4 rfl rfl) ?_
          refine WL.ix rfl rfl (i := (j : Int)) (j) el_97 rfl rfl (by omega) (by omega) (hS.rdS 1 rfl (w3s_at he)).1 ?_
          refine WL.ldC rfl rfl [.int .i64 e.1, .int .i64 e.2.1, .bool e.2.2] ag_219 rfl (hS.rdS 1 rfl (w3s_at he)).2 <| WL.lit rfl rfl (w3s [(e.1, e.2.1, e.2.2)]) el_97 hS (by exact ⟨rfl, rfl⟩) (w3s_ok _) rfl (Nat.le_of_ble_eq_true rfl) (fun b4 w hS => ?_)
          refine WL.app rfl rfl 1 (w3s (out ++ [(e.1, e.2.1, e.2.2)])) el_97 hS rfl (hS.srcO 0 rfl) (w3s_app _ _).symm (Rm.of (by first | omega | (simp <;> omega)) (by decide)) rfl rfl (fun a1 c1 w hS => ?_)
          replace hS := hS.n6 L (a0 := Own 219 3 (w3s [(e.1, e.2.1, e.2.2)]) (some ⟨b4, 0, none⟩) (List.length (w3s [(e.1, e.2.1, e.2.2)]))) (a1 := Own 219 3 (w3s (out ++ [(e.1, e.2.1, e.2.2)])) a1 c1) rfl
          refine WL.r 1 rfl <| WL.nil ?_
          as_aux_lemma =>
          refine WC.region <| WL.r 2 rfl <| WL.nw 30 rfl (w64 (by omega)) ?_
          refine WL.r 1 rfl <| WL.nil ?_
          exact ⟨_, by omega, j + 1, put, out ++ [(e.1, e.2.1, e.2.2)], a1, c1, rfl, (hS.sel 1 [] rfl), (by omega), (by have hp : put = true := (by simpa using cg1); subst hp; exact hP.rest hs3 he), rfl⟩
        · refine WC.skip <| WC.region <| WL.r 2 rfl <| WL.nw 30 rfl (w64 (by omega)) ?_
          refine WL.r 1 rfl <| WL.nil ?_
          exact ⟨_, by omega, j + 1, put, out, ua, uc, rfl, hS, (by omega), (by have hp : put = true := (by simpa using cg1); subst hp; have h9 : k < e.1 := hP.gt hs3 he; exfalso; omega), rfl⟩
    · refine WC.exit <| WC.seq <| WC.seq <| WC.region ?_
      have hol2 := hP.len; have hoe2 := w3s_len out; have e8 : put3 k (k, z, b) M = ins3 (k, z, b) (M.map wr3) := if_neg hnf
      refine WL.r 2 rfl <| WL.nil <| WC.if_ rfl (fun cd2 => ?_) (fun cd2 => ?_)
      · refine WC.region <| WL.r 1 rfl <| WL.ldF rfl rfl 3 hS rfl rfl ag_219 <| WL.lit rfl rfl (w3s [(k, z, b)]) el_97 hS (by exact ⟨rfl, rfl⟩) (w3s_ok _) rfl (Nat.le_of_ble_eq_true rfl) (fun b4 w hS => ?_)
        refine WL.app rfl rfl 1 (w3s (out ++ [(k, z, b)])) el_97 hS rfl (hS.srcO 0 rfl) (w3s_app _ _).symm (Rm.of (by first | omega | (simp <;> omega)) (by decide)) rfl rfl (fun a1 c1 w hS => ?_)
        replace hS := hS.n6 L (a0 := Own 219 3 (w3s [(k, z, b)]) (some ⟨b4, 0, none⟩) (List.length (w3s [(k, z, b)]))) (a1 := Own 219 3 (w3s (out ++ [(k, z, b)])) a1 c1) rfl
        refine WL.r 1 rfl <| WL.nil <| WC.seq <| WC.region <| WL.r 2 rfl <| WL.st rfl rfl rfl 5 hS rfl rfl rfl rfl rfl rfl (fun w hS => ?_)
        replace hS := hS.n6 L (a5 := cel b1 #[.slice sa (List.length (en2 l)) sc, .slice a1 (List.length (w3s (out ++ [(k, z, b)]))) c1, .slice ra (List.length (en2 R)) rc, .bool false] 100) rfl
        refine WL.nil <| WC.seq <| WC.region <| WL.ldF rfl rfl 5 hS rfl rfl ag_100 <| WL.stF rfl rfl rfl 3 hS rfl rfl rfl rfl rfl ag_100 (fun w hS => ?_)
        replace hS := hS.n6 L (a3 := cel b3 #[.slice sa (List.length (en2 l)) sc, .slice a1 (List.length (w3s (out ++ [(k, z, b)]))) c1, .slice ra (List.length (en2 R)) rc, .bool false] 100) rfl
        refine WL.r 1 rfl <| WL.nil ?_
        as_aux_lemma =>
        refine WC.ret ?_
        refine ⟨[.agg #[.slice sa (List.length (en2 l)) sc, .slice a1 (List.length (w3s (out ++ [(k, z, b)]))) c1, .slice ra (List.length (en2 R)) rc, .bool false], .int .i64 0], ⟨⟨_, rfl, hS.lvF 3 rfl ag_100⟩, rfl⟩, ?_⟩
        replace hS := (hS.at_ 1 rfl).share
        replace hS := hS.n6 L (a0 := Sh 219 3 (w3s (out ++ [(k, z, b)])) a1 c1) rfl
        replace hS := (hS.sel 6 [0] rfl)
        have hp : put = false := (by simpa using cd2); subst hp; have e7 : out ++ [(k, z, b)] = put3 k (k, z, b) M := (hP.end_f (by omega)).trans e8.symm; rw [e7] at hS ⊢; rw [wErr_f hnf]; exact ⟨_, _, rfl, hS⟩
      · refine WC.skip <| WC.seq <| WC.region <| WL.r 2 rfl <| WL.st rfl rfl rfl 4 hS rfl rfl rfl rfl rfl rfl (fun w hS => ?_)
        replace hS := hS.n5 L (a4 := cel b1 #[.slice sa (List.length (en2 l)) sc, .slice ua (List.length (w3s out)) uc, .slice ra (List.length (en2 R)) rc, .bool false] 100) rfl
        refine WL.nil <| WC.seq <| WC.region <| WL.ldF rfl rfl 4 hS rfl rfl ag_100 <| WL.stF rfl rfl rfl 2 hS rfl rfl rfl rfl rfl ag_100 (fun w hS => ?_)
        replace hS := hS.n5 L (a2 := cel b3 #[.slice sa (List.length (en2 l)) sc, .slice ua (List.length (w3s out)) uc, .slice ra (List.length (en2 R)) rc, .bool false] 100) rfl
        refine WL.r 1 rfl <| WL.nil <| WC.ret ?_
        refine ⟨[.agg #[.slice sa (List.length (en2 l)) sc, .slice ua (List.length (w3s out)) uc, .slice ra (List.length (en2 R)) rc, .bool false], .int .i64 0], ⟨⟨_, rfl, hS.lvF 2 rfl ag_100⟩, rfl⟩, ?_⟩
        replace hS := (hS.at_ 0 rfl).share
        replace hS := hS.n5 L (a0 := Sh 219 3 (w3s out) ua uc) rfl
        replace hS := (hS.sel 5 [0] rfl)
        have hp : put = true := (by simpa using cd2); subst hp; have e9 := hP.end_t (by omega); rw [e9, ← e8] at hS ⊢; rw [wErr_f hnf]; exact ⟨_, _, rfl, hS⟩
set_option maxRecDepth 8192 in
theorem r26_cov {g w : World} {L : List HP} (l R : Kvs) (W : List W3) (sa wa ra : Option Addr) (sc wc rc : Nat) (k : Int) (hr : R.length ≤ 100000) (hS : St g (Sh 106 2 (en2 R) ra rc :: L) w) :
    Sp Tryz.prog 119 [.agg #[.slice sa (List.length (en2 l)) sc, .slice wa (List.length (w3s W)) wc, .slice ra (List.length (en2 R)) rc, .bool false], .int .i64 k] w (fun v w' => ∃ (b : Bool), v = .bool b ∧ St g (Sh 106 2 (en2 R) ra rc :: L) w' ∧ (b = true ↔ inS k R)) := by
  refine Sp.enter Tryz.func119 rfl (by kernel_rfl) (by kernel_rfl) ?_
  have _ := hr
  refine WC.seq <| WC.region ?_
  have hrl := en2_len R
  refine WL.box rfl rfl #[.slice sa (List.length (en2 l)) sc, .slice wa (List.length (w3s W)) wc, .slice ra (List.length (en2 R)) rc, .bool false] hS rfl rfl (fun b1 w hS => ?_)
  refine WL.r 1 rfl <| WL.nil <| WC.seq <| WC.seq <| WC.region <| WL.r 1 rfl <| WL.nil <| WC.block <| WC.loop [1, 2, 5] (fun kM vs w => ∃ (j : Nat), vs = [.int .i64 k, .pointer (some ⟨b1, 0, none⟩), .int .i64 (j : Int)] ∧ St g (cel b1 #[.slice sa (List.length (en2 l)) sc, .slice wa (List.length (w3s W)) wc, .slice ra (List.length (en2 R)) rc, .bool false] 100 :: Sh 106 2 (en2 R) ra rc :: L) w ∧ (j ≤ R.length) ∧ (¬ inS k (R.take j)) ∧ (R.length - j) = kM) ((List.length R) - 0) ⟨0, rfl, hS, (Nat.zero_le _), (fun h => by obtain ⟨_, h, _⟩ := h; simp at h), rfl⟩ ?_
  clear hS; rintro _ _ w j ⟨j, rfl, hS, hj, hn, rfl⟩
  refine WC.seq <| WC.seq <| WC.region <| WL.run 5 [.slice ra (List.length (en2 R)) rc] rfl (by exact hS.ld 0 rfl rfl) ?_
  refine WL.nil <| WC.ifP rfl (fun cd1 => ?_) (fun cd1 => ?_)
  · refine WC.skip <| WC.seq <| WC.block <| WC.seq <| WC.region <| WL.run 3 [.slice ra (List.length (en2 R)) rc] rfl (by exact hS.ld 0 rfl rfl) ?_
    obtain ⟨e, he⟩ : ∃ e, R[j]? = some e := ⟨_, List.getElem?_eq_getElem (by omega)⟩
    refine WL.ix rfl rfl (i := (j : Int)) (j) el_98 rfl rfl (by omega) (by omega) (hS.rdS 1 rfl (en2_at he)).1 ?_
    refine WL.run 5 [.int .i64 e.1] rfl (by exact (hS.rdS 1 rfl (en2_at he)).2 0 _ rfl) ?_
    by_cases cg1 : e.1 ≤ k
    · refine WL.reb 21 (.bool true) (congrArg Value.bool (decide_eq_true cg1)) <| WL.ung rfl rfl rfl <| WL.r 1 rfl <| WL.ung rfl rfl rfl <| WL.r 1 rfl <| WL.ung rfl rfl rfl <| WL.run 1 [.slice ra (List.length (en2 R)) rc] rfl (by exact hS.ld 0 rfl rfl) ?_
      refine WL.ung rfl rfl rfl <| WL.r 1 rfl <| WL.ung rfl rfl rfl <| WL.ix rfl rfl (i := (j : Int)) (j) el_98 rfl rfl (by omega) (by omega) (hS.rdS 1 rfl (en2_at he)).1 ?_
      refine WL.ung rfl rfl rfl <| WL.r 1 rfl <| WL.ung rfl rfl rfl <| WL.run 1 [.int .i64 e.2] rfl (by exact (hS.rdS 1 rfl (en2_at he)).2 1 _ rfl) ?_
      refine WL.ung rfl rfl rfl <| WL.r 2 rfl <| WL.nil ?_
      as_aux_lemma =>
      refine WC.ifP rfl (fun cd2 => ?_) (fun cd2 => ?_)
      · refine WC.seq <| WC.region <| WL.r 1 rfl <| WL.nil <| WC.ret ?_
        refine ⟨[.bool true], rfl, ?_⟩
        replace hS := (hS.sel 1 [] rfl)
        exact ⟨_, rfl, hS, ⟨fun _ => ⟨e, List.mem_of_getElem? he, by omega, by omega⟩, fun _ => rfl⟩⟩
      · refine WC.skip <| WC.region <| WL.r 2 rfl <| WL.nw 12 rfl (w64 (by omega)) ?_
        refine WL.r 1 rfl <| WL.nil ?_
        exact ⟨_, by omega, j + 1, rfl, hS, (by omega), (inS_out he hn (by omega)), rfl⟩
    · refine WL.reb 21 (.bool false) (congrArg Value.bool (decide_eq_false cg1)) <| WL.skp rfl rfl rfl rfl <| WL.skp rfl rfl rfl rfl <| WL.skp rfl rfl rfl rfl <| WL.skp rfl rfl rfl rfl <| WL.skp rfl rfl rfl rfl <| WL.skp rfl rfl rfl rfl <| WL.skp rfl rfl rfl rfl <| WL.skp rfl rfl rfl rfl <| WL.r 1 rfl <| WL.nil ?_
      as_aux_lemma =>
      refine WC.ifF rfl rfl <| WC.skip <| WC.region <| WL.r 2 rfl <| WL.nw 12 rfl (w64 (by omega)) ?_
      refine WL.r 1 rfl <| WL.nil ?_
      exact ⟨_, by omega, j + 1, rfl, hS, (by omega), (inS_out he hn (by omega)), rfl⟩
  · refine WC.exit <| WC.seq <| WC.region <| WL.r 1 rfl <| WL.nil ?_
    as_aux_lemma =>
    refine WC.ret ?_
    refine ⟨[.bool false], rfl, ?_⟩
    replace hS := (hS.sel 1 [] rfl)
    exact ⟨_, rfl, hS, ⟨fun h => (by cases h), fun h => absurd h (by have e9 : j = R.length := (by omega); subst e9; rw [List.take_length] at hn; exact hn)⟩⟩
def losK (R : Kvs) : Kvs := R.map fun s => (s.1, 0)
set_option maxRecDepth 8192 in
theorem r26_los {g w : World} {L : List HP} (R : Kvs) (ra : Option Addr) (rc : Nat) (hr : R.length ≤ 100000) (hS : St g (Sh 106 2 (en2 R) ra rc :: L) w) :
    Sp Tryz.prog 118 [.slice ra (List.length (en2 R)) rc] w (fun v w' => ∃ (a2 : Option Addr) (c2 : Nat), v = .slice a2 (List.length (en2 (losK R))) c2 ∧ St g (Own 121 2 (en2 (losK R)) a2 c2 :: Sh 106 2 (en2 R) ra rc :: L) w') := by
  refine Sp.enter Tryz.func118 rfl (by kernel_rfl) (by kernel_rfl) ?_
  have _ := hr
  refine WC.seq <| WC.region <| WL.r 1 rfl <| WL.nil <| WC.seq <| WC.region ?_
  have hrl := en2_len R
  refine WL.r 1 rfl <| WL.nil <| WC.seq <| WC.seq <| WC.region <| WL.r 1 rfl <| WL.nil <| WC.block ?_
  replace hS := hS.nil_ 121 2
  refine WC.loop [0, 2, 3, 4] (fun kM vs w => ∃ (j : Nat) (acc : Kvs) (ua : Option Addr) (uc : Nat), vs = [.slice ra (List.length (en2 R)) rc, .slice none 0 0, .slice ua (List.length (en2 acc)) uc, .int .i64 (j : Int)] ∧ St g (Own 121 2 (en2 acc) ua uc :: Sh 106 2 (en2 R) ra rc :: L) w ∧ (j ≤ R.length) ∧ (acc = losK (R.take j)) ∧ (R.length - j) = kM) ((List.length R) - 0) ⟨0, [], none, 0, rfl, hS, (Nat.zero_le _), (rfl), rfl⟩ ?_
  clear hS; rintro _ _ w j ⟨j, acc, ua, uc, rfl, hS, hj, ha, rfl⟩
  refine WC.seq <| WC.seq <| WC.region <| WL.r 4 rfl <| WL.nil <| WC.ifP rfl (fun cd1 => ?_) (fun cd1 => ?_)
  · refine WC.skip ?_
    as_aux_lemma =>
    refine WC.seq <| WC.block <| WC.region <| WL.r 3 rfl ?_
    obtain ⟨e, he⟩ : ∃ e, R[j]? = some e := ⟨_, List.getElem?_eq_getElem (by omega)⟩; have hal : acc.length = j := (by rw [ha]; unfold losK; rw [List.length_map, List.length_take]; omega); have hae := en2_len acc
    refine WL.ix rfl rfl (i := (j : Int)) (j) el_98 rfl rfl (by omega) (by omega) (hS.rdS 1 rfl (en2_at he)).1 ?_
    refine WL.run 2 [.int .i64 e.1] rfl (by exact (hS.rdS 1 rfl (en2_at he)).2 0 _ rfl) ?_
    refine WL.build rfl rfl (cs := [.int .i64 e.1, .int .i64 0]) zv_121 rfl rfl <| WL.lit rfl rfl (en2 [(e.1, 0)]) el_49 hS (by exact ⟨rfl, rfl⟩) (en2_ok _) rfl (Nat.le_of_ble_eq_true rfl) (fun b1 w hS => ?_)
    refine WL.app rfl rfl 1 (en2 (acc ++ [(e.1, 0)])) el_49 hS rfl (hS.srcO 0 rfl) (en2_app _ _).symm (Rm.of (by first | omega | (simp <;> omega)) (by decide)) rfl rfl (fun a1 c1 w hS => ?_)
    replace hS := hS.n3 L (a0 := Own 121 2 (en2 [(e.1, 0)]) (some ⟨b1, 0, none⟩) (List.length (en2 [(e.1, 0)]))) (a1 := Own 121 2 (en2 (acc ++ [(e.1, 0)])) a1 c1) rfl
    refine WL.r 1 rfl <| WL.nil <| WC.region <| WL.r 2 rfl <| WL.nw 10 rfl (w64 (by omega)) ?_
    refine WL.r 1 rfl <| WL.nil ?_
    exact ⟨_, by omega, j + 1, acc ++ [(e.1, 0)], _, _, rfl, (hS.sel 1 [] rfl), (by omega), (by rw [ha]; unfold losK; rw [List.take_add_one, he, List.map_append]; rfl), rfl⟩
  · refine WC.exit ?_
    as_aux_lemma =>
    refine WC.seq <| WC.region <| WL.r 2 rfl <| WL.nil <| WC.ret ?_
    refine ⟨[.slice ua (List.length (en2 acc)) uc], rfl, ?_⟩
    have e9 : j = R.length := (by omega); subst e9; rw [List.take_length] at ha; subst ha; exact ⟨_, _, rfl, hS⟩
theorem mea_lt {R : Kvs} {hi h2 : Int} {gr g2 : Bool} (h : gr = true) (hg : (g2 = false ∧ h2 = hi ∧ ∀ s ∈ R, s.1 ≤ h2 + 1 → s.2 ≤ h2) ∨ (g2 = true ∧ hi < h2 ∧ fur R h2 < fur R hi)) : 2 * fur R h2 + (if g2 = true then 1 else 0) < 2 * fur R hi + (if gr = true then 1 else 0) := by
  rw [if_pos h]
  rcases hg with ⟨h1, h3, _⟩ | ⟨h1, _, h3⟩
  · rw [h1, h3, if_neg (by decide)]; omega
  · rw [h1, if_pos rfl]; omega
theorem grow_no {R : Kvs} {k : Nat} {e : Int × Int} {h2 : Int} (he : R[k]? = some e) (h : ∀ s ∈ R.take k, s.1 ≤ h2 + 1 → s.2 ≤ h2) (h1 : e.1 ≤ h2 + 1 → e.2 ≤ h2) : ∀ s ∈ R.take (k + 1), s.1 ≤ h2 + 1 → s.2 ≤ h2 := fun s hs => by
  rw [List.take_add_one, he] at hs
  rcases List.mem_append.1 hs with hs | hs
  · exact h s hs
  · have hs2 : s ∈ [e] := hs
    rw [List.mem_singleton.1 hs2]; exact h1
theorem grow_cov {R : Kvs} {k : Nat} {e : Int × Int} {lo h2 : Int} (he : R[k]? = some e) (hc : ∀ x, lo ≤ x → x ≤ h2 → inS x R) (h1 : e.1 ≤ h2 + 1) : ∀ x, lo ≤ x → x ≤ e.2 → inS x R := fun x h3 h4 => by
  by_cases h : x ≤ h2
  · exact hc x h3 h
  · exact ⟨e, List.mem_of_getElem? he, by omega, h4⟩
theorem stop_cov {R : Kvs} {hi : Int} (h : ∀ s ∈ R, s.1 ≤ hi + 1 → s.2 ≤ hi) : ¬ inS (hi + 1) R := fun ⟨s, hs, h1, h2⟩ => by have := h s hs h1; omega
structure GwI (R : Kvs) (lo h2 : Int) (k : Nat) (h3 : Int) (g3 : Bool) : Prop where
  le : lo ≤ h3
  rng : i64R h3
  cov : ∀ x, lo ≤ x → x ≤ h3 → inS x R
  st : (g3 = false ∧ h3 = h2 ∧ ∀ s ∈ R.take k, s.1 ≤ h3 + 1 → s.2 ≤ h3) ∨ (g3 = true ∧ h2 < h3 ∧ fur R h3 < fur R h2)
theorem GwI.grow {R : Kvs} {lo h2 h3 : Int} {k : Nat} {g3 : Bool} {e : Int × Int} (h : GwI R lo h2 k h3 g3) (he : R[k]? = some e) (hr : i64R e.2) (h1 : e.1 ≤ h3 + 1) (h4 : h3 < e.2) : GwI R lo h2 (k + 1) e.2 true := by
  have hl := h.le
  have hf := fur_lt (List.mem_of_getElem? he) h4
  refine ⟨by omega, hr, grow_cov he h.cov h1, .inr ⟨rfl, ?_⟩⟩
  rcases h.st with ⟨_, h5, _⟩ | ⟨_, h5, h6⟩
  · subst h5; exact ⟨h4, hf⟩
  · exact ⟨by omega, by omega⟩
theorem GwI.stay {R : Kvs} {lo h2 h3 : Int} {k : Nat} {g3 : Bool} {e : Int × Int} (h : GwI R lo h2 k h3 g3) (he : R[k]? = some e) (h1 : e.1 ≤ h3 + 1 → e.2 ≤ h3) : GwI R lo h2 (k + 1) h3 g3 := by
  refine ⟨h.le, h.rng, h.cov, ?_⟩
  rcases h.st with ⟨h4, h5, h6⟩ | h5
  · exact .inl ⟨h4, h5, grow_no he h6 h1⟩
  · exact .inr h5
theorem GwI.full {R : Kvs} {lo h2 h3 : Int} {k : Nat} {g3 : Bool} (h : GwI R lo h2 k h3 g3) (hk : R.length ≤ k) : (g3 = false ∧ h3 = h2 ∧ ∀ s ∈ R, s.1 ≤ h3 + 1 → s.2 ≤ h3) ∨ (g3 = true ∧ h2 < h3 ∧ fur R h3 < fur R h2) := by
  have := h.st
  rwa [List.take_of_length_le hk] at this
theorem GwI.stop {R : Kvs} {lo h2 h3 : Int} {k : Nat} {g3 : Bool} (h : GwI R lo h2 k h3 g3) (hk : R.length ≤ k) (hg : g3 = false) : ∀ s ∈ R, s.1 ≤ h3 + 1 → s.2 ≤ h3 := by
  rcases h.full hk with ⟨_, _, h1⟩ | ⟨h1, _⟩
  · exact h1
  · rw [hg] at h1; cases h1
theorem asc_at {st : List Int} (h : st.Pairwise (· < ·)) {i : Nat} {lo : Int} (hl : st[i]? = some lo) : ∀ z ∈ st.take i, z < lo := fun z hz => by
  obtain ⟨j, hj⟩ := List.mem_iff_getElem?.1 hz
  have h1 := (List.getElem?_eq_some_iff.1 hj).1
  rw [List.length_take] at h1
  rw [List.getElem?_take, if_pos (by omega)] at hj
  have h2 := (List.getElem?_eq_some_iff.1 hl).1
  have h3 := List.pairwise_iff_getElem.1 h j i (by omega) h2 (by omega)
  rw [(List.getElem?_eq_some_iff.1 hj).2, (List.getElem?_eq_some_iff.1 hl).2] at h3
  exact h3
theorem take_s {st : List Int} {i : Nat} {lo : Int} (hl : st[i]? = some lo) : st.take (i + 1) = st.take i ++ [lo] := by rw [List.take_add_one, hl]; rfl
theorem los_mem {R : Kvs} : ∀ s ∈ R, s.1 ∈ keys3 (losK R) [] [] := fun s hs => keys3_mem.2 (.inl ⟨(s.1, 0), List.mem_map.2 ⟨s, hs, rfl⟩, rfl⟩)
theorem los_in {R : Kvs} {z : Int} (h : z ∈ keys3 (losK R) [] []) : ∃ s ∈ R, s.1 = z := by
  rcases keys3_mem.1 h with ⟨x, hx, h⟩ | ⟨_, h, _⟩ | ⟨_, h, _⟩
  · obtain ⟨s, hs, rfl⟩ := List.mem_map.1 hx
    exact ⟨s, hs, h⟩
  · cases h
  · cases h
set_option maxHeartbeats 2000000 in
set_option maxRecDepth 8192 in
theorem r26_spans {g w : World} {L : List HP} (l R : Kvs) (W : List W3) (sa wa ra : Option Addr) (sc wc rc : Nat) (hr : R.length ≤ 1000) (hle : ∀ s ∈ R, s.1 ≤ s.2) (hR : SpR R) (hS : St g (Sh 106 2 (en2 R) ra rc :: L) w) :
    Sp Tryz.prog 39 [.agg #[.slice sa (List.length (en2 l)) sc, .slice wa (List.length (w3s W)) wc, .slice ra (List.length (en2 R)) rc, .bool false]] w (fun v w' => ∃ (a2 : Option Addr) (c2 : Nat), v = .slice a2 (List.length (en2 (rdL R))) c2 ∧ St g (Own 106 2 (en2 (rdL R)) a2 c2 :: Sh 106 2 (en2 R) ra rc :: L) w') := by
  refine Sp.enter Tryz.func39 rfl (by kernel_rfl) (by kernel_rfl) ?_
  have _ := hr
  refine WC.seq <| WC.region <| WL.box rfl rfl #[.slice sa (List.length (en2 l)) sc, .slice wa (List.length (w3s W)) wc, .slice ra (List.length (en2 R)) rc, .bool false] hS rfl rfl (fun b1 w hS => ?_)
  refine WL.r 1 rfl <| WL.nil <| WC.seq <| WC.region ?_
  have hrl := en2_len R; have hkl : (keys3 (losK R) [] []).length ≤ (losK R).length := (by have h9 := keys3_len (losK R) [] []; simp only [List.length_nil] at h9; omega); have hlk : (losK R).length = R.length := List.length_map ..; have hka := keys3_asc (losK R) [] []; have hil := i64s_len (keys3 (losK R) [] [])
  refine WL.r 1 rfl <| WL.nil <| WC.seq <| WC.seq <| WC.region <| WL.run 2 [.bool false] rfl (by exact hS.ld 0 rfl rfl) ?_
  refine WL.nil <| WC.ifF rfl rfl <| WC.skip <| WC.seq <| WC.region <| WL.run 2 [.slice ra (List.length (en2 R)) rc] rfl (by exact hS.ld 0 rfl rfl) ?_
  refine WL.call rfl rfl (r26_los  (hr := (by omega)) (hS := (hS.sel 2 [1, 0] rfl))) rfl ?_
  clear hS; rintro _ w ⟨a1, c1, rfl, hS⟩
  replace hS := hS.n3 L (a0 := Own 121 2 (en2 (losK R)) a1 c1) (a2 := cel b1 #[.slice sa (List.length (en2 l)) sc, .slice wa (List.length (w3s W)) wc, .slice ra (List.length (en2 R)) rc, .bool false] 100) rfl
  replace hS := (hS.at_ 0 rfl).share
  replace hS := hS.n3 L (a0 := Sh 121 2 (en2 (losK R)) a1 c1) rfl
  replace hS := hS.nilS 121 2
  replace hS := hS.n4 L (a0 := Sh 121 2 (en2 []) none 0) rfl
  replace hS := hS.nilS 121 2
  replace hS := hS.n5 L rfl
  refine WL.call rfl rfl (ref_keys (l := losK R) (m := []) (n := []) (hl := (by omega)) (hm := (by decide)) (hn := (by decide)) (hS := (hS.sel 3 [2, 1, 0] rfl))) rfl ?_
  clear hS; rintro _ w ⟨a2, c2, rfl, hS⟩
  replace hS := hS.n6 L (a0 := Own 2 1 (i64s (keys3 (losK R) [] [])) a2 c2) rfl
  refine WL.r 1 rfl <| WL.nil ?_
  as_aux_lemma =>
  refine WC.seq <| WC.seq <| WC.region <| WL.r 1 rfl <| WL.nil <| WC.block ?_
  replace hS := hS.nil_ 106 2
  refine WC.loop [1, 2, 3, 4, 5] (fun kM vs w => ∃ (i : Nat) (acc : Kvs) (u : Option Addr) (d : Nat), vs = [.pointer (some ⟨b1, 0, none⟩), .slice none 0 0, .slice u (List.length (en2 acc)) d, .slice a2 (List.length (i64s (keys3 (losK R) [] []))) c2, .int .i64 (i : Int)] ∧ St g (Own 106 2 (en2 acc) u d :: Own 2 1 (i64s (keys3 (losK R) [] [])) a2 c2 :: Sh 121 2 (en2 (losK R)) a1 c1 :: Sh 121 2 (en2 []) none 0 :: Sh 121 2 (en2 []) none 0 :: Sh 106 2 (en2 R) ra rc :: cel b1 #[.slice sa (List.length (en2 l)) sc, .slice wa (List.length (w3s W)) wc, .slice ra (List.length (en2 R)) rc, .bool false] 100 :: L) w ∧ (i ≤ (keys3 (losK R) [] []).length) ∧ (SpI R ((keys3 (losK R) [] []).take i) acc) ∧ (acc.length ≤ i) ∧ ((keys3 (losK R) [] []).length - i) = kM) ((List.length (keys3 (losK R) [] [])) - 0) ⟨0, [], none, 0, rfl, hS, (Nat.zero_le _), (by rw [List.take_zero]; exact SpI.nil R), (Nat.zero_le _), rfl⟩ ?_
  clear hS; rintro _ _ w j ⟨i, acc, u, d, rfl, hS, hi9, hI, hal, rfl⟩
  refine WC.seq <| WC.seq <| WC.region <| WL.r 4 rfl <| WL.nil <| WC.ifP rfl (fun cd1 => ?_) (fun cd1 => ?_)
  · refine WC.skip <| WC.seq <| WC.block <| WC.seq <| WC.region <| WL.r 2 rfl ?_
    obtain ⟨lo, hlo⟩ : ∃ x, (keys3 (losK R) [] [])[i]? = some x := ⟨_, List.getElem?_eq_getElem (by omega)⟩; obtain ⟨s0, hs0, hs1⟩ := los_in (List.mem_of_getElem? hlo); have hs2 := hle s0 hs0; have hs3 := hR s0 hs0; unfold i64R at hs3; have hae := en2_len acc
    refine WL.ix rfl rfl (i := (i : Int)) (i) el_208 rfl rfl (by omega) (by omega) (hS.rdO 1 rfl (i64s_at hlo)).1 ?_
    refine WL.run 2 [.int .i64 lo] rfl (by exact (hS.rdO 1 rfl (i64s_at hlo)).2 0 _ rfl) ?_
    refine WL.nil ?_
    as_aux_lemma =>
    refine WC.seq <| WC.seq <| WC.cut [1, 2, 3, 4, 5, 6, 17, 18, 19, 20, 23, 24, 25, 26, 34] (fun vs w => ∃ (c : Bool), vs = [.pointer (some ⟨b1, 0, none⟩), .slice none 0 0, .slice u (List.length (en2 acc)) d, .slice a2 (List.length (i64s (keys3 (losK R) [] []))) c2, .int .i64 (i : Int), .int .i64 lo, .int .i64 (i : Int), .slice a2 (List.length (i64s (keys3 (losK R) [] []))) c2, .int .i64 (List.length (i64s (keys3 (losK R) [] [])) : Int), .bool (decide ((i : Int) < (List.length (i64s (keys3 (losK R) [] [])) : Int))), .slice a2 (List.length (i64s (keys3 (losK R) [] []))) c2, .int .i64 (i : Int), .pointer (some ⟨bo a2, (oo a2) + (i * 1), none⟩), .int .i64 lo, .bool c] ∧ St g (Own 106 2 (en2 acc) u d :: Own 2 1 (i64s (keys3 (losK R) [] [])) a2 c2 :: Sh 121 2 (en2 (losK R)) a1 c1 :: Sh 121 2 (en2 []) none 0 :: Sh 121 2 (en2 []) none 0 :: Sh 106 2 (en2 R) ra rc :: cel b1 #[.slice sa (List.length (en2 l)) sc, .slice wa (List.length (w3s W)) wc, .slice ra (List.length (en2 R)) rc, .bool false] 100 :: L) w ∧ (c = true ↔ inS (lo - 1) R)) ?_ ?_
    · refine WC.region <| WL.r 3 rfl ?_
      by_cases cg1 : (-9223372036854775808) < lo
      · refine WL.reb 29 (.bool true) (congrArg Value.bool (decide_eq_true cg1)) <| WL.ung rfl rfl rfl <| WL.ldF rfl rfl 6 hS rfl rfl ag_100 <| WL.ung rfl rfl rfl <| WL.r 1 rfl <| WL.ung rfl rfl rfl <| WL.r 1 rfl <| WL.nw 32 rfl (w64 (by omega)) ?_
        refine WL.ung rfl rfl rfl <| WL.call rfl rfl (r26_cov (l := l) (W := W) (sa := sa) (wa := wa) (sc := sc) (wc := wc) (k := lo - 1) (hr := (by omega)) (hS := (hS.sel 6 [5, 0, 0, 0, 0, 0] rfl))) rfl ?_
        clear hS; rintro _ w ⟨b2, rfl, hS, f1⟩
        replace hS := hS.n7 L rfl
        refine WL.r 1 rfl <| WL.nil ?_
        exact ⟨b2, rfl, (hS.sel 6 [1, 1, 1, 1, 1, 0] rfl), (by assumption)⟩
      · refine WL.reb 29 (.bool false) (congrArg Value.bool (decide_eq_false cg1)) <| WL.skp rfl rfl rfl rfl <| WL.skp rfl rfl rfl rfl <| WL.skp rfl rfl rfl rfl <| WL.skp rfl rfl rfl rfl <| WL.r 1 rfl <| WL.nil ?_
        exact ⟨false, rfl, hS, (⟨fun h => (by cases h), fun h => (by obtain ⟨s9, hs9, h9, _⟩ := h; have h8 := (hR s9 hs9).1; unfold i64R at h8; omega)⟩)⟩
    clear hS; rintro _ w j ⟨c, rfl, hS, hc⟩
    refine WC.if_ rfl (fun hcc => ?_) (fun hcc => ?_)
    · refine WC.exit <| WC.region <| WL.r 2 rfl <| WL.nw 22 rfl (w64 (by omega)) ?_
      refine WL.r 1 rfl <| WL.nil ?_
      exact ⟨_, by omega, i + 1, acc, u, d, rfl, hS, (by omega), (by rw [take_s hlo]; exact hI.skip (hc.1 hcc)), (by omega), rfl⟩
    · refine WC.skip <| WC.seq <| WC.region <| WL.r 2 rfl <| WL.nil <| WC.seq <| WC.seq <| WC.region ?_
      have hlo9 : i64R lo := (by unfold i64R; omega)
      refine WL.r 1 rfl <| WL.nil <| WC.block <| WC.loop [1, 2, 3, 4, 5, 6, 7, 8, 17, 18, 19, 20, 23, 24, 25, 26, 34, 35] (fun kM vs w => ∃ (h2 : Int) (gr : Bool), vs = [.pointer (some ⟨b1, 0, none⟩), .slice none 0 0, .slice u (List.length (en2 acc)) d, .slice a2 (List.length (i64s (keys3 (losK R) [] []))) c2, .int .i64 (i : Int), .int .i64 lo, .int .i64 h2, .bool gr, .int .i64 (i : Int), .slice a2 (List.length (i64s (keys3 (losK R) [] []))) c2, .int .i64 (List.length (i64s (keys3 (losK R) [] [])) : Int), .bool (decide ((i : Int) < (List.length (i64s (keys3 (losK R) [] [])) : Int))), .slice a2 (List.length (i64s (keys3 (losK R) [] []))) c2, .int .i64 (i : Int), .pointer (some ⟨bo a2, (oo a2) + (i * 1), none⟩), .int .i64 lo, .bool c, .int .i64 lo] ∧ St g (Own 106 2 (en2 acc) u d :: Own 2 1 (i64s (keys3 (losK R) [] [])) a2 c2 :: Sh 121 2 (en2 (losK R)) a1 c1 :: Sh 121 2 (en2 []) none 0 :: Sh 121 2 (en2 []) none 0 :: Sh 106 2 (en2 R) ra rc :: cel b1 #[.slice sa (List.length (en2 l)) sc, .slice wa (List.length (w3s W)) wc, .slice ra (List.length (en2 R)) rc, .bool false] 100 :: L) w ∧ (lo ≤ h2) ∧ (i64R h2) ∧ (∀ x, lo ≤ x → x ≤ h2 → inS x R) ∧ (gr = false → ∀ s ∈ R, s.1 ≤ h2 + 1 → s.2 ≤ h2) ∧ (2 * fur R h2 + (if gr = true then 1 else 0)) = kM) (2 * fur R lo + (if true = true then 1 else 0)) ⟨lo, true, rfl, hS, (Int.le_refl _), (hlo9), (fun x h1 h2 => ⟨s0, hs0, by omega, by have := hle s0 hs0; omega⟩), (fun h => by cases h), rfl⟩ ?_
      clear hS; rintro _ _ w j ⟨h2, gr, rfl, hS, hle2, hr2, hcv, hsp, rfl⟩
      refine WC.seq <| WC.seq <| WC.region ?_
      have hlo9 : i64R lo := (by unfold i64R; omega)
      refine WL.r 1 rfl <| WL.nil ?_
      as_aux_lemma =>
      refine WC.if_ rfl (fun hgr => ?_) (fun hgr => ?_)
      · refine WC.skip <| WC.block <| WC.seq <| WC.region <| WL.r 1 rfl <| WL.nil <| WC.seq <| WC.region <| WL.r 1 rfl <| WL.nil <| WC.block <| WC.loop [1, 2, 3, 4, 5, 6, 7, 8, 9, 17, 18, 19, 20, 23, 24, 25, 26, 34, 35, 36] (fun kM vs w => ∃ (k : Nat) (h3 : Int) (g3 : Bool), vs = [.pointer (some ⟨b1, 0, none⟩), .slice none 0 0, .slice u (List.length (en2 acc)) d, .slice a2 (List.length (i64s (keys3 (losK R) [] []))) c2, .int .i64 (i : Int), .int .i64 lo, .int .i64 h3, .bool g3, .int .i64 (k : Int), .int .i64 (i : Int), .slice a2 (List.length (i64s (keys3 (losK R) [] []))) c2, .int .i64 (List.length (i64s (keys3 (losK R) [] [])) : Int), .bool (decide ((i : Int) < (List.length (i64s (keys3 (losK R) [] [])) : Int))), .slice a2 (List.length (i64s (keys3 (losK R) [] []))) c2, .int .i64 (i : Int), .pointer (some ⟨bo a2, (oo a2) + (i * 1), none⟩), .int .i64 lo, .bool c, .int .i64 lo, .bool gr] ∧ St g (Own 106 2 (en2 acc) u d :: Own 2 1 (i64s (keys3 (losK R) [] [])) a2 c2 :: Sh 121 2 (en2 (losK R)) a1 c1 :: Sh 121 2 (en2 []) none 0 :: Sh 121 2 (en2 []) none 0 :: Sh 106 2 (en2 R) ra rc :: cel b1 #[.slice sa (List.length (en2 l)) sc, .slice wa (List.length (w3s W)) wc, .slice ra (List.length (en2 R)) rc, .bool false] 100 :: L) w ∧ (k ≤ R.length) ∧ (GwI R lo h2 k h3 g3) ∧ (R.length - k) = kM) ((List.length R) - 0) ⟨0, h2, false, rfl, hS, (Nat.zero_le _), (⟨hle2, hr2, hcv, .inl ⟨rfl, rfl, fun s hs => (by simp at hs)⟩⟩), rfl⟩ ?_
        clear hS; rintro _ _ w j ⟨k, h3, g3, rfl, hS, hk, hG, rfl⟩
        refine WC.seq <| WC.seq <| WC.region <| WL.run 5 [.slice ra (List.length (en2 R)) rc] rfl (by exact hS.ld 6 rfl rfl) ?_
        refine WL.nil <| WC.ifP rfl (fun cd2 => ?_) (fun cd2 => ?_)
        · refine WC.skip <| WC.seq <| WC.block <| WC.seq <| WC.region <| WL.run 3 [.slice ra (List.length (en2 R)) rc] rfl (by exact hS.ld 6 rfl rfl) ?_
          obtain ⟨e, he⟩ : ∃ e, R[k]? = some e := ⟨_, List.getElem?_eq_getElem (by omega)⟩; have hre := hR e (List.mem_of_getElem? he); have hgl := hG.le; have hgr9 := hG.rng; unfold i64R at hre hgr9
          refine WL.ix rfl rfl (i := (k : Int)) (k) el_98 rfl rfl (by omega) (by omega) (hS.rdS 5 rfl (en2_at he)).1 ?_
          refine WL.run 5 [.int .i64 e.1] rfl (by exact (hS.rdS 5 rfl (en2_at he)).2 0 _ rfl) ?_
          by_cases cg1 : e.1 ≤ h3
          · refine WL.reb 52 (.bool true) (congrArg Value.bool (decide_eq_true cg1)) <| WL.skp rfl rfl rfl rfl <| WL.skp rfl rfl rfl rfl <| WL.skp rfl rfl rfl rfl <| WL.skp rfl rfl rfl rfl <| WL.skp rfl rfl rfl rfl <| WL.skp rfl rfl rfl rfl <| WL.skp rfl rfl rfl rfl <| WL.skp rfl rfl rfl rfl <| WL.skp rfl rfl rfl rfl <| WL.r 1 rfl <| WL.nil ?_
            as_aux_lemma =>
            refine WC.ifT rfl rfl <| WC.seq <| WC.region <| WL.run 3 [.slice ra (List.length (en2 R)) rc] rfl (by exact hS.ld 6 rfl rfl) ?_
            refine WL.ix rfl rfl (i := (k : Int)) (k) el_98 rfl rfl (by omega) (by omega) (hS.rdS 5 rfl (en2_at he)).1 ?_
            refine WL.run 5 [.int .i64 e.2] rfl (by exact (hS.rdS 5 rfl (en2_at he)).2 1 _ rfl) ?_
            by_cases cg2 : h3 < e.2
            · refine WL.reb 71 (.bool true) (congrArg Value.bool (decide_eq_true cg2)) <| WL.ung rfl rfl rfl <| WL.r 1 rfl <| WL.ung rfl rfl rfl <| WL.run 1 [.slice ra (List.length (en2 R)) rc] rfl (by exact hS.ld 6 rfl rfl) ?_
              refine WL.ung rfl rfl rfl <| WL.r 1 rfl <| WL.ung rfl rfl rfl <| WL.ix rfl rfl (i := (k : Int)) (k) el_98 rfl rfl (by omega) (by omega) (hS.rdS 5 rfl (en2_at he)).1 ?_
              refine WL.ung rfl rfl rfl <| WL.r 1 rfl <| WL.ung rfl rfl rfl <| WL.run 1 [.int .i64 e.2] rfl (by exact (hS.rdS 5 rfl (en2_at he)).2 1 _ rfl) ?_
              refine WL.ung rfl rfl rfl <| WL.r 1 rfl <| WL.ung rfl rfl rfl <| WL.r 2 rfl <| WL.nil ?_
              as_aux_lemma =>
              refine WC.ifP rfl (fun cd3 => ?_) (fun cd3 => ?_)
              · refine WC.region <| WL.run 3 [.slice ra (List.length (en2 R)) rc] rfl (by exact hS.ld 6 rfl rfl) ?_
                refine WL.ix rfl rfl (i := (k : Int)) (k) el_98 rfl rfl (by omega) (by omega) (hS.rdS 5 rfl (en2_at he)).1 ?_
                refine WL.run 4 [.int .i64 e.2] rfl (by exact (hS.rdS 5 rfl (en2_at he)).2 1 _ rfl) ?_
                refine WL.nil <| WC.region <| WL.r 2 rfl <| WL.nw 43 rfl (w64 (by omega)) ?_
                refine WL.r 1 rfl <| WL.nil ?_
                exact ⟨_, by omega, k + 1, e.2, true, rfl, hS, (by omega), (hG.grow he hre.2 (by omega) (by omega)), rfl⟩
              · refine WC.skip <| WC.region <| WL.r 2 rfl <| WL.nw 43 rfl (w64 (by omega)) ?_
                refine WL.r 1 rfl <| WL.nil ?_
                exact ⟨_, by omega, k + 1, h3, g3, rfl, hS, (by omega), (hG.stay he (by omega)), rfl⟩
            · refine WL.reb 71 (.bool false) (congrArg Value.bool (decide_eq_false cg2)) <| WL.skp rfl rfl rfl rfl <| WL.skp rfl rfl rfl rfl <| WL.skp rfl rfl rfl rfl <| WL.skp rfl rfl rfl rfl <| WL.skp rfl rfl rfl rfl <| WL.skp rfl rfl rfl rfl <| WL.skp rfl rfl rfl rfl <| WL.skp rfl rfl rfl rfl <| WL.r 1 rfl <| WL.nil <| WC.ifF rfl rfl ?_
              refine WC.skip <| WC.region <| WL.r 2 rfl <| WL.nw 43 rfl (w64 (by omega)) ?_
              refine WL.r 1 rfl <| WL.nil ?_
              exact ⟨_, by omega, k + 1, h3, g3, rfl, hS, (by omega), (hG.stay he (by omega)), rfl⟩
          · refine WL.reb 52 (.bool false) (congrArg Value.bool (decide_eq_false cg1)) <| WL.ung rfl rfl rfl <| WL.r 1 rfl <| WL.ung rfl rfl rfl <| WL.run 1 [.slice ra (List.length (en2 R)) rc] rfl (by exact hS.ld 6 rfl rfl) ?_
            refine WL.ung rfl rfl rfl <| WL.r 1 rfl <| WL.ung rfl rfl rfl <| WL.ix rfl rfl (i := (k : Int)) (k) el_98 rfl rfl (by omega) (by omega) (hS.rdS 5 rfl (en2_at he)).1 ?_
            refine WL.ung rfl rfl rfl <| WL.r 1 rfl <| WL.ung rfl rfl rfl <| WL.run 1 [.int .i64 e.1] rfl (by exact (hS.rdS 5 rfl (en2_at he)).2 0 _ rfl) ?_
            refine WL.ung rfl rfl rfl <| WL.r 1 rfl <| WL.nw 59 rfl (w64 (by omega)) ?_
            refine WL.ung rfl rfl rfl <| WL.r 1 rfl <| WL.ung rfl rfl rfl <| WL.r 2 rfl <| WL.nil ?_
            as_aux_lemma =>
            refine WC.ifP rfl (fun cd3 => ?_) (fun cd3 => ?_)
            · refine WC.seq <| WC.region <| WL.run 3 [.slice ra (List.length (en2 R)) rc] rfl (by exact hS.ld 6 rfl rfl) ?_
              refine WL.ix rfl rfl (i := (k : Int)) (k) el_98 rfl rfl (by omega) (by omega) (hS.rdS 5 rfl (en2_at he)).1 ?_
              refine WL.run 5 [.int .i64 e.2] rfl (by exact (hS.rdS 5 rfl (en2_at he)).2 1 _ rfl) ?_
              by_cases cg2 : h3 < e.2
              · refine WL.reb 71 (.bool true) (congrArg Value.bool (decide_eq_true cg2)) <| WL.ung rfl rfl rfl <| WL.r 1 rfl <| WL.ung rfl rfl rfl <| WL.run 1 [.slice ra (List.length (en2 R)) rc] rfl (by exact hS.ld 6 rfl rfl) ?_
                refine WL.ung rfl rfl rfl <| WL.r 1 rfl <| WL.ung rfl rfl rfl <| WL.ix rfl rfl (i := (k : Int)) (k) el_98 rfl rfl (by omega) (by omega) (hS.rdS 5 rfl (en2_at he)).1 ?_
                refine WL.ung rfl rfl rfl <| WL.r 1 rfl <| WL.ung rfl rfl rfl <| WL.run 1 [.int .i64 e.2] rfl (by exact (hS.rdS 5 rfl (en2_at he)).2 1 _ rfl) ?_
                refine WL.ung rfl rfl rfl <| WL.r 1 rfl <| WL.ung rfl rfl rfl <| WL.r 2 rfl <| WL.nil ?_
                as_aux_lemma =>
                refine WC.ifP rfl (fun cd4 => ?_) (fun cd4 => ?_)
                · refine WC.region <| WL.run 3 [.slice ra (List.length (en2 R)) rc] rfl (by exact hS.ld 6 rfl rfl) ?_
                  refine WL.ix rfl rfl (i := (k : Int)) (k) el_98 rfl rfl (by omega) (by omega) (hS.rdS 5 rfl (en2_at he)).1 ?_
                  refine WL.run 4 [.int .i64 e.2] rfl (by exact (hS.rdS 5 rfl (en2_at he)).2 1 _ rfl) ?_
                  refine WL.nil <| WC.region <| WL.r 2 rfl <| WL.nw 43 rfl (w64 (by omega)) ?_
                  refine WL.r 1 rfl <| WL.nil ?_
                  exact ⟨_, by omega, k + 1, e.2, true, rfl, hS, (by omega), (hG.grow he hre.2 (by omega) (by omega)), rfl⟩
                · refine WC.skip <| WC.region <| WL.r 2 rfl <| WL.nw 43 rfl (w64 (by omega)) ?_
                  refine WL.r 1 rfl <| WL.nil ?_
                  exact ⟨_, by omega, k + 1, h3, g3, rfl, hS, (by omega), (hG.stay he (by omega)), rfl⟩
              · refine WL.reb 71 (.bool false) (congrArg Value.bool (decide_eq_false cg2)) <| WL.skp rfl rfl rfl rfl <| WL.skp rfl rfl rfl rfl <| WL.skp rfl rfl rfl rfl <| WL.skp rfl rfl rfl rfl <| WL.skp rfl rfl rfl rfl <| WL.skp rfl rfl rfl rfl <| WL.skp rfl rfl rfl rfl <| WL.skp rfl rfl rfl rfl <| WL.r 1 rfl <| WL.nil <| WC.ifF rfl rfl ?_
                refine WC.skip <| WC.region <| WL.r 2 rfl <| WL.nw 43 rfl (w64 (by omega)) ?_
                refine WL.r 1 rfl <| WL.nil ?_
                exact ⟨_, by omega, k + 1, h3, g3, rfl, hS, (by omega), (hG.stay he (by omega)), rfl⟩
            · refine WC.skip <| WC.region <| WL.r 2 rfl <| WL.nw 43 rfl (w64 (by omega)) ?_
              refine WL.r 1 rfl <| WL.nil ?_
              exact ⟨_, by omega, k + 1, h3, g3, rfl, hS, (by omega), (hG.stay he (by omega)), rfl⟩
        · refine WC.exit ?_
          exact ⟨_, (mea_lt hgr (hG.full (by omega))), h3, g3, rfl, hS, (hG.le), (hG.rng), (hG.cov), (hG.stop (by omega)), rfl⟩
      · refine WC.exit <| WC.region ?_
        have hae4 := en2_len acc
        refine WL.r 3 rfl <| WL.build rfl rfl (cs := [.int .i64 lo, .int .i64 h2]) zv_106 rfl rfl <| WL.lit rfl rfl (en2 [(lo, h2)]) el_98 hS (by exact ⟨rfl, rfl⟩) (en2_ok _) rfl (Nat.le_of_ble_eq_true rfl) (fun b2 w hS => ?_)
        refine WL.app rfl rfl 1 (en2 (acc ++ [(lo, h2)])) el_98 hS rfl (hS.srcO 0 rfl) (en2_app _ _).symm (Rm.of (by first | omega | (simp <;> omega)) (by decide)) rfl rfl (fun a3 c3 w hS => ?_)
        replace hS := hS.n8 L (a0 := Own 106 2 (en2 [(lo, h2)]) (some ⟨b2, 0, none⟩) (List.length (en2 [(lo, h2)]))) (a1 := Own 106 2 (en2 (acc ++ [(lo, h2)])) a3 c3) rfl
        refine WL.r 1 rfl <| WL.nil <| WC.region <| WL.r 2 rfl <| WL.nw 22 rfl (w64 (by omega)) ?_
        refine WL.r 1 rfl <| WL.nil ?_
        exact ⟨_, by omega, i + 1, acc ++ [(lo, h2)], _, _, rfl, (hS.sel 1 [] rfl), (by omega), (by rw [take_s hlo]; exact hI.put (asc_at hka hlo) hle2 hcv (stop_cov (hsp hgr)) (fun h => by rw [hc.2 h] at hcc; cases hcc)), (by rw [List.length_append]; simp only [List.length_singleton]; omega), rfl⟩
  · refine WC.exit <| WC.seq <| WC.region <| WL.r 2 rfl <| WL.nil <| WC.ret ?_
    refine ⟨[.slice u (List.length (en2 acc)) d], rfl, ?_⟩
    replace hS := (hS.sel 7 [0, 4] rfl)
    have e9 : i = (keys3 (losK R) [] []).length := (by omega); subst e9; rw [List.take_length] at hI; have e8 := hI.eq (b := -9223372036854775808) (fun s hs => (hR s hs).1.1) los_mem; subst e8; exact ⟨_, _, rfl, hS⟩
end Go.Proofs.YtbeacjcmdijdmaaGreat
/-! ## Tx3 -/
namespace Go.Proofs.YtbeacjcmdijdmaaGreat
open Go Go.V Go.RowKit Go.Maps
theorem rd1 {s : RdS} {x : Int × Int} (h : x.2 + 1 < s.lo) : rdStep s x = ⟨s.lo, s.hi, s.less ++ [x], s.gr⟩ := if_pos h
theorem rd2 {s : RdS} {x : Int × Int} (h : ¬ x.2 + 1 < s.lo) (h2 : s.hi < x.1 - 1) : rdStep s x = ⟨s.lo, s.hi, s.less, s.gr ++ [x]⟩ := by
  unfold rdStep; rw [if_neg h, if_pos h2]
theorem rd3 {s : RdS} {x : Int × Int} (h : ¬ x.2 + 1 < s.lo) (h2 : ¬ s.hi < x.1 - 1) : rdStep s x = ⟨min s.lo x.1, max s.hi x.2, s.less, s.gr⟩ := by
  unfold rdStep; rw [if_neg h, if_neg h2]
theorem lt1 {z lo : Int} (hz : i64R z) (hl : i64R lo) : (bif decide (z < lo) then decide (IntKind.i64.wrap (z + 1) < lo) else false) = decide (z + 1 < lo) := by
  unfold i64R at hz hl
  by_cases h : z < lo
  · rw [decide_eq_true h, w64 (z := z + 1) (by omega)]; rfl
  · rw [decide_eq_false h, decide_eq_false (show ¬ z + 1 < lo by omega)]; rfl
theorem gt1 {z hi : Int} (hz : i64R z) (hl : i64R hi) : (bif decide (hi < z) then decide (hi < IntKind.i64.wrap (z - 1)) else false) = decide (hi < z - 1) := by
  unfold i64R at hz hl
  by_cases h : hi < z
  · rw [decide_eq_true h, w64 (z := z - 1) (by omega)]; rfl
  · rw [decide_eq_false h, decide_eq_false (show ¬ hi < z - 1 by omega)]; rfl
set_option maxRecDepth 8192 in
theorem tx_read {g w : World} {L : List HP} (x a : Nat) (rt : Int) (xs : List WE) (q : Nat) (S : Kvs) (lo hi : Int) (hlo : i64R lo) (hhi : i64R hi) (hR : SpR S) (hSl : S.length ≤ 100000) (hS : St g (Tx x a rt xs q S :: L) w) :
    Sp Tryz.prog 163 [.pointer (some ⟨x, 0, none⟩), .int .i64 lo, .int .i64 hi] w (fun v w' => v = .tuple #[] ∧ St g (Tx x a rt xs q (rdF lo hi S) :: L) w') := by
  refine Sp.enter Tryz.func163 rfl (by kernel_rfl) (by kernel_rfl) ?_
  have _ := hSl
  refine WC.seq <| WC.region ?_
  obtain ⟨⟨xm, xu, xc⟩, hS⟩ := St.exOpen (f := txF x a rt xs q S) hS
  replace hS : St g (cel x #[.pointer (some ⟨a, 0, none⟩), .int .u32 rt, .bool false, .map (some xm), .slice xu (List.length (en2 S)) xc] 188 :: blk xm (.map (mE (List.map wK xs)) q) :: Own 106 2 (en2 S) xu xc :: L) w := hS
  have hll := en2_len S
  refine WL.r 2 rfl <| WL.nil <| WC.seq <| WC.seq <| WC.region <| WL.run 6 [.slice xu (List.length (en2 S)) xc] rfl (by exact hS.ld 0 rfl rfl) ?_
  refine WL.nil <| WC.block ?_
  replace hS := hS.nil_ 106 2
  replace hS := hS.nil_ 106 2
  refine WC.loop [0, 1, 2, 6, 7, 13, 14, 15] (fun kM vs w => ∃ (k : Nat) (r : RdS) (u1 : Option Addr) (d1 : Nat) (u2 : Option Addr) (d2 : Nat), vs = [.pointer (some ⟨x, 0, none⟩), .int .i64 r.lo, .int .i64 r.hi, .slice u1 (List.length (en2 r.less)) d1, .slice u2 (List.length (en2 r.gr)) d2, .slice xu (List.length (en2 S)) xc, .int .i64 (List.length (en2 S) : Int), .int .i64 (k : Int)] ∧ St g (Own 106 2 (en2 r.less) u1 d1 :: Own 106 2 (en2 r.gr) u2 d2 :: cel x #[.pointer (some ⟨a, 0, none⟩), .int .u32 rt, .bool false, .map (some xm), .slice xu (List.length (en2 S)) xc] 188 :: blk xm (.map (mE (List.map wK xs)) q) :: Own 106 2 (en2 S) xu xc :: L) w ∧ (k ≤ S.length) ∧ (r = rdAll lo hi (S.take k)) ∧ (S.length - k) = kM) ((List.length S) - 0) ⟨0, ⟨lo, hi, [], []⟩, none, 0, none, 0, rfl, hS, (Nat.zero_le _), (rfl), rfl⟩ ?_
  clear hS; rintro _ _ w j ⟨k, r, u1, d1, u2, d2, rfl, hS, hk, hr, rfl⟩
  refine WC.seq <| WC.region <| WL.r 1 rfl <| WL.nil <| WC.seq <| WC.ifP rfl (fun cd1 => ?_) (fun cd1 => ?_)
  · refine WC.skip ?_
    as_aux_lemma =>
    refine WC.seq <| WC.block <| WC.seq <| WC.region ?_
    obtain ⟨e, he⟩ : ∃ e, S[k]? = some e := ⟨_, List.getElem?_eq_getElem (by omega)⟩; obtain ⟨r1, r2, _, _⟩ := rdAll_R (lo := lo) (hi := hi) ⟨hlo, hhi⟩ hR k; rw [← hr] at r1 r2; have hre := hR e (List.mem_of_getElem? he); have hln := rdAll_len lo hi S k; rw [← hr] at hln; have hl1 := en2_len r.less; have hl2 := en2_len r.gr
    refine WL.ix rfl rfl (i := (k : Int)) (k) el_98 rfl rfl (by omega) (by omega) (hS.rdO 4 rfl (en2_at he)).1 ?_
    refine WL.ldC rfl rfl [.int .i64 e.1, .int .i64 e.2] ag_106 rfl (hS.rdO 4 rfl (en2_at he)).2 <| WL.new rfl rfl zv_106 hS (fun b1 w hS => ?_)
    refine WL.stF rfl rfl rfl 0 hS rfl rfl rfl rfl rfl ag_106 (fun w hS => ?_)
    replace hS := hS.n6 L (a0 := cel b1 #[.int .i64 e.1, .int .i64 e.2] 106) rfl
    refine WL.nil <| WC.block <| WC.seq <| WC.region <| WL.run 4 [.int .i64 e.2] rfl (by exact hS.ld 0 rfl rfl) ?_
    refine WL.runG 8 [.int .i64 e.2] rfl (by exact (fun _ => hS.ld 0 rfl rfl)) (fun j => ?_)
    refine WL.prop 38 rfl (band (dd _) (dd _)) <| WL.nil <| WC.if_ rfl (fun cd2 => ?_) (fun cd2 => ?_)
    · refine WC.region <| WL.r 1 rfl <| WL.ldF rfl rfl 0 hS rfl rfl ag_106 <| WL.lit rfl rfl (en2 [(e.1, e.2)]) el_98 hS (by exact ⟨rfl, rfl⟩) (en2_ok _) rfl (Nat.le_of_ble_eq_true rfl) (fun b2 w hS => ?_)
      refine WL.app rfl rfl 2 (en2 (r.less ++ [(e.1, e.2)])) el_98 hS rfl (hS.srcO 0 rfl) (en2_app _ _).symm (Rm.of (by first | omega | (simp <;> omega)) (by decide)) rfl rfl (fun a1 c1 w hS => ?_)
      replace hS := hS.n7 L (a0 := Own 106 2 (en2 [(e.1, e.2)]) (some ⟨b2, 0, none⟩) (List.length (en2 [(e.1, e.2)]))) (a2 := Own 106 2 (en2 (r.less ++ [(e.1, e.2)])) a1 c1) rfl
      refine WL.r 1 rfl <| WL.nil ?_
      as_aux_lemma =>
      refine WC.region <| WL.r 1 rfl <| WL.nw 59 rfl (w64 (by omega)) ?_
      refine WL.r 1 rfl <| WL.nil ?_
      exact ⟨_, by omega, k + 1, ⟨r.lo, r.hi, r.less ++ [e], r.gr⟩, a1, c1, u2, d2, rfl, (hS.sel 2 [] rfl), (by omega), (by rw [rdAll_snoc he, ← hr]; exact (rd1 (of_decide_eq_true ((lt1 hre.2 r1).symm.trans cd2))).symm), rfl⟩
    · refine WC.seq <| WC.region <| WL.run 4 [.int .i64 e.1] rfl (by exact hS.ld 0 rfl rfl) ?_
      refine WL.runG 8 [.int .i64 e.1] rfl (by exact (fun _ => hS.ld 0 rfl rfl)) (fun j => ?_)
      refine WL.prop 54 rfl (band (dd _) (dd _)) <| WL.nil ?_
      as_aux_lemma =>
      refine WC.if_ rfl (fun cd3 => ?_) (fun cd3 => ?_)
      · refine WC.region <| WL.r 1 rfl <| WL.ldF rfl rfl 0 hS rfl rfl ag_106 <| WL.lit rfl rfl (en2 [(e.1, e.2)]) el_98 hS (by exact ⟨rfl, rfl⟩) (en2_ok _) rfl (Nat.le_of_ble_eq_true rfl) (fun b2 w hS => ?_)
        refine WL.app rfl rfl 3 (en2 (r.gr ++ [(e.1, e.2)])) el_98 hS rfl (hS.srcO 0 rfl) (en2_app _ _).symm (Rm.of (by first | omega | (simp <;> omega)) (by decide)) rfl rfl (fun a1 c1 w hS => ?_)
        replace hS := hS.n7 L (a0 := Own 106 2 (en2 [(e.1, e.2)]) (some ⟨b2, 0, none⟩) (List.length (en2 [(e.1, e.2)]))) (a3 := Own 106 2 (en2 (r.gr ++ [(e.1, e.2)])) a1 c1) rfl
        refine WL.r 1 rfl <| WL.nil <| WC.region <| WL.r 1 rfl <| WL.nw 59 rfl (w64 (by omega)) ?_
        refine WL.r 1 rfl <| WL.nil ?_
        exact ⟨_, by omega, k + 1, ⟨r.lo, r.hi, r.less, r.gr ++ [e]⟩, u1, d1, a1, c1, rfl, (hS.sel 2 [] rfl), (by omega), (by rw [rdAll_snoc he, ← hr]; exact (rd2 (of_decide_eq_false ((lt1 hre.2 r1).symm.trans cd2)) (of_decide_eq_true ((gt1 hre.1 r2).symm.trans cd3))).symm), rfl⟩
      · refine WC.plan [([0, 1, 4, 5, 2, 6, 3, 7, 8, 9], none)] (by kernel_rfl) (by kernel_rfl) ?_
        refine WQ.run 10 [.int .i64 e.1, .int .i64 e.2] rfl (by exact ⟨hS.ld 0 rfl rfl, hS.ld 0 rfl rfl⟩) ?_
        refine WQ.nil ?_
        intro m1
        replace hS := hS.drewN m1; generalize hwm1 : World.drewN _ _ = w at *; clear hwm1
        refine WC.region <| WL.r 1 rfl <| WL.nw 59 rfl (w64 (by omega)) ?_
        refine WL.r 1 rfl <| WL.nil ?_
        exact ⟨_, by omega, k + 1, ⟨min r.lo e.1, max r.hi e.2, r.less, r.gr⟩, u1, d1, u2, d2, rfl, (hS.sel 1 [] rfl), (by omega), (by rw [rdAll_snoc he, ← hr]; exact (rd3 (of_decide_eq_false ((lt1 hre.2 r1).symm.trans cd2)) (of_decide_eq_false ((gt1 hre.1 r2).symm.trans cd3))).symm), rfl⟩
  · refine WC.exit ?_
    as_aux_lemma =>
    refine WC.region ?_
    have hle := rdAll_len lo hi S k; rw [← hr] at hle; have hl1 := en2_len r.less; have hl2 := en2_len r.gr; have e9 : r.less ++ [(r.lo, r.hi)] ++ r.gr = rdF lo hi S := (by rw [hr, List.take_of_length_le (by omega)]; rfl)
    refine WL.r 4 rfl <| WL.build rfl rfl (cs := [.int .i64 r.lo, .int .i64 r.hi]) zv_106 rfl rfl <| WL.lit rfl rfl (en2 [(r.lo, r.hi)]) el_98 hS (by exact ⟨rfl, rfl⟩) (en2_ok _) rfl (Nat.le_of_ble_eq_true rfl) (fun b1 w hS => ?_)
    refine WL.app rfl rfl 1 (en2 (r.less ++ [(r.lo, r.hi)])) el_98 hS rfl (hS.srcO 0 rfl) (en2_app _ _).symm (Rm.of (by first | omega | (simp <;> omega)) (by decide)) rfl rfl (fun a1 c1 w hS => ?_)
    replace hS := hS.n6 L (a0 := Own 106 2 (en2 [(r.lo, r.hi)]) (some ⟨b1, 0, none⟩) (List.length (en2 [(r.lo, r.hi)]))) (a1 := Own 106 2 (en2 (r.less ++ [(r.lo, r.hi)])) a1 c1) rfl
    refine WL.r 1 rfl <| WL.app rfl rfl 1 (en2 ((r.less ++ [(r.lo, r.hi)]) ++ r.gr)) el_98 hS rfl (hS.srcO 2 rfl) (en2_app _ _).symm (Rm.of (by first | omega | (simp <;> omega)) (by decide)) rfl rfl (fun a2 c2 w hS => ?_)
    replace hS := hS.n6 L (a1 := Own 106 2 (en2 ((r.less ++ [(r.lo, r.hi)]) ++ r.gr)) a2 c2) rfl
    refine WL.r 2 rfl <| WL.st rfl rfl rfl 3 hS rfl rfl rfl rfl rfl rfl (fun w hS => ?_)
    replace hS := hS.n6 L (a3 := cel x #[.pointer (some ⟨a, 0, none⟩), .int .u32 rt, .bool false, .map (some xm), .slice a2 (List.length (en2 ((r.less ++ [(r.lo, r.hi)]) ++ r.gr))) c2] 188) rfl
    refine WL.nil ?_
    replace hS := St.exClose (f := txF x a rt xs q (rdF lo hi S)) (L := Own 106 2 (en2 [(r.lo, r.hi)]) (some ⟨b1, 0, none⟩) (List.length (en2 [(r.lo, r.hi)])) :: Own 106 2 (en2 r.gr) u2 d2 :: Own 106 2 (en2 S) xu xc :: L) ⟨xm, a2, c2⟩ (by
      rw [e9] at hS
      exact (hS.sel 5 [3, 3, 1, 0, 0] rfl))
    replace hS := hS.n4 L (a0 := Tx x a rt xs q (rdF lo hi S)) rfl
    refine ⟨[], trivial, ?_⟩
    replace hS := (hS.sel 4 [0] rfl)
    exact ⟨rfl, hS⟩
set_option maxRecDepth 8192 in
theorem tx_get1 {g w : World} {L : List HP} (x a : Nat) (rt : Int) (xs : List WE) (q : Nat) (S : Kvs) (M : Wrs) (A : AM) (j : Nat) (e : WE) (k : Int) (hW : WOk xs q M) (he : xs[j]? = some e) (hek : e.k = k) (hS : St g (Tx x a rt xs q S :: Arn a A :: L) w) :
    Sp Tryz.prog 94 [.pointer (some ⟨x, 0, none⟩), .int .i64 k] w (fun v w' => v = .tuple #[.int .i64 e.v, .bool e.p, .int .i64 0] ∧ St g (Tx x a rt xs q S :: Arn a A :: L) w') := by
  refine Sp.enter Tryz.func94 rfl (by kernel_rfl) (by kernel_rfl) ?_
  refine WC.seq <| WC.region <| WL.r 3 rfl <| WL.nil <| WC.seq <| WC.seq <| WC.region ?_
  obtain ⟨⟨xm, xu, xc⟩, hS⟩ := St.exOpen (f := txF x a rt xs q S) hS
  replace hS := hS.n4 L (a0 := cel x #[.pointer (some ⟨a, 0, none⟩), .int .u32 rt, .bool false, .map (some xm), .slice xu (List.length (en2 S)) xc] 188) (a1 := blk xm (.map (mE (List.map wK xs)) q)) (a2 := Own 106 2 (en2 S) xu xc) rfl
  refine WL.run 4 [.bool false] rfl (by exact hS.ld 0 rfl rfl) ?_
  refine WL.nil <| WC.ifF rfl rfl <| WC.skip <| WC.seq <| WC.seq <| WC.region <| WL.run 5 [.map (some xm)] rfl (by exact hS.ld 0 rfl rfl) ?_
  refine WL.lk rfl rfl mt_186 1 hS rfl rfl rfl (by first | trivial | rfl) (r := some (j, .agg #[.bool e.p, .int .i64 e.v])) (hek ▸ ki_in (f := wK) (n := WE.k) hW.k.key hW.k.uniq he) rfl ?_
  refine WL.r 3 rfl <| WL.new rfl rfl zv_217 hS (fun b1 w hS => ?_)
  refine WL.stF rfl rfl rfl 0 hS rfl rfl rfl rfl rfl ag_217 (fun w hS => ?_)
  replace hS := hS.n5 L (a0 := cel b1 #[.bool e.p, .int .i64 e.v] 217) rfl
  refine WL.r 1 rfl <| WL.nil ?_
  as_aux_lemma =>
  refine WC.seq <| WC.region <| WL.r 1 rfl <| WL.nil <| WC.ifT rfl rfl <| WC.seq <| WC.plan [([0, 2, 1, 3, 4, 5, 6], none)] (by kernel_rfl) (by kernel_rfl) ?_
  refine WQ.run 7 [.int .i64 e.v, .bool e.p] rfl (by exact ⟨hS.ld 0 rfl rfl, hS.ld 0 rfl rfl⟩) ?_
  refine WQ.nil ?_
  intro m1
  replace hS := hS.drewN m1; generalize hwm1 : World.drewN _ _ = w at *; clear hwm1
  refine WC.ret ?_
  replace hS := St.exClose (f := txF x a rt xs q S) (L := cel b1 #[.bool e.p, .int .i64 e.v] 217 :: Arn a A :: L) ⟨xm, xu, xc⟩ ((hS.sel 4 [1, 1, 1, 0] rfl))
  replace hS := hS.n3 L (a0 := Tx x a rt xs q S) rfl
  refine ⟨[.int .i64 e.v, .bool e.p, .int .i64 0], ⟨rfl, rfl, rfl⟩, ?_⟩
  replace hS := (hS.sel 2 [0] rfl)
  exact ⟨rfl, hS⟩
set_option maxRecDepth 8192 in
theorem tx_get2 {g w : World} {L : List HP} (x a : Nat) (rt : Int) (xs : List WE) (q : Nat) (S : Kvs) (M : Wrs) (A : AM) (R : List Int) (k : Int) (t : Tr) (hW : WOk xs q M) (hn : ∀ e ∈ xs, e.k ≠ k) (hA : ARf A R) (hi : Is A t rt) (hk : i64R k) (hR : SpR S) (hSl : S.length ≤ 100000) (hS : St g (Tx x a rt xs q S :: Arn a A :: L) w) :
    Sp Tryz.prog 94 [.pointer (some ⟨x, 0, none⟩), .int .i64 k] w (fun v w' => v = .tuple #[.int .i64 ((Tr.get k t).getD 0), .bool (Tr.get k t).isSome, .int .i64 0] ∧ St g (Tx x a rt xs q (rdF k k S) :: Arn a A :: L) w') := by
  refine Sp.enter Tryz.func94 rfl (by kernel_rfl) (by kernel_rfl) ?_
  refine WC.seq <| WC.region <| WL.r 3 rfl <| WL.nil <| WC.seq <| WC.seq <| WC.region ?_
  obtain ⟨⟨xm, xu, xc⟩, hS⟩ := St.exOpen (f := txF x a rt xs q S) hS
  replace hS := hS.n4 L (a0 := cel x #[.pointer (some ⟨a, 0, none⟩), .int .u32 rt, .bool false, .map (some xm), .slice xu (List.length (en2 S)) xc] 188) (a1 := blk xm (.map (mE (List.map wK xs)) q)) (a2 := Own 106 2 (en2 S) xu xc) rfl
  refine WL.run 4 [.bool false] rfl (by exact hS.ld 0 rfl rfl) ?_
  refine WL.nil <| WC.ifF rfl rfl <| WC.skip <| WC.seq <| WC.seq <| WC.region <| WL.run 5 [.map (some xm)] rfl (by exact hS.ld 0 rfl rfl) ?_
  refine WL.lk rfl rfl mt_186 1 hS rfl rfl rfl (by first | trivial | rfl) (r := none) (ki_out (f := wK) (n := WE.k) hW.k.key hn) rfl ?_
  refine WL.r 3 rfl <| WL.new rfl rfl zv_217 hS (fun b1 w hS => ?_)
  refine WL.stF rfl rfl rfl 0 hS rfl rfl rfl rfl rfl ag_217 (fun w hS => ?_)
  replace hS := hS.n5 L (a0 := cel b1 #[.bool false, .int .i64 0] 217) rfl
  refine WL.r 1 rfl <| WL.nil ?_
  as_aux_lemma =>
  refine WC.seq <| WC.region <| WL.r 1 rfl <| WL.nil <| WC.ifF rfl rfl <| WC.skip <| WC.seq <| WC.region ?_
  replace hS := St.exClose (f := txF x a rt xs q S) (L := cel b1 #[.bool false, .int .i64 0] 217 :: Arn a A :: L) ⟨xm, xu, xc⟩ ((hS.sel 4 [1, 1, 1, 0] rfl))
  replace hS := hS.n3 L (a0 := Tx x a rt xs q S) rfl
  refine WL.r 3 rfl <| WL.call rfl rfl (tx_read (lo := k) (hi := k) (hlo := hk) (hhi := hk) (hR := hR) (hSl := hSl) (hS := hS)) rfl ?_
  clear hS; rintro _ w ⟨rfl, hS⟩
  replace hS := hS.n3 L (a0 := Tx x a rt xs q (rdF k k S)) rfl
  refine WL.nil <| WC.seq <| WC.plan [([0, 4, 8, 1, 5, 2, 6, 3, 7], some (9, [])), ([10, 11, 12, 13, 14], none)] (by kernel_rfl) (by kernel_rfl) ?_
  obtain ⟨⟨xm, xu, xc⟩, hS⟩ := St.exOpen (f := txF x a rt xs q (rdF k k S)) hS
  replace hS := hS.n5 L (a0 := cel x #[.pointer (some ⟨a, 0, none⟩), .int .u32 rt, .bool false, .map (some xm), .slice xu (List.length (en2 (rdF k k S))) xc] 188) (a1 := blk xm (.map (mE (List.map wK xs)) q)) (a2 := Own 106 2 (en2 (rdF k k S)) xu xc) rfl
  refine WQ.run 9 [.pointer (some ⟨a, 0, none⟩), .int .u32 rt] rfl (by exact ⟨hS.ld 0 rfl rfl, hS.ld 0 rfl rfl⟩) ?_
  refine WQ.nil ?_
  intro m1
  replace hS := hS.drewN m1; generalize hwm1 : World.drewN _ _ = w at *; clear hwm1
  refine WL.call rfl rfl (lk_get (R := R) (i := rt) (k := k) (t := t) (hA := hA) (hi := hi) (hS := (hS.sel 5 [4, 0, 0, 0, 0] rfl))) rfl ?_
  clear hS; rintro _ w ⟨rfl, hS⟩
  replace hS := hS.n5 L rfl
  refine WL.nil ?_
  refine ⟨by exact trivial, ?_⟩
  refine WQ.r 5 rfl <| WQ.nil ?_
  intro m2
  replace hS := hS.drewN m2; generalize hwm2 : World.drewN _ _ = w at *; clear hwm2
  as_aux_lemma =>
  refine WC.seq <| WC.region <| WL.r 5 rfl <| WL.nil <| WC.ret ?_
  replace hS := St.exClose (f := txF x a rt xs q (rdF k k S)) (L := Arn a A :: cel b1 #[.bool false, .int .i64 0] 217 :: L) ⟨xm, xu, xc⟩ ((hS.sel 4 [1, 1, 1, 0] rfl))
  replace hS := hS.n3 L (a0 := Tx x a rt xs q (rdF k k S)) rfl
  refine ⟨[.int .i64 ((Tr.get k t).getD 0), .bool (Tr.get k t).isSome, .int .i64 0], ⟨rfl, rfl, rfl⟩, ?_⟩
  replace hS := (hS.sel 3 [0, 0] rfl)
  exact ⟨rfl, hS⟩
def vGet (k : Int) (M : Wrs) (t : Tr) : Int × Bool := match wget k M with
  | some y => (y.2, y.1)
  | none => ((Tr.get k t).getD 0, (Tr.get k t).isSome)
def gSp (k : Int) (M : Wrs) (S : Kvs) : Kvs := if (wget k M).isSome then S else rdF k k S
set_option maxRecDepth 8192 in
theorem tx_get {g w : World} {L : List HP} (x a : Nat) (rt : Int) (xs : List WE) (q : Nat) (S : Kvs) (M : Wrs) (A : AM) (R : List Int) (k : Int) (t : Tr) (hW : WOk xs q M) (hA : ARf A R) (hi : Is A t rt) (hk : i64R k) (hR : SpR S) (hSl : S.length ≤ 100000) (hS : St g (Tx x a rt xs q S :: Arn a A :: L) w) :
    Sp Tryz.prog 94 [.pointer (some ⟨x, 0, none⟩), .int .i64 k] w (fun v w' => v = .tuple #[.int .i64 (vGet k M t).1, .bool (vGet k M t).2, .int .i64 0] ∧ St g (Tx x a rt xs q (gSp k M S) :: Arn a A :: L) w') := by
  rcases ki_cases WE.k xs k with ⟨j, e, he, hek⟩ | hn
  · have h1 : wget k M = some (e.p, e.v) := hek ▸ hW.get he
    have h2 : vGet k M t = (e.v, e.p) := by unfold vGet; rw [h1]
    have h3 : gSp k M S = S := by unfold gSp; rw [h1]; rfl
    rw [h2, h3]
    exact tx_get1 x a rt xs q S M A j e k hW he hek hS
  · have h1 : wget k M = none := hW.no hn
    have h2 : vGet k M t = ((Tr.get k t).getD 0, (Tr.get k t).isSome) := by unfold vGet; rw [h1]
    have h3 : gSp k M S = rdF k k S := by unfold gSp; rw [h1]; rfl
    rw [h2, h3]
    exact tx_get2 x a rt xs q S M A R k t hW hn hA hi hk hR hSl hS
end Go.Proofs.YtbeacjcmdijdmaaGreat
/-! ## Srf -/
namespace Go.V
open Go Go.RowKit Go.Maps Go.Sort Go.Proofs
def kv2 (x : Int × Int) : List Value := [.int .i64 x.1, .int .i64 x.2]
def kvC (x y : Int × Int) : Int := if x.1 < y.1 then -1 else 1
theorem kvLt (x y : Int × Int) : ltOf kvC x y = decide (x.1 < y.1) := by
  unfold ltOf kvC
  by_cases h : x.1 < y.1
  · rw [if_pos h, decide_eq_true h]; rfl
  · rw [if_neg h, decide_eq_false h]; rfl
theorem kvSwo : SWO (ltOf kvC) where
  irrefl x := by rw [kvLt]; simp
  trans x y z h1 h2 := by rw [kvLt] at *; simp at *; omega
  ntrans x y z h1 h2 := by rw [kvLt] at *; simp at *; omega
theorem flat2 (ls : List (Int × Int)) : (flatK kv2 2 ls.toArray).toList = (en2 ls).flatten := by
  apply List.ext_getElem?
  intro t
  by_cases h : t < ls.length * 2
  · have h1 : t / 2 < ls.length := by omega
    have h2 : (en2 ls)[t / 2]? = some (kv2 ls[t / 2]) := by simp [en2, kv2, h1]
    have h3 := flat_at (en2 ls) 2 (fun x hx => by obtain ⟨y, _, rfl⟩ := List.mem_map.1 hx; rfl) (t / 2) _ (t % 2) h2 (by show t % 2 < 2; omega)
    rw [show t / 2 * 2 + t % 2 = t by omega] at h3
    have h4 := get_flatK kv2 2 ls.toArray t (by simpa using h)
    have h5 : t < (flatK kv2 2 ls.toArray).size := by rw [size_flatK]; simpa using h
    rw [h3, Array.getElem?_toList, Array.getElem?_eq_getElem h5]
    rw [getElem!_pos (flatK kv2 2 ls.toArray) t h5] at h4
    rw [h4]
    have h6 : (ls.toArray)[t / 2]! = ls[t / 2] := by
      rw [getElem!_pos ls.toArray (t / 2) (by simpa using h1)]; simp
    rw [h6]
    have h7 : t % 2 < (kv2 ls[t / 2]).length := by show t % 2 < 2; omega
    rw [List.getElem?_eq_getElem h7, getElem!_pos (kv2 ls[t / 2]) (t % 2) h7]
  · rw [List.getElem?_eq_none (by rw [Array.length_toList, size_flatK]; simpa using h), List.getElem?_eq_none]
    rw [flat_len (en2 ls) 2 (fun x hx => by obtain ⟨y, _, rfl⟩ := List.mem_map.1 hx; rfl), en2_len]; omega
section
variable {g w : World} {L : List HP} {e c : Nat} {ls : List (Int × Int)} {b : Nat}
theorem heap_srt {n : Nat} {os : Array Obj} {cur : Array Value} {fr : Nat × Nat} (d : Array Value) (hb : w.heap[b]? = some (.cells cur e fr)) :
    (grow (putRow id (Sort.ahead w n) b 0 d) os).heap[b]? = some (.cells (putCells id 0 d cur) e fr) := by
  have hg : b < w.heap.size := (Array.getElem?_eq_some_iff.1 hb).1
  rw [heap_grow_old _ _ (by simpa using hg)]
  simp [putRow, mapBlock, Sort.ahead, Array.getElem?_modify, hb, onCells]
theorem grown_srt {n : Nat} {os : Array Obj} (d : Array Value) : w.grownBy (grow (putRow id (Sort.ahead w n) b 0 d) os) (some b) := by
  refine ⟨rfl, rfl, rfl, by simp, fun k hk hne => ?_⟩
  rw [heap_grow_old _ _ (by simpa using hk)]
  have : b ≠ k := fun e => hne (by rw [e])
  simp [putRow, mapBlock, Sort.ahead, Array.getElem?_modify, this]
theorem take_srt (cur ts : Array Value) (h : ts.size ≤ cur.size) : (putCells id 0 ts cur).toList.take ts.size = ts.toList := by
  apply List.ext_getElem?
  intro j
  by_cases hj : j < ts.size
  · rw [List.getElem?_take_of_lt hj, Array.getElem?_toList, Array.getElem?_toList]
    simp [putCells, hj, show j < cur.size by omega]
  · rw [List.getElem?_take_eq_none (by omega), List.getElem?_eq_none (by simp; omega)]
theorem St.holdsK (h : St g L w) (i : Nat) (hi : L[i]? = some (Own e 2 (en2 ls) (some ⟨b, 0, none⟩) c)) : HoldsK kv2 2 w b 0 ls.toArray ∧ b < w.heap.size := by
  obtain ⟨o1, r, ⟨h1, h2⟩, ho, hr⟩ := h.get i hi
  rcases h2 with ⟨h3, _, _⟩ | ⟨b', cur, h3, q2, q3, q4, q5, q6⟩
  · cases h3
  · cases h3
    have hb := ho _ _ q2
    refine ⟨fun j hj => ?_, (Array.getElem?_eq_some_iff.1 hb).1⟩
    have hj2 : j < (flatK kv2 2 ls.toArray).toList.length := by simpa using hj
    refine ⟨?_, by simp [World.frozen?, hb]⟩
    rw [Nat.zero_add, cell_of_row w b _ cur e (0, 0) hb]
    have h4 : (en2 ls).flatten[j]? = some (id (flatK kv2 2 ls.toArray)[j]!) := by
      rw [← flat2, List.getElem?_eq_getElem hj2, getElem!_pos _ j hj]; rfl
    rw [← q6, List.getElem?_take] at h4
    split at h4
    · simpa using h4
    · cases h4
theorem St.putK (h : St g (Own e 2 (en2 ls) (some ⟨b, 0, none⟩) c :: L) w) (ts : List (Int × Int)) (hl : ts.length = ls.length) (n : Nat) (os : Array Obj) :
    St g (Own e 2 (en2 ts) (some ⟨b, 0, none⟩) c :: L) (sortWorldK kv2 2 w b 0 n ts.toArray os) := by
  unfold sortWorldK putRowK
  have hg := grown_srt (w := w) (b := b) (n := n) (os := os) (flatK kv2 2 ts.toArray)
  refine h.upd hg.os hg.tape hg.output hg.size fun o1 r hA hw _ _ => ?_
  obtain ⟨h1, h2⟩ := hA
  rcases h2 with ⟨h3, _, _⟩ | ⟨b', cur, h3, q2, q3, q4, q5, q6⟩
  · cases h3
  · cases h3
    have hb := hw _ _ q2
    rw [en2_len] at q3 q6
    refine ⟨fun k => if k = b then some (.cells (putCells id 0 (flatK kv2 2 ts.toArray) cur) e (0, 0)) else none, ⟨en2_ok _, .inr ⟨b, _, rfl, if_pos rfl, by rw [en2_len, hl]; exact q3, q4, by simp [putCells, q5], ?_⟩⟩, fun k x hx => ?_, fun k hk => ?_, fun k hk hn => ?_⟩
    · rw [en2_len]
      have hs : (flatK kv2 2 ts.toArray).size = ts.length * 2 := by simp
      rw [← hs, take_srt _ _ (by rw [hs, q5, hl]; exact Nat.mul_le_mul_right _ q3), flat2]
    · simp only at hx
      split at hx
      · rename_i hk; subst hk; simp only [Option.some.injEq] at hx; subst hx; exact heap_srt _ hb
      · cases hx
    · simp only [ne_eq, ite_eq_right_iff, reduceCtorEq, imp_false, Classical.not_not] at hk
      subst hk; exact .inl (by rw [q2]; simp)
    · refine hg.block k hk fun he => ?_
      simp only [Option.some.injEq] at he; subst he
      rw [q2] at hn; cases hn
end
theorem srt_of_perm {ls ts : List (Int × Int)} (hk : ls.Pairwise fun a b => a.1 ≠ b.1) (hp : ts.Perm ls) (hs : ∀ i j (hi : i < ts.length) (hj : j < ts.length), i < j → ¬ ts[j].1 < ts[i].1) : Srt ts := by
  have hk2 : ts.Pairwise fun a b => a.1 ≠ b.1 := hp.symm.pairwise hk fun h e => h e.symm
  refine List.pairwise_iff_getElem.2 fun i j hi hj hij => ?_
  have h1 := List.pairwise_iff_getElem.1 hk2 i j hi hj hij
  have h2 := hs i j hi hj hij
  omega
def seenB {α : Type} (f : α → Value × Value × Nat) (ds : List α) : Array Nat := (ds.map fun x => (f x).2.2).toArray
section
variable {P : Program} {n : Nat} {os l : List Oper} {K : Kt} {F : Fm} {w g : World} {L : List HP} {b b2 q : Nat} {α : Type} {f : α → Value × Value × Nat} {xs ds : List α}
theorem left_of {e : MapEntry} (h : e ∈ (leftOf (mE (xs.map f)) (seenB f ds)).toList) : ∃ x ∈ xs, (∀ y ∈ ds, (f y).2.2 ≠ (f x).2.2) ∧ e = ⟨(f x).1, (f x).2.1, (f x).2.2⟩ := by
  unfold leftOf at h
  rw [Array.toList_filter, List.mem_filter, mE_toList, List.map_map, List.mem_map] at h
  obtain ⟨⟨x, hx, rfl⟩, h2⟩ := h
  refine ⟨x, hx, fun y hy he => ?_, rfl⟩
  simp only [Bool.not_eq_true', seenB, Function.comp_apply, Bool.eq_false_iff, ne_eq, Array.contains_iff_mem, List.mem_toArray, List.mem_map, not_exists, not_and] at h2
  exact h2 y hy he
theorem left_no (h : (leftOf (mE (xs.map f)) (seenB f ds)).size = 0) : ∀ x ∈ xs, ∃ y ∈ ds, (f y).2.2 = (f x).2.2 := fun x hx => by
  refine Classical.byContradiction fun hn => ?_
  have h1 : (leftOf (mE (xs.map f)) (seenB f ds)).toList = [] := List.length_eq_zero_iff.1 (by rw [Array.length_toList]; exact h)
  have h2 : (⟨(f x).1, (f x).2.1, (f x).2.2⟩ : MapEntry) ∈ (leftOf (mE (xs.map f)) (seenB f ds)).toList := by
    unfold leftOf
    rw [Array.toList_filter, List.mem_filter, mE_toList, List.map_map, List.mem_map]
    refine ⟨⟨x, hx, rfl⟩, ?_⟩
    simp only [Bool.not_eq_true', seenB, Bool.eq_false_iff, ne_eq, Array.contains_iff_mem, List.mem_toArray, List.mem_map, not_exists, not_and]
    exact fun y hy he => hn ⟨y, hy, he⟩
  rw [h1] at h2; cases h2
theorem WL.nxL {o : Oper} {x : Operand} (hg : o.guard = none) (ho : o.op = .next x false) (i j : Nat) (hS : St g L w) (hi : L[i]? = some (blk b2 (.mapIter (some b) q (seenB f ds) q))) (hj : L[j]? = some (blk b (.map (mE (xs.map f)) q))) (hold : ∀ x ∈ xs, (f x).2.2 < q) (hx : ev F x = .pointer (some ⟨b2, 0, none⟩))
    (h0 : (∀ x ∈ xs, ∃ y ∈ ds, (f y).2.2 = (f x).2.2) → WL P n os l K (updo F o.dst (.tuple #[.bool false])) w)
    (h1 : ∀ x ∈ xs, (∀ y ∈ ds, (f y).2.2 ≠ (f x).2.2) → ∀ w', St g (L.set i (blk b2 (.mapIter (some b) q (seenB f (ds ++ [x])) q))) w' → WL P n os l K (updo F o.dst (.tuple #[.bool true, (f x).1, (f x).2.1])) w') : WL P n os (o :: l) K F w := by
  have hr := hS.heap i hi
  have hb := hS.heap j hj
  rcases run_next_at (P := P) w o.type b2 b q q (seenB f ds) (mE (xs.map f)) q hr hb (fun x hx => by
    rw [mE_toList, List.map_map, List.mem_map] at hx
    obtain ⟨y, hy, rfl⟩ := hx
    exact hold y hy) (Nat.le_refl _) with ⟨q1, q2⟩ | ⟨e, he, w1, hw1, q2⟩
  · refine WL.val hg (fun hok => ?_) (h0 (left_no q1))
    have e1 := okX_at (F := F) hok (x := x) (by simp [ho, Op.operands])
    simp only [execOp, ho, e1, hx, Sem.run_bind, q2, Result.andThen_ok, Sem.run_pure]
  · obtain ⟨y, hy, hn, rfl⟩ := left_of he
    have hS1 : St g L w1 := by
      rcases hw1 with rfl | rfl
      · exact hS
      · exact hS.drew
    have hr1 := hS1.heap i hi
    have hb2 : b2 < w1.heap.size := (Array.getElem?_eq_some_iff.1 hr1).1
    have hse : (seenB f ds).push (f y).2.2 = seenB f (ds ++ [y]) := by
      unfold seenB; rw [List.map_append, List.push_toArray]; rfl
    rw [hse] at q2
    have hS2 : St g (L.set i (blk b2 (.mapIter (some b) q (seenB f (ds ++ [y])) q))) (ChangeMaps.setBlock w1 b2 (.mapIter (some b) q (seenB f (ds ++ [y])) q)) := by
      refine St.back i (St.upd (hS1.at_ i hi) rfl rfl rfl (by simp [ChangeMaps.setBlock]) fun o1 r hA hw _ _ => ⟨fun k => if k = b2 then some (.mapIter (some b) q (seenB f (ds ++ [y])) q) else none, if_pos rfl, fun k z hz => ?_, fun k hk => ?_, fun k hk hn => ?_⟩) hi
      · simp only at hz
        split at hz
        · rename_i hk; subst hk; simp only [Option.some.injEq] at hz; subst hz
          simp [ChangeMaps.setBlock, hb2]
        · cases hz
      · simp only [ne_eq, ite_eq_right_iff, reduceCtorEq, imp_false, Classical.not_not] at hk
        subst hk
        exact .inl (by rw [show o1 k = _ from hA]; simp)
      · have hne : b2 ≠ k := fun e => by subst e; rw [show o1 b2 = _ from hA] at hn; cases hn
        simp [ChangeMaps.setBlock, hne]
    refine WL.val hg (fun hok => ?_) (h1 y hy hn _ hS2)
    have e1 := okX_at (F := F) hok (x := x) (by simp [ho, Op.operands])
    simp only [execOp, ho, e1, hx, Sem.run_bind, q2, Result.andThen_ok, Sem.run_pure]
theorem WL.enL {o : Oper} {y : Operand} {x : α} (hg : o.guard = none) (ho : o.op = .entry y) (i j : Nat) (hS : St g L w) (hi : L[i]? = some (blk b2 (.mapIter (some b) q (seenB f (ds ++ [x])) q))) (hj : L[j]? = some (blk b (.map (mE (xs.map f)) q))) (hx : x ∈ xs) (hn : (xs.map fun x => (f x).2.2).Nodup) (hy : ev F y = .pointer (some ⟨b2, 0, none⟩))
    (hk : WL P n os l K (updo F o.dst (.tuple #[(f x).1, (f x).2.1])) w) : WL P n os (o :: l) K F w := by
  have hse : (seenB f ds).push (f x).2.2 = seenB f (ds ++ [x]) := by
    unfold seenB; rw [List.map_append, List.push_toArray]; rfl
  have hr := hS.heap i hi
  rw [← hse] at hr
  have hr2 := run_entry_at (P := P) w b2 b q (seenB f ds) (mE (xs.map f)) q ⟨(f x).1, (f x).2.1, (f x).2.2⟩ hr (hS.heap j hj) (by rw [mE_toList, List.map_map]; exact List.mem_map.2 ⟨x, hx, rfl⟩) (by rw [mE_toList, List.map_map, List.map_map]; exact hn)
  refine WL.val hg (fun hok => ?_) hk
  have e1 := okX_at (F := F) hok (x := y) (by simp [ho, Op.operands])
  simp only [execOp, ho, e1, hy, Sem.run_bind, hr2, Result.andThen_ok, Sem.run_pure]
end
end Go.V
/-! ## Srl -/
namespace Go.Proofs
open Go.Shelf
def Tryz.srtE_ren : Go.Shelf.Ren := ⟨fun | 6 => 167 | 15 => 198 | 14 => 204 | 28 => 231 | 29 => 232 | 20 => 234 | 21 => 235 | 22 => 236 | 23 => 237 | 24 => 238 | 25 => 239 | 26 => 240 | 27 => 241 | 46 => 263 | 47 => 258 | 48 => 259 | 49 => 264 | 50 => 265 | 57 => 271 | n => n, fun | 22 => 49 | 24 => 121 | 25 => 270 | 3 => 3 | 39 => 299 | 0 => 0 | 53 => 64 | 55 => 23 | 4 => 4 | 46 => 328 | 45 => 327 | 50 => 332 | 5 => 5 | 9 => 9 | 66 => 356 | 70 => 360 | 76 => 367 | 77 => 368 | n => n, fun | n => n⟩
theorem Tryz.srtE : Go.Proofs.SlLaysF0.n6 Tryz.prog Tryz.srtE_ren := {
  mixed := by kernel_rfl
  f6 := ⟨Tryz.f167.name, by decide, Tryz.func167.trans (congrArg some (by kernel_rfl))⟩
  f14 := ⟨Tryz.f204.name, by decide, Tryz.func204.trans (congrArg some (by kernel_rfl))⟩
  f15 := Tryz.func198.trans (congrArg some (by kernel_rfl))
  f20 := ⟨Tryz.f234.name, by decide, Tryz.func234.trans (congrArg some (by kernel_rfl))⟩
  f21 := ⟨Tryz.f235.name, by decide, Tryz.func235.trans (congrArg some (by kernel_rfl))⟩
  f22 := ⟨Tryz.f236.name, by decide, Tryz.func236.trans (congrArg some (by kernel_rfl))⟩
  f23 := ⟨Tryz.f237.name, by decide, Tryz.func237.trans (congrArg some (by kernel_rfl))⟩
  f24 := ⟨Tryz.f238.name, by decide, Tryz.func238.trans (congrArg some (by kernel_rfl))⟩
  f25 := ⟨Tryz.f239.name, by decide, Tryz.func239.trans (congrArg some (by kernel_rfl))⟩
  f26 := ⟨Tryz.f240.name, by decide, Tryz.func240.trans (congrArg some (by kernel_rfl))⟩
  f27 := ⟨Tryz.f241.name, by decide, Tryz.func241.trans (congrArg some (by kernel_rfl))⟩
  f28 := Tryz.func231.trans (congrArg some (by kernel_rfl))
  f29 := Tryz.func232.trans (congrArg some (by kernel_rfl))
  f46 := ⟨Tryz.f263.name, by decide, Tryz.func263.trans (congrArg some (by kernel_rfl))⟩
  f47 := Tryz.func258.trans (congrArg some (by kernel_rfl))
  f48 := Tryz.func259.trans (congrArg some (by kernel_rfl))
  f49 := ⟨Tryz.f264.name, by decide, Tryz.func264.trans (congrArg some (by kernel_rfl))⟩
  f50 := ⟨Tryz.f265.name, by decide, Tryz.func265.trans (congrArg some (by kernel_rfl))⟩
  f57 := ⟨Tryz.f271.name, by decide, Tryz.func271.trans (congrArg some (by kernel_rfl))⟩
  t0 := Tryz.underlying0
  a0 := Tryz.isAgg0
  z0 := Tryz.sizeOf0
  v0 := Tryz.zeroValue0
  t3 := Tryz.underlying3
  a3 := Tryz.isAgg3
  z3 := Tryz.sizeOf3
  v3 := Tryz.zeroValue3
  t4 := Tryz.underlying4
  a4 := Tryz.isAgg4
  z4 := Tryz.sizeOf4
  v4 := Tryz.zeroValue4
  t5 := Tryz.underlying5
  a5 := Tryz.isAgg5
  z5 := Tryz.sizeOf5
  v5 := Tryz.zeroValue5
  t9 := Tryz.underlying9
  a9 := Tryz.isAgg9
  z9 := Tryz.sizeOf9
  v9 := Tryz.zeroValue9
  t22 := Tryz.underlying49
  a22 := Tryz.isAgg49
  z22 := Tryz.sizeOf49
  v22 := Tryz.zeroValue49
  t25 := Tryz.underlying270
  a25 := Tryz.isAgg270
  z25 := Tryz.sizeOf270
  v25 := Tryz.zeroValue270
  t39 := Tryz.underlying299
  a39 := Tryz.isAgg299
  z39 := Tryz.sizeOf299
  v39 := Tryz.zeroValue299
  t45 := Tryz.underlying327
  a45 := Tryz.isAgg327
  z45 := Tryz.sizeOf327
  v45 := Tryz.zeroValue327
  t46 := Tryz.underlying328
  a46 := Tryz.isAgg328
  z46 := Tryz.sizeOf328
  v46 := Tryz.zeroValue328
  t50 := Tryz.underlying332
  a50 := Tryz.isAgg332
  z50 := Tryz.sizeOf332
  v50 := Tryz.zeroValue332
  t53 := Tryz.underlying64
  a53 := Tryz.isAgg64
  z53 := Tryz.sizeOf64
  v53 := Tryz.zeroValue64
  t55 := Tryz.underlying23
  a55 := Tryz.isAgg23
  z55 := Tryz.sizeOf23
  v55 := Tryz.zeroValue23
  t66 := Tryz.underlying356
  a66 := Tryz.isAgg356
  z66 := Tryz.sizeOf356
  v66 := Tryz.zeroValue356
  t70 := Tryz.underlying360
  a70 := Tryz.isAgg360
  z70 := Tryz.sizeOf360
  v70 := Tryz.zeroValue360
  t76 := Tryz.underlying367
  a76 := Tryz.isAgg367
  z76 := Tryz.sizeOf367
  v76 := Tryz.zeroValue367
  t77 := Tryz.underlying368
  a77 := Tryz.isAgg368
  z77 := Tryz.sizeOf368
  v77 := Tryz.zeroValue368 }
end Go.Proofs
/-! ## Mr -/
namespace Go.V
open Go Go.RowKit
section
variable {P : Program} {T : Tab} [hT : TabOk P T] {n : Nat} {os l : List Oper} {K : Kt} {F : Fm} {w g : World} {L : List HP} {t kt et : TypeId} {d : TypeDesc} {z : Value} {b b2 c c2 : Nat} {es : Array MapEntry}
theorem WL.rgM {o : Oper} {x : Operand} (hg : o.guard = none) (ho : o.op = .range t x) (hM : MapT P t kt d et z) (i : Nat) (hS : St g L w) (hi : L[i]? = some (blk b (.map es c))) (hx : ev F x = .map (some b))
    (hk : ∀ b' w', St g (blk b' (.mapIter (some b) c #[] c) :: L) w' → WL P n os l K (updo F o.dst (.pointer (some ⟨b', 0, none⟩))) w') : WL P n os (o :: l) K F w := by
  refine WL.val hg (fun hok => ?_) (hk w.heap.size (w.alloc (.mapIter (some b) c #[] c)) (hS.new _))
  have e1 := okX_at (F := F) hok (x := x) (by simp [ho, Op.operands])
  simp only [execOp, ho, e1, hx, Instr.range, newObj, Sem.run_bind, run_underlying hM.und, Result.andThen_ok, MapKept.run_getObj_map (hS.heap i hi), Sem.run_pure]
  rfl
end
end Go.V
/-! ## Txa -/
namespace Go.Proofs.YtbeacjcmdijdmaaGreat
open Go Go.V Go.RowKit Go.Maps Go.Sort Go.Shelf
theorem btw_node {lo hi k v : Int} {a b : Kvs} (h : Srt (a ++ (k, v) :: b)) : btw lo hi (a ++ (k, v) :: b) = (if lo < k then btw lo hi a else []) ++ ((if lo ≤ k ∧ k ≤ hi then [(k, v)] else []) ++ (if k < hi then btw lo hi b else [])) := by
  obtain ⟨h1, h2, h3⟩ := List.pairwise_append.1 h
  obtain ⟨h4, h5⟩ := List.pairwise_cons.1 h2
  have e1 : btw lo hi a = if lo < k then btw lo hi a else [] := by
    split
    · rfl
    · refine List.filter_eq_nil_iff.2 fun x hx hin => ?_
      have h6 := h3 x hx (k, v) (List.mem_cons_self ..)
      simp only [inK, Bool.and_eq_true, decide_eq_true_iff] at hin
      have : x.1 < k := h6
      omega
  have e2 : btw lo hi b = if k < hi then btw lo hi b else [] := by
    split
    · rfl
    · refine List.filter_eq_nil_iff.2 fun x hx hin => ?_
      have h6 := h4 x hx
      simp only [inK, Bool.and_eq_true, decide_eq_true_iff] at hin
      have : k < x.1 := h6
      omega
  have e3 : btw lo hi [(k, v)] = if lo ≤ k ∧ k ≤ hi then [(k, v)] else [] := by
    unfold btw
    by_cases c1 : lo ≤ k
    · by_cases c2 : k ≤ hi
      · rw [if_pos ⟨c1, c2⟩]; simp [inK, c1, c2]
      · rw [if_neg fun h => c2 h.2]; simp [inK, c2]
    · rw [if_neg fun h => c1 h.1]; simp [inK, c1]
  rw [← e1, ← e2, ← e3]
  unfold btw
  rw [← List.filter_append, ← List.filter_append]; rfl
theorem btw_none {lo hi : Int} {l : Kvs} (h : hi < lo) : btw lo hi l = [] := List.filter_eq_nil_iff.2 fun x _ hin => by
  simp only [inK, Bool.and_eq_true, decide_eq_true_iff] at hin
  omega
theorem bt_node {lo hi k v : Int} {o o2 a b t : Kvs} (hs : Srt (a ++ (k, v) :: b)) (ht : t = a ++ (k, v) :: b) (h : o2 = o ++ if lo < k then btw lo hi a else []) : o ++ btw lo hi t = o2 ++ (if lo ≤ k ∧ k ≤ hi then [(k, v)] else []) ++ (if k < hi then btw lo hi b else []) := by
  rw [ht, btw_node hs, h, List.append_assoc, List.append_assoc]
set_option maxRecDepth 8192 in
theorem bl_full {g w : World} {L : List HP} (p a : Nat) (o : Kvs) (u : Option Addr) (d : Nat) (hl : o.length ≤ 1000000) (hS : St g (cel p #[.pointer (some ⟨a, 0, none⟩), .slice u (List.length (en2 o)) d, .int .i64 2147483647] 307 :: L) w) :
    Sp Tryz.prog 233 [.pointer (some ⟨p, 0, none⟩)] w (fun v w' => v = .bool false ∧ St g (cel p #[.pointer (some ⟨a, 0, none⟩), .slice u (List.length (en2 o)) d, .int .i64 2147483647] 307 :: L) w') := by
  refine Sp.enter Tryz.func233 rfl (by kernel_rfl) (by kernel_rfl) ?_
  have _ := hl
  refine WC.seq <| WC.region ?_
  have hol := en2_len o
  refine WL.r 1 rfl <| WL.nil <| WC.seq <| WC.plan [([0, 5, 1, 6, 2, 7, 3, 8, 4, 9, 10], none)] (by kernel_rfl) (by kernel_rfl) ?_
  refine WQ.run 11 [.slice u (List.length (en2 o)) d, .int .i64 2147483647] rfl (by exact ⟨hS.ld 0 rfl rfl, hS.ld 0 rfl rfl⟩) ?_
  refine WQ.nil ?_
  intro m1
  replace hS := hS.drewN m1; generalize hwm1 : World.drewN _ _ = w at *; clear hwm1
  refine WC.ret ?_
  refine ⟨[.bool (decide (2147483647 ≤ (List.length (en2 o) : Int)))], rfl, ?_⟩
  exact ⟨congrArg Value.bool (decide_eq_false (by omega)), hS⟩
set_option maxHeartbeats 1000000 in
set_option maxRecDepth 8192 in
theorem bl_keys_step (nM : Nat) (ih : ∀ mM : Nat, mM < nM → ∀ (g w : World) (L : List HP) (p a : Nat) (A : AM) (R : List Int) (i lo hi : Int) (o : Kvs) (u : Option Addr) (d : Nat) (t : Tr), (ARf A R) → (Is A t i) → (Srt t.ls) → (o.length + t.n ≤ 1000000) → t.n = mM → St g (cel p #[.pointer (some ⟨a, 0, none⟩), .slice u (List.length (en2 o)) d, .int .i64 2147483647] 307 :: Own 121 2 (en2 o) u d :: Arn a A :: L) w → Sp Tryz.prog 203 [.pointer (some ⟨p, 0, none⟩), .int .u32 i, .int .i64 lo, .int .i64 hi] w (fun v w' => ∃ (u2 : Option Addr) (d2 : Nat), v = .tuple #[] ∧ St g (cel p #[.pointer (some ⟨a, 0, none⟩), .slice u2 (List.length (en2 (o ++ btw lo hi t.ls))) d2, .int .i64 2147483647] 307 :: Own 121 2 (en2 (o ++ btw lo hi t.ls)) u2 d2 :: Arn a A :: L) w')) {g w : World} {L : List HP} (p a : Nat) (A : AM) (R : List Int) (i lo hi : Int) (o : Kvs) (u : Option Addr) (d : Nat) (t : Tr) (hA : ARf A R) (hi9 : Is A t i) (hs : Srt t.ls) (hl : o.length + t.n ≤ 1000000) (hM : t.n = nM) (hS : St g (cel p #[.pointer (some ⟨a, 0, none⟩), .slice u (List.length (en2 o)) d, .int .i64 2147483647] 307 :: Own 121 2 (en2 o) u d :: Arn a A :: L) w) :
    Sp Tryz.prog 203 [.pointer (some ⟨p, 0, none⟩), .int .u32 i, .int .i64 lo, .int .i64 hi] w (fun v w' => ∃ (u2 : Option Addr) (d2 : Nat), v = .tuple #[] ∧ St g (cel p #[.pointer (some ⟨a, 0, none⟩), .slice u2 (List.length (en2 (o ++ btw lo hi t.ls))) d2, .int .i64 2147483647] 307 :: Own 121 2 (en2 (o ++ btw lo hi t.ls)) u2 d2 :: Arn a A :: L) w') := by
  refine Sp.enter Tryz.func203 rfl (by kernel_rfl) (by kernel_rfl) ?_
  have _ := hl
  refine WC.seq <| WC.seq <| WC.region ?_
  have hx0 := Is.nil_iff hi9; have hol := en2_len o
  refine WL.r 3 rfl ?_
  by_cases cg1 : i = 0
  · refine WL.reb 12 (.bool true) (congrArg Value.bool (decide_eq_true cg1)) <| WL.skp rfl rfl rfl rfl <| WL.skp rfl rfl rfl rfl <| WL.r 1 rfl <| WL.nil <| WC.ifT rfl rfl <| WC.ret ?_
    refine ⟨[], trivial, ?_⟩
    have h9 := hx0.1 cg1; subst h9; rw [show o ++ btw lo hi Tr.nil.ls = o from List.append_nil _]; exact ⟨_, _, rfl, hS⟩
  · refine WL.reb 12 (.bool false) (congrArg Value.bool (decide_eq_false cg1)) <| WL.ung rfl rfl rfl <| WL.r 1 rfl <| WL.ung rfl rfl rfl <| WL.call rfl rfl (bl_full (a := a) (o := o) (u := u) (d := d) (hl := (by omega)) (hS := hS)) rfl ?_
    clear hS; rintro _ w ⟨rfl, hS⟩
    replace hS := hS.n3 L rfl
    refine WL.r 1 rfl <| WL.nil <| WC.ifF rfl rfl <| WC.skip <| WC.seq <| WC.region ?_
    obtain ⟨tl, k, z, tr, ht⟩ := nil_or (t := t) (fun e => cg1 (hx0.2 e)); have htn : t.n = tl.n + tr.n + 1 := (by rw [ht]; rfl); have hi2 : Is A (.node tl k z tr) i := ht ▸ hi9; have hls : t.ls = tl.ls ++ ((A.nd i).key, (A.nd i).val) :: tr.ls := (by rw [ht, hi2.2.2.1, hi2.2.2.2.1]; rfl); have hl7 := hi2.2.2.2.2.1; have hr7 := hi2.2.2.2.2.2; have hri := hA.okrng hi9.ref; have hlr := hA.okrng hl7.ref; have hrr := hA.okrng hr7.ref; have hs2 := hs; rw [hls] at hs2; have hs7 := Srt.app hs2; have hs8 := (List.pairwise_cons.1 hs7.2.1).2; have hbl := List.length_filter_le (inK lo hi) tl.ls; have htl := Tr.ls_len tl; have htr := Tr.ls_len tr
    refine WL.run 5 [.pointer (some ⟨a, 0, none⟩)] rfl (by exact hS.ld 0 rfl rfl) ?_
    refine WL.call rfl rfl (ar_node (i := i) (hA := hA.toAWf) (hi := (by omega)) (hio := hi2.2.1) (hS := (hS.sel 3 [2, 0, 0] rfl))) rfl ?_
    clear hS; rintro _ w ⟨rfl, hS⟩
    replace hS := hS.n3 L rfl
    refine WL.r 3 rfl <| WL.new rfl rfl zv_172 hS (fun b1 w hS => ?_)
    refine WL.stF rfl rfl rfl 0 hS rfl rfl rfl rfl rfl ag_172 (fun w hS => ?_)
    replace hS := hS.n4 L (a0 := cel b1 #[.int .i64 (A.nd i).key, .int .i64 (A.nd i).val, .int .u32 (A.nd i).lf, .int .u32 (A.nd i).rg, .int .i64 (A.nd i).size, .int .i64 (A.nd i).sum, .int .i64 (A.nd i).mn, .int .i64 (A.nd i).mx] 172) rfl
    refine WL.r 1 rfl <| WL.nil ?_
    as_aux_lemma =>
    refine WC.seq <| WC.seq <| WC.region <| WL.r 2 rfl <| WL.nil <| WC.ifF rfl rfl <| WC.skip <| WC.seq <| WC.seq <| WC.region <| WL.run 4 [.int .i64 (A.nd i).key] rfl (by exact hS.ld 0 rfl rfl) ?_
    refine WL.nil <| WC.cut [0, 2, 3, 8] (fun vs w => ∃ (o2 : Kvs) (u2 : Option Addr) (d2 : Nat), vs = [.pointer (some ⟨p, 0, none⟩), .int .i64 lo, .int .i64 hi, .pointer (some ⟨b1, 0, none⟩)] ∧ St g (cel b1 #[.int .i64 (A.nd i).key, .int .i64 (A.nd i).val, .int .u32 (A.nd i).lf, .int .u32 (A.nd i).rg, .int .i64 (A.nd i).size, .int .i64 (A.nd i).sum, .int .i64 (A.nd i).mn, .int .i64 (A.nd i).mx] 172 :: Arn a A :: cel p #[.pointer (some ⟨a, 0, none⟩), .slice u2 (List.length (en2 o2)) d2, .int .i64 2147483647] 307 :: Own 121 2 (en2 o2) u2 d2 :: L) w ∧ (o2 = o ++ if lo < (A.nd i).key then btw lo hi tl.ls else []) ∧ (o2.length + tr.n + 1 ≤ 1000000)) ?_ ?_
    · refine WC.ifP rfl (fun cd1 => ?_) (fun cd1 => ?_)
      · refine WC.region <| WL.run 5 [.int .u32 (A.nd i).lf] rfl (by exact hS.ld 0 rfl rfl) ?_
        refine WL.call rfl rfl (ih (tl.n) (by omega) _ _ _ p a A R (A.nd i).lf lo hi o u d tl (hA) (hl7) (hs7.1) ((by omega)) rfl (hS.sel 4 [2, 2, 1, 0] rfl)) rfl ?_
        clear hS; rintro _ w ⟨u1, d1, rfl, hS⟩
        replace hS := hS.n4 L (a0 := cel p #[.pointer (some ⟨a, 0, none⟩), .slice u1 (List.length (en2 (o ++ btw lo hi tl.ls))) d1, .int .i64 2147483647] 307) (a1 := Own 121 2 (en2 (o ++ btw lo hi tl.ls)) u1 d1) rfl
        refine WL.nil ?_
        exact ⟨o ++ btw lo hi tl.ls, u1, d1, rfl, (hS.sel 4 [3, 2, 0, 0] rfl), (by rw [if_pos cd1]), (by rw [List.length_append]; unfold btw; omega)⟩
      · refine WC.skip ?_
        exact ⟨o, u, d, rfl, hS, (by rw [if_neg cd1, List.append_nil]), (by omega)⟩
    clear hS; rintro _ w j ⟨o2, u2, d2, rfl, hS, ho2, hol2⟩
    refine WC.seq <| WC.seq <| WC.region ?_
    have hol3 := en2_len o2; have hbt := bt_node hs2 hls ho2
    refine WL.run 5 [.int .i64 (A.nd i).key] rfl (by exact hS.ld 0 rfl rfl) ?_
    by_cases cg2 : lo ≤ (A.nd i).key
    · refine WL.reb 41 (.bool true) (congrArg Value.bool (decide_eq_true cg2)) <| WL.ung rfl rfl rfl <| WL.r 1 rfl <| WL.ung rfl rfl rfl <| WL.run 1 [.int .i64 (A.nd i).key] rfl (by exact hS.ld 0 rfl rfl) ?_
      refine WL.ung rfl rfl rfl <| WL.r 1 rfl <| WL.ung rfl rfl rfl <| WL.r 3 rfl ?_
      by_cases cg3 : (A.nd i).key ≤ hi
      · refine WL.reb 47 (.bool true) (congrArg Value.bool (decide_eq_true cg3)) <| WL.ung rfl rfl rfl <| WL.r 1 rfl <| WL.ung rfl rfl rfl <| WL.call rfl rfl (bl_full (a := a) (o := o2) (u := u2) (d := d2) (hl := (by omega)) (hS := (hS.sel 3 [2, 0, 0] rfl))) rfl ?_
        clear hS; rintro _ w ⟨rfl, hS⟩
        replace hS := hS.n4 L rfl
        refine WL.ung rfl rfl rfl <| WL.r 2 rfl <| WL.nil ?_
        as_aux_lemma =>
        refine WC.ifT rfl rfl <| WC.plan [([0, 1, 5, 7, 2, 6, 8, 3, 4], some (9, [0, 1, 2, 3, 4])), ([], some (10, [0, 1, 2, 3, 4])), ([], some (11, [0])), ([12, 13], some (14, []))] (by kernel_rfl) (by kernel_rfl) ?_
        refine WQ.run 9 [.int .i64 (A.nd i).key, .int .i64 (A.nd i).val, .slice u2 (List.length (en2 o2)) d2] rfl (by exact ⟨hS.ld 1 rfl rfl, hS.ld 1 rfl rfl, hS.ld 0 rfl rfl⟩) ?_
        refine WQ.nil ?_
        intro m1
        replace hS := hS.drewN m1; generalize hwm1 : World.drewN _ _ = w at *; clear hwm1
        refine WL.build rfl rfl (cs := [.int .i64 (A.nd i).key, .int .i64 (A.nd i).val]) zv_121 rfl rfl <| WL.nil ?_
        refine ⟨by exact ⟨RQ.pure rfl rfl rfl rfl, RQ.pure rfl rfl rfl rfl, RQ.pure rfl rfl rfl rfl, RQ.pure rfl rfl rfl rfl, RQ.load rfl rfl rfl rfl (hS.ld 0 rfl rfl)⟩, ?_⟩
        refine WQ.nil ?_
        intro m2
        replace hS := hS.drewN m2; generalize hwm2 : World.drewN _ _ = w at *; clear hwm2
        refine WL.lit rfl rfl (en2 [((A.nd i).key, (A.nd i).val)]) el_49 hS (by exact ⟨rfl, rfl⟩) (en2_ok _) rfl (Nat.le_of_ble_eq_true rfl) (fun b2 w hS => ?_)
        refine WL.nil ?_
        refine ⟨by exact ⟨RQ.pure rfl rfl rfl rfl, RQ.pure rfl rfl rfl rfl, RQ.pure rfl rfl rfl rfl, RQ.pure rfl rfl rfl rfl, RQ.load rfl rfl rfl rfl (hS.ld 1 rfl rfl)⟩, ?_⟩
        refine WQ.nil ?_
        intro m3
        replace hS := hS.drewN m3; generalize hwm3 : World.drewN _ _ = w at *; clear hwm3
        refine WL.app rfl rfl 4 (en2 (o2 ++ [((A.nd i).key, (A.nd i).val)])) el_49 hS rfl (hS.srcO 0 rfl) (en2_app _ _).symm (Rm.of (by first | omega | (simp <;> omega)) (by decide)) rfl rfl (fun a1 c1 w hS => ?_)
        replace hS := hS.n5 L (a0 := Own 121 2 (en2 [((A.nd i).key, (A.nd i).val)]) (some ⟨b2, 0, none⟩) (List.length (en2 [((A.nd i).key, (A.nd i).val)]))) (a4 := Own 121 2 (en2 (o2 ++ [((A.nd i).key, (A.nd i).val)])) a1 c1) rfl
        refine WL.nil ?_
        refine ⟨by exact RQ.pure rfl rfl rfl rfl, ?_⟩
        refine WQ.r 2 rfl <| WQ.nil ?_
        intro m4
        replace hS := hS.drewN m4; generalize hwm4 : World.drewN _ _ = w at *; clear hwm4
        refine WL.st rfl rfl rfl 1 hS rfl rfl rfl rfl rfl rfl (fun w hS => ?_)
        replace hS := hS.n5 L (a1 := cel p #[.pointer (some ⟨a, 0, none⟩), .slice a1 (List.length (en2 (o2 ++ [((A.nd i).key, (A.nd i).val)]))) c1, .int .i64 2147483647] 307) rfl
        refine WL.nil ?_
        refine ⟨by exact trivial, ?_⟩
        intro m5
        replace hS := hS.drewN m5; generalize hwm5 : World.drewN _ _ = w at *; clear hwm5
        as_aux_lemma =>
        refine WC.seq <| WC.region <| WL.run 4 [.int .i64 (A.nd i).key] rfl (by exact hS.ld 2 rfl rfl) ?_
        refine WL.nil <| WC.ifP rfl (fun hlt => ?_) (fun hlt => ?_)
        · refine WC.region <| WL.run 5 [.int .u32 (A.nd i).rg] rfl (by exact hS.ld 2 rfl rfl) ?_
          refine WL.call rfl rfl (ih (tr.n) (by omega) _ _ _ p a A R (A.nd i).rg lo hi (o2 ++ [((A.nd i).key, (A.nd i).val)]) a1 c1 tr (hA) (hr7) (hs8) ((by first | omega | (rw [List.length_append]; simp only [List.length_singleton]; omega))) rfl (hS.sel 5 [1, 3, 2, 0, 0] rfl)) rfl ?_
          clear hS; rintro _ w ⟨u1, d1, rfl, hS⟩
          replace hS := hS.n5 L (a0 := cel p #[.pointer (some ⟨a, 0, none⟩), .slice u1 (List.length (en2 ((o2 ++ [((A.nd i).key, (A.nd i).val)]) ++ btw lo hi tr.ls))) d1, .int .i64 2147483647] 307) (a1 := Own 121 2 (en2 ((o2 ++ [((A.nd i).key, (A.nd i).val)]) ++ btw lo hi tr.ls)) u1 d1) rfl
          refine WL.nil ?_
          refine ⟨[], trivial, ?_⟩
          replace hS := (hS.sel 5 [0, 0, 0] rfl)
          rw [hbt, if_pos ⟨cg2, cg3⟩, if_pos hlt]; exact ⟨_, _, rfl, hS⟩
        · refine WC.skip ?_
          refine ⟨[], trivial, ?_⟩
          replace hS := (hS.sel 5 [1, 3, 2] rfl)
          rw [hbt, if_pos ⟨cg2, cg3⟩, if_neg hlt, List.append_nil]; exact ⟨_, _, rfl, hS⟩
      · refine WL.reb 47 (.bool false) (congrArg Value.bool (decide_eq_false cg3)) <| WL.skp rfl rfl rfl rfl <| WL.skp rfl rfl rfl rfl <| WL.skp rfl rfl rfl rfl <| WL.r 1 rfl <| WL.nil ?_
        as_aux_lemma =>
        refine WC.ifF rfl rfl <| WC.skip <| WC.seq <| WC.region <| WL.run 4 [.int .i64 (A.nd i).key] rfl (by exact hS.ld 0 rfl rfl) ?_
        refine WL.nil <| WC.ifP rfl (fun hlt => ?_) (fun hlt => ?_)
        · refine WC.region <| WL.run 5 [.int .u32 (A.nd i).rg] rfl (by exact hS.ld 0 rfl rfl) ?_
          refine WL.call rfl rfl (ih (tr.n) (by omega) _ _ _ p a A R (A.nd i).rg lo hi o2 u2 d2 tr (hA) (hr7) (hs8) ((by first | omega | (rw [List.length_append]; simp only [List.length_singleton]; omega))) rfl (hS.sel 4 [2, 2, 1, 0] rfl)) rfl ?_
          clear hS; rintro _ w ⟨u1, d1, rfl, hS⟩
          replace hS := hS.n4 L (a0 := cel p #[.pointer (some ⟨a, 0, none⟩), .slice u1 (List.length (en2 (o2 ++ btw lo hi tr.ls))) d1, .int .i64 2147483647] 307) (a1 := Own 121 2 (en2 (o2 ++ btw lo hi tr.ls)) u1 d1) rfl
          refine WL.nil ?_
          refine ⟨[], trivial, ?_⟩
          replace hS := (hS.sel 4 [0, 0, 0] rfl)
          rw [hbt, if_neg (fun h => cg3 h.2), if_pos hlt, List.append_nil]; exact ⟨_, _, rfl, hS⟩
        · refine WC.skip ?_
          refine ⟨[], trivial, ?_⟩
          replace hS := (hS.sel 4 [2, 2, 1] rfl)
          rw [hbt, if_neg (fun h => cg3 h.2), if_neg hlt, List.append_nil, List.append_nil]; exact ⟨_, _, rfl, hS⟩
    · refine WL.reb 41 (.bool false) (congrArg Value.bool (decide_eq_false cg2)) <| WL.skp rfl rfl rfl rfl <| WL.skp rfl rfl rfl rfl <| WL.skp rfl rfl rfl rfl <| WL.skp rfl rfl rfl rfl <| WL.r 2 rfl <| WL.skp rfl rfl rfl rfl <| WL.skp rfl rfl rfl rfl <| WL.skp rfl rfl rfl rfl <| WL.r 1 rfl <| WL.nil ?_
      as_aux_lemma =>
      refine WC.ifF rfl rfl <| WC.skip <| WC.seq <| WC.region <| WL.run 4 [.int .i64 (A.nd i).key] rfl (by exact hS.ld 0 rfl rfl) ?_
      refine WL.nil <| WC.ifP rfl (fun hlt => ?_) (fun hlt => ?_)
      · refine WC.region <| WL.run 5 [.int .u32 (A.nd i).rg] rfl (by exact hS.ld 0 rfl rfl) ?_
        refine WL.call rfl rfl (ih (tr.n) (by omega) _ _ _ p a A R (A.nd i).rg lo hi o2 u2 d2 tr (hA) (hr7) (hs8) ((by first | omega | (rw [List.length_append]; simp only [List.length_singleton]; omega))) rfl (hS.sel 4 [2, 2, 1, 0] rfl)) rfl ?_
        clear hS; rintro _ w ⟨u1, d1, rfl, hS⟩
        replace hS := hS.n4 L (a0 := cel p #[.pointer (some ⟨a, 0, none⟩), .slice u1 (List.length (en2 (o2 ++ btw lo hi tr.ls))) d1, .int .i64 2147483647] 307) (a1 := Own 121 2 (en2 (o2 ++ btw lo hi tr.ls)) u1 d1) rfl
        refine WL.nil ?_
        refine ⟨[], trivial, ?_⟩
        replace hS := (hS.sel 4 [0, 0, 0] rfl)
        rw [hbt, if_neg (fun h => cg2 h.1), if_pos hlt, List.append_nil]; exact ⟨_, _, rfl, hS⟩
      · refine WC.skip ?_
        refine ⟨[], trivial, ?_⟩
        replace hS := (hS.sel 4 [2, 2, 1] rfl)
        rw [hbt, if_neg (fun h => cg2 h.1), if_neg hlt, List.append_nil, List.append_nil]; exact ⟨_, _, rfl, hS⟩
theorem bl_keys_all (nM : Nat) : ∀ (g w : World) (L : List HP) (p a : Nat) (A : AM) (R : List Int) (i lo hi : Int) (o : Kvs) (u : Option Addr) (d : Nat) (t : Tr), (ARf A R) → (Is A t i) → (Srt t.ls) → (o.length + t.n ≤ 1000000) → t.n = nM → St g (cel p #[.pointer (some ⟨a, 0, none⟩), .slice u (List.length (en2 o)) d, .int .i64 2147483647] 307 :: Own 121 2 (en2 o) u d :: Arn a A :: L) w → Sp Tryz.prog 203 [.pointer (some ⟨p, 0, none⟩), .int .u32 i, .int .i64 lo, .int .i64 hi] w (fun v w' => ∃ (u2 : Option Addr) (d2 : Nat), v = .tuple #[] ∧ St g (cel p #[.pointer (some ⟨a, 0, none⟩), .slice u2 (List.length (en2 (o ++ btw lo hi t.ls))) d2, .int .i64 2147483647] 307 :: Own 121 2 (en2 (o ++ btw lo hi t.ls)) u2 d2 :: Arn a A :: L) w') := by
  induction nM using Nat.strongRecOn with
  | _ nM ih => intro g w L p a A R i lo hi o u d t hA hi9 hs hl hM hS; exact bl_keys_step nM ih p a A R i lo hi o u d t hA hi9 hs hl hM hS
theorem bl_keys {g w : World} {L : List HP} (p a : Nat) (A : AM) (R : List Int) (i lo hi : Int) (o : Kvs) (u : Option Addr) (d : Nat) (t : Tr) (hA : ARf A R) (hi9 : Is A t i) (hs : Srt t.ls) (hl : o.length + t.n ≤ 1000000) (hS : St g (cel p #[.pointer (some ⟨a, 0, none⟩), .slice u (List.length (en2 o)) d, .int .i64 2147483647] 307 :: Own 121 2 (en2 o) u d :: Arn a A :: L) w) :
    Sp Tryz.prog 203 [.pointer (some ⟨p, 0, none⟩), .int .u32 i, .int .i64 lo, .int .i64 hi] w (fun v w' => ∃ (u2 : Option Addr) (d2 : Nat), v = .tuple #[] ∧ St g (cel p #[.pointer (some ⟨a, 0, none⟩), .slice u2 (List.length (en2 (o ++ btw lo hi t.ls))) d2, .int .i64 2147483647] 307 :: Own 121 2 (en2 (o ++ btw lo hi t.ls)) u2 d2 :: Arn a A :: L) w') := bl_keys_all _ g w L p a A R i lo hi o u d t hA hi9 hs hl rfl hS
set_option maxRecDepth 8192 in
theorem bk_range {g w : World} {L : List HP} (a : Nat) (A : AM) (R : List Int) (i lo hi : Int) (t : Tr) (hA : ARf A R) (hi9 : Is A t i) (hs : Srt t.ls) (hl : t.n ≤ 100000) (hle : lo ≤ hi) (hS : St g (Arn a A :: L) w) :
    Sp Tryz.prog 166 [.pointer (some ⟨a, 0, none⟩), .int .u32 i, .int .i64 lo, .int .i64 hi, .int .i64 2147483647] w (fun v w' => ∃ (u2 : Option Addr) (d2 : Nat), v = .slice u2 (List.length (en2 (btw lo hi t.ls))) d2 ∧ St g (Own 121 2 (en2 (btw lo hi t.ls)) u2 d2 :: Arn a A :: L) w') := by
  refine Sp.enter Tryz.func166 rfl (by kernel_rfl) (by kernel_rfl) ?_
  have _ := hle
  have _ := hl
  refine WC.seq <| WC.region <| WL.r 1 rfl <| WL.nil <| WC.seq <| WC.seq <| WC.region <| WL.r 2 rfl <| WL.rG 5 rfl (fun j => ?_)
  refine WL.prop 18 rfl (bor (dd _) (dd _)) <| WL.nil <| WC.ifF rfl (decide_eq_false ((by omega))) ?_
  refine WC.skip <| WC.seq <| WC.region <| WL.r 2 rfl <| WL.build rfl rfl (cs := [.pointer (some ⟨a, 0, none⟩), .slice none 0 0, .int .i64 2147483647]) zv_307 rfl rfl <| WL.box rfl rfl #[.pointer (some ⟨a, 0, none⟩), .slice none 0 0, .int .i64 2147483647] hS rfl rfl (fun b1 w hS => ?_)
  refine WL.r 1 rfl <| WL.nil <| WC.seq <| WC.region ?_
  replace hS : St g (Own 121 2 (en2 []) none 0 :: cel b1 #[.pointer (some ⟨a, 0, none⟩), .slice none 0 0, .int .i64 2147483647] 307 :: Arn a A :: L) w := hS.nil_ 121 2
  refine WL.r 4 rfl <| WL.call rfl rfl (bl_keys (R := R) (i := i) (lo := lo) (hi := hi) (o := []) (t := t) (hA := hA) (hi9 := hi9) (hs := hs) (hl := (by simp; omega)) (hS := (hS.sel 2 [1, 0] rfl))) rfl ?_
  clear hS; rintro _ w ⟨u1, d1, rfl, hS⟩
  replace hS := hS.n3 L (a0 := cel b1 #[.pointer (some ⟨a, 0, none⟩), .slice u1 (List.length (en2 ([] ++ btw lo hi t.ls))) d1, .int .i64 2147483647] 307) (a1 := Own 121 2 (en2 ([] ++ btw lo hi t.ls)) u1 d1) rfl
  refine WL.nil ?_
  as_aux_lemma =>
  refine WC.seq <| WC.region <| WL.run 5 [.slice u1 (List.length (en2 ([] ++ btw lo hi t.ls))) d1] rfl (by exact hS.ld 0 rfl rfl) ?_
  refine WL.nil <| WC.ret ?_
  refine ⟨[.slice u1 (List.length (en2 ([] ++ btw lo hi t.ls))) d1], rfl, ?_⟩
  replace hS := (hS.sel 1 [] rfl)
  exact ⟨_, _, rfl, hS⟩
theorem rng_cmp (x y : Int × Int) (W : World) : Calls Tryz.prog 168 #[.agg #[.int .i64 x.1, .int .i64 x.2], .agg #[.int .i64 y.1, .int .i64 y.2]] W fun e w' => e = .returned (.int .i64 (kvC x y)) ∧ ∃ q os', w' = grow (W.drewN q) os' := by
  unfold kvC
  go_enter Tryz.func168, Tryz.ntmps168
  go_wp2
  all_goals (go_ret; exact ⟨rfl, 0, _, by rw [alloc_eq_grow, alloc_eq_grow, grow_grow]; rfl⟩)
theorem rng_lays (blk off size : Nat) (w : World) : CmpLays Tryz.prog 168 #[] kv2 2 kvC blk off size w := fun _ _ _ _ x y => rng_cmp x y _
set_option maxRecDepth 8192 in
theorem len64_0 {g w : World} {L : List HP} (hS : St g (L) w) :
    Sp Tryz.prog 232 [.int .u64 0] w (fun v w' => v = .int .i64 0 ∧ St g (L) w') := by
  refine Sp.enter Tryz.func232 rfl (by kernel_rfl) (by kernel_rfl) ?_
  refine WC.seq <| WC.region <| WL.r 1 rfl <| WL.nil <| WC.seq <| WC.seq <| WC.region <| WL.r 2 rfl <| WL.nil <| WC.ifF rfl (decide_eq_false ((by decide))) ?_
  refine WC.skip <| WC.seq <| WC.seq <| WC.region <| WL.r 2 rfl <| WL.nil <| WC.ifF rfl (decide_eq_false ((by decide))) ?_
  refine WC.skip <| WC.seq <| WC.seq <| WC.region <| WL.r 2 rfl <| WL.nil <| WC.ifF rfl (decide_eq_false ((by decide))) ?_
  refine WC.skip ?_
  as_aux_lemma =>
  refine WC.seq <| WC.region <| WL.r 3 rfl <| WL.reb 21 (.int .u8 0) (congrArg (Value.int .u8) (by rfl)) ?_
  refine WL.ixs rfl rfl (v := 0) (0) rfl rfl rfl (by omega) (show (sb _)[0]? = some 0 from rfl) ?_
  refine WL.r 1 rfl <| WL.reb 23 (.int .i64 0) (congrArg (Value.int .i64) (by rfl)) ?_
  refine WL.r 1 rfl <| WL.reb 24 (.int .i64 0) (congrArg (Value.int .i64) (by decide)) ?_
  refine WL.r 1 rfl <| WL.nil <| WC.ret ?_
  refine ⟨[.int .i64 0], rfl, ?_⟩
  exact ⟨rfl, hS⟩
set_option maxRecDepth 8192 in
theorem len_0 {g w : World} {L : List HP} (hS : St g (L) w) :
    Sp Tryz.prog 198 [.int .u64 0] w (fun v w' => v = .int .i64 0 ∧ St g (L) w') := by
  refine Sp.enter Tryz.func198 rfl (by kernel_rfl) (by kernel_rfl) ?_
  refine WC.seq <| WC.region <| WL.r 1 rfl <| WL.nil <| WC.seq <| WC.ifF rfl rfl <| WC.skip <| WC.seq <| WC.region <| WL.r 1 rfl <| WL.call rfl rfl (len64_0   (hS := hS)) rfl ?_
  clear hS; rintro _ w ⟨rfl, hS⟩
  replace hS : St g (L) w := hS
  refine WL.r 1 rfl <| WL.nil <| WC.ret ?_
  refine ⟨[.int .i64 0], rfl, ?_⟩
  exact ⟨rfl, hS⟩
set_option maxRecDepth 8192 in
theorem ins_0 {g w : World} {L : List HP} (hS : St g (L) w) :
    Sp Tryz.prog 234 [.slice none 0 0, .int .i64 0, .int .i64 0, .func (.func 168) #[] #[]] w (fun v w' => v = .tuple #[] ∧ St g (L) w') := by
  refine Sp.enter Tryz.func234 rfl (by kernel_rfl) (by kernel_rfl) ?_
  refine WC.seq <| WC.region <| WL.r 2 rfl <| WL.reb 11 (.int .i64 1) (congrArg (Value.int .i64) (by decide)) ?_
  refine WL.r 1 rfl <| WL.nil <| WC.block <| WC.loop [0, 1, 2, 3, 8] (fun kM vs w => vs = [.slice none 0 0, .int .i64 0, .int .i64 0, .func (.func 168) #[] #[], .int .i64 1] ∧ St g (L) w ∧ (0) = kM) (0) ⟨rfl, hS, rfl⟩ ?_
  clear hS; rintro _ _ w j ⟨rfl, hS, rfl⟩
  refine WC.seq <| WC.seq <| WC.region <| WL.r 3 rfl <| WL.nil <| WC.ifF rfl (decide_eq_false ((by decide))) ?_
  refine WC.exit ?_
  refine ⟨[], trivial, ?_⟩
  exact ⟨rfl, hS⟩
set_option maxRecDepth 8192 in
theorem pdq_0 {g w : World} {L : List HP} (hS : St g (L) w) :
    Sp Tryz.prog 204 [.slice none 0 0, .int .i64 0, .int .i64 0, .int .i64 0, .func (.func 168) #[] #[]] w (fun v w' => v = .tuple #[] ∧ St g (L) w') := by
  refine Sp.enter Tryz.func204 rfl (by kernel_rfl) (by kernel_rfl) ?_
  refine WC.seq <| WC.region <| WL.r 1 rfl <| WL.nil <| WC.seq <| WC.region <| WL.r 1 rfl <| WL.nil <| WC.block <| WC.loop [0, 1, 2, 4] (fun kM vs w => vs = [.slice none 0 0, .int .i64 0, .int .i64 0, .func (.func 168) #[] #[]] ∧ St g (L) w ∧ (0) = kM) (0) ⟨rfl, hS, rfl⟩ ?_
  clear hS; rintro _ _ w j ⟨rfl, hS, rfl⟩
  refine WC.block <| WC.seq <| WC.region <| WL.r 3 rfl <| WL.reb 23 (.int .i64 0) (congrArg (Value.int .i64) (by decide)) ?_
  refine WL.r 1 rfl <| WL.nil <| WC.seq <| WC.seq <| WC.region <| WL.r 2 rfl <| WL.nil <| WC.ifT rfl (decide_eq_true ((by decide))) ?_
  refine WC.seq <| WC.region <| WL.r 4 rfl <| WL.call rfl rfl (ins_0   (hS := hS)) rfl ?_
  clear hS; rintro _ w ⟨rfl, hS⟩
  replace hS : St g (L) w := hS
  refine WL.nil ?_
  as_aux_lemma =>
  refine WC.ret ?_
  refine ⟨[], trivial, ?_⟩
  exact ⟨rfl, hS⟩
set_option maxRecDepth 8192 in
theorem sortF_0 {g w : World} {L : List HP} (hS : St g (L) w) :
    Sp Tryz.prog 167 [.slice none 0 0, .func (.func 168) #[] #[]] w (fun v w' => v = .tuple #[] ∧ St g (L) w') := by
  refine Sp.enter Tryz.func167 rfl (by kernel_rfl) (by kernel_rfl) ?_
  refine WC.seq <| WC.region <| WL.r 3 rfl <| WL.nil <| WC.region <| WL.r 4 rfl <| WL.nw 10 rfl (wu64 (by omega)) ?_
  refine WL.call rfl rfl (len_0   (hS := hS)) rfl ?_
  clear hS; rintro _ w ⟨rfl, hS⟩
  replace hS : St g (L) w := hS
  refine WL.r 1 rfl <| WL.call rfl rfl (pdq_0   (hS := hS)) rfl ?_
  clear hS; rintro _ w ⟨rfl, hS⟩
  replace hS : St g (L) w := hS
  refine WL.nil ?_
  refine ⟨[], trivial, ?_⟩
  exact ⟨rfl, hS⟩
theorem perm_of_in {ls : Kvs} {d' : Array (Int × Int)} (hp : PermIn 0 ls.toArray.size ls.toArray d') : d'.toList.Perm ls ∧ d'.toList.length = ls.length := by
  obtain ⟨h1, _, h3⟩ := hp
  have e1 : (d'.extract 0 ls.toArray.size) = d' := by rw [← h1]; simp
  rw [e1] at h3
  simp at h3
  exact ⟨h3, by rw [h3.length_eq]⟩
theorem sort_of_in {d' : Array (Int × Int)} {n : Nat} (hn : d'.size = n) (hs : SortedIn (ltOf kvC) 0 n d') : ∀ i j (hi : i < d'.toList.length) (hj : j < d'.toList.length), i < j → ¬ d'.toList[j].1 < d'.toList[i].1 := fun i j hi hj hij h => by
  rw [Array.length_toList] at hi hj
  have h1 := hs i j (Nat.zero_le _) hij (by omega)
  rw [kvLt, decide_eq_false_iff_not, getElem!_pos d' j hj, getElem!_pos d' i hi] at h1
  exact h1 (by simpa using h)
set_option maxRecDepth 8192 in
theorem srt_spec {g w : World} {L : List HP} (ls : Kvs) (u : Option Addr) (d : Nat) (hk : ls.Pairwise fun a b => a.1 ≠ b.1) (hl : ls.length ≤ 1000000) (hS : St g (Own 121 2 (en2 ls) u d :: L) w) :
    Sp Tryz.prog 167 [.slice u (List.length (en2 ls)) d, .func (.func 168) #[] #[]] w (fun v w' => ∃ (ts : Kvs), v = .tuple #[] ∧ St g (Own 121 2 (en2 ts) u d :: L) w' ∧ (Srt ts) ∧ (ts.Perm ls)) := by
  by_cases h0 : ls = [] ∧ u = none
  · obtain ⟨rfl, rfl⟩ := h0
    obtain ⟨o1, r, ⟨_, h2⟩, _, _⟩ := hS.get 0 rfl
    have hd : d = 0 := by
      rcases h2 with ⟨_, h3, _⟩ | ⟨_, _, h3, _⟩
      · exact h3
      · cases h3
    subst hd
    refine (sortF_0 hS).mono fun v w' ⟨hv, h⟩ => ⟨[], hv, h, List.Pairwise.nil, List.Perm.refl _⟩
  · obtain ⟨b, rfl⟩ : ∃ b, u = some ⟨b, 0, none⟩ := by
      obtain ⟨o1, r, ⟨_, h2⟩, _, _⟩ := hS.get 0 rfl
      rcases h2 with ⟨h3, _, h4⟩ | ⟨b, _, h3, _⟩
      · exact absurd ⟨by simpa [en2] using h4, h3⟩ h0
      · exact ⟨b, h3⟩
    obtain ⟨hH, hb⟩ := hS.holdsK 0 rfl
    have h := AnyQ.slices_SortFunc Tryz.srtE 2 Tryz.isAgg121 Tryz.sizeOf121 kv2 (fun _ => rfl) (fun x v hv => by simp [kv2] at hv; rcases hv with rfl | rfl <;> rfl) kvC kvSwo 168 #[] b 0 d ls.toArray w (enters_of Tryz.func168 (by kernel_rfl) rfl) (rng_lays b 0 _ w) hH hb (by simp; omega)
    have he : #[.slice (some ⟨b, 0, none⟩) ls.toArray.size d, .func (.func 168) #[] #[]] = #[Value.slice (some ⟨b, 0, none⟩) (en2 ls).length d, .func (.func 168) #[] #[]] := by rw [en2_len]; simp
    rw [he] at h
    refine ⟨⟨_, _, Tryz.func167, by kernel_rfl, rfl⟩, h.mono fun e w' ⟨he, d', n, os, hp, hs, hw⟩ => ⟨_, he, ?_⟩⟩
    subst hw
    obtain ⟨h1, h2⟩ := perm_of_in hp
    have h3 := hS.putK d'.toList h2 n os
    exact ⟨d'.toList, rfl, h3, srt_of_perm hk h1 (sort_of_in (by rw [← Array.length_toList, h2]; simp) hs), h1⟩
def wIn (lo hi : Int) (x : WE) : Bool := x.p && (decide (lo ≤ x.k) && decide (x.k ≤ hi))
def wOut (lo hi : Int) (ds : List WE) : Kvs := (ds.filter (wIn lo hi)).map fun x => (x.k, x.v)
def lft (xs ds : List WE) : List WE := xs.filter fun x => !ds.any fun y => decide (y.b = x.b)
structure DsI (xs ds : List WE) : Prop where
  sub : ∀ x ∈ ds, x ∈ xs
  uniq : ds.Pairwise fun a b => a.k ≠ b.k
  len : ds.length + (lft xs ds).length ≤ xs.length
theorem DsI.nil (xs : List WE) : DsI xs [] := ⟨fun _ h => (by cases h), List.Pairwise.nil, by rw [List.length_nil, Nat.zero_add]; exact List.length_filter_le _ _⟩
theorem lft_lt {xs ds : List WE} {x : WE} (hx : x ∈ xs) (hn : ∀ y ∈ ds, y.b ≠ x.b) : (lft xs (ds ++ [x])).length < (lft xs ds).length := by
  refine filter_lt _ _ (fun y hy => ?_) x ?_ ?_ xs hx
  · simp only [Bool.not_eq_true', List.any_append, Bool.or_eq_false_iff] at hy ⊢
    exact hy.1
  · simp only [Bool.not_eq_true', List.any_eq_false, decide_eq_true_eq]
    exact hn
  · simp
theorem DsI.snoc {xs ds : List WE} {x : WE} (h : DsI xs ds) (hu : xs.Pairwise fun a b => a.k ≠ b.k) (hx : x ∈ xs) (hn : ∀ y ∈ ds, y.b ≠ x.b) : DsI xs (ds ++ [x]) := by
  refine ⟨fun y hy => ?_, List.pairwise_append.2 ⟨h.uniq, List.pairwise_singleton _ _, fun a ha b hb => ?_⟩, ?_⟩
  · rcases List.mem_append.1 hy with hy | hy
    · exact h.sub y hy
    · rw [List.mem_singleton.1 hy]; exact hx
  · rw [List.mem_singleton.1 hb]
    intro he
    obtain ⟨i, hi⟩ := List.mem_iff_getElem?.1 (h.sub a ha)
    obtain ⟨j, hj⟩ := List.mem_iff_getElem?.1 hx
    obtain ⟨hi1, hi2⟩ := List.getElem?_eq_some_iff.1 hi
    obtain ⟨hj1, hj2⟩ := List.getElem?_eq_some_iff.1 hj
    rcases Nat.lt_trichotomy i j with hlt | heq | hgt
    · have := List.pairwise_iff_getElem.1 hu i j hi1 hj1 hlt
      rw [hi2, hj2] at this; exact this he
    · subst heq
      rw [hi] at hj
      exact hn a ha (by rw [Option.some.inj hj])
    · have := List.pairwise_iff_getElem.1 hu j i hj1 hi1 hgt
      rw [hi2, hj2] at this; exact this he.symm
  · have h1 := lft_lt hx hn
    have h2 := h.len
    rw [List.length_append, List.length_singleton]; omega
theorem wOut_in {lo hi : Int} {ds : List WE} {x : WE} (h : wIn lo hi x = true) : wOut lo hi (ds ++ [x]) = wOut lo hi ds ++ [(x.k, x.v)] := by
  unfold wOut; rw [List.filter_append, List.map_append]; simp [h]
theorem wOut_out {lo hi : Int} {ds : List WE} {x : WE} (h : wIn lo hi x = false) : wOut lo hi (ds ++ [x]) = wOut lo hi ds := by
  unfold wOut; rw [List.filter_append, List.map_append]; simp [h]
theorem wOut_len (lo hi : Int) (ds : List WE) : (wOut lo hi ds).length ≤ ds.length := by
  unfold wOut; rw [List.length_map]; exact List.length_filter_le _ _
theorem DsI.all {xs ds : List WE} (h : DsI xs ds) (hb : (xs.map fun x => (wK x).2.2).Nodup) (he : ∀ x ∈ xs, ∃ y ∈ ds, (wK y).2.2 = (wK x).2.2) : ∀ x ∈ xs, x ∈ ds := fun x hx => by
  obtain ⟨y, hy, hyx⟩ := he x hx
  obtain ⟨i, hi⟩ := List.mem_iff_getElem?.1 (h.sub y hy)
  obtain ⟨j, hj⟩ := List.mem_iff_getElem?.1 hx
  obtain ⟨hi1, hi2⟩ := List.getElem?_eq_some_iff.1 hi
  obtain ⟨hj1, hj2⟩ := List.getElem?_eq_some_iff.1 hj
  have hb2 := List.pairwise_map.1 hb
  rcases Nat.lt_trichotomy i j with hlt | heq | hgt
  · have := List.pairwise_iff_getElem.1 hb2 i j hi1 hj1 hlt
    rw [hi2, hj2] at this; exact absurd hyx this
  · subst heq
    rw [hi] at hj; rw [← Option.some.inj hj]; exact hy
  · have := List.pairwise_iff_getElem.1 hb2 j i hj1 hi1 hgt
    rw [hi2, hj2] at this; exact absurd hyx.symm this
def unw (M : Wrs) (l : Kvs) : Kvs := l.filter fun e => !(wget e.1 M).isSome
theorem unw_in {M : Wrs} {l : Kvs} {j : Nat} {e : Int × Int} (he : l[j]? = some e) (h : (wget e.1 M).isSome = false) : unw M (l.take (j + 1)) = unw M (l.take j) ++ [(e.1, e.2)] := by
  unfold unw; rw [List.take_add_one, he, List.filter_append]
  show _ ++ List.filter _ [e] = _
  rw [List.filter_cons, if_pos (by rw [h]; rfl)]; rfl
theorem unw_out {M : Wrs} {l : Kvs} {j : Nat} {e : Int × Int} (he : l[j]? = some e) (h : (wget e.1 M).isSome = true) : unw M (l.take (j + 1)) = unw M (l.take j) := by
  unfold unw; rw [List.take_add_one, he, List.filter_append]
  show _ ++ List.filter _ [e] = _
  rw [List.filter_cons, if_neg (by rw [h]; decide), List.filter_nil, List.append_nil]
theorem unw_len (M : Wrs) (l : Kvs) (j : Nat) : (unw M (l.take j)).length ≤ l.length := by
  unfold unw
  have h1 := List.length_filter_le (fun e : Int × Int => !(wget e.1 M).isSome) (l.take j)
  have h2 := List.length_take_le' j l
  omega
theorem wlk {xs : List WE} {q : Nat} {M : Wrs} (hW : WOk xs q M) (k : Int) : ∃ (r : Option (Nat × Value)) (p : Bool) (v : Int), mfind (.int .i64) (.int .i64 k) (xs.map wK) = some r ∧ lkV r (.agg #[.bool false, .int .i64 0]) true = .tuple #[.agg #[.bool p, .int .i64 v], .bool (wget k M).isSome] := by
  rcases wkeys hW k with ⟨h1, j, e, he, hk⟩ | ⟨h1, hn⟩
  · refine ⟨_, e.p, e.v, hk ▸ ki_in (f := wK) (n := WE.k) hW.k.key hW.k.uniq he, by rw [h1]; rfl⟩
  · exact ⟨none, false, 0, ki_out (f := wK) (n := WE.k) hW.k.key hn, by rw [h1]; rfl⟩
theorem rg_keys {xs ds : List WE} {q : Nat} {M : Wrs} {l : Kvs} {lo hi : Int} (hW : WOk xs q M) (hl : Srt l) (hd : DsI xs ds) : (unw M l ++ wOut lo hi ds).Pairwise fun a b => a.1 ≠ b.1 := by
  refine List.pairwise_append.2 ⟨(hl.sublist List.filter_sublist).imp fun {a b} h e => by rw [e] at h; omega, List.pairwise_map.2 (hd.uniq.sublist List.filter_sublist), fun a ha b hb => ?_⟩
  obtain ⟨_, h2⟩ := List.mem_filter.1 ha
  obtain ⟨y, hy, rfl⟩ := List.mem_map.1 hb
  have hy2 := hd.sub y (List.mem_filter.1 hy).1
  obtain ⟨j, hj⟩ := List.mem_iff_getElem?.1 hy2
  intro he
  have h3 := hW.get hj
  rw [← show a.1 = y.k from he] at h3
  rw [h3] at h2; cases h2
theorem rg_view {xs ds : List WE} {q : Nat} {M : Wrs} {l ts : Kvs} {lo hi : Int} (hW : WOk xs q M) (hl : Srt l) (hd : DsI xs ds) (ha : ∀ x ∈ xs, x ∈ ds) (hts : Srt ts) (hp : ts.Perm (unw M (btw lo hi l) ++ wOut lo hi ds)) : ts = btw lo hi (lwA M l) := by
  refine view_eq hl hW.srt hts fun e => ?_
  rw [hp.mem_iff, List.mem_append]
  have h1 : e ∈ unw M (btw lo hi l) ↔ (e ∈ l ∧ (lo ≤ e.1 ∧ e.1 ≤ hi) ∧ wget e.1 M = none) := by
    unfold unw
    rw [List.mem_filter, btw_mem, and_assoc]
    refine and_congr_right fun _ => and_congr_right fun _ => ?_
    cases wget e.1 M <;> simp
  have h2 : e ∈ wOut lo hi ds ↔ ((e.1, true, e.2) ∈ M ∧ lo ≤ e.1 ∧ e.1 ≤ hi) := by
    unfold wOut
    rw [List.mem_map, hW.mem]
    constructor
    · rintro ⟨x, hx, rfl⟩
      obtain ⟨hx1, hx2⟩ := List.mem_filter.1 hx
      simp only [wIn, Bool.and_eq_true, decide_eq_true_iff] at hx2
      exact ⟨⟨x, hd.sub x hx1, by unfold wT; rw [hx2.1]⟩, hx2.2⟩
    · rintro ⟨⟨x, hx, hxe⟩, h3, h4⟩
      have e1 : x.k = e.1 := congrArg (·.1) hxe
      have e2 : x.p = true := congrArg (·.2.1) hxe
      have e3 : x.v = e.2 := congrArg (·.2.2) hxe
      refine ⟨x, List.mem_filter.2 ⟨ha x hx, ?_⟩, by rw [e1, e3]⟩
      simp only [wIn, Bool.and_eq_true, decide_eq_true_iff]
      rw [e1]; exact ⟨e2, h3, h4⟩
  rw [h1, h2]
set_option maxHeartbeats 1000000 in
set_option maxRecDepth 8192 in
theorem tx_range {g w : World} {L : List HP} (x a : Nat) (rt : Int) (xs : List WE) (q : Nat) (S : Kvs) (M : Wrs) (A : AM) (R : List Int) (lo hi : Int) (t : Tr) (hW : WOk xs q M) (hA : ARf A R) (hi9 : Is A t rt) (hs : Srt t.ls) (htn : t.n ≤ 100000) (hlo : i64R lo) (hhi : i64R hi) (hR : SpR S) (hSl : S.length ≤ 100000) (hS : St g (Tx x a rt xs q S :: Arn a A :: L) w) :
    Sp Tryz.prog 97 [.pointer (some ⟨x, 0, none⟩), .int .i64 lo, .int .i64 hi] w (fun v w' => ∃ (u2 : Option Addr) (c2 : Nat), v = .tuple #[.slice u2 (List.length (en2 (btw lo hi (lwA M t.ls)))) c2, .int .i64 0] ∧ St g (Own 121 2 (en2 (btw lo hi (lwA M t.ls))) u2 c2 :: Tx x a rt xs q (rdS lo hi S) :: Arn a A :: L) w') := by
  refine Sp.enter Tryz.func97 rfl (by kernel_rfl) (by kernel_rfl) ?_
  refine WC.seq <| WC.region <| WL.r 2 rfl <| WL.nil <| WC.seq <| WC.seq <| WC.region ?_
  obtain ⟨⟨xm, xu, xc⟩, hS⟩ := St.exOpen (f := txF x a rt xs q S) hS
  replace hS := hS.n4 L (a0 := cel x #[.pointer (some ⟨a, 0, none⟩), .int .u32 rt, .bool false, .map (some xm), .slice xu (List.length (en2 S)) xc] 188) (a1 := blk xm (.map (mE (List.map wK xs)) q)) (a2 := Own 106 2 (en2 S) xu xc) rfl
  refine WL.run 4 [.bool false] rfl (by exact hS.ld 0 rfl rfl) ?_
  refine WL.nil <| WC.ifF rfl rfl <| WC.skip <| WC.seq <| WC.seq <| WC.region <| WL.r 3 rfl <| WL.nil <| WC.ifP rfl (fun hgt => ?_) (fun hgt => ?_)
  · refine WC.seq <| WC.region ?_
    have e9 : rdS lo hi S = S := if_neg (by omega); have e8 : btw lo hi (lwA M t.ls) = [] := btw_none (by omega)
    replace hS : St g (Own 121 2 (en2 (btw lo hi (lwA M t.ls))) none 0 :: cel x #[.pointer (some ⟨a, 0, none⟩), .int .u32 rt, .bool false, .map (some xm), .slice xu (List.length (en2 S)) xc] 188 :: blk xm (.map (mE (List.map wK xs)) q) :: Own 106 2 (en2 S) xu xc :: Arn a A :: L) w := (by rw [e8]; exact hS.nil_ 121 2)
    refine WL.r 2 rfl <| WL.nil ?_
    as_aux_lemma =>
    refine WC.ret ?_
    replace hS := St.exClose (f := txF x a rt xs q (rdS lo hi S)) (L := Own 121 2 (en2 (btw lo hi (lwA M t.ls))) none 0 :: Arn a A :: L) ⟨xm, xu, xc⟩ (by
      rw [e9]
      exact (hS.sel 4 [1, 1, 1, 0] rfl))
    replace hS := hS.n3 L (a0 := Tx x a rt xs q (rdS lo hi S)) (a1 := Own 121 2 (en2 (btw lo hi (lwA M t.ls))) none 0) rfl
    refine ⟨[.slice none 0 0, .int .i64 0], ⟨rfl, rfl⟩, ?_⟩
    replace hS := (hS.sel 2 [1, 0] rfl)
    exact ⟨none, 0, by rw [e8]; rfl, hS⟩
  · refine WC.skip <| WC.seq <| WC.region ?_
    replace hS := St.exClose (f := txF x a rt xs q S) (L := Arn a A :: L) ⟨xm, xu, xc⟩ (hS)
    replace hS := hS.n2 L (a0 := Tx x a rt xs q S) rfl
    refine WL.r 3 rfl <| WL.call rfl rfl (tx_read (lo := lo) (hi := hi) (hlo := hlo) (hhi := hhi) (hR := hR) (hSl := hSl) (hS := hS)) rfl ?_
    clear hS; rintro _ w ⟨rfl, hS⟩
    replace hS := hS.n2 L (a0 := Tx x a rt xs q (rdF lo hi S)) rfl
    refine WL.nil ?_
    as_aux_lemma =>
    refine WC.seq <| WC.region ?_
    obtain ⟨⟨xm, xu, xc⟩, hS⟩ := St.exOpen (f := txF x a rt xs q (rdF lo hi S)) hS
    replace hS := hS.n4 L (a0 := cel x #[.pointer (some ⟨a, 0, none⟩), .int .u32 rt, .bool false, .map (some xm), .slice xu (List.length (en2 (rdF lo hi S))) xc] 188) (a1 := blk xm (.map (mE (List.map wK xs)) q)) (a2 := Own 106 2 (en2 (rdF lo hi S)) xu xc) rfl
    have hll := hW.len; have hxn := hW.k.num; have hbl : (btw lo hi t.ls).length ≤ t.ls.length := List.length_filter_le _ _; have htl := Tr.ls_len t; have hbe := en2_len (btw lo hi t.ls); have hbs : Srt (btw lo hi t.ls) := hs.sublist List.filter_sublist
    refine WL.r 1 rfl <| WL.nil <| WC.seq <| WC.seq <| WC.plan [([0, 4, 8, 9, 12, 1, 5, 2, 6, 3, 7], some (10, [12])), ([11], none)] (by kernel_rfl) (by kernel_rfl) ?_
    refine WQ.run 11 [.pointer (some ⟨a, 0, none⟩), .int .u32 rt] rfl (by exact ⟨hS.ld 0 rfl rfl, hS.ld 0 rfl rfl⟩) ?_
    refine WQ.nil ?_
    intro m1
    replace hS := hS.drewN m1; generalize hwm1 : World.drewN _ _ = w at *; clear hwm1
    refine WL.call rfl rfl (bk_range (R := R) (i := rt) (lo := lo) (hi := hi) (t := t) (hA := hA) (hi9 := hi9) (hs := hs) (hl := htn) (hle := (by omega)) (hS := (hS.sel 4 [3, 0, 0, 0] rfl))) rfl ?_
    clear hS; rintro _ w ⟨u1, d1, rfl, hS⟩
    replace hS := hS.n5 L (a0 := Own 121 2 (en2 (btw lo hi t.ls)) u1 d1) rfl
    refine WL.nil ?_
    refine ⟨by exact RQ.pure rfl rfl rfl rfl, ?_⟩
    refine WQ.r 1 rfl <| WQ.nil ?_
    intro m2
    replace hS := hS.drewN m2; generalize hwm2 : World.drewN _ _ = w at *; clear hwm2
    refine WC.block ?_
    replace hS := hS.nil_ 121 2
    refine WC.loop [0, 1, 2, 6, 7, 8, 36, 37, 38] (fun kM vs w => ∃ (k : Nat) (acc : Kvs) (ua : Option Addr) (da : Nat), vs = [.pointer (some ⟨x, 0, none⟩), .int .i64 lo, .int .i64 hi, .slice none 0 0, .int .i64 0, .slice ua (List.length (en2 acc)) da, .slice u1 (List.length (en2 (btw lo hi t.ls))) d1, .int .i64 (List.length (en2 (btw lo hi t.ls)) : Int), .int .i64 (k : Int)] ∧ St g (Own 121 2 (en2 acc) ua da :: Own 121 2 (en2 (btw lo hi t.ls)) u1 d1 :: Arn a A :: cel x #[.pointer (some ⟨a, 0, none⟩), .int .u32 rt, .bool false, .map (some xm), .slice xu (List.length (en2 (rdF lo hi S))) xc] 188 :: blk xm (.map (mE (List.map wK xs)) q) :: Own 106 2 (en2 (rdF lo hi S)) xu xc :: L) w ∧ (k ≤ (btw lo hi t.ls).length) ∧ (acc = unw M ((btw lo hi t.ls).take k)) ∧ ((btw lo hi t.ls).length - k) = kM) ((List.length (btw lo hi t.ls)) - 0) ⟨0, [], none, 0, rfl, hS, (Nat.zero_le _), (rfl), rfl⟩ ?_
    clear hS; rintro _ _ w j ⟨k, acc, ua, da, rfl, hS, hk, hac, rfl⟩
    refine WC.seq <| WC.region <| WL.r 1 rfl <| WL.nil ?_
    as_aux_lemma =>
    refine WC.seq <| WC.ifP rfl (fun cd1 => ?_) (fun cd1 => ?_)
    · refine WC.skip <| WC.seq <| WC.block <| WC.seq <| WC.region ?_
      obtain ⟨e, he⟩ : ∃ e, (btw lo hi t.ls)[k]? = some e := ⟨_, List.getElem?_eq_getElem (by omega)⟩; obtain ⟨r9, p9, v9, hr1, hr2⟩ := wlk hW e.1; have hul := unw_len M (btw lo hi t.ls) k; rw [← hac] at hul; have hae := en2_len acc
      refine WL.ix rfl rfl (i := (k : Int)) (k) el_49 rfl rfl (by omega) (by omega) (hS.rdO 1 rfl (en2_at he)).1 ?_
      refine WL.ldC rfl rfl [.int .i64 e.1, .int .i64 e.2] ag_121 rfl (hS.rdO 1 rfl (en2_at he)).2 <| WL.new rfl rfl zv_121 hS (fun b1 w hS => ?_)
      refine WL.stF rfl rfl rfl 0 hS rfl rfl rfl rfl rfl ag_121 (fun w hS => ?_)
      replace hS := hS.n7 L (a0 := cel b1 #[.int .i64 e.1, .int .i64 e.2] 121) rfl
      refine WL.nil <| WC.seq <| WC.plan [([0, 4, 1, 5, 2, 3, 6, 7, 8, 9], some (10, [0, 1, 2, 3, 4, 5, 6, 7, 8, 9])), ([], some (11, [9])), ([12], none)] (by kernel_rfl) (by kernel_rfl) ?_
      refine WQ.run 6 [.int .i64 e.1, .map (some xm)] rfl (by exact ⟨hS.ld 0 rfl rfl, hS.ld 4 rfl rfl⟩) ?_
      refine WQ.lk rfl rfl mt_186 5 hS rfl rfl rfl (by first | trivial | rfl) (r := r9) hr1 hr2 ?_
      refine WQ.r 3 rfl <| WQ.nil ?_
      intro m3
      replace hS := hS.drewN m3; generalize hwm3 : World.drewN _ _ = w at *; clear hwm3
      refine WL.new rfl rfl zv_217 hS (fun b2 w hS => ?_)
      refine WL.nil ?_
      refine ⟨by exact ⟨RQ.pure rfl rfl rfl rfl, RQ.pure rfl rfl rfl rfl, RQ.pure rfl rfl rfl rfl, RQ.load rfl rfl rfl rfl (hS.ld 5 rfl rfl), RQ.pure rfl rfl rfl rfl, RQ.load rfl rfl rfl rfl (hS.ld 1 rfl rfl), RQ.lk rfl rfl mt_186 6 hS rfl rfl rfl (by first | trivial | rfl) (r := r9) hr1 hr2 rfl rfl, RQ.pure rfl rfl rfl rfl, RQ.pure rfl rfl rfl rfl, RQ.pure rfl rfl rfl rfl⟩, ?_⟩
      refine WQ.nil ?_
      intro m4
      replace hS := hS.drewN m4; generalize hwm4 : World.drewN _ _ = w at *; clear hwm4
      refine WL.stF rfl rfl rfl 0 hS rfl rfl rfl rfl rfl ag_217 (fun w hS => ?_)
      replace hS := hS.n8 L (a0 := cel b2 #[.bool p9, .int .i64 v9] 217) rfl
      refine WL.nil ?_
      refine ⟨by exact RQ.pure rfl rfl rfl rfl, ?_⟩
      refine WQ.r 1 rfl <| WQ.nil ?_
      intro m5
      replace hS := hS.drewN m5; generalize hwm5 : World.drewN _ _ = w at *; clear hwm5
      as_aux_lemma =>
      refine WC.seq <| WC.region <| WL.r 2 rfl <| WL.nil <| WC.if_ rfl (fun cd2 => ?_) (fun cd2 => ?_)
      · refine WC.region <| WL.r 1 rfl <| WL.ldF rfl rfl 1 hS rfl rfl ag_121 <| WL.lit rfl rfl (en2 [(e.1, e.2)]) el_49 hS (by exact ⟨rfl, rfl⟩) (en2_ok _) rfl (Nat.le_of_ble_eq_true rfl) (fun b3 w hS => ?_)
        refine WL.app rfl rfl 3 (en2 (acc ++ [(e.1, e.2)])) el_49 hS rfl (hS.srcO 0 rfl) (en2_app _ _).symm (Rm.of (by first | omega | (simp <;> omega)) (by decide)) rfl rfl (fun a1 c1 w hS => ?_)
        replace hS := hS.n9 L (a0 := Own 121 2 (en2 [(e.1, e.2)]) (some ⟨b3, 0, none⟩) (List.length (en2 [(e.1, e.2)]))) (a3 := Own 121 2 (en2 (acc ++ [(e.1, e.2)])) a1 c1) rfl
        refine WL.r 1 rfl <| WL.nil <| WC.region <| WL.r 1 rfl <| WL.nw 58 rfl (w64 (by omega)) ?_
        refine WL.r 1 rfl <| WL.nil ?_
        exact ⟨_, by omega, k + 1, acc ++ [(e.1, e.2)], _, _, rfl, (hS.sel 3 [] rfl), (by omega), (by rw [unw_in he (by simpa using cd2), ← hac]), rfl⟩
      · refine WC.skip <| WC.region <| WL.r 1 rfl <| WL.nw 58 rfl (w64 (by omega)) ?_
        refine WL.r 1 rfl <| WL.nil ?_
        exact ⟨_, by omega, k + 1, acc, ua, da, rfl, (hS.sel 2 [] rfl), (by omega), (by rw [unw_out he (by simpa using cd2), ← hac]), rfl⟩
    · refine WC.exit <| WC.seq <| WC.seq <| WC.region ?_
      have hac9 : acc = unw M (btw lo hi t.ls) := (by rw [hac, List.take_of_length_le (by omega)]); have hul := unw_len M (btw lo hi t.ls) k; rw [← hac] at hul
      refine WL.run 4 [.map (some xm)] rfl (by exact hS.ld 3 rfl rfl) ?_
      refine WL.rgM rfl rfl mt_186 4 hS rfl rfl (fun b1 w hS => ?_)
      refine WL.nil <| WC.block <| WC.loop [1, 2, 6, 7, 8, 63] (fun kM vs w => ∃ (ds : List WE) (ac2 : Kvs) (ub : Option Addr) (db : Nat), vs = [.int .i64 lo, .int .i64 hi, .slice none 0 0, .int .i64 0, .slice ub (List.length (en2 ac2)) db, .pointer (some ⟨b1, 0, none⟩)] ∧ St g (blk b1 (.mapIter (some xm) q (seenB wK ds) q) :: Own 121 2 (en2 ac2) ub db :: Own 121 2 (en2 (btw lo hi t.ls)) u1 d1 :: Arn a A :: cel x #[.pointer (some ⟨a, 0, none⟩), .int .u32 rt, .bool false, .map (some xm), .slice xu (List.length (en2 (rdF lo hi S))) xc] 188 :: blk xm (.map (mE (List.map wK xs)) q) :: Own 106 2 (en2 (rdF lo hi S)) xu xc :: L) w ∧ (DsI xs ds) ∧ (ac2 = acc ++ wOut lo hi ds) ∧ ((lft xs ds).length) = kM) (List.length (lft xs [])) ⟨[], acc, ua, da, rfl, hS, (DsI.nil xs), (List.append_nil _).symm, rfl⟩ ?_
      clear hS; rintro _ _ w j ⟨ds, ac2, ub, db, rfl, hS, hds, hac2, rfl⟩
      refine WC.seq <| WC.region ?_
      have hac9 : acc = unw M (btw lo hi t.ls) := (by rw [hac, List.take_of_length_le (by omega)]); have hul := unw_len M (btw lo hi t.ls) k; rw [← hac] at hul
      refine WL.nxL rfl rfl 0 5 hS rfl rfl hW.k.born rfl (fun hend1 => ?_) (fun x1 hx1 hnew1 w hS => ?_)
      · have _ := hend1
        refine WL.r 1 rfl <| WL.nil <| WC.seq <| WC.ifF rfl rfl <| WC.exit <| WC.seq <| WC.region ?_
        have hdl := hds.len; have hol := wOut_len lo hi ds; have hal2 : ac2.length ≤ 1000000 := (by rw [hac2, List.length_append]; omega)
        refine WL.r 1 rfl <| WL.call rfl rfl (srt_spec  (hk := (by rw [hac2, hac9]; exact rg_keys hW hbs hds)) (hl := hal2) (hS := (hS.sel 2 [1, 0] rfl))) rfl ?_
        clear hS; rintro _ w ⟨ts1, rfl, hS, f1, f2⟩
        replace hS := hS.n7 L (a0 := Own 121 2 (en2 ts1) ub db) rfl
        refine WL.nil ?_
        as_aux_lemma =>
        refine WC.seq <| WC.region ?_
        have e7 : rdS lo hi S = rdF lo hi S := if_pos (by omega)
        refine WL.r 3 rfl <| WL.nil <| WC.ret ?_
        replace hS := St.exClose (f := txF x a rt xs q (rdF lo hi S)) (L := Own 121 2 (en2 ts1) ub db :: blk b1 (.mapIter (some xm) q (seenB wK ds) q) :: Own 121 2 (en2 (btw lo hi t.ls)) u1 d1 :: Arn a A :: L) ⟨xm, xu, xc⟩ ((hS.sel 7 [4, 4, 4, 0, 0, 0, 0] rfl))
        replace hS := hS.n5 L (a0 := Tx x a rt xs q (rdF lo hi S)) rfl
        refine ⟨[.slice ub (List.length (en2 ac2)) db, .int .i64 0], ⟨rfl, rfl⟩, ?_⟩
        replace hS := (hS.sel 4 [1, 0] rfl)
        have hp9 : ts1.Perm (unw M (btw lo hi t.ls) ++ wOut lo hi ds) := (by rw [← hac9, ← hac2]; exact f2); have e9 := rg_view hW hs hds (hds.all hW.k.bnd hend1) f1 hp9; have e8 : (en2 ac2).length = (en2 ts1).length := (by rw [en2_len, en2_len, f2.length_eq]); rw [e8, e7]; rw [e9] at hS ⊢; exact ⟨_, _, rfl, hS⟩
      · refine WL.reb 64 (.tuple #[.bool true, .int .i64 x1.k, .agg #[.bool x1.p, .int .i64 x1.v]]) rfl ?_
        replace hS := hS.n7 L (a0 := blk b1 (.mapIter (some xm) q (seenB wK (ds ++ [x1])) q)) rfl
        refine WL.r 1 rfl <| WL.nil <| WC.seq <| WC.ifT rfl rfl <| WC.skip <| WC.block <| WC.seq <| WC.region <| WL.enL rfl rfl 0 5 hS rfl rfl hx1 hW.k.bnd rfl <| WL.reb 66 (.tuple #[.int .i64 x1.k, .agg #[.bool x1.p, .int .i64 x1.v]]) rfl <| WL.r 2 rfl <| WL.new rfl rfl zv_217 hS (fun b2 w hS => ?_)
        refine WL.r 1 rfl <| WL.stF rfl rfl rfl 0 hS rfl rfl rfl rfl rfl ag_217 (fun w hS => ?_)
        replace hS := hS.n8 L (a0 := cel b2 #[.bool x1.p, .int .i64 x1.v] 217) rfl
        refine WL.nil ?_
        as_aux_lemma =>
        refine WC.seq <| WC.region ?_
        have hdl := hds.len; have hol := wOut_len lo hi ds; have hal2 : ac2.length ≤ 1000000 := (by rw [hac2, List.length_append]; omega); have hae2 := en2_len ac2
        refine WL.run 2 [.bool x1.p] rfl (by exact hS.ld 0 rfl rfl) ?_
        refine WL.rG 10 rfl (fun j => ?_)
        refine WL.prop 80 rfl (band (band (dv _) (dd _)) (dd _)) <| WL.nil <| WC.ifP rfl (fun hin => ?_) (fun hin => ?_)
        · refine WC.region <| WL.run 4 [.int .i64 x1.v] rfl (by exact hS.ld 0 rfl rfl) ?_
          refine WL.build rfl rfl (cs := [.int .i64 x1.k, .int .i64 x1.v]) zv_121 rfl rfl <| WL.lit rfl rfl (en2 [(x1.k, x1.v)]) el_49 hS (by exact ⟨rfl, rfl⟩) (en2_ok _) rfl (Nat.le_of_ble_eq_true rfl) (fun b3 w hS => ?_)
          refine WL.app rfl rfl 3 (en2 (ac2 ++ [(x1.k, x1.v)])) el_49 hS rfl (hS.srcO 0 rfl) (en2_app _ _).symm (Rm.of (by first | omega | (simp <;> omega)) (by decide)) rfl rfl (fun a1 c1 w hS => ?_)
          replace hS := hS.n9 L (a0 := Own 121 2 (en2 [(x1.k, x1.v)]) (some ⟨b3, 0, none⟩) (List.length (en2 [(x1.k, x1.v)]))) (a3 := Own 121 2 (en2 (ac2 ++ [(x1.k, x1.v)])) a1 c1) rfl
          refine WL.r 1 rfl <| WL.nil ?_
          exact ⟨_, (lft_lt hx1 hnew1), ds ++ [x1], ac2 ++ [(x1.k, x1.v)], a1, c1, rfl, (hS.sel 2 [] rfl), (hds.snoc hW.k.uniq hx1 hnew1), (by rw [wOut_in (by simp only [wIn, Bool.and_eq_true, decide_eq_true_iff]; exact ⟨hin.1.1, hin.1.2, hin.2⟩), hac2, List.append_assoc]), rfl⟩
        · refine WC.skip ?_
          exact ⟨_, (lft_lt hx1 hnew1), ds ++ [x1], ac2, ub, db, rfl, (hS.sel 1 [] rfl), (hds.snoc hW.k.uniq hx1 hnew1), (by rw [wOut_out (Bool.eq_false_iff.2 fun h => hin (by simp only [wIn, Bool.and_eq_true, decide_eq_true_iff] at h; exact ⟨⟨h.1, h.2.1⟩, h.2.2⟩)), hac2]), rfl⟩
end Go.Proofs.YtbeacjcmdijdmaaGreat
/-! ## Md -/
namespace Go.Proofs.YtbeacjcmdijdmaaGreat
open Go Go.V
set_option maxRecDepth 8192 in
theorem md_spec {g w : World} {L : List HP} (k n : Int) (hk : -9223372036854775808 ≤ k ∧ k ≤ 9223372036854775807) (hn : 0 < n ∧ n ≤ 9223372036854775807) (hS : St g (L) w) :
    Sp Tryz.prog 24 [.int .i64 k, .int .i64 n] w (fun v w' => v = .int .i64 (k % n) ∧ St g (L) w') := by
  refine Sp.enter Tryz.func24 rfl (by kernel_rfl) (by kernel_rfl) ?_
  have _ := hk
  refine WC.seq <| WC.region <| WL.r 1 rfl <| WL.nil <| WC.seq <| WC.region ?_
  obtain ⟨m, rfl⟩ : ∃ m : Nat, n = Int.ofNat (m + 1) := ⟨n.toNat - 1, by simp; omega⟩; have htm := tm_lt (k := k) (n := Int.ofNat (m + 1)) hn.1
  refine WL.r 3 rfl <| WL.r 1 rfl <| WL.nil <| WC.seq <| WC.seq <| WC.region <| WL.r 2 rfl <| WL.nil <| WC.ifP rfl (fun cd1 => ?_) (fun cd1 => ?_)
  · refine WC.region <| WL.r 3 rfl <| WL.nw 13 rfl (w64 (by omega)) ?_
    refine WL.r 1 rfl <| WL.nil <| WC.seq <| WC.region <| WL.r 2 rfl <| WL.nil ?_
    as_aux_lemma =>
    refine WC.ret ?_
    refine ⟨[.int .i64 ((Int.tmod k (Int.ofNat (m + 1))) + (Int.ofNat (m + 1)))], rfl, ?_⟩
    rw [tm_neg hn.1 cd1]; exact ⟨rfl, hS⟩
  · refine WC.skip <| WC.seq <| WC.region <| WL.r 2 rfl <| WL.nil <| WC.ret ?_
    refine ⟨[.int .i64 (Int.tmod k (Int.ofNat (m + 1)))], rfl, ?_⟩
    rw [tm_pos hn.1 cd1]; exact ⟨rfl, hS⟩
end Go.Proofs.YtbeacjcmdijdmaaGreat
/-! ## Y3 -/
namespace Go.Proofs.YtbeacjcmdijdmaaGreat
open Go Go.V Go.RowKit Go.Maps
set_option maxRecDepth 8192 in
theorem r26_Put {g w : World} {L : List HP} (l R : Kvs) (M : Wrs) (sa wa ra : Option Addr) (sc wc rc : Nat) (k z : Int) (hs : wSrt M) (hm : M.length ≤ 2000) (hS : St g (Sh 219 3 (w3s (M.map wr3)) wa wc :: L) w) :
    Sp Tryz.prog 113 [.agg #[.slice sa (List.length (en2 l)) sc, .slice wa (List.length (w3s (M.map wr3))) wc, .slice ra (List.length (en2 R)) rc, .bool false], .int .i64 k, .int .i64 z] w (fun v w' => ∃ (wa2 : Option Addr) (wc2 : Nat), v = .tuple #[.agg #[.slice sa (List.length (en2 l)) sc, .slice wa2 (List.length (w3s ((wNew k (true, z) M).map wr3))) wc2, .slice ra (List.length (en2 R)) rc, .bool false], .int .i64 (wErr k M)] ∧ St g (Sh 219 3 (w3s ((wNew k (true, z) M).map wr3)) wa2 wc2 :: L) w') := by
  refine Sp.enter Tryz.func113 rfl (by kernel_rfl) (by kernel_rfl) ?_
  refine WC.seq <| WC.region <| WL.box rfl rfl #[.slice sa (List.length (en2 l)) sc, .slice wa (List.length (w3s (M.map wr3))) wc, .slice ra (List.length (en2 R)) rc, .bool false] hS rfl rfl (fun b1 w hS => ?_)
  refine WL.new rfl rfl zv_100 hS (fun b2 w hS => ?_)
  refine WL.r 1 rfl <| WL.nil <| WC.seq <| WC.region <| WL.ldF rfl rfl 1 hS rfl rfl ag_100 <| WL.r 2 rfl <| WL.build rfl rfl (cs := [.int .i64 k, .int .i64 z, .bool false]) zv_219 rfl rfl <| WL.call rfl rfl (r26_put (l := l) (R := R) (M := M) (sa := sa) (ra := ra) (sc := sc) (rc := rc) (k := k) (z := z) (b := false) (hs := hs) (hm := hm) (hS := (hS.sel 3 [2, 0, 0] rfl))) rfl ?_
  clear hS; rintro _ w ⟨wa1, wc1, rfl, hS⟩
  replace hS : St g (Sh 219 3 (w3s (put3 k (k, z, false) M)) wa1 wc1 :: cel b2 #[.slice none 0 0, .slice none 0 0, .slice none 0 0, .bool false] 100 :: cel b1 #[.slice sa (List.length (en2 l)) sc, .slice wa (List.length (w3s (M.map wr3))) wc, .slice ra (List.length (en2 R)) rc, .bool false] 100 :: L) w := hS
  refine WL.r 2 rfl <| WL.stF rfl rfl rfl 1 hS rfl rfl rfl rfl rfl ag_100 (fun w hS => ?_)
  replace hS := hS.n3 L (a1 := cel b2 #[.slice sa (List.length (en2 l)) sc, .slice wa1 (List.length (w3s (put3 k (k, z, false) M))) wc1, .slice ra (List.length (en2 R)) rc, .bool false] 100) rfl
  refine WL.r 1 rfl <| WL.nil <| WC.ret ?_
  refine ⟨[.agg #[.slice sa (List.length (en2 l)) sc, .slice wa1 (List.length (w3s (put3 k (k, z, false) M))) wc1, .slice ra (List.length (en2 R)) rc, .bool false], .int .i64 (wErr k M)], ⟨⟨_, rfl, hS.lvF 1 rfl ag_100⟩, rfl⟩, ?_⟩
  replace hS := (hS.sel 3 [0] rfl)
  have e9 : put3 k (k, z, false) M = (wNew k (true, z) M).map wr3 := put3_wr k (true, z) M; rw [e9] at hS ⊢; exact ⟨_, _, rfl, hS⟩
set_option maxRecDepth 8192 in
theorem r26_Del {g w : World} {L : List HP} (l R : Kvs) (M : Wrs) (sa wa ra : Option Addr) (sc wc rc : Nat) (k : Int) (hs : wSrt M) (hm : M.length ≤ 2000) (hS : St g (Sh 219 3 (w3s (M.map wr3)) wa wc :: L) w) :
    Sp Tryz.prog 114 [.agg #[.slice sa (List.length (en2 l)) sc, .slice wa (List.length (w3s (M.map wr3))) wc, .slice ra (List.length (en2 R)) rc, .bool false], .int .i64 k] w (fun v w' => ∃ (wa2 : Option Addr) (wc2 : Nat), v = .tuple #[.agg #[.slice sa (List.length (en2 l)) sc, .slice wa2 (List.length (w3s ((wNew k (false, 0) M).map wr3))) wc2, .slice ra (List.length (en2 R)) rc, .bool false], .int .i64 (wErr k M)] ∧ St g (Sh 219 3 (w3s ((wNew k (false, 0) M).map wr3)) wa2 wc2 :: L) w') := by
  refine Sp.enter Tryz.func114 rfl (by kernel_rfl) (by kernel_rfl) ?_
  refine WC.seq <| WC.region <| WL.box rfl rfl #[.slice sa (List.length (en2 l)) sc, .slice wa (List.length (w3s (M.map wr3))) wc, .slice ra (List.length (en2 R)) rc, .bool false] hS rfl rfl (fun b1 w hS => ?_)
  refine WL.new rfl rfl zv_100 hS (fun b2 w hS => ?_)
  refine WL.r 1 rfl <| WL.nil <| WC.seq <| WC.region <| WL.ldF rfl rfl 1 hS rfl rfl ag_100 <| WL.r 1 rfl <| WL.build rfl rfl (cs := [.int .i64 k, .int .i64 0, .bool true]) zv_219 rfl rfl <| WL.call rfl rfl (r26_put (l := l) (R := R) (M := M) (sa := sa) (ra := ra) (sc := sc) (rc := rc) (k := k) (z := 0) (b := true) (hs := hs) (hm := hm) (hS := (hS.sel 3 [2, 0, 0] rfl))) rfl ?_
  clear hS; rintro _ w ⟨wa1, wc1, rfl, hS⟩
  replace hS : St g (Sh 219 3 (w3s (put3 k (k, 0, true) M)) wa1 wc1 :: cel b2 #[.slice none 0 0, .slice none 0 0, .slice none 0 0, .bool false] 100 :: cel b1 #[.slice sa (List.length (en2 l)) sc, .slice wa (List.length (w3s (M.map wr3))) wc, .slice ra (List.length (en2 R)) rc, .bool false] 100 :: L) w := hS
  refine WL.r 2 rfl <| WL.stF rfl rfl rfl 1 hS rfl rfl rfl rfl rfl ag_100 (fun w hS => ?_)
  replace hS := hS.n3 L (a1 := cel b2 #[.slice sa (List.length (en2 l)) sc, .slice wa1 (List.length (w3s (put3 k (k, 0, true) M))) wc1, .slice ra (List.length (en2 R)) rc, .bool false] 100) rfl
  refine WL.r 1 rfl <| WL.nil <| WC.ret ?_
  refine ⟨[.agg #[.slice sa (List.length (en2 l)) sc, .slice wa1 (List.length (w3s (put3 k (k, 0, true) M))) wc1, .slice ra (List.length (en2 R)) rc, .bool false], .int .i64 (wErr k M)], ⟨⟨_, rfl, hS.lvF 1 rfl ag_100⟩, rfl⟩, ?_⟩
  replace hS := (hS.sel 3 [0] rfl)
  have e9 : put3 k (k, 0, true) M = (wNew k (false, 0) M).map wr3 := put3_wr k (false, 0) M; rw [e9] at hS ⊢; exact ⟨_, _, rfl, hS⟩
theorem wC_t {e : Int × Bool × Int} (h : e.2.1 = true) : wC e = (3, e.1, 0, e.2.2) := if_pos h
theorem wC_f {e : Int × Bool × Int} (h : e.2.1 = false) : wC e = (2, e.1, 0, 0) := if_neg (by rw [h]; decide)
set_option maxRecDepth 8192 in
theorem r26_writes {g w : World} {L : List HP} (l R : Kvs) (M : Wrs) (sa wa ra : Option Addr) (sc wc rc : Nat) (hm : M.length ≤ 2000) (hS : St g (Sh 219 3 (w3s (M.map wr3)) wa wc :: L) w) :
    Sp Tryz.prog 42 [.agg #[.slice sa (List.length (en2 l)) sc, .slice wa (List.length (w3s (M.map wr3))) wc, .slice ra (List.length (en2 R)) rc, .bool false]] w (fun v w' => ∃ (a2 : Option Addr) (c2 : Nat), v = .slice a2 (List.length (ch4 (M.map wC))) c2 ∧ St g (Sh 219 3 (w3s (M.map wr3)) wa wc :: Own 110 4 (ch4 (M.map wC)) a2 c2 :: L) w') := by
  refine Sp.enter Tryz.func42 rfl (by kernel_rfl) (by kernel_rfl) ?_
  have _ := hm
  refine WC.seq <| WC.region <| WL.box rfl rfl #[.slice sa (List.length (en2 l)) sc, .slice wa (List.length (w3s (M.map wr3))) wc, .slice ra (List.length (en2 R)) rc, .bool false] hS rfl rfl (fun b1 w hS => ?_)
  refine WL.r 1 rfl <| WL.nil <| WC.seq <| WC.region <| WL.r 1 rfl <| WL.nil <| WC.seq <| WC.seq <| WC.region ?_
  have hwl := w3s_len (M.map wr3); have hml : (M.map wr3).length = M.length := List.length_map ..
  refine WL.r 1 rfl <| WL.nil <| WC.block ?_
  replace hS := hS.nil_ 110 4
  refine WC.loop [1, 2, 3, 4] (fun kM vs w => ∃ (p9 : Nat) (acc : List (Int × Int × Int × Int)) (ua : Option Addr) (uc : Nat), vs = [.pointer (some ⟨b1, 0, none⟩), .slice none 0 0, .slice ua (List.length (ch4 acc)) uc, .int .i64 (p9 : Int)] ∧ St g (Own 110 4 (ch4 acc) ua uc :: cel b1 #[.slice sa (List.length (en2 l)) sc, .slice wa (List.length (w3s (M.map wr3))) wc, .slice ra (List.length (en2 R)) rc, .bool false] 100 :: Sh 219 3 (w3s (M.map wr3)) wa wc :: L) w ∧ (p9 ≤ M.length) ∧ (acc = wCs M p9) ∧ (M.length - p9) = kM) ((List.length M) - 0) ⟨0, [], none, 0, rfl, hS, (Nat.zero_le _), (rfl), rfl⟩ ?_
  clear hS; rintro _ _ w j ⟨p9, acc, ua, uc, rfl, hS, hj, ha, rfl⟩
  refine WC.seq <| WC.seq <| WC.region ?_
  have hwl := w3s_len (M.map wr3); have hml : (M.map wr3).length = M.length := List.length_map ..
  refine WL.run 5 [.slice wa (List.length (w3s (M.map wr3))) wc] rfl (by exact hS.ld 1 rfl rfl) ?_
  refine WL.runG 5 [.bool false] rfl (by exact (fun _ => hS.ld 1 rfl rfl)) (fun j => ?_)
  refine WL.nil ?_
  as_aux_lemma =>
  refine WC.if_ rfl (fun hlt => ?_) (fun hlt => ?_)
  · refine WC.skip <| WC.seq <| WC.block <| WC.seq <| WC.plan [([0, 2, 6, 8, 1, 7, 3, 9, 4, 10, 5, 11, 12], some (13, [0, 1, 2, 3, 4, 5, 6, 7, 8, 9, 10, 11, 12])), ([], some (14, []))] (by kernel_rfl) (by kernel_rfl) ?_
    refine WQ.run 6 [.slice wa (List.length (w3s (M.map wr3))) wc, .slice wa (List.length (w3s (M.map wr3))) wc] rfl (by exact ⟨hS.ld 1 rfl rfl, hS.ld 1 rfl rfl⟩) ?_
    have hlt9 : p9 < M.length := (by simp at hlt; omega); obtain ⟨e, he⟩ : ∃ e, M[p9]? = some e := ⟨_, List.getElem?_eq_getElem (by omega)⟩; have hac : acc.length ≤ 4096 := (by rw [ha]; unfold wCs; rw [List.length_map, List.length_take]; omega); have hal := ch4_len acc
    refine WQ.ix rfl rfl (i := (p9 : Int)) (p9) el_97 rfl rfl (by omega) (by omega) (hS.rdS 2 rfl (w3s_at (wr_at he))).1 ?_
    refine WQ.ix rfl rfl (i := (p9 : Int)) (p9) el_97 rfl rfl (by omega) (by omega) (hS.rdS 2 rfl (w3s_at (wr_at he))).1 ?_
    refine WQ.run 4 [.int .i64 (wr3 e).1, .int .i64 (wr3 e).2.1] rfl (by exact ⟨(hS.rdS 2 rfl (w3s_at (wr_at he))).2 0 _ rfl, (hS.rdS 2 rfl (w3s_at (wr_at he))).2 1 _ rfl⟩) ?_
    refine WQ.build rfl rfl (cs := [.int .i64 3, .int .i64 (wr3 e).1, .int .i64 0, .int .i64 (wr3 e).2.1]) zv_110 rfl rfl <| WQ.nil ?_
    intro m1
    replace hS := hS.drewN m1; generalize hwm1 : World.drewN _ _ = w at *; clear hwm1
    refine WL.new rfl rfl zv_110 hS (fun b2 w hS => ?_)
    refine WL.nil ?_
    refine ⟨by exact ⟨RQ.pure rfl rfl rfl rfl, RQ.load rfl rfl rfl rfl (hS.ld 2 rfl rfl), RQ.pure rfl rfl rfl rfl, RQ.ix rfl rfl (i := (p9 : Int)) (p9) el_97 rfl rfl (by omega) (by omega) (hS.rdS 3 rfl (w3s_at (wr_at he))).1 rfl rfl, RQ.pure rfl rfl rfl rfl, RQ.load rfl rfl rfl rfl ((hS.rdS 3 rfl (w3s_at (wr_at he))).2 0 _ rfl), RQ.pure rfl rfl rfl rfl, RQ.load rfl rfl rfl rfl (hS.ld 2 rfl rfl), RQ.pure rfl rfl rfl rfl, RQ.ix rfl rfl (i := (p9 : Int)) (p9) el_97 rfl rfl (by omega) (by omega) (hS.rdS 3 rfl (w3s_at (wr_at he))).1 rfl rfl, RQ.pure rfl rfl rfl rfl, RQ.load rfl rfl rfl rfl ((hS.rdS 3 rfl (w3s_at (wr_at he))).2 1 _ rfl), RQ.build rfl rfl (cs := [.int .i64 3, .int .i64 (wr3 e).1, .int .i64 0, .int .i64 (wr3 e).2.1]) zv_110 rfl rfl rfl rfl⟩, ?_⟩
    refine WQ.nil ?_
    intro m2
    replace hS := hS.drewN m2; generalize hwm2 : World.drewN _ _ = w at *; clear hwm2
    refine WL.stF rfl rfl rfl 0 hS rfl rfl rfl rfl rfl ag_110 (fun w hS => ?_)
    replace hS := hS.n4 L (a0 := cel b2 #[.int .i64 3, .int .i64 (wr3 e).1, .int .i64 0, .int .i64 (wr3 e).2.1] 110) rfl
    refine WL.nil ?_
    refine ⟨by exact trivial, ?_⟩
    intro m3
    replace hS := hS.drewN m3; generalize hwm3 : World.drewN _ _ = w at *; clear hwm3
    as_aux_lemma =>
    refine WC.seq <| WC.seq <| WC.region <| WL.run 3 [.slice wa (List.length (w3s (M.map wr3))) wc] rfl (by exact hS.ld 2 rfl rfl) ?_
    refine WL.ix rfl rfl (i := (p9 : Int)) (p9) el_97 rfl rfl (by omega) (by omega) (hS.rdS 3 rfl (w3s_at (wr_at he))).1 ?_
    refine WL.run 2 [.bool (wr3 e).2.2] rfl (by exact (hS.rdS 3 rfl (w3s_at (wr_at he))).2 2 _ rfl) ?_
    refine WL.nil <| WC.if_ rfl (fun hd9 => ?_) (fun hd9 => ?_)
    · refine WC.region <| WL.run 3 [.slice wa (List.length (w3s (M.map wr3))) wc] rfl (by exact hS.ld 2 rfl rfl) ?_
      refine WL.ix rfl rfl (i := (p9 : Int)) (p9) el_97 rfl rfl (by omega) (by omega) (hS.rdS 3 rfl (w3s_at (wr_at he))).1 ?_
      refine WL.run 2 [.int .i64 (wr3 e).1] rfl (by exact (hS.rdS 3 rfl (w3s_at (wr_at he))).2 0 _ rfl) ?_
      refine WL.build rfl rfl (cs := [.int .i64 2, .int .i64 (wr3 e).1, .int .i64 0, .int .i64 0]) zv_110 rfl rfl <| WL.stF rfl rfl rfl 0 hS rfl rfl rfl rfl rfl ag_110 (fun w hS => ?_)
      replace hS := hS.n4 L (a0 := cel b2 #[.int .i64 2, .int .i64 (wr3 e).1, .int .i64 0, .int .i64 0] 110) rfl
      refine WL.nil <| WC.region <| WL.r 1 rfl <| WL.ldF rfl rfl 0 hS rfl rfl ag_110 <| WL.lit rfl rfl (ch4 [(2, (wr3 e).1, 0, 0)]) el_111 hS (by exact ⟨rfl, rfl⟩) (ch4_ok _) rfl (Nat.le_of_ble_eq_true rfl) (fun b3 w hS => ?_)
      refine WL.app rfl rfl 2 (ch4 (acc ++ [(2, (wr3 e).1, 0, 0)])) el_111 hS rfl (hS.srcO 0 rfl) (ch4_app _ _).symm (Rm.of (by first | omega | (simp <;> omega)) (by decide)) rfl rfl (fun a1 c1 w hS => ?_)
      replace hS := hS.n5 L (a0 := Own 110 4 (ch4 [(2, (wr3 e).1, 0, 0)]) (some ⟨b3, 0, none⟩) (List.length (ch4 [(2, (wr3 e).1, 0, 0)]))) (a2 := Own 110 4 (ch4 (acc ++ [(2, (wr3 e).1, 0, 0)])) a1 c1) rfl
      refine WL.r 1 rfl <| WL.nil <| WC.region <| WL.r 2 rfl <| WL.nw 17 rfl (w64 (by omega)) ?_
      refine WL.r 1 rfl <| WL.nil ?_
      exact ⟨_, by omega, p9 + 1, acc ++ [(2, e.1, 0, 0)], _, _, rfl, (hS.sel 2 [] rfl), (by omega), (by rw [wCs_succ he, ha, wC_f (by simpa [wr3] using hd9)]), rfl⟩
    · refine WC.skip <| WC.region <| WL.r 1 rfl <| WL.ldF rfl rfl 0 hS rfl rfl ag_110 <| WL.lit rfl rfl (ch4 [(3, (wr3 e).1, 0, (wr3 e).2.1)]) el_111 hS (by exact ⟨rfl, rfl⟩) (ch4_ok _) rfl (Nat.le_of_ble_eq_true rfl) (fun b3 w hS => ?_)
      refine WL.app rfl rfl 2 (ch4 (acc ++ [(3, (wr3 e).1, 0, (wr3 e).2.1)])) el_111 hS rfl (hS.srcO 0 rfl) (ch4_app _ _).symm (Rm.of (by first | omega | (simp <;> omega)) (by decide)) rfl rfl (fun a1 c1 w hS => ?_)
      replace hS := hS.n5 L (a0 := Own 110 4 (ch4 [(3, (wr3 e).1, 0, (wr3 e).2.1)]) (some ⟨b3, 0, none⟩) (List.length (ch4 [(3, (wr3 e).1, 0, (wr3 e).2.1)]))) (a2 := Own 110 4 (ch4 (acc ++ [(3, (wr3 e).1, 0, (wr3 e).2.1)])) a1 c1) rfl
      refine WL.r 1 rfl <| WL.nil <| WC.region <| WL.r 2 rfl <| WL.nw 17 rfl (w64 (by omega)) ?_
      refine WL.r 1 rfl <| WL.nil ?_
      exact ⟨_, by omega, p9 + 1, acc ++ [(3, e.1, 0, e.2.2)], _, _, rfl, (hS.sel 2 [] rfl), (by omega), (by rw [wCs_succ he, ha, wC_t (by simpa [wr3] using hd9)]), rfl⟩
  · refine WC.exit <| WC.seq <| WC.region <| WL.r 2 rfl <| WL.nil <| WC.ret ?_
    refine ⟨[.slice ua (List.length (ch4 acc)) uc], rfl, ?_⟩
    replace hS := (hS.sel 3 [2, 0] rfl)
    have e9 : p9 = M.length := (by simp at hlt; omega); have e8 : acc = M.map wC := (by rw [ha, e9]; unfold wCs; rw [List.take_length]); rw [e8] at hS ⊢; exact ⟨_, _, rfl, hS⟩
set_option maxRecDepth 8192 in
theorem sameSp {g w : World} {L : List HP} (xs ys : Kvs) (a b : Option Addr) (c d : Nat) (hl : xs.length ≤ 1000000000) (hS : St g (Sh 106 2 (en2 xs) a c :: Sh 106 2 (en2 ys) b d :: L) w) :
    Sp Tryz.prog 37 [.slice a (List.length (en2 xs)) c, .slice b (List.length (en2 ys)) d] w (fun v w' => v = .bool (decide (xs = ys)) ∧ St g (Sh 106 2 (en2 xs) a c :: Sh 106 2 (en2 ys) b d :: L) w') := by
  refine Sp.enter Tryz.func37 rfl (by kernel_rfl) (by kernel_rfl) ?_
  have _ := hl
  refine WC.seq <| WC.region <| WL.r 1 rfl <| WL.nil <| WC.seq <| WC.seq <| WC.region ?_
  have h1 := en2_len xs; have h2 := en2_len ys
  refine WL.r 5 rfl <| WL.nil <| WC.ifP rfl (fun cd1 => ?_) (fun cd1 => ?_)
  · refine WC.seq <| WC.region <| WL.r 1 rfl <| WL.nil <| WC.ret ?_
    refine ⟨[.bool false], rfl, ?_⟩
    exact ⟨congrArg Value.bool (decide_eq_false (fun h => by rw [h1, h2, h] at cd1; exact absurd rfl cd1)).symm, hS⟩
  · refine WC.skip <| WC.seq <| WC.seq <| WC.region <| WL.r 1 rfl <| WL.nil <| WC.block <| WC.loop [0, 1, 5] (fun kM vs w => ∃ (k : Nat), vs = [.slice a (List.length (en2 xs)) c, .slice b (List.length (en2 ys)) d, .int .i64 (k : Int)] ∧ St g (Sh 106 2 (en2 xs) a c :: Sh 106 2 (en2 ys) b d :: L) w ∧ (k ≤ xs.length) ∧ (xs.take k = ys.take k) ∧ (xs.length - k) = kM) ((List.length xs) - 0) ⟨0, rfl, hS, (Nat.zero_le _), (rfl), rfl⟩ ?_
    clear hS; rintro _ _ w j ⟨k, rfl, hS, hk, he, rfl⟩
    refine WC.seq <| WC.seq <| WC.region <| WL.r 4 rfl <| WL.nil ?_
    as_aux_lemma =>
    refine WC.ifP rfl (fun cd2 => ?_) (fun cd2 => ?_)
    · refine WC.skip <| WC.seq <| WC.block <| WC.seq <| WC.plan [([0, 1, 4, 5, 2, 6, 3, 7, 8], none)] (by kernel_rfl) (by kernel_rfl) ?_
      refine WQ.r 4 rfl ?_
      obtain ⟨x, hx⟩ : ∃ x, xs[k]? = some x := ⟨_, List.getElem?_eq_getElem (by omega)⟩
      refine WQ.ix rfl rfl (i := (k : Int)) (k) el_98 rfl rfl (by omega) (len_of (en2_at hx)) (hS.rdS 0 rfl (en2_at hx)).1 ?_
      obtain ⟨y, hy⟩ : ∃ y, ys[k]? = some y := ⟨_, List.getElem?_eq_getElem (by omega)⟩
      refine WQ.ix rfl rfl (i := (k : Int)) (k) el_98 rfl rfl (by omega) (len_of (en2_at hy)) (hS.rdS 1 rfl (en2_at hy)).1 ?_
      refine WQ.ldC rfl rfl [.int .i64 x.1, .int .i64 x.2] ag_106 rfl (hS.rdS 0 rfl (en2_at hx)).2 <| WQ.ldC rfl rfl [.int .i64 y.1, .int .i64 y.2] ag_106 rfl (hS.rdS 1 rfl (en2_at hy)).2 <| WQ.neS rfl rfl eq_106 (xs := [.int .i64 x.1, .int .i64 x.2]) (ys := [.int .i64 y.1, .int .i64 y.2]) rfl rfl rfl rfl <| WQ.prop 25 rfl (bnot (band (dd _) (dd _))) <| WQ.nil ?_
      intro m1
      replace hS := hS.drewN m1; generalize hwm1 : World.drewN _ _ = w at *; clear hwm1
      refine WC.ifP rfl (fun cd3 => ?_) (fun cd3 => ?_)
      · refine WC.seq <| WC.region <| WL.r 1 rfl <| WL.nil <| WC.ret ?_
        refine ⟨[.bool false], rfl, ?_⟩
        exact ⟨congrArg Value.bool (decide_eq_false (fun h => by subst h; rw [hx] at hy; cases hy; exact absurd ⟨rfl, rfl⟩ cd3)).symm, hS⟩
      · refine WC.skip <| WC.region <| WL.r 2 rfl <| WL.nw 16 rfl (w64 (by omega)) ?_
        refine WL.r 1 rfl <| WL.nil ?_
        exact ⟨_, by omega, k + 1, rfl, hS, (by omega), (by rw [List.take_add_one, List.take_add_one, he, hx, hy, Prod.ext (Classical.not_not.1 cd3).1 (Classical.not_not.1 cd3).2]), rfl⟩
    · refine WC.exit <| WC.seq <| WC.region <| WL.r 1 rfl <| WL.nil <| WC.ret ?_
      refine ⟨[.bool true], rfl, ?_⟩
      exact ⟨congrArg Value.bool (decide_eq_true (by rw [← List.take_of_length_le (i := k) (l := xs) (by omega), he, List.take_of_length_le (by omega)])).symm, hS⟩
set_option maxRecDepth 8192 in
theorem sameCh {g w : World} {L : List HP} (xs ys : List (Int × Int × Int × Int)) (a b : Option Addr) (c d : Nat) (hl : xs.length ≤ 1000000000) (hS : St g (Sh 110 4 (ch4 xs) a c :: Sh 110 4 (ch4 ys) b d :: L) w) :
    Sp Tryz.prog 40 [.slice a (List.length (ch4 xs)) c, .slice b (List.length (ch4 ys)) d] w (fun v w' => v = .bool (decide (xs = ys)) ∧ St g (Sh 110 4 (ch4 xs) a c :: Sh 110 4 (ch4 ys) b d :: L) w') := by
  refine Sp.enter Tryz.func40 rfl (by kernel_rfl) (by kernel_rfl) ?_
  have _ := hl
  refine WC.seq <| WC.region <| WL.r 1 rfl <| WL.nil <| WC.seq <| WC.seq <| WC.region ?_
  have h1 := ch4_len xs; have h2 := ch4_len ys
  refine WL.r 5 rfl <| WL.nil <| WC.ifP rfl (fun cd1 => ?_) (fun cd1 => ?_)
  · refine WC.seq <| WC.region <| WL.r 1 rfl <| WL.nil <| WC.ret ?_
    refine ⟨[.bool false], rfl, ?_⟩
    exact ⟨congrArg Value.bool (decide_eq_false (fun h => by rw [h1, h2, h] at cd1; exact absurd rfl cd1)).symm, hS⟩
  · refine WC.skip <| WC.seq <| WC.seq <| WC.region <| WL.r 1 rfl <| WL.nil <| WC.block <| WC.loop [0, 1, 5] (fun kM vs w => ∃ (k : Nat), vs = [.slice a (List.length (ch4 xs)) c, .slice b (List.length (ch4 ys)) d, .int .i64 (k : Int)] ∧ St g (Sh 110 4 (ch4 xs) a c :: Sh 110 4 (ch4 ys) b d :: L) w ∧ (k ≤ xs.length) ∧ (xs.take k = ys.take k) ∧ (xs.length - k) = kM) ((List.length xs) - 0) ⟨0, rfl, hS, (Nat.zero_le _), (rfl), rfl⟩ ?_
    clear hS; rintro _ _ w j ⟨k, rfl, hS, hk, he, rfl⟩
    refine WC.seq <| WC.seq <| WC.region <| WL.r 4 rfl <| WL.nil ?_
    as_aux_lemma =>
    refine WC.ifP rfl (fun cd2 => ?_) (fun cd2 => ?_)
    · refine WC.skip <| WC.seq <| WC.block <| WC.seq <| WC.plan [([0, 1, 4, 5, 2, 6, 3, 7, 8], none)] (by kernel_rfl) (by kernel_rfl) ?_
      refine WQ.r 4 rfl ?_
      obtain ⟨x, hx⟩ : ∃ x, xs[k]? = some x := ⟨_, List.getElem?_eq_getElem (by omega)⟩
      refine WQ.ix rfl rfl (i := (k : Int)) (k) el_111 rfl rfl (by omega) (len_of (ch4_at hx)) (hS.rdS 0 rfl (ch4_at hx)).1 ?_
      obtain ⟨y, hy⟩ : ∃ y, ys[k]? = some y := ⟨_, List.getElem?_eq_getElem (by omega)⟩
      refine WQ.ix rfl rfl (i := (k : Int)) (k) el_111 rfl rfl (by omega) (len_of (ch4_at hy)) (hS.rdS 1 rfl (ch4_at hy)).1 ?_
      refine WQ.ldC rfl rfl [.int .i64 x.1, .int .i64 x.2.1, .int .i64 x.2.2.1, .int .i64 x.2.2.2] ag_110 rfl (hS.rdS 0 rfl (ch4_at hx)).2 <| WQ.ldC rfl rfl [.int .i64 y.1, .int .i64 y.2.1, .int .i64 y.2.2.1, .int .i64 y.2.2.2] ag_110 rfl (hS.rdS 1 rfl (ch4_at hy)).2 <| WQ.neS rfl rfl eq_110 (xs := [.int .i64 x.1, .int .i64 x.2.1, .int .i64 x.2.2.1, .int .i64 x.2.2.2]) (ys := [.int .i64 y.1, .int .i64 y.2.1, .int .i64 y.2.2.1, .int .i64 y.2.2.2]) rfl rfl rfl rfl <| WQ.prop 25 rfl (bnot (band (dd _) (band (dd _) (band (dd _) (dd _))))) <| WQ.nil ?_
      intro m1
      replace hS := hS.drewN m1; generalize hwm1 : World.drewN _ _ = w at *; clear hwm1
      refine WC.ifP rfl (fun cd3 => ?_) (fun cd3 => ?_)
      · refine WC.seq <| WC.region <| WL.r 1 rfl <| WL.nil <| WC.ret ?_
        refine ⟨[.bool false], rfl, ?_⟩
        exact ⟨congrArg Value.bool (decide_eq_false (fun h => by subst h; rw [hx] at hy; cases hy; exact absurd ⟨rfl, rfl, rfl, rfl⟩ cd3)).symm, hS⟩
      · refine WC.skip <| WC.region <| WL.r 2 rfl <| WL.nw 16 rfl (w64 (by omega)) ?_
        refine WL.r 1 rfl <| WL.nil ?_
        exact ⟨_, by omega, k + 1, rfl, hS, (by omega), (by rw [List.take_add_one, List.take_add_one, he, hx, hy, show x = y from Prod.ext (Classical.not_not.1 cd3).1 (Prod.ext (Classical.not_not.1 cd3).2.1 (Prod.ext (Classical.not_not.1 cd3).2.2.1 (Classical.not_not.1 cd3).2.2.2))]), rfl⟩
    · refine WC.exit <| WC.seq <| WC.region <| WL.r 1 rfl <| WL.nil <| WC.ret ?_
      refine ⟨[.bool true], rfl, ?_⟩
      exact ⟨congrArg Value.bool (decide_eq_true (by rw [← List.take_of_length_le (i := k) (l := xs) (by omega), he, List.take_of_length_le (by omega)])).symm, hS⟩
structure PI (n : Nat) (xs : List WE) (q : Nat) (M : Wrs) (R : Kvs) : Prop where
  w : WOk xs q M
  le : ∀ s ∈ R, s.1 ≤ s.2
  rR : SpR R
  rl : R.length ≤ n
  ml : M.length ≤ n
  z : ∀ e ∈ M, e.2.1 = false → e.2.2 = 0
theorem PI.nil : PI 0 [] 0 [] [] := ⟨WOk.nil, fun _ h => (by cases h), fun _ h => (by cases h), Nat.le_refl _, Nat.le_refl _, fun _ h => (by cases h)⟩
theorem rdL_app (R : Kvs) (s : Int × Int) : rdL (R ++ [s]) = rdS s.1 s.2 (rdL R) := by unfold rdL; rw [List.foldl_append]; rfl
theorem rdL_fw (k : Int) (M : Wrs) (R : Kvs) : rdL (fw k M R) = gSp k M (rdL R) := by
  unfold fw gSp
  split
  · rfl
  · rw [rdL_app]; exact if_pos (Int.le_refl _)
theorem rdL_R2 {lo hi : Int} {R R2 : Kvs} (h : R2 = if lo ≤ hi then R ++ [(lo, hi)] else R) : rdL R2 = rdS lo hi (rdL R) := by
  subst h
  split
  · rw [rdL_app]
  · rename_i h; exact (if_neg h).symm
theorem SpR.rdL {R : Kvs} (h : SpR R) : SpR (rdL R) := by
  have := rdL_R h R.length
  rwa [List.take_length] at this
theorem rdL_le (R : Kvs) : (rdL R).length ≤ R.length := by
  have := rdL_len R R.length
  rwa [List.take_length] at this
section
variable {n : Nat} {xs xs2 : List WE} {q q2 : Nat} {M : Wrs} {R : Kvs}
theorem PI.up (h : PI n xs q M R) : PI (n + 1) xs q M R := ⟨h.w, h.le, h.rR, Nat.le_succ_of_le h.rl, Nat.le_succ_of_le h.ml, h.z⟩
theorem PI.snoc (h : PI n xs q M R) {s : Int × Int} (hs : s.1 ≤ s.2) (h1 : i64R s.1) (h2 : i64R s.2) : PI (n + 1) xs q M (R ++ [s]) := by
  refine ⟨h.w, fun x hx => ?_, fun x hx => ?_, by rw [List.length_append]; have := h.rl; simp only [List.length_singleton]; omega, Nat.le_succ_of_le h.ml, h.z⟩
  · rcases List.mem_append.1 hx with hx | hx
    · exact h.le x hx
    · rw [List.mem_singleton.1 hx]; exact hs
  · rcases List.mem_append.1 hx with hx | hx
    · exact h.rR x hx
    · rw [List.mem_singleton.1 hx]; exact ⟨h1, h2⟩
theorem PI.get (h : PI n xs q M R) {k : Int} (hk : i64R k) : PI (n + 1) xs q M (fw k M R) := by
  unfold fw
  split
  · exact h.up
  · exact h.snoc (Int.le_refl _) hk hk
theorem PI.rng (h : PI n xs q M R) {lo hi : Int} (h1 : i64R lo) (h2 : i64R hi) {R2 : Kvs} (hR : R2 = if lo ≤ hi then R ++ [(lo, hi)] else R) : PI (n + 1) xs q M R2 := by
  subst hR
  split
  · rename_i hl; exact h.snoc hl h1 h2
  · exact h.up
theorem wput_len (k : Int) (y : Bool × Int) : ∀ (M : Wrs), (wput k y M).length ≤ M.length + 1
  | [] => Nat.le_refl _
  | x :: M => by
    have ih := wput_len k y M
    unfold wput at ih ⊢
    simp only [List.length_append, List.length_cons, List.filter_cons] at ih ⊢
    by_cases h1 : x.1 < k
    · simp only [h1, decide_true, if_true, show ¬ k < x.1 by omega, decide_false, Bool.false_eq_true, if_false, List.length_cons]; omega
    · by_cases h2 : k < x.1
      · simp only [h1, h2, decide_true, if_true, decide_false, Bool.false_eq_true, if_false, List.length_cons]; omega
      · simp only [h1, h2, decide_false, Bool.false_eq_true, if_false]; omega
theorem wNew_len (k : Int) (y : Bool × Int) (M : Wrs) : (wNew k y M).length ≤ M.length + 1 := by
  unfold wNew
  split
  · omega
  · exact wput_len k y M
theorem PI.put (h : PI n xs q M R) {k : Int} {y : Bool × Int} (hw : WOk xs2 q2 (wNew k y M)) (hy : y.1 = false → y.2 = 0) : PI (n + 1) xs2 q2 (wNew k y M) R := by
  refine ⟨hw, h.le, h.rR, Nat.le_succ_of_le h.rl, Nat.le_trans (wNew_len k y M) (Nat.succ_le_succ h.ml), fun e he => ?_⟩
  unfold wNew at he
  split at he
  · exact h.z e he
  · rcases (wput_mem e).1 he with rfl | ⟨he, _⟩
    · exact hy
    · exact h.z e he
theorem PI.both {R2 : Kvs} {M2 : Wrs} {ys : List WE} {p m : Nat} {N2 : Wrs} {U : Kvs} (a : PI n ys p N2 R2) (b : PI n xs m M2 U) : PI n xs m M2 R2 := ⟨b.w, a.le, a.rR, a.rl, b.ml, b.z⟩
theorem PI.val (h : PI n xs q M R) {t : Tr} (hs : Srt t.ls) (k : Int) : vGet k M t = ((lget k (lwA M t.ls)).getD 0, (lget k (lwA M t.ls)).isSome) := by
  rw [lwA_get M hs h.w.srt k]
  unfold vGet wvw
  cases hg : wget k M with
  | none => rw [Tr.get_ls k t hs]
  | some y =>
    obtain ⟨p, v⟩ := y
    cases p with
    | true => rfl
    | false =>
      have h1 := h.z _ ((wget_some h.w.srt).1 hg) rfl
      show (v, false) = (0, false)
      rw [show v = 0 from h1]
end
set_option maxRecDepth 8192 in
theorem same9t {g w : World} {L : List HP} (xs ys : Kvs) (a b : Option Addr) (c d : Nat) (he : xs = ys) (hl : xs.length ≤ 1000000000) (hS : St g (Sh 121 2 (en2 xs) a c :: Sh 121 2 (en2 ys) b d :: L) w) :
    Sp Tryz.prog 33 [.slice a (List.length (en2 xs)) c, .slice b (List.length (en2 ys)) d] w (fun v w' => v = .bool true ∧ St g (Sh 121 2 (en2 xs) a c :: Sh 121 2 (en2 ys) b d :: L) w') := by
  exact (same9 xs ys a b c d hl hS).mono fun v w' ⟨hv, h⟩ => ⟨by rw [hv, decide_eq_true he], h⟩
set_option maxHeartbeats 1000000 in
set_option maxRecDepth 8192 in
theorem play26 {g w : World} {L : List HP} (x a : Nat) (rt : Int) (xs : List WE) (q : Nat) (A : AM) (RA : List Int) (t : Tr) (n : Nat) (kd key va ot : Int) (R : Kvs) (M : Wrs) (sa wa ra : Option Addr) (sc wc rc : Nat) (hP : PI n xs q M R) (hn : n ≤ 900) (hA : ARf A RA) (hi9 : Is A t rt) (hs : Srt t.ls) (htn : t.n ≤ 50000) (hkd : i64R kd) (hke : i64R key) (hot : i64R ot) (hS : St g (Tx x a rt xs q (rdL R) :: Arn a A :: Sh 121 2 (en2 t.ls) sa sc :: Sh 219 3 (w3s (M.map wr3)) wa wc :: Sh 106 2 (en2 R) ra rc :: L) w) :
    Sp Tryz.prog 36 [.pointer (some ⟨x, 0, none⟩), .agg #[.slice sa (List.length (en2 t.ls)) sc, .slice wa (List.length (w3s (M.map wr3))) wc, .slice ra (List.length (en2 R)) rc, .bool false], .agg #[.int .i64 kd, .int .i64 key, .int .i64 va, .int .i64 ot]] w (fun v w' => ∃ (xs2 : List WE) (q2 : Nat) (M2 : Wrs) (R2 : Kvs) (wa2 ra2 : Option Addr) (wc2 rc2 : Nat), v = .tuple #[.agg #[.slice sa (List.length (en2 t.ls)) sc, .slice wa2 (List.length (w3s (M2.map wr3))) wc2, .slice ra2 (List.length (en2 R2)) rc2, .bool false], .bool true] ∧ St g (Tx x a rt xs2 q2 (rdL R2) :: Arn a A :: Sh 121 2 (en2 t.ls) sa sc :: Sh 219 3 (w3s (M2.map wr3)) wa2 wc2 :: Sh 106 2 (en2 R2) ra2 rc2 :: L) w' ∧ (PI (n + 1) xs2 q2 M2 R2)) := by
  refine Sp.enter Tryz.func36 rfl (by kernel_rfl) (by kernel_rfl) ?_
  have _ := htn
  have _ := hn
  refine WC.seq <| WC.region <| WL.box rfl rfl #[.slice sa (List.length (en2 t.ls)) sc, .slice wa (List.length (w3s (M.map wr3))) wc, .slice ra (List.length (en2 R)) rc, .bool false] hS rfl rfl (fun b1 w hS => ?_)
  refine WL.box rfl rfl #[.int .i64 kd, .int .i64 key, .int .i64 va, .int .i64 ot] hS rfl rfl (fun b2 w hS => ?_)
  refine WL.new rfl rfl zv_100 hS (fun b3 w hS => ?_)
  refine WL.r 1 rfl <| WL.nil <| WC.seq <| WC.seq <| WC.region ?_
  have hW := hP.w; have hml := hP.ml; have hrl := hP.rl; have hsr := SpR.rdL hP.rR; have hsl := rdL_le R; have htl := Tr.ls_len t; have hwl := lwA_len M t.ls; have hbl := fun lo hi => List.length_filter_le (inK lo hi) (lwA M t.ls); have hva := fun k => hP.val hs k
  refine WL.run 2 [.int .i64 kd] rfl (by exact hS.ld 1 rfl rfl) ?_
  refine WL.call rfl rfl (md_spec (k := kd) (n := 8) (hk := hkd) (hn := (by decide)) (hS := hS)) rfl ?_
  clear hS; rintro _ w ⟨rfl, hS⟩
  replace hS := hS.n8 L (a0 := cel b3 #[.slice none 0 0, .slice none 0 0, .slice none 0 0, .bool false] 100) (a1 := cel b2 #[.int .i64 kd, .int .i64 key, .int .i64 va, .int .i64 ot] 89) (a2 := cel b1 #[.slice sa (List.length (en2 t.ls)) sc, .slice wa (List.length (w3s (M.map wr3))) wc, .slice ra (List.length (en2 R)) rc, .bool false] 100) rfl
  refine WL.nil <| WC.block <| WC.seq <| WC.region <| WL.r 2 rfl <| WL.nil <| WC.ifP rfl (fun cd1 => ?_) (fun cd1 => ?_)
  · refine WC.seq <| WC.region <| WL.run 5 [.int .i64 key, .int .i64 ot] rfl (by exact ⟨hS.ld 1 rfl rfl, hS.ld 1 rfl rfl⟩) ?_
    refine WL.call rfl rfl (tx_range (S := rdL R) (M := M) (R := RA) (lo := key) (hi := ot) (t := t) (hW := hW) (hA := hA) (hi9 := hi9) (hs := hs) (htn := (by omega)) (hlo := hke) (hhi := hot) (hR := hsr) (hSl := (by omega)) (hS := (hS.sel 5 [3, 3, 0, 0, 0] rfl))) rfl ?_
    clear hS; rintro _ w ⟨u1, c1, rfl, hS⟩
    replace hS := hS.n9 L (a0 := Own 121 2 (en2 (btw key ot (lwA M t.ls))) u1 c1) (a1 := Tx x a rt xs q (rdS key ot (rdL R))) rfl
    refine WL.r 5 rfl <| WL.nil ?_
    as_aux_lemma =>
    refine WC.seq <| WC.region <| WL.ldF rfl rfl 5 hS rfl rfl ag_100 <| WL.run 4 [.int .i64 key, .int .i64 ot] rfl (by exact ⟨hS.ld 4 rfl rfl, hS.ld 4 rfl rfl⟩) ?_
    refine WL.call rfl rfl (r26_range (l := t.ls) (M := M) (lo := key) (hi := ot) (hl := hs) (hm := (by omega)) (hll := (by omega)) (hr := (by omega)) (hS := (hS.sel 9 [6, 6, 6, 0, 0, 0, 0, 0, 0] rfl))) rfl ?_
    clear hS; rintro _ w ⟨R1, a1, c2, ea1, ec1, rfl, hS, f1⟩
    replace hS := hS.n10 L (a2 := Sh 106 2 (en2 R1) a1 c2) (a3 := Own 121 2 (en2 (btw key ot (lwA M t.ls))) ea1 ec1) rfl
    refine WL.r 4 rfl <| WL.new rfl rfl zv_100 hS (fun b4 w hS => ?_)
    refine WL.stF rfl rfl rfl 0 hS rfl rfl rfl rfl rfl ag_100 (fun w hS => ?_)
    replace hS := hS.n11 L (a0 := cel b4 #[.slice sa (List.length (en2 t.ls)) sc, .slice wa (List.length (w3s (M.map wr3))) wc, .slice a1 (List.length (en2 R1)) c2, .bool false] 100) rfl
    refine WL.r 2 rfl <| WL.nil <| WC.seq <| WC.plan [([0, 1, 2], some (3, [0])), ([4, 5, 6, 7, 8], some (9, [5, 6, 7, 8])), ([10], none)] (by kernel_rfl) (by kernel_rfl) ?_
    replace hS := (hS.at_ 5 rfl).share
    replace hS := hS.n11 L (a0 := Sh 121 2 (en2 (btw key ot (lwA M t.ls))) u1 c1) rfl
    replace hS := (hS.at_ 5 rfl).share
    replace hS := hS.n11 L (a0 := Sh 121 2 (en2 (btw key ot (lwA M t.ls))) ea1 ec1) rfl
    refine WQ.ldF rfl rfl 2 hS rfl rfl ag_100 <| WQ.r 2 rfl <| WQ.nil ?_
    intro m1
    replace hS := hS.drewN m1; generalize hwm1 : World.drewN _ _ = w at *; clear hwm1
    refine WL.call rfl rfl (same9t (xs := btw key ot (lwA M t.ls)) (ys := btw key ot (lwA M t.ls)) (he := rfl) (hl := (by have := hbl key ot; unfold btw; omega)) (hS := (hS.sel 2 [1, 0] rfl))) rfl ?_
    clear hS; rintro _ w ⟨rfl, hS⟩
    replace hS := hS.n11 L rfl
    refine WL.nil ?_
    refine ⟨by exact RQ.ldF rfl rfl 2 hS rfl rfl ag_100 rfl rfl, ?_⟩
    refine WQ.r 1 rfl <| WQ.ung rfl rfl rfl <| WQ.r 1 rfl <| WQ.ung rfl rfl rfl <| WQ.r 1 rfl <| WQ.ung rfl rfl rfl <| WQ.r 2 rfl <| WQ.nil ?_
    intro m2
    replace hS := hS.drewN m2; generalize hwm2 : World.drewN _ _ = w at *; clear hwm2
    refine WL.stF rfl rfl rfl 8 hS rfl rfl rfl rfl rfl ag_100 (fun w hS => ?_)
    replace hS := hS.n11 L (a8 := cel b3 #[.slice sa (List.length (en2 t.ls)) sc, .slice wa (List.length (w3s (M.map wr3))) wc, .slice a1 (List.length (en2 R1)) c2, .bool false] 100) rfl
    refine WL.nil ?_
    refine ⟨by exact ⟨RQ.ung rfl rfl rfl (RQ.pure rfl rfl rfl rfl), RQ.ung rfl rfl rfl (RQ.pure rfl rfl rfl rfl), RQ.ung rfl rfl rfl (RQ.pure rfl rfl rfl rfl), RQ.pure rfl rfl rfl rfl⟩, ?_⟩
    refine WQ.r 1 rfl <| WQ.nil ?_
    intro m3
    replace hS := hS.drewN m3; generalize hwm3 : World.drewN _ _ = w at *; clear hwm3
    as_aux_lemma =>
    refine WC.ret ?_
    refine ⟨[.agg #[.slice sa (List.length (en2 t.ls)) sc, .slice wa (List.length (w3s (M.map wr3))) wc, .slice a1 (List.length (en2 R1)) c2, .bool false], .bool (decide (0 = 0))], ⟨⟨_, rfl, hS.lvF 8 rfl ag_100⟩, rfl⟩, ?_⟩
    replace hS := (hS.sel 11 [6, 6, 3, 3, 3] rfl)
    rw [← rdL_R2 f1] at hS; exact ⟨_, _, _, _, _, _, _, _, rfl, hS, hP.rng hke hot f1⟩
  · refine WC.seq <| WC.seq <| WC.region <| WL.r 2 rfl <| WL.nil ?_
    as_aux_lemma =>
    refine WC.ifP rfl (fun cd2 => ?_) (fun cd2 => ?_)
    · refine WC.skip <| WC.ifT rfl (decide_eq_true cd2) <| WC.seq <| WC.region <| WL.ldF rfl rfl 2 hS rfl rfl ag_100 <| WL.run 4 [.int .i64 key, .int .i64 va] rfl (by exact ⟨hS.ld 1 rfl rfl, hS.ld 1 rfl rfl⟩) ?_
      refine WL.call rfl rfl (r26_Put (l := t.ls) (R := R) (M := M) (sa := sa) (ra := ra) (sc := sc) (rc := rc) (k := key) (z := va) (hs := hW.srt) (hm := (by omega)) (hS := (hS.sel 7 [6, 0, 0, 0, 0, 0, 0] rfl))) rfl ?_
      clear hS; rintro _ w ⟨wa1, wc1, rfl, hS⟩
      replace hS := hS.n8 L (a0 := Sh 219 3 (w3s ((wNew key (true, va) M).map wr3)) wa1 wc1) rfl
      refine WL.r 3 rfl <| WL.new rfl rfl zv_100 hS (fun b4 w hS => ?_)
      refine WL.stF rfl rfl rfl 0 hS rfl rfl rfl rfl rfl ag_100 (fun w hS => ?_)
      replace hS := hS.n9 L (a0 := cel b4 #[.slice sa (List.length (en2 t.ls)) sc, .slice wa1 (List.length (w3s ((wNew key (true, va) M).map wr3))) wc1, .slice ra (List.length (en2 R)) rc, .bool false] 100) rfl
      refine WL.r 1 rfl <| WL.nil <| WC.seq <| WC.plan [([0, 1, 2, 4, 7, 3, 5], some (6, [0, 7])), ([8], some (9, [7, 8])), ([10], none)] (by kernel_rfl) (by kernel_rfl) ?_
      refine WQ.ldF rfl rfl 0 hS rfl rfl ag_100 <| WQ.run 6 [.int .i64 key, .int .i64 va] rfl (by exact ⟨hS.ld 3 rfl rfl, hS.ld 3 rfl rfl⟩) ?_
      refine WQ.nil ?_
      intro m1
      replace hS := hS.drewN m1; generalize hwm1 : World.drewN _ _ = w at *; clear hwm1
      refine WL.call rfl rfl (tx_put (S := rdL R) (M := M) (k := key) (z := va) (hW := hW) (hr := hke) (hS := (hS.sel 6 [5, 0, 0, 0, 0, 0] rfl))) rfl ?_
      clear hS; rintro _ w ⟨xs1, q1, rfl, hS, f1⟩
      replace hS := hS.n9 L (a0 := Tx x a rt xs1 q1 (rdL R)) rfl
      refine WL.nil ?_
      refine ⟨by exact ⟨RQ.ldF rfl rfl 1 hS rfl rfl ag_100 rfl rfl, RQ.pure rfl rfl rfl rfl⟩, ?_⟩
      refine WQ.r 1 rfl <| WQ.nil ?_
      intro m2
      replace hS := hS.drewN m2; generalize hwm2 : World.drewN _ _ = w at *; clear hwm2
      refine WL.stF rfl rfl rfl 3 hS rfl rfl rfl rfl rfl ag_100 (fun w hS => ?_)
      replace hS := hS.n9 L (a3 := cel b3 #[.slice sa (List.length (en2 t.ls)) sc, .slice wa1 (List.length (w3s ((wNew key (true, va) M).map wr3))) wc1, .slice ra (List.length (en2 R)) rc, .bool false] 100) rfl
      refine WL.nil ?_
      refine ⟨by exact ⟨RQ.pure rfl rfl rfl rfl, RQ.pure rfl rfl rfl rfl⟩, ?_⟩
      refine WQ.r 1 rfl <| WQ.nil ?_
      intro m3
      replace hS := hS.drewN m3; generalize hwm3 : World.drewN _ _ = w at *; clear hwm3
      as_aux_lemma =>
      refine WC.ret ?_
      refine ⟨[.agg #[.slice sa (List.length (en2 t.ls)) sc, .slice wa1 (List.length (w3s ((wNew key (true, va) M).map wr3))) wc1, .slice ra (List.length (en2 R)) rc, .bool false], .bool (decide ((wErr key M) = (wErr key M)))], ⟨⟨_, rfl, hS.lvF 3 rfl ag_100⟩, rfl⟩, ?_⟩
      replace hS := (hS.sel 8 [0, 5, 5, 1] rfl)
      exact ⟨_, _, _, R, _, _, _, _, by rw [decide_eq_true (rfl : wErr key M = wErr key M)]; rfl, hS, hP.put f1 (fun h => by cases h)⟩
    · refine WC.seq <| WC.region <| WL.r 2 rfl <| WL.nil <| WC.ifP rfl (fun cd3 => ?_) (fun cd3 => ?_)
      · refine WC.skip <| WC.ifT rfl (decide_eq_true cd3) <| WC.seq <| WC.region <| WL.ldF rfl rfl 2 hS rfl rfl ag_100 <| WL.run 4 [.int .i64 key, .int .i64 va] rfl (by exact ⟨hS.ld 1 rfl rfl, hS.ld 1 rfl rfl⟩) ?_
        refine WL.call rfl rfl (r26_Put (l := t.ls) (R := R) (M := M) (sa := sa) (ra := ra) (sc := sc) (rc := rc) (k := key) (z := va) (hs := hW.srt) (hm := (by omega)) (hS := (hS.sel 7 [6, 0, 0, 0, 0, 0, 0] rfl))) rfl ?_
        clear hS; rintro _ w ⟨wa1, wc1, rfl, hS⟩
        replace hS := hS.n8 L (a0 := Sh 219 3 (w3s ((wNew key (true, va) M).map wr3)) wa1 wc1) rfl
        refine WL.r 3 rfl <| WL.new rfl rfl zv_100 hS (fun b4 w hS => ?_)
        refine WL.stF rfl rfl rfl 0 hS rfl rfl rfl rfl rfl ag_100 (fun w hS => ?_)
        replace hS := hS.n9 L (a0 := cel b4 #[.slice sa (List.length (en2 t.ls)) sc, .slice wa1 (List.length (w3s ((wNew key (true, va) M).map wr3))) wc1, .slice ra (List.length (en2 R)) rc, .bool false] 100) rfl
        refine WL.r 1 rfl <| WL.nil <| WC.seq <| WC.plan [([0, 1, 2, 4, 7, 3, 5], some (6, [0, 7])), ([8], some (9, [7, 8])), ([10], none)] (by kernel_rfl) (by kernel_rfl) ?_
        refine WQ.ldF rfl rfl 0 hS rfl rfl ag_100 <| WQ.run 6 [.int .i64 key, .int .i64 va] rfl (by exact ⟨hS.ld 3 rfl rfl, hS.ld 3 rfl rfl⟩) ?_
        refine WQ.nil ?_
        intro m1
        replace hS := hS.drewN m1; generalize hwm1 : World.drewN _ _ = w at *; clear hwm1
        refine WL.call rfl rfl (tx_put (S := rdL R) (M := M) (k := key) (z := va) (hW := hW) (hr := hke) (hS := (hS.sel 6 [5, 0, 0, 0, 0, 0] rfl))) rfl ?_
        clear hS; rintro _ w ⟨xs1, q1, rfl, hS, f1⟩
        replace hS := hS.n9 L (a0 := Tx x a rt xs1 q1 (rdL R)) rfl
        refine WL.nil ?_
        refine ⟨by exact ⟨RQ.ldF rfl rfl 1 hS rfl rfl ag_100 rfl rfl, RQ.pure rfl rfl rfl rfl⟩, ?_⟩
        refine WQ.r 1 rfl <| WQ.nil ?_
        intro m2
        replace hS := hS.drewN m2; generalize hwm2 : World.drewN _ _ = w at *; clear hwm2
        refine WL.stF rfl rfl rfl 3 hS rfl rfl rfl rfl rfl ag_100 (fun w hS => ?_)
        replace hS := hS.n9 L (a3 := cel b3 #[.slice sa (List.length (en2 t.ls)) sc, .slice wa1 (List.length (w3s ((wNew key (true, va) M).map wr3))) wc1, .slice ra (List.length (en2 R)) rc, .bool false] 100) rfl
        refine WL.nil ?_
        refine ⟨by exact ⟨RQ.pure rfl rfl rfl rfl, RQ.pure rfl rfl rfl rfl⟩, ?_⟩
        refine WQ.r 1 rfl <| WQ.nil ?_
        intro m3
        replace hS := hS.drewN m3; generalize hwm3 : World.drewN _ _ = w at *; clear hwm3
        as_aux_lemma =>
        refine WC.ret ?_
        refine ⟨[.agg #[.slice sa (List.length (en2 t.ls)) sc, .slice wa1 (List.length (w3s ((wNew key (true, va) M).map wr3))) wc1, .slice ra (List.length (en2 R)) rc, .bool false], .bool (decide ((wErr key M) = (wErr key M)))], ⟨⟨_, rfl, hS.lvF 3 rfl ag_100⟩, rfl⟩, ?_⟩
        replace hS := (hS.sel 8 [0, 5, 5, 1] rfl)
        exact ⟨_, _, _, R, _, _, _, _, by rw [decide_eq_true (rfl : wErr key M = wErr key M)]; rfl, hS, hP.put f1 (fun h => by cases h)⟩
      · refine WC.region <| WL.r 2 rfl <| WL.nil <| WC.ifP rfl (fun cd4 => ?_) (fun cd4 => ?_)
        · refine WC.seq <| WC.region <| WL.ldF rfl rfl 2 hS rfl rfl ag_100 <| WL.run 4 [.int .i64 key, .int .i64 va] rfl (by exact ⟨hS.ld 1 rfl rfl, hS.ld 1 rfl rfl⟩) ?_
          refine WL.call rfl rfl (r26_Put (l := t.ls) (R := R) (M := M) (sa := sa) (ra := ra) (sc := sc) (rc := rc) (k := key) (z := va) (hs := hW.srt) (hm := (by omega)) (hS := (hS.sel 7 [6, 0, 0, 0, 0, 0, 0] rfl))) rfl ?_
          clear hS; rintro _ w ⟨wa1, wc1, rfl, hS⟩
          replace hS := hS.n8 L (a0 := Sh 219 3 (w3s ((wNew key (true, va) M).map wr3)) wa1 wc1) rfl
          refine WL.r 3 rfl <| WL.new rfl rfl zv_100 hS (fun b4 w hS => ?_)
          refine WL.stF rfl rfl rfl 0 hS rfl rfl rfl rfl rfl ag_100 (fun w hS => ?_)
          replace hS := hS.n9 L (a0 := cel b4 #[.slice sa (List.length (en2 t.ls)) sc, .slice wa1 (List.length (w3s ((wNew key (true, va) M).map wr3))) wc1, .slice ra (List.length (en2 R)) rc, .bool false] 100) rfl
          refine WL.r 1 rfl <| WL.nil <| WC.seq <| WC.plan [([0, 1, 2, 4, 7, 3, 5], some (6, [0, 7])), ([8], some (9, [7, 8])), ([10], none)] (by kernel_rfl) (by kernel_rfl) ?_
          refine WQ.ldF rfl rfl 0 hS rfl rfl ag_100 <| WQ.run 6 [.int .i64 key, .int .i64 va] rfl (by exact ⟨hS.ld 3 rfl rfl, hS.ld 3 rfl rfl⟩) ?_
          refine WQ.nil ?_
          intro m1
          replace hS := hS.drewN m1; generalize hwm1 : World.drewN _ _ = w at *; clear hwm1
          refine WL.call rfl rfl (tx_put (S := rdL R) (M := M) (k := key) (z := va) (hW := hW) (hr := hke) (hS := (hS.sel 6 [5, 0, 0, 0, 0, 0] rfl))) rfl ?_
          clear hS; rintro _ w ⟨xs1, q1, rfl, hS, f1⟩
          replace hS := hS.n9 L (a0 := Tx x a rt xs1 q1 (rdL R)) rfl
          refine WL.nil ?_
          refine ⟨by exact ⟨RQ.ldF rfl rfl 1 hS rfl rfl ag_100 rfl rfl, RQ.pure rfl rfl rfl rfl⟩, ?_⟩
          refine WQ.r 1 rfl <| WQ.nil ?_
          intro m2
          replace hS := hS.drewN m2; generalize hwm2 : World.drewN _ _ = w at *; clear hwm2
          refine WL.stF rfl rfl rfl 3 hS rfl rfl rfl rfl rfl ag_100 (fun w hS => ?_)
          replace hS := hS.n9 L (a3 := cel b3 #[.slice sa (List.length (en2 t.ls)) sc, .slice wa1 (List.length (w3s ((wNew key (true, va) M).map wr3))) wc1, .slice ra (List.length (en2 R)) rc, .bool false] 100) rfl
          refine WL.nil ?_
          refine ⟨by exact ⟨RQ.pure rfl rfl rfl rfl, RQ.pure rfl rfl rfl rfl⟩, ?_⟩
          refine WQ.r 1 rfl <| WQ.nil ?_
          intro m3
          replace hS := hS.drewN m3; generalize hwm3 : World.drewN _ _ = w at *; clear hwm3
          as_aux_lemma =>
          refine WC.ret ?_
          refine ⟨[.agg #[.slice sa (List.length (en2 t.ls)) sc, .slice wa1 (List.length (w3s ((wNew key (true, va) M).map wr3))) wc1, .slice ra (List.length (en2 R)) rc, .bool false], .bool (decide ((wErr key M) = (wErr key M)))], ⟨⟨_, rfl, hS.lvF 3 rfl ag_100⟩, rfl⟩, ?_⟩
          replace hS := (hS.sel 8 [0, 5, 5, 1] rfl)
          exact ⟨_, _, _, R, _, _, _, _, by rw [decide_eq_true (rfl : wErr key M = wErr key M)]; rfl, hS, hP.put f1 (fun h => by cases h)⟩
        · refine WC.seq <| WC.region <| WL.r 2 rfl <| WL.nil <| WC.ifP rfl (fun cd5 => ?_) (fun cd5 => ?_)
          · refine WC.seq <| WC.region <| WL.ldF rfl rfl 2 hS rfl rfl ag_100 <| WL.run 2 [.int .i64 key] rfl (by exact hS.ld 1 rfl rfl) ?_
            refine WL.call rfl rfl (r26_Del (l := t.ls) (R := R) (M := M) (sa := sa) (ra := ra) (sc := sc) (rc := rc) (k := key) (hs := hW.srt) (hm := (by omega)) (hS := (hS.sel 7 [6, 0, 0, 0, 0, 0, 0] rfl))) rfl ?_
            clear hS; rintro _ w ⟨wa1, wc1, rfl, hS⟩
            replace hS := hS.n8 L (a0 := Sh 219 3 (w3s ((wNew key (false, 0) M).map wr3)) wa1 wc1) rfl
            refine WL.r 3 rfl <| WL.new rfl rfl zv_100 hS (fun b4 w hS => ?_)
            refine WL.stF rfl rfl rfl 0 hS rfl rfl rfl rfl rfl ag_100 (fun w hS => ?_)
            replace hS := hS.n9 L (a0 := cel b4 #[.slice sa (List.length (en2 t.ls)) sc, .slice wa1 (List.length (w3s ((wNew key (false, 0) M).map wr3))) wc1, .slice ra (List.length (en2 R)) rc, .bool false] 100) rfl
            refine WL.r 1 rfl <| WL.nil ?_
            as_aux_lemma =>
            refine WC.seq <| WC.plan [([0, 1, 2, 5, 3], some (4, [0, 5])), ([6], some (7, [5, 6])), ([8], none)] (by kernel_rfl) (by kernel_rfl) ?_
            refine WQ.ldF rfl rfl 0 hS rfl rfl ag_100 <| WQ.run 4 [.int .i64 key] rfl (by exact hS.ld 3 rfl rfl) ?_
            refine WQ.nil ?_
            intro m1
            replace hS := hS.drewN m1; generalize hwm1 : World.drewN _ _ = w at *; clear hwm1
            refine WL.call rfl rfl (tx_del (S := rdL R) (M := M) (k := key) (hW := hW) (hr := hke) (hS := (hS.sel 6 [5, 0, 0, 0, 0, 0] rfl))) rfl ?_
            clear hS; rintro _ w ⟨xs1, q1, rfl, hS, f1⟩
            replace hS := hS.n9 L (a0 := Tx x a rt xs1 q1 (rdL R)) rfl
            refine WL.nil ?_
            refine ⟨by exact ⟨RQ.ldF rfl rfl 1 hS rfl rfl ag_100 rfl rfl, RQ.pure rfl rfl rfl rfl⟩, ?_⟩
            refine WQ.r 1 rfl <| WQ.nil ?_
            intro m2
            replace hS := hS.drewN m2; generalize hwm2 : World.drewN _ _ = w at *; clear hwm2
            refine WL.stF rfl rfl rfl 3 hS rfl rfl rfl rfl rfl ag_100 (fun w hS => ?_)
            replace hS := hS.n9 L (a3 := cel b3 #[.slice sa (List.length (en2 t.ls)) sc, .slice wa1 (List.length (w3s ((wNew key (false, 0) M).map wr3))) wc1, .slice ra (List.length (en2 R)) rc, .bool false] 100) rfl
            refine WL.nil ?_
            refine ⟨by exact ⟨RQ.pure rfl rfl rfl rfl, RQ.pure rfl rfl rfl rfl⟩, ?_⟩
            refine WQ.r 1 rfl <| WQ.nil ?_
            intro m3
            replace hS := hS.drewN m3; generalize hwm3 : World.drewN _ _ = w at *; clear hwm3
            refine WC.ret ?_
            refine ⟨[.agg #[.slice sa (List.length (en2 t.ls)) sc, .slice wa1 (List.length (w3s ((wNew key (false, 0) M).map wr3))) wc1, .slice ra (List.length (en2 R)) rc, .bool false], .bool (decide ((wErr key M) = (wErr key M)))], ⟨⟨_, rfl, hS.lvF 3 rfl ag_100⟩, rfl⟩, ?_⟩
            replace hS := (hS.sel 8 [0, 5, 5, 1] rfl)
            exact ⟨_, _, _, R, _, _, _, _, by rw [decide_eq_true (rfl : wErr key M = wErr key M)]; rfl, hS, hP.put f1 (fun _ => rfl)⟩
          · refine WC.seq <| WC.region <| WL.r 2 rfl <| WL.nil <| WC.ifP rfl (fun cd6 => ?_) (fun cd6 => ?_)
            · refine WC.seq <| WC.region <| WL.run 3 [.int .i64 ot] rfl (by exact hS.ld 1 rfl rfl) ?_
              refine WL.call rfl rfl (tx_get (S := rdL R) (M := M) (R := RA) (k := ot) (t := t) (hW := hW) (hA := hA) (hi := hi9) (hk := hot) (hR := hsr) (hSl := (by omega)) (hS := (hS.sel 5 [3, 3, 0, 0, 0] rfl))) rfl ?_
              clear hS; rintro _ w ⟨rfl, hS⟩
              replace hS := hS.n8 L (a0 := Tx x a rt xs q (gSp ot M (rdL R))) rfl
              refine WL.r 7 rfl <| WL.nil ?_
              as_aux_lemma =>
              refine WC.seq <| WC.region <| WL.ldF rfl rfl 4 hS rfl rfl ag_100 <| WL.run 2 [.int .i64 ot] rfl (by exact hS.ld 3 rfl rfl) ?_
              refine WL.call rfl rfl (r26_get (l := t.ls) (M := M) (k := ot) (hl := hs) (hs := hW.srt) (hm := (by omega)) (hll := (by omega)) (hr := (by omega)) (hS := (hS.sel 8 [5, 5, 5, 0, 0, 0, 0, 0] rfl))) rfl ?_
              clear hS; rintro _ w ⟨a1, c1, rfl, hS⟩
              replace hS := hS.n8 L (a2 := Sh 106 2 (en2 (fw ot M R)) a1 c1) rfl
              refine WL.r 5 rfl <| WL.new rfl rfl zv_100 hS (fun b4 w hS => ?_)
              refine WL.stF rfl rfl rfl 0 hS rfl rfl rfl rfl rfl ag_100 (fun w hS => ?_)
              replace hS := hS.n9 L (a0 := cel b4 #[.slice sa (List.length (en2 t.ls)) sc, .slice wa (List.length (w3s (M.map wr3))) wc, .slice a1 (List.length (en2 (fw ot M R))) c1, .bool false] 100) rfl
              refine WL.r 3 rfl <| WL.nil <| WC.seq <| WC.region <| WL.ldF rfl rfl 0 hS rfl rfl ag_100 <| WL.run 6 [.int .i64 key, .int .i64 va] rfl (by exact ⟨hS.ld 7 rfl rfl, hS.ld 7 rfl rfl⟩) ?_
              refine WL.call rfl rfl (r26_Put (l := t.ls) (R := fw ot M R) (M := M) (sa := sa) (ra := a1) (sc := sc) (rc := c1) (k := key) (z := IntKind.i64.wrap (((lget ot (lwA M t.ls)).getD 0) + va)) (hs := hW.srt) (hm := (by omega)) (hS := (hS.sel 3 [2, 0, 0] rfl))) rfl ?_
              clear hS; rintro _ w ⟨wa1, wc1, rfl, hS⟩
              replace hS := hS.n9 L (a0 := Sh 219 3 (w3s ((wNew key (true, IntKind.i64.wrap (((lget ot (lwA M t.ls)).getD 0) + va)) M).map wr3)) wa1 wc1) rfl
              refine WL.r 3 rfl <| WL.new rfl rfl zv_100 hS (fun b5 w hS => ?_)
              refine WL.stF rfl rfl rfl 0 hS rfl rfl rfl rfl rfl ag_100 (fun w hS => ?_)
              replace hS := hS.n10 L (a0 := cel b5 #[.slice sa (List.length (en2 t.ls)) sc, .slice wa1 (List.length (w3s ((wNew key (true, IntKind.i64.wrap (((lget ot (lwA M t.ls)).getD 0) + va)) M).map wr3))) wc1, .slice a1 (List.length (en2 (fw ot M R))) c1, .bool false] 100) rfl
              refine WL.r 1 rfl <| WL.nil ?_
              as_aux_lemma =>
              refine WC.seq <| WC.plan [([0, 1, 2, 3, 4, 5, 6, 8, 9, 13, 7, 10, 11], some (12, [0, 13])), ([14, 15], some (16, [13, 14, 15])), ([17], none)] (by kernel_rfl) (by kernel_rfl) ?_
              refine WQ.ldF rfl rfl 0 hS rfl rfl ag_100 <| WQ.r 4 rfl <| WQ.reb 138 (.bool true) (congrArg Value.bool (decide_eq_true ((by rw [hva ot])))) ?_
              refine WQ.ung rfl rfl rfl <| WQ.r 1 rfl <| WQ.ung rfl rfl rfl <| WQ.r 1 rfl <| WQ.ung rfl rfl rfl <| WQ.r 1 rfl <| WQ.ung rfl rfl rfl <| WQ.r 1 rfl <| WQ.ung rfl rfl rfl <| WQ.r 1 rfl <| WQ.ung rfl rfl rfl <| WQ.run 1 [.int .i64 key] rfl (by exact hS.ld 8 rfl rfl) ?_
              refine WQ.ung rfl rfl rfl <| WQ.run 1 [.int .i64 va] rfl (by exact hS.ld 8 rfl rfl) ?_
              refine WQ.ung rfl rfl rfl <| WQ.r 1 rfl <| WQ.nil ?_
              intro m1
              replace hS := hS.drewN m1; generalize hwm1 : World.drewN _ _ = w at *; clear hwm1
              refine WL.ung rfl rfl rfl <| WL.call rfl rfl (tx_put (S := gSp ot M (rdL R)) (M := M) (k := key) (z := IntKind.i64.wrap (((lget ot (lwA M t.ls)).getD 0) + va)) (hW := hW) (hr := hke) (hS := (hS.sel 6 [5, 0, 0, 0, 0, 0] rfl))) rfl ?_
              clear hS; rintro _ w ⟨xs1, q1, rfl, hS, f1⟩
              replace hS := hS.n10 L (a0 := Tx x a rt xs1 q1 (gSp ot M (rdL R))) rfl
              refine WL.nil ?_
              refine ⟨by exact ⟨RQ.ldF rfl rfl 1 hS rfl rfl ag_100 rfl rfl, RQ.ung rfl rfl rfl (RQ.pure rfl rfl rfl rfl)⟩, ?_⟩
              refine WQ.ung rfl rfl rfl <| WQ.r 2 rfl <| WQ.nil ?_
              intro m2
              replace hS := hS.drewN m2; generalize hwm2 : World.drewN _ _ = w at *; clear hwm2
              refine WL.stF rfl rfl rfl 7 hS rfl rfl rfl rfl rfl ag_100 (fun w hS => ?_)
              replace hS := hS.n10 L (a7 := cel b3 #[.slice sa (List.length (en2 t.ls)) sc, .slice wa1 (List.length (w3s ((wNew key (true, IntKind.i64.wrap (((lget ot (lwA M t.ls)).getD 0) + va)) M).map wr3))) wc1, .slice a1 (List.length (en2 (fw ot M R))) c1, .bool false] 100) rfl
              refine WL.nil ?_
              refine ⟨by exact ⟨RQ.ung rfl rfl rfl (RQ.pure rfl rfl rfl rfl), RQ.ung rfl rfl rfl (RQ.pure rfl rfl rfl rfl), RQ.pure rfl rfl rfl rfl⟩, ?_⟩
              refine WQ.r 1 rfl <| WQ.nil ?_
              intro m3
              replace hS := hS.drewN m3; generalize hwm3 : World.drewN _ _ = w at *; clear hwm3
              as_aux_lemma =>
              refine WC.ret ?_
              refine ⟨[.agg #[.slice sa (List.length (en2 t.ls)) sc, .slice wa1 (List.length (w3s ((wNew key (true, IntKind.i64.wrap (((lget ot (lwA M t.ls)).getD 0) + va)) M).map wr3))) wc1, .slice a1 (List.length (en2 (fw ot M R))) c1, .bool false], .bool (decide ((wErr key M) = (wErr key M)))], ⟨⟨_, rfl, hS.lvF 7 rfl ag_100⟩, rfl⟩, ?_⟩
              replace hS := (hS.sel 10 [0, 5, 3, 1, 2] rfl)
              rw [← rdL_fw] at hS; exact ⟨_, _, _, _, _, _, _, _, by rw [decide_eq_true (rfl : wErr key M = wErr key M)]; rfl, hS, (hP.get hot).both (hP.put f1 (fun h => by cases h))⟩
            · refine WC.skip <| WC.seq <| WC.region <| WL.run 3 [.int .i64 key] rfl (by exact hS.ld 1 rfl rfl) ?_
              refine WL.call rfl rfl (tx_get (S := rdL R) (M := M) (R := RA) (k := key) (t := t) (hW := hW) (hA := hA) (hi := hi9) (hk := hke) (hR := hsr) (hSl := (by omega)) (hS := (hS.sel 5 [3, 3, 0, 0, 0] rfl))) rfl ?_
              clear hS; rintro _ w ⟨rfl, hS⟩
              replace hS := hS.n8 L (a0 := Tx x a rt xs q (gSp key M (rdL R))) rfl
              refine WL.r 7 rfl <| WL.nil ?_
              as_aux_lemma =>
              refine WC.seq <| WC.region <| WL.ldF rfl rfl 4 hS rfl rfl ag_100 <| WL.run 2 [.int .i64 key] rfl (by exact hS.ld 3 rfl rfl) ?_
              refine WL.call rfl rfl (r26_get (l := t.ls) (M := M) (k := key) (hl := hs) (hs := hW.srt) (hm := (by omega)) (hll := (by omega)) (hr := (by omega)) (hS := (hS.sel 8 [5, 5, 5, 0, 0, 0, 0, 0] rfl))) rfl ?_
              clear hS; rintro _ w ⟨a1, c1, rfl, hS⟩
              replace hS := hS.n8 L (a2 := Sh 106 2 (en2 (fw key M R)) a1 c1) rfl
              refine WL.r 5 rfl <| WL.new rfl rfl zv_100 hS (fun b4 w hS => ?_)
              refine WL.stF rfl rfl rfl 0 hS rfl rfl rfl rfl rfl ag_100 (fun w hS => ?_)
              replace hS := hS.n9 L (a0 := cel b4 #[.slice sa (List.length (en2 t.ls)) sc, .slice wa (List.length (w3s (M.map wr3))) wc, .slice a1 (List.length (en2 (fw key M R))) c1, .bool false] 100) rfl
              refine WL.r 3 rfl <| WL.nil <| WC.seq <| WC.region <| WL.ldF rfl rfl 0 hS rfl rfl ag_100 <| WL.r 3 rfl <| WL.rG 10 rfl (fun j => ?_)
              refine WL.prop 180 rfl (band (band (dd _) (dv _)) (dd _)) <| WL.stF rfl rfl rfl 6 hS rfl rfl rfl rfl rfl ag_100 (fun w hS => ?_)
              replace hS := hS.n9 L (a6 := cel b3 #[.slice sa (List.length (en2 t.ls)) sc, .slice wa (List.length (w3s (M.map wr3))) wc, .slice a1 (List.length (en2 (fw key M R))) c1, .bool false] 100) rfl
              refine WL.r 1 rfl <| WL.nil <| WC.ret ?_
              refine ⟨[.agg #[.slice sa (List.length (en2 t.ls)) sc, .slice wa (List.length (w3s (M.map wr3))) wc, .slice a1 (List.length (en2 (fw key M R))) c1, .bool false], .bool (decide ((((vGet key M t).1 = ((lget key (lwA M t.ls)).getD 0)) ∧ (((vGet key M t).2 == (lget key (lwA M t.ls)).isSome) = true)) ∧ (0 = 0)))], ⟨⟨_, rfl, hS.lvF 6 rfl ag_100⟩, rfl⟩, ?_⟩
              replace hS := (hS.sel 9 [4, 4, 1, 1, 1] rfl)
              rw [← rdL_fw] at hS; exact ⟨_, _, _, _, _, _, _, _, by rw [hva key]; simp <;> rfl, hS, hP.get hke⟩
end Go.Proofs.YtbeacjcmdijdmaaGreat
/-! ## D1 -/
namespace Go.Proofs.YtbeacjcmdijdmaaGreat
open Go Go.V
def ordU (S : SM) (k : Nat) : List Int := (List.range k).map fun i : Nat => S.fresh + 1 + (i : Int)
def SM.order (S : SM) : List Int := S.rel.reverse ++ ordU S (S.cap - S.fresh).toNat
theorem rev_next {l : List Int} {k : Nat} {x : Int} (h : l[k]? = some x) : (l.drop k).reverse = (l.drop (k + 1)).reverse ++ [x] := by
  obtain ⟨hl, rfl⟩ := List.getElem?_eq_some_iff.1 h
  rw [List.drop_eq_getElem_cons hl, List.reverse_cons]
theorem ordU_next (S : SM) (k : Nat) : ordU S (k + 1) = ordU S k ++ [S.fresh + 1 + (k : Int)] := by
  unfold ordU; rw [List.range_succ, List.map_append]; rfl
set_option maxRecDepth 8192 in
theorem sl_order {g w : World} {L : List HP} (s : Nat) (S : SM) (hO : SOk S) (hS : St g (Slt s S :: L) w) :
    Sp Tryz.prog 79 [.pointer (some ⟨s, 0, none⟩)] w (fun v w' => ∃ (a2 : Option Addr) (c2 : Nat), v = .slice a2 (List.length (u32s (SM.order S))) c2 ∧ St g (Own 64 1 (u32s (SM.order S)) a2 c2 :: Slt s S :: L) w') := by
  refine Sp.enter Tryz.func79 rfl (by kernel_rfl) (by kernel_rfl) ?_
  refine WC.seq <| WC.region ?_
  obtain ⟨⟨ua, uc, ga, gc, ra, rc⟩, hS⟩ := St.exOpen (f := sltF s S) hS
  replace hS : St g (cel s #[.slice ua (List.length (bos S.used)) uc, .slice ga (List.length (u32s S.gen)) gc, .slice ra (List.length (u32s S.rel)) rc, .int .u32 S.fresh] 243 :: Own 4 1 (bos S.used) ua uc :: Own 64 1 (u32s S.gen) ga gc :: Own 64 1 (u32s S.rel) ra rc :: L) w := hS
  have hfr := hO.fr; have hcp : S.cap = (S.used.length : Int) - 1 := rfl; have hle := hO.le; have hrl := hO.rle; have hfd : S.free = (S.rel.length : Int) + S.cap - S.fresh := rfl; have hru := u32s_len S.rel; have hbu := bos_len S.used
  refine WL.r 1 rfl <| WL.nil <| WC.seq <| WC.region <| WL.r 1 rfl <| WL.call rfl rfl (sl_free0 (ua := ua) (ga := ga) (ra := ra) (n := List.length (bos S.used)) (ng := List.length (u32s S.gen)) (nr := List.length (u32s S.rel)) (uc := uc) (gc := gc) (rc := rc) (fr := S.fresh) (hn := (by omega)) (hS := hS)) rfl ?_
  clear hS; rintro _ w ⟨rfl, hS⟩
  replace hS := hS.n4 L rfl
  refine WL.make rfl rfl (v := 0) (v' := (List.length (u32s S.rel)) + ((List.length (bos S.used)) - 1) - S.fresh) (0) (S.free.toNat) el_32 hS rfl (by omega) rfl (by omega) (by omega) (Rm.of (by omega) (by decide)) (fun b1 w hS => ?_)
  replace hS := hS.n5 L (a0 := Own 64 1 [] (some ⟨b1, 0, none⟩) S.free.toNat) rfl
  refine WL.r 1 rfl <| WL.nil <| WC.seq <| WC.seq <| WC.region <| WL.run 6 [.slice ra (List.length (u32s S.rel)) rc] rfl (by exact hS.ld 1 rfl rfl) ?_
  refine WL.nw 14 rfl (w64 (by omega)) ?_
  refine WL.r 1 rfl <| WL.nil ?_
  as_aux_lemma =>
  refine WC.block <| WC.loop [0, 2, 3, 4] (fun kM vs w => ∃ (j : Int) (out : List Int) (ub : Option Addr) (ud : Nat), vs = [.pointer (some ⟨s, 0, none⟩), .slice none 0 0, .slice ub (List.length (u32s out)) ud, .int .i64 j] ∧ St g (Own 64 1 (u32s out) ub ud :: cel s #[.slice ua (List.length (bos S.used)) uc, .slice ga (List.length (u32s S.gen)) gc, .slice ra (List.length (u32s S.rel)) rc, .int .u32 S.fresh] 243 :: Own 4 1 (bos S.used) ua uc :: Own 64 1 (u32s S.gen) ga gc :: Own 64 1 (u32s S.rel) ra rc :: L) w ∧ (-1 ≤ j ∧ j < S.rel.length) ∧ (out = (S.rel.drop (j + 1).toNat).reverse) ∧ ((j + 1).toNat) = kM) ((((List.length (u32s S.rel) : Int) - 1) + 1).toNat) ⟨((u32s S.rel).length : Int) - 1, [], (some ⟨b1, 0, none⟩), S.free.toNat, rfl, hS, (by omega), (by rw [List.drop_eq_nil_of_le (by omega)]; rfl), rfl⟩ ?_
  clear hS; rintro _ _ w j ⟨j, out, ub, ud, rfl, hS, hj, ho, rfl⟩
  refine WC.seq <| WC.seq <| WC.region <| WL.r 2 rfl <| WL.nil <| WC.ifP rfl (fun cd1 => ?_) (fun cd1 => ?_)
  · refine WC.skip <| WC.seq <| WC.block <| WC.region <| WL.run 6 [.slice ra (List.length (u32s S.rel)) rc] rfl (by exact hS.ld 1 rfl rfl) ?_
    obtain ⟨x, hx⟩ : ∃ x, S.rel[j.toNat]? = some x := ⟨_, List.getElem?_eq_getElem (by omega)⟩; have hol : out.length ≤ S.rel.length := (by rw [ho, List.length_reverse, List.length_drop]; omega); have hoe := u32s_len out
    refine WL.ix rfl rfl (i := j) (j.toNat) el_32 rfl rfl (by omega) (by omega) (hS.rdO 4 rfl (u32s_at hx)).1 ?_
    refine WL.run 1 [.int .u32 x] rfl (by exact (hS.rdO 4 rfl (u32s_at hx)).2 0 _ rfl) ?_
    refine WL.lit rfl rfl (u32s [x]) el_32 hS (by exact ⟨rfl, rfl⟩) (u32s_ok _) rfl (Nat.le_of_ble_eq_true rfl) (fun b2 w hS => ?_)
    refine WL.app rfl rfl 1 (u32s (out ++ [x])) el_32 hS rfl (hS.srcO 0 rfl) (u32s_app _ _).symm (Rm.of (by first | omega | (simp <;> omega)) (by decide)) rfl rfl (fun a1 c1 w hS => ?_)
    replace hS := hS.n6 L (a0 := Own 64 1 (u32s [x]) (some ⟨b2, 0, none⟩) (List.length (u32s [x]))) (a1 := Own 64 1 (u32s (out ++ [x])) a1 c1) rfl
    refine WL.r 1 rfl <| WL.nil <| WC.region <| WL.r 2 rfl <| WL.nw 18 rfl (w64 (by omega)) ?_
    refine WL.r 1 rfl <| WL.nil ?_
    exact ⟨_, by omega, j - 1, out ++ [x], a1, c1, rfl, (hS.sel 1 [] rfl), (by omega), (by rw [ho, show (j + 1).toNat = j.toNat + 1 by omega, show (j - 1 + 1).toNat = j.toNat by omega]; exact (rev_next hx).symm), rfl⟩
  · refine WC.exit <| WC.seq <| WC.seq <| WC.region ?_
    have hor : out = S.rel.reverse := (by rw [ho, show (j + 1).toNat = 0 by omega]; rfl)
    refine WL.run 5 [.int .u32 S.fresh] rfl (by exact hS.ld 1 rfl rfl) ?_
    refine WL.nw 33 rfl (w64 (by omega)) ?_
    refine WL.r 1 rfl <| WL.nw 34 rfl (w64 (by omega)) ?_
    refine WL.r 1 rfl <| WL.nil <| WC.block <| WC.loop [0, 2, 3, 5] (fun kM vs w => ∃ (k : Nat) (j2 : Int) (acc : List Int) (uf : Option Addr) (ud2 : Nat), vs = [.pointer (some ⟨s, 0, none⟩), .slice none 0 0, .slice uf (List.length (u32s acc)) ud2, .int .i64 j2] ∧ St g (Own 64 1 (u32s acc) uf ud2 :: cel s #[.slice ua (List.length (bos S.used)) uc, .slice ga (List.length (u32s S.gen)) gc, .slice ra (List.length (u32s S.rel)) rc, .int .u32 S.fresh] 243 :: Own 4 1 (bos S.used) ua uc :: Own 64 1 (u32s S.gen) ga gc :: Own 64 1 (u32s S.rel) ra rc :: L) w ∧ ((k : Int) ≤ S.cap - S.fresh) ∧ (j2 = S.fresh + 1 + (k : Int)) ∧ (acc = S.rel.reverse ++ ordU S k) ∧ ((S.cap - S.fresh).toNat - k) = kM) ((S.cap - S.fresh).toNat - 0) ⟨0, S.fresh + 1, out, ub, ud, rfl, hS, (by omega), (by omega), (by rw [hor]; simp [ordU]), rfl⟩ ?_
    clear hS; rintro _ _ w j ⟨k, j2, acc, uf, ud2, rfl, hS, hk, hj2, ha, rfl⟩
    refine WC.seq <| WC.seq <| WC.region <| WL.r 2 rfl <| WL.call rfl rfl (sl_cap0 (ua := ua) (ga := ga) (ra := ra) (n := List.length (bos S.used)) (ng := List.length (u32s S.gen)) (nr := List.length (u32s S.rel)) (uc := uc) (gc := gc) (rc := rc) (fr := S.fresh) (hn := (by omega)) (hS := (hS.sel 2 [1, 0] rfl))) rfl ?_
    clear hS; rintro _ w ⟨rfl, hS⟩
    replace hS := hS.n5 L rfl
    refine WL.r 1 rfl <| WL.nil ?_
    as_aux_lemma =>
    refine WC.ifP rfl (fun cd2 => ?_) (fun cd2 => ?_)
    · refine WC.skip <| WC.seq <| WC.block <| WC.region ?_
      have hal : acc.length ≤ 140000 := (by rw [ha, List.length_append, List.length_reverse]; unfold ordU; simp; omega); have hac := u32s_len acc
      refine WL.r 3 rfl <| WL.nw 43 rfl (wu32 (by omega)) ?_
      refine WL.lit rfl rfl (u32s [j2]) el_32 hS (by exact ⟨rfl, rfl⟩) (u32s_ok _) rfl (Nat.le_of_ble_eq_true rfl) (fun b2 w hS => ?_)
      refine WL.app rfl rfl 2 (u32s (acc ++ [j2])) el_32 hS rfl (hS.srcO 0 rfl) (u32s_app _ _).symm (Rm.of (by first | omega | (simp <;> omega)) (by decide)) rfl rfl (fun a1 c1 w hS => ?_)
      replace hS := hS.n6 L (a0 := Own 64 1 (u32s [j2]) (some ⟨b2, 0, none⟩) (List.length (u32s [j2]))) (a2 := Own 64 1 (u32s (acc ++ [j2])) a1 c1) rfl
      refine WL.r 1 rfl <| WL.nil <| WC.region <| WL.r 2 rfl <| WL.nw 40 rfl (w64 (by omega)) ?_
      refine WL.r 1 rfl <| WL.nil ?_
      exact ⟨_, by omega, k + 1, j2 + 1, acc ++ [j2], a1, c1, rfl, (hS.sel 3 [2, 1] rfl), (by omega), (by omega), (by rw [hj2, ha, ordU_next, List.append_assoc]), rfl⟩
    · refine WC.exit <| WC.seq <| WC.region <| WL.r 2 rfl <| WL.nil <| WC.ret ?_
      replace hS := St.exClose (f := sltF s S) (L := Own 64 1 (u32s acc) uf ud2 :: L) ⟨ua, uc, ga, gc, ra, rc⟩ ((hS.sel 5 [0, 1, 1, 1, 0] rfl))
      replace hS := hS.n2 L (a0 := Slt s S) rfl
      refine ⟨[.slice uf (List.length (u32s acc)) ud2], rfl, ?_⟩
      replace hS := (hS.sel 2 [1, 0] rfl)
      have hke : k = (S.cap - S.fresh).toNat := (by omega); subst hke; rw [show acc = SM.order S from ha] at hS ⊢; exact ⟨_, _, rfl, hS⟩
theorem order_n {S : SM} (hO : SOk S) : ((SM.order S).length : Int) = S.free := by
  have hfr := hO.fr
  unfold SM.order ordU SM.free
  simp only [List.length_append, List.length_reverse, List.length_map, List.length_range]; omega
end Go.Proofs.YtbeacjcmdijdmaaGreat
/-! ## Dm -/
namespace Go.V
open Go Go.RowKit
structure SlE where
  al : Bool
  cn : Int
  ge : Int
  nd : Nd
def slC (x : SlE) : List Value := [.bool x.al, .int .i64 x.cn, .int .u32 x.ge, .int .i64 x.nd.key, .int .i64 x.nd.val, .int .u32 x.nd.lf, .int .u32 x.nd.rg, .int .i64 x.nd.size, .int .i64 x.nd.sum, .int .i64 x.nd.mn, .int .i64 x.nd.mx]
def sls (l : List SlE) : List (List Value) := l.map slC
@[simp] theorem sls_len (l : List SlE) : (sls l).length = l.length := by simp [sls]
theorem sls_at {l : List SlE} {k : Nat} {x : SlE} (h : l[k]? = some x) : (sls l)[k]? = some (slC x) := by simp [sls, h]
theorem sls_set (l : List SlE) (k : Nat) (x : SlE) : (sls l).set k (slC x) = sls (l.set k x) := by simp [sls, List.map_set]
def SlE.zero : SlE := ⟨false, 0, 0, Nd.zero⟩
def AM.cntD (A : AM) (i : Int) : Int := if A.s.ok i = true then A.cntOf i else 0
def AM.dmpAt (A : AM) (i : Int) : SlE := ⟨A.s.ok i, A.cntD i, A.s.genOf i, (A.nodes[i.toNat]?).getD Nd.zero⟩
def AM.dmp (A : AM) : List SlE := (List.range A.s.cap.toNat).map fun j : Nat => A.dmpAt ((j : Int) + 1)
def AM.dmpK (A : AM) (k : Nat) : List SlE := (List.range A.s.cap.toNat).map fun j : Nat => if j < k then A.dmpAt ((j : Int) + 1) else SlE.zero
theorem AM.dmp_len (A : AM) : A.dmp.length = A.s.cap.toNat := by simp [AM.dmp]
theorem AM.dmpK_len (A : AM) (k : Nat) : (A.dmpK k).length = A.s.cap.toNat := by simp [AM.dmpK]
theorem AM.dmpK_0 (A : AM) : sls (A.dmpK 0) = List.replicate A.s.cap.toNat (slC SlE.zero) := by
  unfold AM.dmpK
  have : (List.range A.s.cap.toNat).map (fun j : Nat => if j < 0 then A.dmpAt ((j : Int) + 1) else SlE.zero) = List.replicate A.s.cap.toNat SlE.zero := by
    apply List.ext_getElem <;> simp
  rw [this]; simp [sls]
theorem AM.dmpK_set (A : AM) {k : Nat} : (A.dmpK k).set k (A.dmpAt ((k : Int) + 1)) = A.dmpK (k + 1) := by
  apply List.ext_getElem?
  intro i
  rw [List.getElem?_set]
  unfold AM.dmpK
  rw [List.length_map, List.length_range, List.getElem?_map, List.getElem?_map]
  by_cases hi : i < A.s.cap.toNat
  · rw [List.getElem?_range hi]
    by_cases hk : k = i
    · subst hk; rw [if_pos rfl, if_pos hi]; simp
    · rw [if_neg hk]
      simp only [Option.map_some]
      by_cases h2 : i < k
      · rw [if_pos h2, if_pos (by omega)]
      · rw [if_neg h2, if_neg (by omega)]
  · have hn : (List.range A.s.cap.toNat)[i]? = none := List.getElem?_eq_none (by simp; omega)
    rw [hn]
    by_cases hk : k = i
    · subst hk; rw [if_pos rfl, if_neg hi]; rfl
    · rw [if_neg hk]; rfl
theorem AM.dmpK_end (A : AM) : A.dmpK A.s.cap.toNat = A.dmp := by
  unfold AM.dmpK AM.dmp
  refine List.map_congr_left fun j hj => ?_
  rw [if_pos (List.mem_range.1 hj)]
end Go.V
/-! ## D2 -/
namespace Go.Proofs.YtbeacjcmdijdmaaGreat
open Go Go.V
set_option maxRecDepth 8192 in
theorem ar_cap_o {g w : World} {L : List HP} (a p : Nat) (A : AM) (na : Option Addr) (nc : Nat) (ca : Option Addr) (cc : Nat) (rd : Int) (hA : AWf A) (hS : St g (cel a #[.pointer (some ⟨p, 0, none⟩), .slice na (List.length (nds A.nodes)) nc, .slice ca (List.length (i64s A.cnt)) cc, .int .u64 rd] 161 :: Slt p A.s :: Own 172 8 (nds A.nodes) na nc :: Own 3 1 (i64s A.cnt) ca cc :: L) w) :
    Sp Tryz.prog 14 [.pointer (some ⟨a, 0, none⟩)] w (fun v w' => v = .int .i64 A.s.cap ∧ St g (cel a #[.pointer (some ⟨p, 0, none⟩), .slice na (List.length (nds A.nodes)) nc, .slice ca (List.length (i64s A.cnt)) cc, .int .u64 rd] 161 :: Slt p A.s :: Own 172 8 (nds A.nodes) na nc :: Own 3 1 (i64s A.cnt) ca cc :: L) w') := by
  refine Sp.enter Tryz.func14 rfl (by kernel_rfl) (by kernel_rfl) ?_
  refine WC.seq <| WC.region ?_
  have hs := hA.s
  refine WL.r 1 rfl <| WL.nil <| WC.seq <| WC.region <| WL.run 4 [.pointer (some ⟨p, 0, none⟩)] rfl (by exact hS.ld 0 rfl rfl) ?_
  refine WL.call rfl rfl (sl_cap (S := A.s) (hl := hA.s.le) (hS := (hS.sel 2 [1, 0] rfl))) rfl ?_
  clear hS; rintro _ w ⟨rfl, hS⟩
  replace hS := hS.n4 L rfl
  refine WL.r 1 rfl <| WL.nil <| WC.ret ?_
  refine ⟨[.int .i64 A.s.cap], rfl, ?_⟩
  replace hS := (hS.sel 2 [1, 0] rfl)
  exact ⟨rfl, hS⟩
set_option maxRecDepth 8192 in
theorem ar_gen_o {g w : World} {L : List HP} (a p : Nat) (A : AM) (na : Option Addr) (nc : Nat) (ca : Option Addr) (cc : Nat) (rd : Int) (i : Int) (hA : AWf A) (hi : 0 ≤ i ∧ i < 4294967296) (hS : St g (cel a #[.pointer (some ⟨p, 0, none⟩), .slice na (List.length (nds A.nodes)) nc, .slice ca (List.length (i64s A.cnt)) cc, .int .u64 rd] 161 :: Slt p A.s :: Own 172 8 (nds A.nodes) na nc :: Own 3 1 (i64s A.cnt) ca cc :: L) w) :
    Sp Tryz.prog 82 [.pointer (some ⟨a, 0, none⟩), .int .u32 i] w (fun v w' => v = .int .u32 (A.s.genOf i) ∧ St g (cel a #[.pointer (some ⟨p, 0, none⟩), .slice na (List.length (nds A.nodes)) nc, .slice ca (List.length (i64s A.cnt)) cc, .int .u64 rd] 161 :: Slt p A.s :: Own 172 8 (nds A.nodes) na nc :: Own 3 1 (i64s A.cnt) ca cc :: L) w') := by
  refine Sp.enter Tryz.func82 rfl (by kernel_rfl) (by kernel_rfl) ?_
  have _ := hi
  refine WC.seq <| WC.region ?_
  have hs := hA.s
  refine WL.r 1 rfl <| WL.nil <| WC.seq <| WC.region <| WL.run 5 [.pointer (some ⟨p, 0, none⟩)] rfl (by exact hS.ld 0 rfl rfl) ?_
  refine WL.call rfl rfl (sl_gen (S := A.s) (i := i) (hl := (by first | assumption | exact SOk.gle (by assumption))) (hi := (by omega)) (hS := (hS.sel 2 [1, 0] rfl))) rfl ?_
  clear hS; rintro _ w ⟨rfl, hS⟩
  replace hS := hS.n4 L rfl
  refine WL.r 1 rfl <| WL.nil <| WC.ret ?_
  refine ⟨[.int .u32 (A.s.genOf i)], rfl, ?_⟩
  replace hS := (hS.sel 2 [1, 0] rfl)
  exact ⟨rfl, hS⟩
set_option maxRecDepth 8192 in
theorem ar_count_o {g w : World} {L : List HP} (a p : Nat) (A : AM) (na : Option Addr) (nc : Nat) (ca : Option Addr) (cc : Nat) (rd : Int) (i : Int) (hA : AWf A) (hi : 0 ≤ i ∧ i < 4294967296) (hS : St g (cel a #[.pointer (some ⟨p, 0, none⟩), .slice na (List.length (nds A.nodes)) nc, .slice ca (List.length (i64s A.cnt)) cc, .int .u64 rd] 161 :: Slt p A.s :: Own 172 8 (nds A.nodes) na nc :: Own 3 1 (i64s A.cnt) ca cc :: L) w) :
    Sp Tryz.prog 81 [.pointer (some ⟨a, 0, none⟩), .int .u32 i] w (fun v w' => v = .int .i64 (AM.cntD A i) ∧ St g (cel a #[.pointer (some ⟨p, 0, none⟩), .slice na (List.length (nds A.nodes)) nc, .slice ca (List.length (i64s A.cnt)) cc, .int .u64 rd] 161 :: Slt p A.s :: Own 172 8 (nds A.nodes) na nc :: Own 3 1 (i64s A.cnt) ca cc :: L) w') := by
  refine Sp.enter Tryz.func81 rfl (by kernel_rfl) (by kernel_rfl) ?_
  refine WC.seq <| WC.region <| WL.r 1 rfl <| WL.nil <| WC.seq <| WC.seq <| WC.region ?_
  have hs := hA.s; have hle := hA.s.le; have hcl := hA.cl; have hil := i64s_len A.cnt
  refine WL.run 5 [.pointer (some ⟨p, 0, none⟩)] rfl (by exact hS.ld 0 rfl rfl) ?_
  refine WL.call rfl rfl (sl_ok (S := A.s) (i := i) (hl := hle) (hi := hi) (hS := (hS.sel 2 [1, 0] rfl))) rfl ?_
  clear hS; rintro _ w ⟨rfl, hS⟩
  replace hS := hS.n4 L rfl
  refine WL.r 1 rfl <| WL.nil <| WC.if_ rfl (fun hc => ?_) (fun hc => ?_)
  · refine WC.seq <| WC.region <| WL.r 1 rfl <| WL.nil <| WC.ret ?_
    refine ⟨[.int .i64 0], rfl, ?_⟩
    replace hS := (hS.sel 2 [1, 0] rfl)
    exact ⟨by unfold AM.cntD; rw [if_neg (by simpa using hc)]; rfl, hS⟩
  · refine WC.skip <| WC.seq <| WC.region <| WL.run 5 [.slice ca (List.length (i64s A.cnt)) cc] rfl (by exact hS.ld 1 rfl rfl) ?_
    have hr := SM.ok_rng hA.s hi.1 (by simpa using hc); obtain ⟨x, hx⟩ : ∃ x, A.cnt[i.toNat]? = some x := ⟨_, List.getElem?_eq_getElem (by omega)⟩
    refine WL.ix rfl rfl (i := i) (i.toNat) el_56 rfl rfl (by omega) (by omega) (hS.rdO 3 rfl (i64s_at hx)).1 ?_
    refine WL.run 2 [.int .i64 x] rfl (by exact (hS.rdO 3 rfl (i64s_at hx)).2 0 _ rfl) ?_
    refine WL.nil <| WC.ret ?_
    refine ⟨[.int .i64 x], rfl, ?_⟩
    replace hS := (hS.sel 2 [1, 0] rfl)
    exact ⟨by unfold AM.cntD AM.cntOf; rw [if_pos (by simpa using hc), hx]; rfl, hS⟩
end Go.Proofs.YtbeacjcmdijdmaaGreat
