/-
  The limit of a transaction.
  Conditions: none.
-/
import Derived.Test.YtlnlnebibgdjdaaTx6
import Derived.Test.YtlnlnebibgdjdaaA6
namespace Go.Proofs.Ytlnlnebibgdjdaa
open Go Go.V Go.RowKit Go.Maps

theorem wget_is {k : Int} {M : Wrs} : (wget k M).isSome = true ↔ ∃ x ∈ M, x.1 = k := by
  unfold wget
  rw [Option.isSome_map, List.find?_isSome]
  constructor
  · rintro ⟨x, hx, h⟩; exact ⟨x, hx, of_decide_eq_true h⟩
  · rintro ⟨x, hx, h⟩; exact ⟨x, hx, decide_eq_true h⟩
theorem wput_is {k z : Int} {y : Bool × Int} {M : Wrs} : (wget z (wput k y M)).isSome = true ↔ z = k ∨ (wget z M).isSome = true := by
  rw [wget_is, wget_is]
  constructor
  · rintro ⟨x, hx, rfl⟩
    rcases (wput_mem x).1 hx with rfl | ⟨h1, h2⟩
    · exact .inl rfl
    · exact .inr ⟨x, h1, rfl⟩
  · rintro (rfl | ⟨x, hx, rfl⟩)
    · exact ⟨(z, y), (wput_mem _).2 (.inl rfl), rfl⟩
    · by_cases h : x.1 = k
      · exact ⟨(k, y), (wput_mem _).2 (.inl rfl), h.symm⟩
      · exact ⟨x, (wput_mem _).2 (.inr ⟨hx, h⟩), rfl⟩
theorem wput_len {k : Int} {y : Bool × Int} {M : Wrs} (h : wSrt M) : (wput k y M).length = M.length + (if (wget k M).isSome then 0 else 1) := by
  unfold wput
  induction M with
  | nil => simp [wget]
  | cons x t ih =>
    obtain ⟨h1, h2⟩ := List.pairwise_cons.1 h
    have ih := ih h2
    simp only [List.length_append, List.length_cons] at ih ⊢
    by_cases hlt : x.1 < k
    · have e1 : wget k (x :: t) = wget k t := by unfold wget; rw [List.find?_cons, decide_eq_false (show ¬ x.1 = k by omega)]
      rw [List.filter_cons_of_pos (by simpa using hlt), List.filter_cons_of_neg (by simp; omega), e1]
      simp only [List.length_cons]
      omega
    · have e2 : t.filter (fun x => decide (x.1 < k)) = [] := List.filter_eq_nil_iff.2 fun y hy => by have := h1 y hy; simp; omega
      rw [List.filter_cons_of_neg (by simpa using hlt), e2]
      by_cases he : x.1 = k
      · have e1 : wget k (x :: t) = some x.2 := by unfold wget; rw [List.find?_cons, decide_eq_true he]; rfl
        have e3 : t.filter (fun x => decide (k < x.1)) = t := List.filter_eq_self.2 fun y hy => decide_eq_true (by have := h1 y hy; omega)
        rw [List.filter_cons_of_neg (by simp; omega), e1, e3]; simp
      · have e1 : wget k (x :: t) = none := wget_none fun y hy => by
          rcases List.mem_cons.1 hy with rfl | hy
          · exact he
          · have := h1 y hy; omega
        have e3 : t.filter (fun x => decide (k < x.1)) = t := List.filter_eq_self.2 fun y hy => decide_eq_true (by have := h1 y hy; omega)
        rw [List.filter_cons_of_pos (by simp; omega), e1, e3]; simp
/-- the writes at the keys from f on -/
structure Cons (f : Int) (k : Nat) (xs : List WE) (q : Nat) (M : Wrs) : Prop where
  w : WOk xs q M
  len : M.length = k
  is : ∀ z, (wget z M).isSome = true ↔ f ≤ z ∧ z < f + k
theorem Cons.full {f : Int} {xs : List WE} {q : Nat} {M : Wrs} (h : Cons f 1000 xs q M) {z : Int} (hz : z < f ∨ f + 1000 ≤ z) : wFull z M := by
  refine ⟨?_, by rw [h.len]; exact Nat.le_refl _⟩
  cases hc : (wget z M).isSome with
  | false => rfl
  | true => have := (h.is z).1 hc; omega
theorem Cons.has {f : Int} {xs : List WE} {q : Nat} {M : Wrs} {k : Nat} (h : Cons f k xs q M) {z : Int} (hz : f ≤ z ∧ z < f + k) : ¬ wFull z M := fun hf => by
  have h1 := (h.is z).2 hz
  rw [hf.1] at h1; cases h1
theorem Cons.low {f : Int} {xs : List WE} {q : Nat} {M : Wrs} {k : Nat} (h : Cons f k xs q M) (hk : k < 1000) (z : Int) : ¬ wFull z M := fun hf => by
  have := hf.2; have := h.len; omega
theorem Cons.next {f : Int} {k : Nat} {xs xs2 : List WE} {q q2 : Nat} {M : Wrs} {y : Bool × Int} (h : Cons f k xs q M) (hW : WOk xs2 q2 (wput (f + k) y M)) : Cons f (k + 1) xs2 q2 (wput (f + k) y M) := by
  have hn : ¬ (wget (f + k) M).isSome = true := fun hc => by have := (h.is _).1 hc; omega
  refine ⟨hW, by rw [wput_len h.w.srt, if_neg hn, h.len], fun z => ?_⟩
  rw [wput_is, h.is z]
  omega
theorem Cons.again {f z : Int} {k : Nat} {xs xs2 : List WE} {q q2 : Nat} {M : Wrs} {y : Bool × Int} (h : Cons f k xs q M) (hz : f ≤ z ∧ z < f + k) (hW : WOk xs2 q2 (wput z y M)) : Cons f k xs2 q2 (wput z y M) := by
  refine ⟨hW, by rw [wput_len h.w.srt, if_pos ((h.is z).2 hz), h.len]; rfl, fun x => ?_⟩
  rw [wput_is, h.is x]
  omega
theorem Cons.nil (f : Int) : Cons f 0 [] 0 [] := ⟨WOk.nil, rfl, fun z => by
  constructor
  · intro h; cases h
  · intro h; omega⟩
theorem law_tlim {g w : World} {L : List HP} (f n : Int) (hf : i64R f) (hn : i64R n) (hS : St g (L) w) :
    Sp Try.prog 7 [.int .i64 f, .int .i64 n] w (fun v w' => v = .bool true ∧ St g (L) w') := by
  refine Sp.enter Try.func7 rfl (by kernel_rfl) (by kernel_rfl) ?_
  have _ := hf
  refine WC.seq ?_
  refine WC.region ?_
  refine WL.r 1 rfl ?_
  refine WL.nil ?_
  refine WC.seq ?_
  refine WC.region ?_
  replace hS : St g (Own 46 2 (en2 []) none 0 :: L) w := hS.nil_ 46 2
  replace hS := hS.nilS 46 2
  replace hS : St g (Sh 46 2 (en2 []) none 0 :: Own 46 2 (en2 []) none 0 :: L) w := hS
  refine WL.call rfl rfl (kt_grow (l := []) (u := none) (d := 0) (q := 0) (sp := 1) (hl := (by simp)) (hs := (by simp)) (hq := (by omega)) (hS := hS)) rfl ?_
  clear hS; rintro _ w ⟨a1, A1, i1, t1, rfl, hS, f1, f2, f3, f4, f5⟩
  replace hS : St g (Arn a1 A1 :: Sh 46 2 (en2 []) none 0 :: Own 46 2 (en2 []) none 0 :: L) w := hS
  refine WL.r 7 rfl ?_
  refine WL.nil ?_
  refine WC.seq ?_
  refine WC.seq ?_
  refine WC.region ?_
  refine WL.call rfl rfl (awake26_spec   (hS := hS)) rfl ?_
  clear hS; rintro _ w ⟨rfl, hS⟩
  replace hS : St g (Arn a1 A1 :: Sh 46 2 (en2 []) none 0 :: Own 46 2 (en2 []) none 0 :: L) w := hS
  refine WL.r 2 rfl ?_
  refine WL.ung rfl rfl rfl ?_
  refine WL.r 1 rfl ?_
  refine WL.ung rfl rfl rfl ?_
  refine WL.r 2 rfl ?_
  refine WL.nil ?_
  as_aux_lemma =>
    refine WC.ifF rfl rfl ?_
    refine WC.skip ?_
    refine WC.seq ?_
    refine WC.region ?_
    refine WL.r 2 rfl ?_
    refine WL.call rfl rfl (tx_begin (a := a1) (A := A1) (R := [i1]) (i := i1) (hA := f1) (hi := f2.ref) (hz := (by simp)) (hS := hS)) rfl ?_
    clear hS; rintro _ w ⟨x1, rfl, hS, f6⟩
    replace hS : St g (Tx x1 a1 i1 [] 0 [] :: Arn a1 (A1.ret i1) :: Sh 46 2 (en2 []) none 0 :: Own 46 2 (en2 []) none 0 :: L) w := hS
    refine WL.r 5 rfl ?_
    refine WL.nil ?_
    refine WC.seq ?_
    refine WC.seq ?_
    refine WC.region ?_
    refine WL.r 2 rfl ?_
    refine WL.rG 4 rfl (fun j => ?_)
    refine WL.nil ?_
    refine WC.ifF rfl (by rfl) ?_
    refine WC.skip ?_
    refine WC.seq ?_
    refine WC.region ?_
    refine WL.r 2 rfl ?_
    refine WL.r 1 rfl ?_
    refine WL.nil ?_
    refine WC.seq ?_
    refine WC.seq ?_
    refine WC.region ?_
    have hb1 := Int.tmod_lt_of_pos f (b := 100000) (by decide); have hb2 := Int.lt_tmod_of_pos f (b := 100000) (by decide)
    refine WL.r 1 rfl ?_
    refine WL.nil ?_
    as_aux_lemma =>
      refine WC.block ?_
      refine WC.loop [0, 1, 8, 10] (fun kM vs w => ∃ (k : Nat) (xs : List WE) (q : Nat) (M : Wrs), vs = [.int .i64 (f.tmod 100000), .int .i64 n, .pointer (some ⟨x1, 0, none⟩), .int .i64 (k : Int)] ∧ St g (Tx x1 a1 i1 xs q [] :: Arn a1 (A1.ret i1) :: Sh 46 2 (en2 []) none 0 :: Own 46 2 (en2 []) none 0 :: L) w ∧ (k ≤ 1000) ∧ (Cons (f.tmod 100000) k xs q M) ∧ (1000 - k) = kM) (1000 - 0) ⟨0, [], 0, [], rfl, hS, (by omega), (Cons.nil _), rfl⟩ ?_
      clear hS; rintro _ _ w j ⟨k, xs, q, M, rfl, hS, hk, hC, rfl⟩
      refine WC.seq ?_
      refine WC.seq ?_
      refine WC.region ?_
      refine WL.r 2 rfl ?_
      refine WL.nil ?_
      refine WC.ifP rfl (fun cd1 => ?_) (fun cd1 => ?_)
      · refine WC.skip ?_
        refine WC.seq ?_
        refine WC.block ?_
        refine WC.seq ?_
        refine WC.region ?_
        refine WL.r 4 rfl ?_
        refine WL.nw 44 rfl (w64 (by omega)) ?_
        refine WL.r 1 rfl ?_
        refine WL.call rfl rfl (tx_put (x := x1) (a := a1) (rt := i1) (xs := xs) (q := q) (S := []) (M := M) (k := (f.tmod 100000) + (k : Int)) (z := (k : Int)) (hW := hC.w) (hr := (by unfold i64R; omega)) (hS := hS)) rfl ?_
        clear hS; rintro _ w ⟨xs1, q1, rfl, hS, f7⟩
        replace hS : St g (Tx x1 a1 i1 xs1 q1 [] :: Arn a1 (A1.ret i1) :: Sh 46 2 (en2 []) none 0 :: Own 46 2 (en2 []) none 0 :: L) w := hS
        refine WL.r 1 rfl ?_
        refine WL.nil ?_
        refine WC.ifF rfl (decide_eq_false ((by rw [wErr_f (hC.low (by omega) _)]; decide))) ?_
        refine WC.skip ?_
        refine WC.region ?_
        refine WL.r 2 rfl ?_
        refine WL.nw 40 rfl (w64 (by omega)) ?_
        refine WL.r 1 rfl ?_
        refine WL.nil ?_
        exact ⟨_, by omega, k + 1, xs1, q1, wput (f.tmod 100000 + k) (true, (k : Int)) M, rfl, hS, (by omega), (hC.next (by rw [wNew_f (hC.low (by omega) _)] at f7; exact f7)), rfl⟩
      · refine WC.exit ?_
        refine WC.seq ?_
        refine WC.region ?_
        have hk9 : k = 1000 := (by omega); subst hk9; have hn0 := Int.emod_nonneg n (b := 1000) (by decide); have hn1 := Int.emod_lt_of_pos n (b := 1000) (by decide); have h1 := hC.full (z := f.tmod 100000 - 1) (by omega); have h2 := hC.full (z := f.tmod 100000 + 1000) (by omega); have h3 := hC.has (z := f.tmod 100000 + n % 1000) (by omega)
        refine WL.r 2 rfl ?_
        refine WL.call rfl rfl (mod_spec (k := n) (n := 1000) (hk := hn) (hn := (by omega)) (hS := hS)) rfl ?_
        clear hS; rintro _ w ⟨rfl, hS⟩
        replace hS : St g (Tx x1 a1 i1 xs q [] :: Arn a1 (A1.ret i1) :: Sh 46 2 (en2 []) none 0 :: Own 46 2 (en2 []) none 0 :: L) w := hS
        refine WL.r 1 rfl ?_
        refine WL.nw 51 rfl (w64 (by omega)) ?_
        refine WL.r 1 rfl ?_
        refine WL.nil ?_
        refine WC.seq ?_
        refine WC.region ?_
        refine WL.r 3 rfl ?_
        refine WL.nw 54 rfl (w64 (by omega)) ?_
        refine WL.call rfl rfl (tx_put (x := x1) (a := a1) (rt := i1) (xs := xs) (q := q) (S := []) (M := M) (k := (f.tmod 100000) - 1) (z := 0) (hW := hC.w) (hr := (by unfold i64R; omega)) (hS := hS)) rfl ?_
        clear hS; rintro _ w ⟨xs1, q1, rfl, hS, f7⟩
        replace hS : St g (Tx x1 a1 i1 xs1 q1 [] :: Arn a1 (A1.ret i1) :: Sh 46 2 (en2 []) none 0 :: Own 46 2 (en2 []) none 0 :: L) w := hS
        refine WL.r 2 rfl ?_
        refine WL.reb 57 (.bool true) (congrArg Value.bool (decide_eq_true ((wErr_t h1)))) ?_
        refine WL.ung rfl rfl rfl ?_
        refine WL.r 1 rfl ?_
        refine WL.ung rfl rfl rfl ?_
        refine WL.r 1 rfl ?_
        refine WL.ung rfl rfl rfl ?_
        refine WL.r 1 rfl ?_
        refine WL.nw 60 rfl (w64 (by omega)) ?_
        refine WL.ung rfl rfl rfl ?_
        refine WL.call rfl rfl (tx_del (x := x1) (a := a1) (rt := i1) (xs := xs1) (q := q1) (S := []) (M := M) (k := (f.tmod 100000) + 1000) (hW := (by rw [wNew_t h1] at f7; exact f7)) (hr := (by unfold i64R; omega)) (hS := hS)) rfl ?_
        clear hS; rintro _ w ⟨xs2, q2, rfl, hS, f8⟩
        replace hS : St g (Tx x1 a1 i1 xs2 q2 [] :: Arn a1 (A1.ret i1) :: Sh 46 2 (en2 []) none 0 :: Own 46 2 (en2 []) none 0 :: L) w := hS
        refine WL.ung rfl rfl rfl ?_
        refine WL.r 3 rfl ?_
        refine WL.reb 64 (.bool true) (congrArg Value.bool (decide_eq_true ((wErr_t h2)))) ?_
        refine WL.ung rfl rfl rfl ?_
        refine WL.r 1 rfl ?_
        refine WL.ung rfl rfl rfl ?_
        refine WL.r 1 rfl ?_
        refine WL.ung rfl rfl rfl ?_
        refine WL.call rfl rfl (tx_put (x := x1) (a := a1) (rt := i1) (xs := xs2) (q := q2) (S := []) (M := M) (k := (f.tmod 100000) + (n % 1000)) (z := 1) (hW := (by rw [wNew_t h2] at f8; exact f8)) (hr := (by unfold i64R; omega)) (hS := hS)) rfl ?_
        clear hS; rintro _ w ⟨xs3, q3, rfl, hS, f9⟩
        replace hS : St g (Tx x1 a1 i1 xs3 q3 [] :: Arn a1 (A1.ret i1) :: Sh 46 2 (en2 []) none 0 :: Own 46 2 (en2 []) none 0 :: L) w := hS
        refine WL.ung rfl rfl rfl ?_
        refine WL.r 3 rfl ?_
        refine WL.reb 70 (.bool true) (congrArg Value.bool (decide_eq_true ((wErr_f h3)))) ?_
        refine WL.ung rfl rfl rfl ?_
        refine WL.r 1 rfl ?_
        refine WL.ung rfl rfl rfl ?_
        refine WL.r 1 rfl ?_
        refine WL.ung rfl rfl rfl ?_
        refine WL.call rfl rfl (tx_del (x := x1) (a := a1) (rt := i1) (xs := xs3) (q := q3) (S := []) (M := wput (f.tmod 100000 + n % 1000) (true, 1) M) (k := (f.tmod 100000) + (n % 1000)) (hW := (by rw [wNew_f h3] at f9; exact f9)) (hr := (by unfold i64R; omega)) (hS := hS)) rfl ?_
        clear hS; rintro _ w ⟨xs4, q4, rfl, hS, f10⟩
        replace hS : St g (Tx x1 a1 i1 xs4 q4 [] :: Arn a1 (A1.ret i1) :: Sh 46 2 (en2 []) none 0 :: Own 46 2 (en2 []) none 0 :: L) w := hS
        refine WL.ung rfl rfl rfl ?_
        refine WL.r 3 rfl ?_
        refine WL.reb 76 (.bool true) (congrArg Value.bool (decide_eq_true ((wErr_f ((hC.again (by omega) (by rw [wNew_f h3] at f9; exact f9)).has (by omega)))))) ?_
        refine WL.ung rfl rfl rfl ?_
        refine WL.r 1 rfl ?_
        refine WL.ung rfl rfl rfl ?_
        refine WL.call rfl rfl (tx_writes (x := x1) (a := a1) (rt := i1) (xs := xs4) (q := q4) (S := []) (M := wput (f.tmod 100000 + n % 1000) (false, 0) (wput (f.tmod 100000 + n % 1000) (true, 1) M)) (hW := (by rw [wNew_f ((hC.again (by omega) (by rw [wNew_f h3] at f9; exact f9)).has (by omega))] at f10; exact f10)) (hS := hS)) rfl ?_
        clear hS; rintro _ w ⟨a2, c1, rfl, hS⟩
        replace hS : St g (Own 61 4 (ch4 ((wput (f.tmod 100000 + n % 1000) (false, 0) (wput (f.tmod 100000 + n % 1000) (true, 1) M)).map wC)) a2 c1 :: Tx x1 a1 i1 xs4 q4 [] :: Arn a1 (A1.ret i1) :: Sh 46 2 (en2 []) none 0 :: Own 46 2 (en2 []) none 0 :: L) w := hS
        refine WL.ung rfl rfl rfl ?_
        refine WL.r 1 rfl ?_
        refine WL.ung rfl rfl rfl ?_
        refine WL.r 3 rfl ?_
        refine WL.reb 82 (.bool true) (congrArg Value.bool (decide_eq_true ((by have h9 := ((hC.again (z := f.tmod 100000 + n % 1000) (by omega) (by rw [wNew_f h3] at f9; exact f9)).again (z := f.tmod 100000 + n % 1000) (by omega) (by rw [wNew_f ((hC.again (by omega) (by rw [wNew_f h3] at f9; exact f9)).has (by omega))] at f10; exact f10)).len; rw [ch4_len, List.length_map, h9]; rfl)))) ?_
        refine WL.ung rfl rfl rfl ?_
        refine WL.r 1 rfl ?_
        refine WL.ung rfl rfl rfl ?_
        refine WL.call rfl rfl (tx_abort (x := x1) (a := a1) (rt := i1) (xs := xs4) (q := q4) (S := []) (A := A1.ret i1) (R := [i1]) (hA := f6) (hR := (by simp)) (hS := (hS.sel 3 [1, 1, 0] rfl))) rfl ?_
        clear hS; rintro _ w ⟨A2, rfl, hS, f11⟩
        replace hS : St g (Arn a1 A2 :: Own 61 4 (ch4 ((wput (f.tmod 100000 + n % 1000) (false, 0) (wput (f.tmod 100000 + n % 1000) (true, 1) M)).map wC)) a2 c1 :: Sh 46 2 (en2 []) none 0 :: Own 46 2 (en2 []) none 0 :: L) w := hS
        refine WL.ung rfl rfl rfl ?_
        refine WL.r 3 rfl ?_
        refine WL.nil ?_
        as_aux_lemma =>
          refine WC.ret ?_
          refine ⟨[.bool (decide (0 = 0))], rfl, ?_⟩
          replace hS := (hS.sel 4 [] rfl)
          exact ⟨rfl, hS⟩
end Go.Proofs.Ytlnlnebibgdjdaa
