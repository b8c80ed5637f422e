/-
  Conflicts of a transaction.
  Conditions: none.
-/
import Derived.Test.YtlnlnebibgdjdaaTx6
import Derived.Test.YtlnlnebibgdjdaaDfk
namespace Go.Proofs.Ytlnlnebibgdjdaa
open Go Go.V Go.RowKit Go.Maps

def cErr (S : Kvs) (ts th : Tr) : Int := if (S.all fun s => (inR s.1 s.2 (dif ts.ls th.ls)).isEmpty) then 0 else 10
theorem cErr_0 {S : Kvs} {ts th : Tr} (h : ∀ s ∈ S, inR s.1 s.2 (dif ts.ls th.ls) = []) : cErr S ts th = 0 :=
  if_pos (List.all_eq_true.2 fun s hs => by rw [h s hs]; rfl)
theorem cErr_10 {S : Kvs} {ts th : Tr} (h : ¬ ∀ s ∈ S, inR s.1 s.2 (dif ts.ls th.ls) = []) : cErr S ts th = 10 :=
  if_neg fun hc => h fun s hs => List.isEmpty_iff.1 (List.all_eq_true.1 hc s hs)
theorem tx_try {g w : World} {L : List HP} (x a : Nat) (rt : Int) (xs : List WE) (q : Nat) (S : Kvs) (M : Wrs) (A : AM) (R : List Int) (hd : Int) (ts th : Tr) (hW : WOk xs q M) (hA : ARf A (rt :: R)) (hts : Is A ts rt) (hth : Is A th hd) (hss : Srt ts.ls) (hsh : Srt th.ls) (hn : ts.n + th.n ≤ 60000) (hSl : S.length ≤ 100000) (hR : R.length ≤ 500000000) (hrm : wWork th M = [] ∨ ((th.n : Int) + M.length + 4 * ((Tr.mxH (th.n + M.length) : Int) + 2)) ≤ A.s.free) (hcs : ∀ (k : Nat) (e : Int × Bool × Int) (B : AM) (o : Int), (wWork th M)[k]? = some e → TOp A B (rt :: R) o (wAll ((wWork th M).take k) th) (wSum ((wWork th M).take k) th) → (wCost (wAll ((wWork th M).take k) th) e : Int) ≤ B.s.free) (hS : St g (Tx x a rt xs q S :: Arn a A :: L) w) :
    Sp Try.prog 41 [.pointer (some ⟨x, 0, none⟩), .int .u32 hd] w (fun v w' => ∃ (i : Int), v = .tuple #[.int .u32 i, .int .i64 (cErr S ts th)] ∧ St g (L) w') := by
  by_cases h : ∀ s ∈ S, inR s.1 s.2 (dif ts.ls th.ls) = []
  · rw [cErr_0 h]
    exact (tx_commit x a rt xs q S M A R hd ts th hW hA hts hth hss hsh hn hSl hR h hrm hcs hS).mono fun v w' ⟨A2, i, xm, xu, xc, hv, hS', _⟩ => ⟨i, hv, hS'.tail.tail⟩
  · rw [cErr_10 h]
    exact (tx_conflict x a rt xs q S A (rt :: R) hd ts th hA hts hth hss hsh hn hSl h hS).mono fun v w' ⟨hv, hS'⟩ => ⟨0, hv, hS'.tail.tail⟩
theorem mx60 : ∀ m, m ≤ 60 → Tr.mxH m ≤ 12 := by decide
/-- the keys read: one or none -/
def rdk (bl : Bool) (k : Int) : Kvs := if bl then [] else [(k, k)]
theorem con_yes {bl : Bool} {k ke ve : Int} {t : Tr} (hs : Srt t.ls) (h1 : bl = false) (h2 : k = ke) (h3 : ¬ ((Tr.get ke t).isSome = true ∧ (Tr.get ke t).getD 0 = ve)) : cErr (rdk bl k) t (Tr.ins ke ve t) = 10 := by
  subst h1; subst h2
  refine cErr_10 fun h => ?_
  have h4 := h (k, k) (List.mem_singleton.2 rfl)
  rw [Tr.ins_ls k ve t hs] at h4
  have h5 := (inR_one hs (lins_srt hs) k).1 h4
  rw [lget_lins hs, if_pos rfl, ← Tr.get_ls k t hs] at h5
  rw [h5] at h3
  exact h3 ⟨rfl, rfl⟩
theorem con_no {bl : Bool} {k ke ve : Int} {t : Tr} (hok : t.ok) (hs : Srt t.ls) (h : bl = true ∨ k ≠ ke ∨ ((Tr.get ke t).isSome = true ∧ ¬ (Tr.get ke t).getD 0 ≠ ve)) : cErr (rdk bl k) t (Tr.ins ke ve t) = 0 := by
  refine cErr_0 fun s hm => ?_
  rcases h with h | h | h
  · subst h; cases hm
  · cases bl with
    | true => cases hm
    | false =>
      obtain rfl := List.mem_singleton.1 hm
      rw [Tr.ins_ls ke ve t hs]
      refine (inR_one hs (lins_srt hs) k).2 ?_
      rw [lget_lins hs, if_neg h]
  · rw [Tr.ins_same ke ve t hok (get_of h.1 (Classical.not_not.1 h.2)), dif_self]; rfl
theorem con_split {a b c d : Prop} (h : ¬ ((¬ a ∧ (¬ b ∨ c)) ∧ d)) : a ∨ ¬ d ∨ (b ∧ ¬ c) := by
  by_cases ha : a
  · exact .inl ha
  · by_cases hd : d
    · refine .inr (.inr ⟨Classical.not_not.1 fun hb => h ⟨⟨ha, .inl hb⟩, hd⟩, fun hc => h ⟨⟨ha, .inr hc⟩, hd⟩⟩)
    · exact .inr (.inl hd)
theorem law_tcon {g w : World} {L : List HP} (l : Kvs) (u : Option Addr) (d : Nat) (q ke ve key am : Int) (bl : Bool) (hq : 0 ≤ q ∧ q ≤ 18446744073709551615) (hke : i64R ke) (hky : i64R key) (hS : St g (Sh 46 2 (en2 l) u d :: L) w) :
    Sp Try.prog 8 [.slice u (List.length (en2 l)) d, .int .u64 q, .agg #[.int .i64 ke, .int .i64 ve], .int .i64 key, .int .i64 am, .bool bl] w (fun v w' => v = .bool true ∧ St g (L) w') := by
  refine Sp.enter Try.func8 rfl (by kernel_rfl) (by kernel_rfl) ?_
  have _ := hq
  refine WC.seq ?_
  refine WC.region ?_
  refine WL.box rfl rfl #[.int .i64 ke, .int .i64 ve] hS rfl rfl (fun b1 w hS => ?_)
  refine WL.r 1 rfl ?_
  refine WL.nil ?_
  refine WC.seq ?_
  refine WC.region ?_
  refine WL.r 1 rfl ?_
  refine WL.call rfl rfl (kt_list (raw := l) (u := u) (d := d) (most := 50) (hm := (by omega)) (hS := (hS.sel 2 [1, 0] rfl))) rfl ?_
  clear hS; rintro _ w ⟨a1, c1, rfl, hS⟩
  replace hS : St g (Own 46 2 (en2 (mkL l 50)) a1 c1 :: Sh 46 2 (en2 l) u d :: cel b1 #[.int .i64 ke, .int .i64 ve] 46 :: L) w := hS
  refine WL.r 1 rfl ?_
  refine WL.nil ?_
  refine WC.seq ?_
  refine WC.region ?_
  have hml := mkL_srt l 50
  refine WL.r 2 rfl ?_
  replace hS := (hS.at_ 0 rfl).share
  replace hS : St g (Sh 46 2 (en2 (mkL l 50)) a1 c1 :: Sh 46 2 (en2 l) u d :: cel b1 #[.int .i64 ke, .int .i64 ve] 46 :: L) w := hS
  refine WL.call rfl rfl (kt_grow (l := mkL l 50) (u := a1) (d := c1) (q := q) (sp := 400) (hl := (by omega)) (hs := (by omega)) (hq := (by omega)) (hS := hS)) rfl ?_
  clear hS; rintro _ w ⟨a2, A1, i1, t1, rfl, hS, f1, f2, f3, f4, f5⟩
  replace hS : St g (Arn a2 A1 :: Sh 46 2 (en2 (mkL l 50)) a1 c1 :: Sh 46 2 (en2 l) u d :: cel b1 #[.int .i64 ke, .int .i64 ve] 46 :: L) w := hS
  refine WL.r 7 rfl ?_
  refine WL.nil ?_
  as_aux_lemma =>
    refine WC.seq ?_
    refine WC.seq ?_
    refine WC.region ?_
    refine WL.call rfl rfl (awake26_spec   (hS := hS)) rfl ?_
    clear hS; rintro _ w ⟨rfl, hS⟩
    replace hS : St g (Arn a2 A1 :: Sh 46 2 (en2 (mkL l 50)) a1 c1 :: Sh 46 2 (en2 l) u d :: cel b1 #[.int .i64 ke, .int .i64 ve] 46 :: L) w := hS
    refine WL.r 2 rfl ?_
    refine WL.ung rfl rfl rfl ?_
    refine WL.r 1 rfl ?_
    refine WL.ung rfl rfl rfl ?_
    refine WL.r 2 rfl ?_
    refine WL.nil ?_
    refine WC.ifF rfl rfl ?_
    refine WC.skip ?_
    refine WC.seq ?_
    refine WC.seq ?_
    refine WC.region ?_
    refine WL.r 2 rfl ?_
    refine WL.r 1 rfl ?_
    refine WL.nil ?_
    refine WC.cut [3, 5, 8, 12, 14, 15] (fun vs w => ∃ (kk : Int), vs = [.int .i64 kk, .bool bl, .pointer (some ⟨b1, 0, none⟩), .bool false, .pointer (some ⟨a2, 0, none⟩), .int .u32 i1] ∧ St g (Arn a2 A1 :: Sh 46 2 (en2 (mkL l 50)) a1 c1 :: Sh 46 2 (en2 l) u d :: cel b1 #[.int .i64 ke, .int .i64 ve] 46 :: L) w ∧ (i64R kk)) ?_ ?_
    · refine WC.ifP rfl (fun cd1 => ?_) (fun cd1 => ?_)
      · refine WC.region ?_
        refine WL.run 3 [.int .i64 ke] rfl (by exact hS.ld 3 rfl rfl) ?_
        refine WL.nil ?_
        exact ⟨ke, rfl, hS, (hke)⟩
      · refine WC.skip ?_
        exact ⟨key, rfl, hS, (hky)⟩
    clear hS; rintro _ w j ⟨kk, rfl, hS, hkk⟩
    refine WC.seq ?_
    refine WC.region ?_
    refine WL.r 2 rfl ?_
    refine WL.call rfl rfl (tx_begin (a := a2) (A := A1) (R := [i1]) (i := i1) (hA := f1) (hi := f2.ref) (hz := (by simp)) (hS := hS)) rfl ?_
    clear hS; rintro _ w ⟨x1, rfl, hS, f6⟩
    replace hS : St g (Tx x1 a2 i1 [] 0 [] :: Arn a2 (A1.ret i1) :: Sh 46 2 (en2 (mkL l 50)) a1 c1 :: Sh 46 2 (en2 l) u d :: cel b1 #[.int .i64 ke, .int .i64 ve] 46 :: L) w := hS
    refine WL.r 5 rfl ?_
    refine WL.nil ?_
    as_aux_lemma =>
      refine WC.seq ?_
      refine WC.seq ?_
      refine WC.region ?_
      refine WL.r 2 rfl ?_
      refine WL.rG 4 rfl (fun j => ?_)
      refine WL.nil ?_
      refine WC.ifF rfl (by rfl) ?_
      refine WC.skip ?_
      refine WC.seq ?_
      refine WC.seq ?_
      refine WC.region ?_
      have h2 := f2.ret i1; have hfr : (A1.ret i1).s.free = A1.s.free := (by rw [(AM.ret_same _ _).1]); have hn1 : t1.n ≤ 50 := (by rw [← Tr.ls_len, f4]; exact hml.2); have hs1 : Srt t1.ls := (by rw [f4]; exact hml.1)
      refine WL.r 2 rfl ?_
      refine WL.nil ?_
      refine WC.cut [3, 5, 8, 12, 14, 15, 17] (fun vs w => ∃ (S : Kvs), vs = [.int .i64 kk, .bool bl, .pointer (some ⟨b1, 0, none⟩), .bool false, .pointer (some ⟨a2, 0, none⟩), .int .u32 i1, .pointer (some ⟨x1, 0, none⟩)] ∧ St g (Tx x1 a2 i1 [] 0 S :: Arn a2 (A1.ret i1) :: Sh 46 2 (en2 (mkL l 50)) a1 c1 :: Sh 46 2 (en2 l) u d :: cel b1 #[.int .i64 ke, .int .i64 ve] 46 :: L) w ∧ (S = rdk bl kk)) ?_ ?_
      · refine WC.if_ rfl (fun cd1 => ?_) (fun cd1 => ?_)
        · refine WC.region ?_
          refine WL.r 2 rfl ?_
          refine WL.call rfl rfl (tx_get (x := x1) (a := a2) (rt := i1) (xs := []) (q := 0) (S := []) (M := []) (A := A1.ret i1) (R := [i1, i1]) (k := kk) (t := t1) (hW := WOk.nil) (hA := f6) (hi := h2) (hk := hkk) (hR := (fun _ h => by cases h)) (hSl := (by simp)) (hS := hS)) rfl ?_
          clear hS; rintro _ w ⟨rfl, hS⟩
          replace hS : St g (Tx x1 a2 i1 [] 0 (gSp kk [] []) :: Arn a2 (A1.ret i1) :: Sh 46 2 (en2 (mkL l 50)) a1 c1 :: Sh 46 2 (en2 l) u d :: cel b1 #[.int .i64 ke, .int .i64 ve] 46 :: L) w := hS
          refine WL.nil ?_
          exact ⟨gSp kk [] [], rfl, hS, (by rw [gSp_nil]; unfold rdk; rw [if_neg (by simpa using cd1)])⟩
        · refine WC.skip ?_
          exact ⟨[], rfl, hS, (by unfold rdk; rw [if_pos (by simpa using cd1)])⟩
      clear hS; rintro _ w j ⟨S, rfl, hS, hSS⟩
      refine WC.seq ?_
      refine WC.region ?_
      refine WL.r 2 rfl ?_
      refine WL.call rfl rfl (tx_put (x := x1) (a := a2) (rt := i1) (xs := []) (q := 0) (S := S) (M := []) (k := kk) (z := 5) (hW := WOk.nil) (hr := hkk) (hS := hS)) rfl ?_
      clear hS; rintro _ w ⟨xs1, q1, rfl, hS, f7⟩
      replace hS : St g (Tx x1 a2 i1 xs1 q1 S :: Arn a2 (A1.ret i1) :: Sh 46 2 (en2 (mkL l 50)) a1 c1 :: Sh 46 2 (en2 l) u d :: cel b1 #[.int .i64 ke, .int .i64 ve] 46 :: L) w := hS
      refine WL.nil ?_
      refine WC.seq ?_
      refine WC.region ?_
      rw [wput_nil] at f7; have hmx := mx60 (t1.n + 1) (by omega)
      refine WL.r 2 rfl ?_
      refine WL.ldF rfl rfl 4 hS rfl rfl ag_46 ?_
      refine WL.call rfl rfl (up_ins (a := a2) (A := A1.ret i1) (R := [i1, i1]) (i := i1) (k := ke) (z := ve) (t := t1) (hA := f6) (hi := h2) (hb := f3) (hn := (by omega)) (hf := (by rw [hfr]; omega)) (hz := (by simp)) (hS := (hS.sel 2 [1, 0] rfl))) rfl ?_
      clear hS; rintro _ w ⟨A2, j1, rfl, hS, f8⟩
      replace hS : St g (Arn a2 A2 :: Tx x1 a2 i1 xs1 q1 S :: Sh 46 2 (en2 (mkL l 50)) a1 c1 :: Sh 46 2 (en2 l) u d :: cel b1 #[.int .i64 ke, .int .i64 ve] 46 :: L) w := hS
      refine WL.r 9 rfl ?_
      refine WL.nil ?_
      as_aux_lemma =>
        refine WC.seq ?_
        refine WC.region ?_
        have hok2 := Tr.ins_ok ke ve t1 f3; have hn2 := Tr.ins_n ke ve t1; have hin : (Tr.ins ke ve t1).n ≤ t1.n + 1 := (by split at hn2 <;> omega); have hmx2 := mx60 ((Tr.ins ke ve t1).n + 1) (by omega); have hs2 : Srt (Tr.ins ke ve t1).ls := (by rw [Tr.ins_ls _ _ _ hs1]; exact lins_srt hs1); have hfr2 := f8.fr; have hsl : S.length ≤ 1 := (by rw [hSS]; unfold rdk; split <;> simp)
        refine WL.r 2 rfl ?_
        refine WL.runG 7 [.int .i64 ve] rfl (by exact (fun _ => hS.ld 4 rfl rfl)) (fun j => ?_)
        refine WL.prop 82 rfl (bor (bnot (dv _)) (dd _)) ?_
        refine WL.nil ?_
        refine WC.seq ?_
        refine WC.region ?_
        refine WL.r 2 rfl ?_
        refine WL.call rfl rfl (tx_try (x := x1) (a := a2) (rt := i1) (xs := xs1) (q := q1) (S := S) (M := [(kk, true, 5)]) (A := A2) (R := [j1, i1]) (hd := j1) (ts := t1) (th := Tr.ins ke ve t1) (hW := f7) (hA := f8.ref.sw) (hts := (f8.kp i1 (by simp) t1 h2)) (hth := f8.is) (hss := hs1) (hsh := hs2) (hn := (by omega)) (hSl := (by omega)) (hR := (by simp)) (hrm := (.inr (by simp only [List.length_singleton]; omega))) (hcs := (put_cost hok2 (by omega) (by omega))) (hS := (hS.sel 2 [1, 0] rfl))) rfl ?_
        clear hS; rintro _ w ⟨i2, rfl, hS⟩
        replace hS : St g (Sh 46 2 (en2 (mkL l 50)) a1 c1 :: Sh 46 2 (en2 l) u d :: cel b1 #[.int .i64 ke, .int .i64 ve] 46 :: L) w := hS
        refine WL.r 5 rfl ?_
        refine WL.nil ?_
        refine WC.seq ?_
        refine WC.seq ?_
        refine WC.region ?_
        refine WL.r 2 rfl ?_
        refine WL.runG 9 [.int .i64 ke] rfl (by exact (fun _ => hS.ld 2 rfl rfl)) (fun j => ?_)
        refine WL.prop 99 rfl (band (band (bnot (dv _)) (bor (bnot (dv _)) (dd _))) (dd _)) ?_
        refine WL.nil ?_
        refine WC.ifP rfl (fun cd1 => ?_) (fun cd1 => ?_)
        · refine WC.seq ?_
          refine WC.region ?_
          refine WL.r 2 rfl ?_
          refine WL.rG 5 rfl (fun j => ?_)
          refine WL.prop 105 rfl (band (dd _) (dd _)) ?_
          refine WL.nil ?_
          as_aux_lemma =>
            refine WC.ret ?_
            refine ⟨[.bool (bif (decide (0 = 0)) then (decide ((cErr S t1 (Tr.ins ke ve t1)) = 10)) else false)], rfl, ?_⟩
            replace hS := (hS.sel 3 [] rfl)
            exact ⟨by rw [hSS, con_yes hs1 (by simpa using cd1.1.1) cd1.2 (fun h => cd1.1.2.elim (fun n => n h.1) (fun n => n h.2))]; rfl, hS⟩
        · refine WC.skip ?_
          refine WC.seq ?_
          refine WC.region ?_
          refine WL.r 2 rfl ?_
          refine WL.rG 5 rfl (fun j => ?_)
          refine WL.prop 111 rfl (band (dd _) (dd _)) ?_
          refine WL.nil ?_
          as_aux_lemma =>
            refine WC.ret ?_
            refine ⟨[.bool (bif (decide (0 = 0)) then (decide ((cErr S t1 (Tr.ins ke ve t1)) = 0)) else false)], rfl, ?_⟩
            replace hS := (hS.sel 3 [] rfl)
            exact ⟨by rw [hSS, con_no f3 hs1 (con_split cd1)]; rfl, hS⟩
end Go.Proofs.Ytlnlnebibgdjdaa
