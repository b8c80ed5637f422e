/-
  Transactions: the example of the chapter.
  Conditions: none.
-/
import Derived.Test.YtlnlnebibgdjdaaTx5
import Derived.Test.YtlnlnebibgdjdaaTx3
import Derived.Test.YtlnlnebibgdjdaaK2
namespace Go.Proofs.Ytlnlnebibgdjdaa
open Go Go.V Go.RowKit Go.Maps

theorem work_one (t : Tr) (x : Int × Bool × Int) : wWork t [x] = if wNeed t x then [x] else [] := by
  unfold wWork; rw [List.filter_cons]; rfl
theorem put_cost {A : AM} {R : List Int} {t : Tr} {k v : Int} (hok : t.ok) (hn : t.n ≤ 60000) (hf : (t.n : Int) + 1 + 4 * ((Tr.mxH (t.n + 1) : Int) + 2) ≤ A.s.free) (j : Nat) (e : Int × Bool × Int) (B : AM) (o : Int) (he : (wWork t [(k, true, v)])[j]? = some e) (hT : TOp A B R o (wAll ((wWork t [(k, true, v)]).take j) t) (wSum ((wWork t [(k, true, v)]).take j) t)) : (wCost (wAll ((wWork t [(k, true, v)]).take j) t) e : Int) ≤ B.s.free := by
  rw [work_one] at he hT ⊢
  split at he
  · rename_i hnd
    rw [if_pos hnd] at hT ⊢
    cases j with
    | zero =>
      obtain rfl := Option.some.inj he
      have h1 : wCost t (k, true, v) = Tr.ic k v t := rfl
      have h2 : TOp A B R o t 0 := hT
      have h3 := Tr.ic_res k v t hok (by omega)
      have h4 := h2.fr
      show (wCost t (k, true, v) : Int) ≤ _
      rw [h1]; omega
    | succ j => cases he
  · cases he
theorem put_all {t : Tr} {k v : Int} (hok : t.ok) : wAll (wWork t [(k, true, v)]) t = Tr.ins k v t := by
  rw [work_one]
  split
  · rfl
  · rename_i h
    show t = _
    have h1 : (Tr.get k t).isSome = true ∧ (Tr.get k t).getD 0 = v := by
      unfold wNeed at h
      cases hg : Tr.get k t with
      | none => rw [hg] at h; exact absurd rfl h
      | some y => rw [hg] at h; simpa using h
    exact (Tr.ins_same k v t hok (get_of h1.1 h1.2)).symm
theorem wput_nil {k v : Int} {p : Bool} : wNew k (p, v) [] = [(k, p, v)] := by
  rw [wNew_f (fun h => by have := h.2; simp at this)]; rfl
theorem full_nil (k : Int) : ¬ wFull k [] := fun h => by have := h.2; simp at this
theorem gSp_nil (k : Int) : gSp k [] [] = [(k, k)] := rfl
theorem vGet_nil (k : Int) (t : Tr) : vGet k [] t = ((Tr.get k t).getD 0, (Tr.get k t).isSome) := rfl
theorem awake26_spec {g w : World} {L : List HP} (hS : St g (L) w) :
    Sp Try.prog 33 [] w (fun v w' => v = .bool true ∧ St g (L) w') := by
  refine Sp.enter Try.func33 rfl (by kernel_rfl) (by kernel_rfl) ?_
  refine WC.seq ?_
  refine WC.region ?_
  refine WL.r 1 rfl ?_
  refine WL.nil ?_
  refine WC.seq ?_
  refine WC.region ?_
  refine WL.build rfl rfl (cs := [.int .i64 1, .int .i64 10]) zv_46 rfl rfl ?_
  refine WL.lit rfl rfl (en2 [(1, 10)]) el_36 hS (by exact ⟨rfl, rfl⟩) (en2_ok _) rfl (by decide) (fun b1 w hS => ?_)
  replace hS := (hS.at_ 0 rfl).share
  replace hS : St g (Sh 46 2 (en2 [(1, 10)]) (some ⟨b1, 0, none⟩) (List.length (en2 [(1, 10)])) :: L) w := hS
  refine WL.call rfl rfl (kt_grow (l := [(1, 10)]) (u := some ⟨b1, 0, none⟩) (d := List.length (en2 [(1, 10)])) (q := 0) (sp := 200) (hl := (by simp)) (hs := (by simp)) (hq := (by omega)) (hS := hS)) rfl ?_
  clear hS; rintro _ w ⟨a1, A1, i1, t1, rfl, hS, f1, f2, f3, f4, f5⟩
  replace hS : St g (Arn a1 A1 :: Sh 46 2 (en2 [(1, 10)]) (some ⟨b1, 0, none⟩) (List.length (en2 [(1, 10)])) :: L) w := hS
  refine WL.r 7 rfl ?_
  refine WL.nil ?_
  refine WC.seq ?_
  refine WC.seq ?_
  refine WC.region ?_
  refine WL.r 2 rfl ?_
  refine WL.nil ?_
  refine WC.ifF rfl rfl ?_
  refine WC.skip ?_
  refine WC.seq ?_
  refine WC.region ?_
  refine WL.r 2 rfl ?_
  refine WL.call rfl rfl (tx_begin (a := a1) (A := A1) (R := [i1]) (i := i1) (hA := f1) (hi := f2.ref) (hz := (by simp)) (hS := hS)) rfl ?_
  clear hS; rintro _ w ⟨x1, rfl, hS, f6⟩
  replace hS : St g (Tx x1 a1 i1 [] 0 [] :: Arn a1 (A1.ret i1) :: Sh 46 2 (en2 [(1, 10)]) (some ⟨b1, 0, none⟩) (List.length (en2 [(1, 10)])) :: L) w := hS
  refine WL.r 5 rfl ?_
  refine WL.nil ?_
  as_aux_lemma =>
    refine WC.seq ?_
    refine WC.region ?_
    refine WL.r 2 rfl ?_
    refine WL.call rfl rfl (tx_begin (a := a1) (A := A1.ret i1) (R := [i1, i1]) (i := i1) (hA := f6) (hi := (f2.ret i1).ref) (hz := (by simp)) (hS := (hS.sel 2 [1, 0] rfl))) rfl ?_
    clear hS; rintro _ w ⟨x2, rfl, hS, f7⟩
    replace hS : St g (Tx x2 a1 i1 [] 0 [] :: Arn a1 ((A1.ret i1).ret i1) :: Tx x1 a1 i1 [] 0 [] :: Sh 46 2 (en2 [(1, 10)]) (some ⟨b1, 0, none⟩) (List.length (en2 [(1, 10)])) :: L) w := hS
    refine WL.r 5 rfl ?_
    refine WL.nil ?_
    refine WC.seq ?_
    refine WC.seq ?_
    refine WC.region ?_
    refine WL.r 2 rfl ?_
    refine WL.rG 12 rfl (fun j => ?_)
    refine WL.nil ?_
    refine WC.ifF rfl (by rfl) ?_
    refine WC.skip ?_
    refine WC.seq ?_
    refine WC.region ?_
    have hn1 : t1.n = 1 := (by rw [← Tr.ls_len, f4]; rfl); have hs1 : Srt t1.ls := (by rw [f4]; exact List.pairwise_singleton _ _); have hg1 : Tr.get 1 t1 = some 10 := (by rw [Tr.get_ls 1 t1 hs1, f4]; rfl); have h2 := (f2.ret i1).ret i1; have hfr : ((A1.ret i1).ret i1).s.free = A1.s.free := (by rw [(AM.ret_same _ _).1, (AM.ret_same _ _).1]); have hm2 : Tr.mxH (1 + 1) ≤ 10 := (by decide); have hv : vGet 1 [] t1 = (10, true) := (by rw [vGet_nil, hg1]; rfl)
    refine WL.r 1 rfl ?_
    refine WL.call rfl rfl (tx_get (x := x1) (a := a1) (rt := i1) (xs := []) (q := 0) (S := []) (M := []) (A := (A1.ret i1).ret i1) (R := [i1, i1, i1]) (k := 1) (t := t1) (hW := WOk.nil) (hA := f7) (hi := h2) (hk := (by unfold i64R; omega)) (hR := (fun _ h => by cases h)) (hSl := (by simp)) (hS := (hS.sel 3 [2, 1, 0] rfl))) rfl ?_
    clear hS; rintro _ w ⟨rfl, hS⟩
    replace hS : St g (Tx x1 a1 i1 [] 0 (gSp 1 [] []) :: Arn a1 ((A1.ret i1).ret i1) :: Tx x2 a1 i1 [] 0 [] :: Sh 46 2 (en2 [(1, 10)]) (some ⟨b1, 0, none⟩) (List.length (en2 [(1, 10)])) :: L) w := hS
    refine WL.r 7 rfl ?_
    refine WL.nil ?_
    as_aux_lemma =>
      refine WC.seq ?_
      refine WC.region ?_
      refine WL.reb 8 (.int .i64 10) (congrArg (fun z : Int × Bool => Value.int .i64 z.1) hv) ?_
      refine WL.reb 9 (.bool true) (congrArg (fun z : Int × Bool => Value.bool z.2) hv) ?_
      refine WL.r 1 rfl ?_
      refine WL.call rfl rfl (tx_get (x := x2) (a := a1) (rt := i1) (xs := []) (q := 0) (S := []) (M := []) (A := (A1.ret i1).ret i1) (R := [i1, i1, i1]) (k := 1) (t := t1) (hW := WOk.nil) (hA := f7) (hi := h2) (hk := (by unfold i64R; omega)) (hR := (fun _ h => by cases h)) (hSl := (by simp)) (hS := (hS.sel 3 [2, 1, 0] rfl))) rfl ?_
      clear hS; rintro _ w ⟨rfl, hS⟩
      replace hS : St g (Tx x2 a1 i1 [] 0 (gSp 1 [] []) :: Arn a1 ((A1.ret i1).ret i1) :: Tx x1 a1 i1 [] 0 (gSp 1 [] []) :: Sh 46 2 (en2 [(1, 10)]) (some ⟨b1, 0, none⟩) (List.length (en2 [(1, 10)])) :: L) w := hS
      refine WL.nil ?_
      refine WC.seq ?_
      refine WC.region ?_
      refine WL.r 3 rfl ?_
      refine WL.reb 62 (.int .i64 11) (congrArg (Value.int .i64) (by decide)) ?_
      refine WL.call rfl rfl (tx_put (x := x1) (a := a1) (rt := i1) (xs := []) (q := 0) (S := gSp 1 [] []) (M := []) (k := 1) (z := 11) (hW := WOk.nil) (hr := (by unfold i64R; omega)) (hS := (hS.sel 3 [2, 0, 0] rfl))) rfl ?_
      clear hS; rintro _ w ⟨xs1, q1, rfl, hS, f8⟩
      replace hS : St g (Tx x1 a1 i1 xs1 q1 (gSp 1 [] []) :: Tx x2 a1 i1 [] 0 (gSp 1 [] []) :: Arn a1 ((A1.ret i1).ret i1) :: Sh 46 2 (en2 [(1, 10)]) (some ⟨b1, 0, none⟩) (List.length (en2 [(1, 10)])) :: L) w := hS
      refine WL.nil ?_
      refine WC.seq ?_
      refine WC.region ?_
      refine WL.r 3 rfl ?_
      refine WL.reb 66 (.int .i64 12) (congrArg (Value.int .i64) (by decide)) ?_
      refine WL.call rfl rfl (tx_put (x := x2) (a := a1) (rt := i1) (xs := []) (q := 0) (S := gSp 1 [] []) (M := []) (k := 1) (z := 12) (hW := WOk.nil) (hr := (by unfold i64R; omega)) (hS := (hS.sel 2 [1, 0] rfl))) rfl ?_
      clear hS; rintro _ w ⟨xs2, q2, rfl, hS, f9⟩
      replace hS : St g (Tx x2 a1 i1 xs2 q2 (gSp 1 [] []) :: Tx x1 a1 i1 xs1 q1 (gSp 1 [] []) :: Arn a1 ((A1.ret i1).ret i1) :: Sh 46 2 (en2 [(1, 10)]) (some ⟨b1, 0, none⟩) (List.length (en2 [(1, 10)])) :: L) w := hS
      refine WL.nil ?_
      as_aux_lemma =>
        refine WC.seq ?_
        refine WC.region ?_
        rw [wput_nil] at f8 f9
        refine WL.r 2 rfl ?_
        refine WL.call rfl rfl (tx_commit (x := x1) (a := a1) (rt := i1) (xs := xs1) (q := q1) (S := gSp 1 [] []) (M := [(1, true, 11)]) (A := (A1.ret i1).ret i1) (R := [i1, i1]) (hd := i1) (ts := t1) (th := t1) (hW := f8) (hA := f7) (hts := h2) (hth := h2) (hss := hs1) (hsh := hs1) (hn := (by omega)) (hSl := (by rw [gSp_nil]; simp)) (hR := (by simp)) (hno := (fun s _ => by rw [dif_self]; rfl)) (hrm := (.inr (by rw [hfr, hn1]; simp only [List.length_singleton]; omega))) (hcs := (put_cost f3 (by omega) (by rw [hfr, hn1]; omega))) (hS := (hS.sel 3 [1, 1, 0] rfl))) rfl ?_
        clear hS; rintro _ w ⟨A2, i2, xm1, xu1, xc1, rfl, hS, f10⟩
        replace hS : St g (cel x1 #[.pointer (some ⟨a1, 0, none⟩), .int .u32 i1, .bool true, .map (some xm1), .slice xu1 (List.length (en2 (gSp 1 [] []))) xc1] 145 :: Arn a1 A2 :: Tx x2 a1 i1 xs2 q2 (gSp 1 [] []) :: Sh 46 2 (en2 [(1, 10)]) (some ⟨b1, 0, none⟩) (List.length (en2 [(1, 10)])) :: L) w := hS
        refine WL.r 5 rfl ?_
        refine WL.nil ?_
        refine WC.seq ?_
        refine WC.region ?_
        rw [put_all f3] at f10; have hls : (Tr.ins 1 11 t1).ls = [(1, 11)] := (by rw [Tr.ins_ls _ _ _ hs1, f4]; rfl); have hs2 : Srt (Tr.ins 1 11 t1).ls := (by rw [hls]; exact List.pairwise_singleton _ _); have hg2 : Tr.get 1 (Tr.ins 1 11 t1) = some 11 := (by rw [Tr.get_ls 1 _ hs2, hls]; rfl); have hn2 : (Tr.ins 1 11 t1).n = 1 := (by rw [← Tr.ls_len, hls]; rfl)
        refine WL.r 2 rfl ?_
        refine WL.call rfl rfl (tx_conflict (x := x2) (a := a1) (rt := i1) (xs := xs2) (q := q2) (S := gSp 1 [] []) (A := A2) (R := [i2, i1, i1]) (hd := i2) (ts := t1) (th := Tr.ins 1 11 t1) (hA := f10.ref) (hts := (f10.kp i1 (by simp) t1 h2)) (hth := f10.is) (hss := hs1) (hsh := hs2) (hn := (by omega)) (hSl := (by rw [gSp_nil]; simp)) (hcf := (fun h => by have h9 := h (1, 1) (by rw [gSp_nil]; simp); rw [f4, hls] at h9; simp [dif, inR] at h9)) (hS := (hS.sel 3 [2, 1, 0] rfl))) rfl ?_
        clear hS; rintro _ w ⟨rfl, hS⟩
        replace hS : St g (Tx x2 a1 i1 xs2 q2 (gSp 1 [] []) :: Arn a1 A2 :: cel x1 #[.pointer (some ⟨a1, 0, none⟩), .int .u32 i1, .bool true, .map (some xm1), .slice xu1 (List.length (en2 (gSp 1 [] []))) xc1] 145 :: Sh 46 2 (en2 [(1, 10)]) (some ⟨b1, 0, none⟩) (List.length (en2 [(1, 10)])) :: L) w := hS
        refine WL.r 5 rfl ?_
        refine WL.nil ?_
        refine WC.seq ?_
        refine WC.region ?_
        refine WL.r 2 rfl ?_
        refine WL.call rfl rfl (lk_get (a := a1) (A := A2) (R := [i2, i1, i1]) (i := i2) (k := 1) (t := Tr.ins 1 11 t1) (hA := f10.ref) (hi := f10.is) (hS := (hS.sel 2 [1, 0] rfl))) rfl ?_
        clear hS; rintro _ w ⟨rfl, hS⟩
        replace hS : St g (Arn a1 A2 :: Tx x2 a1 i1 xs2 q2 (gSp 1 [] []) :: cel x1 #[.pointer (some ⟨a1, 0, none⟩), .int .u32 i1, .bool true, .map (some xm1), .slice xu1 (List.length (en2 (gSp 1 [] []))) xc1] 145 :: Sh 46 2 (en2 [(1, 10)]) (some ⟨b1, 0, none⟩) (List.length (en2 [(1, 10)])) :: L) w := hS
        refine WL.r 5 rfl ?_
        refine WL.nil ?_
        as_aux_lemma =>
          refine WC.seq ?_
          refine WC.region ?_
          refine WL.r 2 rfl ?_
          refine WL.ung rfl rfl rfl ?_
          refine WL.r 1 rfl ?_
          refine WL.ung rfl rfl rfl ?_
          refine WL.r 2 rfl ?_
          refine WL.rG 13 rfl (fun j => ?_)
          refine WL.prop 102 rfl (band (band (band (dd _) (dd _)) (dd _)) (dd _)) ?_
          refine WL.nil ?_
          refine WC.ret ?_
          refine ⟨[.bool (bif (bif (bif (decide (10 = 10)) then (decide (0 = 0)) else false) then (decide (((Tr.get 1 (Tr.ins 1 11 t1)).getD 0) = 11)) else false) then (decide (10 = 10)) else false)], rfl, ?_⟩
          replace hS := (hS.sel 4 [] rfl)
          exact ⟨by rw [hg2]; rfl, hS⟩
end Go.Proofs.Ytlnlnebibgdjdaa
