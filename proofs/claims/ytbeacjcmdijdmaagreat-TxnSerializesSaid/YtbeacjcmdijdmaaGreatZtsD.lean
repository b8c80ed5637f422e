/-
  What the proof of Jtz stands on, part 4.
  Conditions: none.
-/
import Derived.Test.YtbeacjcmdijdmaaGreatZtsC
/-! ## P3 -/
namespace Go.Proofs.YtbeacjcmdijdmaaGreat
open Go Go.V
theorem dif_self (l : Kvs) : dif l l = [] := by
  have h := dif_common [] [] l
  rw [List.append_nil, dif] at h
  exact h
set_option maxRecDepth 8192 in
theorem df_each {g w : World} {L : List HP} (a : Nat) (A : AM) (R : List Int) (x y lo hi : Int) (lb hb ob : Nat) (tx ty : Tr) (hA : ARf A R) (hx : Is A tx x) (hy : Is A ty y) (hsx : Srt tx.ls) (hsy : Srt ty.ls) (hl : tx.n + ty.n ≤ 100000000) (hS : St g (Arn a A :: cel lb #[.int .i64 lo] 2 :: cel hb #[.int .i64 hi] 2 :: cel ob #[.slice none 0 0] 111 :: L) w) :
    Sp Tryz.prog 169 [.pointer (some ⟨a, 0, none⟩), .int .u32 x, .int .u32 y, .func (.func 170) #[] #[.pointer (some ⟨lb, 0, none⟩), .pointer (some ⟨hb, 0, none⟩), .pointer (some ⟨ob, 0, none⟩)]] w (fun v w' => ∃ (vb : Nat), v = .tuple #[] ∧ St g (Arn a A :: Dfs vb ob lo hi (inR lo hi (dif tx.ls ty.ls)) :: L) w') := by
  refine Sp.enter Tryz.func169 rfl (by kernel_rfl) (by kernel_rfl) ?_
  refine WC.seq <| WC.region ?_
  replace hS : St g (Own 110 4 (ch4 []) none 0 :: Arn a A :: cel lb #[.int .i64 lo] 2 :: cel hb #[.int .i64 hi] 2 :: cel ob #[.slice none 0 0] 111 :: L) w := hS.nil_ 110 4
  refine WL.box rfl rfl #[.func (.func 170) #[] #[.pointer (some ⟨lb, 0, none⟩), .pointer (some ⟨hb, 0, none⟩), .pointer (some ⟨ob, 0, none⟩)]] hS rfl rfl (fun b1 w hS => ?_)
  refine WL.nil <| WC.seq <| WC.seq <| WC.region ?_
  replace hS := St.exClose (f := dfsF b1 ob lo hi []) (L := Arn a A :: L) ⟨lb, hb, none, 0⟩ ((hS.sel 6 [0, 2, 2, 2, 0, 0] rfl))
  replace hS := hS.n2 L (a0 := Dfs b1 ob lo hi []) rfl
  refine WL.r 3 rfl <| WL.nil <| WC.ifP rfl (fun he => ?_) (fun he => ?_)
  · refine WC.ret ?_
    refine ⟨[], trivial, ?_⟩
    replace hS := (hS.sel 2 [1, 0] rfl)
    subst he; have e9 := Is.fn hx hy; subst e9; rw [dif_self]; exact ⟨_, rfl, hS⟩
  · refine WC.skip <| WC.seq <| WC.region <| WL.r 1 rfl <| WL.nil <| WC.region <| WL.r 4 rfl <| WL.mkF rfl rfl (vs := [.pointer (some ⟨b1, 0, none⟩)]) rfl <| WL.call rfl rfl (tw_pairs (R := R) (x := x) (y := y) (tx := tx) (ty := ty) (hA := hA) (hx := hx) (hy := hy) (hsx := hsx) (hsy := hsy) (hl := hl) (hS := (hS.sel 2 [1, 0] rfl))) rfl ?_
    clear hS; rintro _ w ⟨rfl, hS⟩
    replace hS := hS.n2 L (a1 := Dfs b1 ob lo hi (inR lo hi (dif tx.ls ty.ls))) rfl
    refine WL.nil ?_
    refine ⟨[], trivial, ?_⟩
    exact ⟨_, rfl, hS⟩
set_option maxRecDepth 8192 in
theorem df_range {g w : World} {L : List HP} (a : Nat) (A : AM) (R : List Int) (x y lo hi : Int) (tx ty : Tr) (hA : ARf A R) (hx : Is A tx x) (hy : Is A ty y) (hsx : Srt tx.ls) (hsy : Srt ty.ls) (hl : tx.n + ty.n ≤ 100000000) (hS : St g (Arn a A :: L) w) :
    Sp Tryz.prog 100 [.pointer (some ⟨a, 0, none⟩), .int .u32 x, .int .u32 y, .int .i64 lo, .int .i64 hi] w (fun v w' => ∃ (a2 : Option Addr) (c2 : Nat), v = .slice a2 (List.length (ch4 (inR lo hi (dif tx.ls ty.ls)))) c2 ∧ St g (Own 110 4 (ch4 (inR lo hi (dif tx.ls ty.ls))) a2 c2 :: Arn a A :: L) w') := by
  refine Sp.enter Tryz.func100 rfl (by kernel_rfl) (by kernel_rfl) ?_
  refine WC.seq <| WC.region <| WL.box rfl rfl #[.int .i64 lo] hS rfl rfl (fun b1 w hS => ?_)
  refine WL.box rfl rfl #[.int .i64 hi] hS rfl rfl (fun b2 w hS => ?_)
  refine WL.r 1 rfl <| WL.nil <| WC.seq <| WC.region <| WL.new rfl rfl zv_111 hS (fun b3 w hS => ?_)
  refine WL.nil <| WC.seq <| WC.region <| WL.r 3 rfl <| WL.mkF rfl rfl (vs := [.pointer (some ⟨b1, 0, none⟩), .pointer (some ⟨b2, 0, none⟩), .pointer (some ⟨b3, 0, none⟩)]) rfl <| WL.call rfl rfl (df_each (R := R) (x := x) (y := y) (lo := lo) (hi := hi) (tx := tx) (ty := ty) (hA := hA) (hx := hx) (hy := hy) (hsx := hsx) (hsy := hsy) (hl := hl) (hS := (hS.sel 4 [3, 2, 1, 0] rfl))) rfl ?_
  clear hS; rintro _ w ⟨vb1, rfl, hS⟩
  replace hS := hS.n2 L (a1 := Dfs vb1 b3 lo hi (inR lo hi (dif tx.ls ty.ls))) rfl
  refine WL.nil <| WC.seq <| WC.region ?_
  obtain ⟨⟨xl, xh, xu, xc⟩, hS⟩ := St.exOpen (f := dfsF vb1 b3 lo hi (inR lo hi (dif tx.ls ty.ls))) (hS.at_ 1 rfl)
  replace hS := hS.n6 L (a0 := cel vb1 #[.func (.func 170) #[] #[.pointer (some ⟨xl, 0, none⟩), .pointer (some ⟨xh, 0, none⟩), .pointer (some ⟨b3, 0, none⟩)]] 272) (a1 := cel xl #[.int .i64 lo] 2) (a2 := cel xh #[.int .i64 hi] 2) (a3 := cel b3 #[.slice xu (List.length (ch4 (inR lo hi (dif tx.ls ty.ls)))) xc] 111) (a4 := Own 110 4 (ch4 (inR lo hi (dif tx.ls ty.ls))) xu xc) rfl
  refine WL.run 2 [.slice xu (List.length (ch4 (inR lo hi (dif tx.ls ty.ls)))) xc] rfl (by exact hS.ld 3 rfl rfl) ?_
  refine WL.nil ?_
  as_aux_lemma =>
  refine WC.ret ?_
  refine ⟨[.slice xu (List.length (ch4 (inR lo hi (dif tx.ls ty.ls)))) xc], rfl, ?_⟩
  replace hS := (hS.sel 4 [] rfl)
  exact ⟨_, _, rfl, hS⟩
end Go.Proofs.YtbeacjcmdijdmaaGreat
/-! ## Tx4 -/
namespace Go.Proofs.YtbeacjcmdijdmaaGreat
open Go Go.V Go.RowKit Go.Maps
set_option maxRecDepth 8192 in
theorem rs_apply {g w : World} {L : List HP} (n m : Nat) (hn : n + m ≤ 65536) (hS : St g (L) w) :
    Sp Tryz.prog 102 [.int .i64 (n : Int), .int .i64 (m : Int)] w (fun v w' => v = .int .i64 ((n : Int) + m + 4 * ((Tr.mxH (n + m) : Int) + 2)) ∧ St g (L) w') := by
  refine Sp.enter Tryz.func102 rfl (by kernel_rfl) (by kernel_rfl) ?_
  have _ := hn
  refine WC.seq <| WC.region <| WL.r 1 rfl <| WL.nil <| WC.seq <| WC.seq <| WC.region <| WL.r 2 rfl <| WL.lit rfl rfl (i64s [(n : Int), (m : Int)]) el_56 hS (by exact ⟨rfl, rfl, rfl, rfl⟩) (i64s_ok _) rfl (Nat.le_of_ble_eq_true rfl) (fun b1 w hS => ?_)
  replace hS := (hS.at_ 0 rfl).share
  replace hS : St g (Sh 3 1 (i64s [(n : Int), (m : Int)]) (some ⟨b1, 0, none⟩) (List.length (i64s [(n : Int), (m : Int)])) :: L) w := hS
  refine WL.call rfl rfl (rs_valid (l := [(n : Int), (m : Int)]) (b := some ⟨b1, 0, none⟩) (c := List.length (i64s [(n : Int), (m : Int)])) (hl := (by simp)) (hS := hS)) rfl ?_
  clear hS; rintro _ w ⟨rfl, hS⟩
  replace hS := hS.n1 L rfl
  refine WL.r 1 rfl <| WL.nil <| WC.ifF rfl (by simp; omega) ?_
  refine WC.skip <| WC.seq <| WC.region ?_
  have hmx := Tr.mxH_le (n + m)
  refine WL.r 3 rfl <| WL.nw 12 rfl (w64 (by omega)) ?_
  refine WL.r 3 rfl <| WL.reb 15 (.int .i64 ((n + m : Nat) : Int)) (congrArg (Value.int .i64) (by rw [w64 (by omega)]; omega)) ?_
  refine WL.call rfl rfl (rs_path (f := 4) (n := (n + m : Nat)) (hf := (by omega)) (hn := (by omega)) (hS := hS)) rfl ?_
  clear hS; rintro _ w ⟨rfl, hS⟩
  replace hS := hS.n1 L rfl
  refine WL.r 1 rfl <| WL.nw 17 rfl (w64 (by omega)) ?_
  refine WL.r 1 rfl <| WL.nil ?_
  as_aux_lemma =>
  refine WC.ret ?_
  refine ⟨[.int .i64 (((n : Int) + (m : Int)) + (4 * ((Tr.mxH (n + m : Nat) : Int) + 2)))], rfl, ?_⟩
  replace hS := (hS.sel 1 [] rfl)
  exact ⟨rfl, hS⟩
def wNeed (t : Tr) (e : Int × Bool × Int) : Bool := (e.2.1 != (Tr.get e.1 t).isSome) || (e.2.1 && decide ((Tr.get e.1 t).getD 0 ≠ e.2.2))
def wWork (t : Tr) (M : Wrs) : Wrs := M.filter (wNeed t)
def wOne (u : Tr) (e : Int × Bool × Int) : Tr := if e.2.1 then Tr.ins e.1 e.2.2 u else Tr.del e.1 u
def wCost (u : Tr) (e : Int × Bool × Int) : Nat := if e.2.1 then Tr.ic e.1 e.2.2 u else Tr.dc e.1 u
def wAll (W : Wrs) (t : Tr) : Tr := W.foldl wOne t
def wSum : Wrs → Tr → Nat
  | [], _ => 0
  | e :: l, t => wCost t e + wSum l (wOne t e)
theorem wAll_snoc {W : Wrs} {k : Nat} {e : Int × Bool × Int} {t : Tr} (h : W[k]? = some e) : wAll (W.take (k + 1)) t = wOne (wAll (W.take k) t) e := by
  unfold wAll; rw [List.take_add_one, h, List.foldl_append]; rfl
theorem wSum_app (e : Int × Bool × Int) : ∀ (W : Wrs) (t : Tr), wSum (W ++ [e]) t = wSum W t + wCost (wAll W t) e
  | [], t => by simp [wSum, wAll]
  | f :: l, t => by
    have h := wSum_app e l (wOne t f)
    show wCost t f + wSum (l ++ [e]) (wOne t f) = wCost t f + wSum l (wOne t f) + wCost (wAll l (wOne t f)) e
    omega
theorem wSum_snoc {W : Wrs} {k : Nat} {e : Int × Bool × Int} {t : Tr} (h : W[k]? = some e) : wSum (W.take (k + 1)) t = wSum (W.take k) t + wCost (wAll (W.take k) t) e := by
  rw [List.take_add_one, h]; exact wSum_app e _ t
theorem wOne_n (u : Tr) (e : Int × Bool × Int) : (wOne u e).n ≤ u.n + 1 := by
  unfold wOne
  split
  · have := Tr.ins_n e.1 e.2.2 u; split at this <;> omega
  · have := Tr.del_n e.1 u; split at this <;> omega
theorem wAll_n : ∀ (W : Wrs) (t : Tr), (wAll W t).n ≤ t.n + W.length
  | [], t => Nat.le_refl _
  | e :: l, t => by
    have h1 := wAll_n l (wOne t e)
    have h2 := wOne_n t e
    show (wAll l (wOne t e)).n ≤ t.n + (l.length + 1)
    omega
theorem drop_lt {S : Kvs} {k : Nat} {p : Int × Int → Prop} (h : ¬ ∀ s ∈ S.drop k, p s) : k < S.length := by
  rcases Nat.lt_or_ge k S.length with h1 | h1
  · exact h1
  · exact (h (by rw [List.drop_eq_nil_of_le h1]; intro s hs; cases hs)).elim
theorem drop_next {S : Kvs} {k : Nat} {p : Int × Int → Prop} {e : Int × Int} (h : ¬ ∀ s ∈ S.drop k, p s) (he : S[k]? = some e) (hp : p e) : ¬ ∀ s ∈ S.drop (k + 1), p s := fun hq => h (by
  obtain ⟨hl, rfl⟩ := List.getElem?_eq_some_iff.1 he
  rw [List.drop_eq_getElem_cons hl]
  intro s hs
  rcases List.mem_cons.1 hs with rfl | hs
  · exact hp
  · exact hq s hs)
set_option maxRecDepth 8192 in
theorem tx_conflict {g w : World} {L : List HP} (x a : Nat) (rt : Int) (xs : List WE) (q : Nat) (S : Kvs) (A : AM) (R : List Int) (hd : Int) (ts th : Tr) (hA : ARf A R) (hts : Is A ts rt) (hth : Is A th hd) (hss : Srt ts.ls) (hsh : Srt th.ls) (hn : ts.n + th.n ≤ 60000) (hSl : S.length ≤ 100000) (hcf : ¬ ∀ s ∈ S, inR s.1 s.2 (dif ts.ls th.ls) = []) (hS : St g (Tx x a rt xs q S :: Arn a A :: L) w) :
    Sp Tryz.prog 31 [.pointer (some ⟨x, 0, none⟩), .int .u32 hd] w (fun v w' => v = .tuple #[.int .u32 0, .int .i64 10] ∧ St g (Tx x a rt xs q S :: Arn a A :: L) w') := by
  refine Sp.enter Tryz.func31 rfl (by kernel_rfl) (by kernel_rfl) ?_
  have _ := hSl
  have _ := hn
  refine WC.seq <| WC.region <| WL.r 2 rfl <| WL.nil <| WC.seq <| WC.seq <| WC.region ?_
  obtain ⟨⟨xm, xu, xc⟩, hS⟩ := St.exOpen (f := txF x a rt xs q S) hS
  replace hS := hS.n4 L (a0 := cel x #[.pointer (some ⟨a, 0, none⟩), .int .u32 rt, .bool false, .map (some xm), .slice xu (List.length (en2 S)) xc] 188) (a1 := blk xm (.map (mE (List.map wK xs)) q)) (a2 := Own 106 2 (en2 S) xu xc) rfl
  have hll := en2_len S
  refine WL.run 4 [.bool false] rfl (by exact hS.ld 0 rfl rfl) ?_
  refine WL.nil <| WC.ifF rfl rfl <| WC.skip <| WC.seq <| WC.seq <| WC.region <| WL.run 6 [.slice xu (List.length (en2 S)) xc] rfl (by exact hS.ld 0 rfl rfl) ?_
  refine WL.nil <| WC.block <| WC.loop [0, 1, 24, 25, 26] (fun kM vs w => ∃ (k : Nat), vs = [.pointer (some ⟨x, 0, none⟩), .int .u32 hd, .slice xu (List.length (en2 S)) xc, .int .i64 (List.length (en2 S) : Int), .int .i64 (k : Int)] ∧ St g (cel x #[.pointer (some ⟨a, 0, none⟩), .int .u32 rt, .bool false, .map (some xm), .slice xu (List.length (en2 S)) xc] 188 :: blk xm (.map (mE (List.map wK xs)) q) :: Own 106 2 (en2 S) xu xc :: Arn a A :: L) w ∧ (¬ ∀ s ∈ S.drop k, inR s.1 s.2 (dif ts.ls th.ls) = []) ∧ (S.length - k) = kM) ((List.length S) - 0) ⟨0, rfl, hS, (hcf), rfl⟩ ?_
  clear hS; rintro _ _ w j ⟨k, rfl, hS, hk, rfl⟩
  refine WC.seq <| WC.region <| WL.r 1 rfl <| WL.nil ?_
  as_aux_lemma =>
  refine WC.seq <| WC.ifT rfl (decide_eq_true ((by have := drop_lt hk; omega))) ?_
  refine WC.skip <| WC.seq <| WC.block <| WC.seq <| WC.region ?_
  obtain ⟨e, he⟩ : ∃ e, S[k]? = some e := ⟨_, List.getElem?_eq_getElem (drop_lt hk)⟩; have hlt := drop_lt hk
  refine WL.ix rfl rfl (i := (k : Int)) (k) el_98 rfl rfl (by omega) (by omega) (hS.rdO 2 rfl (en2_at he)).1 ?_
  refine WL.ldC rfl rfl [.int .i64 e.1, .int .i64 e.2] ag_106 rfl (hS.rdO 2 rfl (en2_at he)).2 <| WL.new rfl rfl zv_106 hS (fun b1 w hS => ?_)
  refine WL.stF rfl rfl rfl 0 hS rfl rfl rfl rfl rfl ag_106 (fun w hS => ?_)
  replace hS := hS.n5 L (a0 := cel b1 #[.int .i64 e.1, .int .i64 e.2] 106) rfl
  refine WL.nil <| WC.seq <| WC.plan [([0, 4, 8, 9, 11, 1, 5, 10, 12, 2, 6, 3, 7], some (13, [])), ([14, 15], none)] (by kernel_rfl) (by kernel_rfl) ?_
  refine WQ.run 13 [.int .i64 e.1, .int .i64 e.2, .pointer (some ⟨a, 0, none⟩), .int .u32 rt] rfl (by exact ⟨hS.ld 0 rfl rfl, hS.ld 0 rfl rfl, hS.ld 1 rfl rfl, hS.ld 1 rfl rfl⟩) ?_
  refine WQ.nil ?_
  intro m1
  replace hS := hS.drewN m1; generalize hwm1 : World.drewN _ _ = w at *; clear hwm1
  refine WL.call rfl rfl (df_range (R := R) (x := rt) (y := hd) (lo := e.1) (hi := e.2) (tx := ts) (ty := th) (hA := hA) (hx := hts) (hy := hth) (hsx := hss) (hsy := hsh) (hl := (by omega)) (hS := (hS.sel 5 [4, 0, 0, 0, 0] rfl))) rfl ?_
  clear hS; rintro _ w ⟨a1, c1, rfl, hS⟩
  replace hS := hS.n6 L (a0 := Own 110 4 (ch4 (inR e.1 e.2 (dif ts.ls th.ls))) a1 c1) rfl
  refine WL.nil ?_
  refine ⟨by exact trivial, ?_⟩
  refine WQ.r 2 rfl <| WQ.nil ?_
  intro m2
  replace hS := hS.drewN m2; generalize hwm2 : World.drewN _ _ = w at *; clear hwm2
  as_aux_lemma =>
  refine WC.ifP rfl (fun hc => ?_) (fun hc => ?_)
  · refine WC.seq <| WC.region <| WL.r 2 rfl <| WL.nil <| WC.ret ?_
    replace hS := St.exClose (f := txF x a rt xs q S) (L := Own 110 4 (ch4 (inR e.1 e.2 (dif ts.ls th.ls))) a1 c1 :: Arn a A :: cel b1 #[.int .i64 e.1, .int .i64 e.2] 106 :: L) ⟨xm, xu, xc⟩ ((hS.sel 6 [3, 3, 3, 0, 0, 0] rfl))
    replace hS := hS.n4 L (a0 := Tx x a rt xs q S) rfl
    refine ⟨[.int .u32 0, .int .i64 10], ⟨rfl, rfl⟩, ?_⟩
    replace hS := (hS.sel 4 [0, 1] rfl)
    exact ⟨rfl, hS⟩
  · refine WC.skip <| WC.region <| WL.r 1 rfl <| WL.nw 46 rfl (w64 (by omega)) ?_
    refine WL.r 1 rfl <| WL.nil ?_
    exact ⟨_, by omega, k + 1, rfl, (hS.sel 6 [3, 3, 3, 1] rfl), (drop_next hk he (List.length_eq_zero_iff.1 (by have := ch4_len (inR e.1 e.2 (dif ts.ls th.ls)); omega))), rfl⟩
end Go.Proofs.YtbeacjcmdijdmaaGreat
/-! ## Y2 -/
namespace Go.Proofs.YtbeacjcmdijdmaaGreat
open Go Go.V Go.RowKit
theorem grow_cov {R : Kvs} {k : Nat} {e : Int × Int} {lo h2 : Int} (he : R[k]? = some e) (hc : ∀ x, lo ≤ x → x ≤ h2 → inS x R) (h1 : e.1 ≤ h2 + 1) : ∀ x, lo ≤ x → x ≤ e.2 → inS x R := fun x h3 h4 => by
  by_cases h : x ≤ h2
  · exact hc x h3 h
  · exact ⟨e, List.mem_of_getElem? he, by omega, h4⟩
structure GwI (R : Kvs) (lo h2 : Int) (k : Nat) (h3 : Int) (g3 : Bool) : Prop where
  le : lo ≤ h3
  rng : i64R h3
  cov : ∀ x, lo ≤ x → x ≤ h3 → inS x R
  st : (g3 = false ∧ h3 = h2 ∧ ∀ s ∈ R.take k, s.1 ≤ h3 + 1 → s.2 ≤ h3) ∨ (g3 = true ∧ h2 < h3 ∧ fur R h3 < fur R h2)
theorem GwI.grow {R : Kvs} {lo h2 h3 : Int} {k : Nat} {g3 : Bool} {e : Int × Int} (h : GwI R lo h2 k h3 g3) (he : R[k]? = some e) (hr : i64R e.2) (h1 : e.1 ≤ h3 + 1) (h4 : h3 < e.2) : GwI R lo h2 (k + 1) e.2 true := by
  have hl := h.le
  have hf := fur_lt (List.mem_of_getElem? he) h4
  refine ⟨by omega, hr, grow_cov he h.cov h1, .inr ⟨rfl, ?_⟩⟩
  rcases h.st with ⟨_, h5, _⟩ | ⟨_, h5, h6⟩
  · subst h5; exact ⟨h4, hf⟩
  · exact ⟨by omega, by omega⟩
theorem GwI.full {R : Kvs} {lo h2 h3 : Int} {k : Nat} {g3 : Bool} (h : GwI R lo h2 k h3 g3) (hk : R.length ≤ k) : (g3 = false ∧ h3 = h2 ∧ ∀ s ∈ R, s.1 ≤ h3 + 1 → s.2 ≤ h3) ∨ (g3 = true ∧ h2 < h3 ∧ fur R h3 < fur R h2) := by
  have := h.st
  rwa [List.take_of_length_le hk] at this
end Go.Proofs.YtbeacjcmdijdmaaGreat
/-! ## Tx3 -/
namespace Go.Proofs.YtbeacjcmdijdmaaGreat
open Go Go.V Go.RowKit Go.Maps
theorem rd1 {s : RdS} {x : Int × Int} (h : x.2 + 1 < s.lo) : rdStep s x = ⟨s.lo, s.hi, s.less ++ [x], s.gr⟩ := if_pos h
theorem rd2 {s : RdS} {x : Int × Int} (h : ¬ x.2 + 1 < s.lo) (h2 : s.hi < x.1 - 1) : rdStep s x = ⟨s.lo, s.hi, s.less, s.gr ++ [x]⟩ := by
  unfold rdStep; rw [if_neg h, if_pos h2]
theorem rd3 {s : RdS} {x : Int × Int} (h : ¬ x.2 + 1 < s.lo) (h2 : ¬ s.hi < x.1 - 1) : rdStep s x = ⟨min s.lo x.1, max s.hi x.2, s.less, s.gr⟩ := by
  unfold rdStep; rw [if_neg h, if_neg h2]
theorem lt1 {z lo : Int} (hz : i64R z) (hl : i64R lo) : (bif decide (z < lo) then decide (IntKind.i64.wrap (z + 1) < lo) else false) = decide (z + 1 < lo) := by
  unfold i64R at hz hl
  by_cases h : z < lo
  · rw [decide_eq_true h, w64 (z := z + 1) (by omega)]; rfl
  · rw [decide_eq_false h, decide_eq_false (show ¬ z + 1 < lo by omega)]; rfl
theorem gt1 {z hi : Int} (hz : i64R z) (hl : i64R hi) : (bif decide (hi < z) then decide (hi < IntKind.i64.wrap (z - 1)) else false) = decide (hi < z - 1) := by
  unfold i64R at hz hl
  by_cases h : hi < z
  · rw [decide_eq_true h, w64 (z := z - 1) (by omega)]; rfl
  · rw [decide_eq_false h, decide_eq_false (show ¬ hi < z - 1 by omega)]; rfl
set_option maxRecDepth 8192 in
theorem tx_read {g w : World} {L : List HP} (x a : Nat) (rt : Int) (xs : List WE) (q : Nat) (S : Kvs) (lo hi : Int) (hlo : i64R lo) (hhi : i64R hi) (hR : SpR S) (hSl : S.length ≤ 100000) (hS : St g (Tx x a rt xs q S :: L) w) :
    Sp Tryz.prog 163 [.pointer (some ⟨x, 0, none⟩), .int .i64 lo, .int .i64 hi] w (fun v w' => v = .tuple #[] ∧ St g (Tx x a rt xs q (rdF lo hi S) :: L) w') := by
  refine Sp.enter Tryz.func163 rfl (by kernel_rfl) (by kernel_rfl) ?_
  have _ := hSl
  refine WC.seq <| WC.region ?_
  obtain ⟨⟨xm, xu, xc⟩, hS⟩ := St.exOpen (f := txF x a rt xs q S) hS
  replace hS : St g (cel x #[.pointer (some ⟨a, 0, none⟩), .int .u32 rt, .bool false, .map (some xm), .slice xu (List.length (en2 S)) xc] 188 :: blk xm (.map (mE (List.map wK xs)) q) :: Own 106 2 (en2 S) xu xc :: L) w := hS
  have hll := en2_len S
  refine WL.r 2 rfl <| WL.nil <| WC.seq <| WC.seq <| WC.region <| WL.run 6 [.slice xu (List.length (en2 S)) xc] rfl (by exact hS.ld 0 rfl rfl) ?_
  refine WL.nil <| WC.block ?_
  replace hS := hS.nil_ 106 2
  replace hS := hS.nil_ 106 2
  refine WC.loop [0, 1, 2, 6, 7, 13, 14, 15] (fun kM vs w => ∃ (k : Nat) (r : RdS) (u1 : Option Addr) (d1 : Nat) (u2 : Option Addr) (d2 : Nat), vs = [.pointer (some ⟨x, 0, none⟩), .int .i64 r.lo, .int .i64 r.hi, .slice u1 (List.length (en2 r.less)) d1, .slice u2 (List.length (en2 r.gr)) d2, .slice xu (List.length (en2 S)) xc, .int .i64 (List.length (en2 S) : Int), .int .i64 (k : Int)] ∧ St g (Own 106 2 (en2 r.less) u1 d1 :: Own 106 2 (en2 r.gr) u2 d2 :: cel x #[.pointer (some ⟨a, 0, none⟩), .int .u32 rt, .bool false, .map (some xm), .slice xu (List.length (en2 S)) xc] 188 :: blk xm (.map (mE (List.map wK xs)) q) :: Own 106 2 (en2 S) xu xc :: L) w ∧ (k ≤ S.length) ∧ (r = rdAll lo hi (S.take k)) ∧ (S.length - k) = kM) ((List.length S) - 0) ⟨0, ⟨lo, hi, [], []⟩, none, 0, none, 0, rfl, hS, (Nat.zero_le _), (rfl), rfl⟩ ?_
  clear hS; rintro _ _ w j ⟨k, r, u1, d1, u2, d2, rfl, hS, hk, hr, rfl⟩
  refine WC.seq <| WC.region <| WL.r 1 rfl <| WL.nil <| WC.seq <| WC.ifP rfl (fun cd1 => ?_) (fun cd1 => ?_)
  · refine WC.skip ?_
    as_aux_lemma =>
    refine WC.seq <| WC.block <| WC.seq <| WC.region ?_
    obtain ⟨e, he⟩ : ∃ e, S[k]? = some e := ⟨_, List.getElem?_eq_getElem (by omega)⟩; obtain ⟨r1, r2, _, _⟩ := rdAll_R (lo := lo) (hi := hi) ⟨hlo, hhi⟩ hR k; rw [← hr] at r1 r2; have hre := hR e (List.mem_of_getElem? he); have hln := rdAll_len lo hi S k; rw [← hr] at hln; have hl1 := en2_len r.less; have hl2 := en2_len r.gr
    refine WL.ix rfl rfl (i := (k : Int)) (k) el_98 rfl rfl (by omega) (by omega) (hS.rdO 4 rfl (en2_at he)).1 ?_
    refine WL.ldC rfl rfl [.int .i64 e.1, .int .i64 e.2] ag_106 rfl (hS.rdO 4 rfl (en2_at he)).2 <| WL.new rfl rfl zv_106 hS (fun b1 w hS => ?_)
    refine WL.stF rfl rfl rfl 0 hS rfl rfl rfl rfl rfl ag_106 (fun w hS => ?_)
    replace hS := hS.n6 L (a0 := cel b1 #[.int .i64 e.1, .int .i64 e.2] 106) rfl
    refine WL.nil <| WC.block <| WC.seq <| WC.region <| WL.run 4 [.int .i64 e.2] rfl (by exact hS.ld 0 rfl rfl) ?_
    refine WL.runG 8 [.int .i64 e.2] rfl (by exact (fun _ => hS.ld 0 rfl rfl)) (fun j => ?_)
    refine WL.prop 38 rfl (band (dd _) (dd _)) <| WL.nil <| WC.if_ rfl (fun cd2 => ?_) (fun cd2 => ?_)
    · refine WC.region <| WL.r 1 rfl <| WL.ldF rfl rfl 0 hS rfl rfl ag_106 <| WL.lit rfl rfl (en2 [(e.1, e.2)]) el_98 hS (by exact ⟨rfl, rfl⟩) (en2_ok _) rfl (Nat.le_of_ble_eq_true rfl) (fun b2 w hS => ?_)
      refine WL.app rfl rfl 2 (en2 (r.less ++ [(e.1, e.2)])) el_98 hS rfl (hS.srcO 0 rfl) (en2_app _ _).symm (Rm.of (by first | omega | (simp <;> omega)) (by decide)) rfl rfl (fun a1 c1 w hS => ?_)
      replace hS := hS.n7 L (a0 := Own 106 2 (en2 [(e.1, e.2)]) (some ⟨b2, 0, none⟩) (List.length (en2 [(e.1, e.2)]))) (a2 := Own 106 2 (en2 (r.less ++ [(e.1, e.2)])) a1 c1) rfl
      refine WL.r 1 rfl <| WL.nil ?_
      as_aux_lemma =>
      refine WC.region <| WL.r 1 rfl <| WL.nw 59 rfl (w64 (by omega)) ?_
      refine WL.r 1 rfl <| WL.nil ?_
      exact ⟨_, by omega, k + 1, ⟨r.lo, r.hi, r.less ++ [e], r.gr⟩, a1, c1, u2, d2, rfl, (hS.sel 2 [] rfl), (by omega), (by rw [rdAll_snoc he, ← hr]; exact (rd1 (of_decide_eq_true ((lt1 hre.2 r1).symm.trans cd2))).symm), rfl⟩
    · refine WC.seq <| WC.region <| WL.run 4 [.int .i64 e.1] rfl (by exact hS.ld 0 rfl rfl) ?_
      refine WL.runG 8 [.int .i64 e.1] rfl (by exact (fun _ => hS.ld 0 rfl rfl)) (fun j => ?_)
      refine WL.prop 54 rfl (band (dd _) (dd _)) <| WL.nil ?_
      as_aux_lemma =>
      refine WC.if_ rfl (fun cd3 => ?_) (fun cd3 => ?_)
      · refine WC.region <| WL.r 1 rfl <| WL.ldF rfl rfl 0 hS rfl rfl ag_106 <| WL.lit rfl rfl (en2 [(e.1, e.2)]) el_98 hS (by exact ⟨rfl, rfl⟩) (en2_ok _) rfl (Nat.le_of_ble_eq_true rfl) (fun b2 w hS => ?_)
        refine WL.app rfl rfl 3 (en2 (r.gr ++ [(e.1, e.2)])) el_98 hS rfl (hS.srcO 0 rfl) (en2_app _ _).symm (Rm.of (by first | omega | (simp <;> omega)) (by decide)) rfl rfl (fun a1 c1 w hS => ?_)
        replace hS := hS.n7 L (a0 := Own 106 2 (en2 [(e.1, e.2)]) (some ⟨b2, 0, none⟩) (List.length (en2 [(e.1, e.2)]))) (a3 := Own 106 2 (en2 (r.gr ++ [(e.1, e.2)])) a1 c1) rfl
        refine WL.r 1 rfl <| WL.nil <| WC.region <| WL.r 1 rfl <| WL.nw 59 rfl (w64 (by omega)) ?_
        refine WL.r 1 rfl <| WL.nil ?_
        exact ⟨_, by omega, k + 1, ⟨r.lo, r.hi, r.less, r.gr ++ [e]⟩, u1, d1, a1, c1, rfl, (hS.sel 2 [] rfl), (by omega), (by rw [rdAll_snoc he, ← hr]; exact (rd2 (of_decide_eq_false ((lt1 hre.2 r1).symm.trans cd2)) (of_decide_eq_true ((gt1 hre.1 r2).symm.trans cd3))).symm), rfl⟩
      · refine WC.plan [([0, 1, 4, 5, 2, 6, 3, 7, 8, 9], none)] (by kernel_rfl) (by kernel_rfl) ?_
        refine WQ.run 10 [.int .i64 e.1, .int .i64 e.2] rfl (by exact ⟨hS.ld 0 rfl rfl, hS.ld 0 rfl rfl⟩) ?_
        refine WQ.nil ?_
        intro m1
        replace hS := hS.drewN m1; generalize hwm1 : World.drewN _ _ = w at *; clear hwm1
        refine WC.region <| WL.r 1 rfl <| WL.nw 59 rfl (w64 (by omega)) ?_
        refine WL.r 1 rfl <| WL.nil ?_
        exact ⟨_, by omega, k + 1, ⟨min r.lo e.1, max r.hi e.2, r.less, r.gr⟩, u1, d1, u2, d2, rfl, (hS.sel 1 [] rfl), (by omega), (by rw [rdAll_snoc he, ← hr]; exact (rd3 (of_decide_eq_false ((lt1 hre.2 r1).symm.trans cd2)) (of_decide_eq_false ((gt1 hre.1 r2).symm.trans cd3))).symm), rfl⟩
  · refine WC.exit ?_
    as_aux_lemma =>
    refine WC.region ?_
    have hle := rdAll_len lo hi S k; rw [← hr] at hle; have hl1 := en2_len r.less; have hl2 := en2_len r.gr; have e9 : r.less ++ [(r.lo, r.hi)] ++ r.gr = rdF lo hi S := (by rw [hr, List.take_of_length_le (by omega)]; rfl)
    refine WL.r 4 rfl <| WL.build rfl rfl (cs := [.int .i64 r.lo, .int .i64 r.hi]) zv_106 rfl rfl <| WL.lit rfl rfl (en2 [(r.lo, r.hi)]) el_98 hS (by exact ⟨rfl, rfl⟩) (en2_ok _) rfl (Nat.le_of_ble_eq_true rfl) (fun b1 w hS => ?_)
    refine WL.app rfl rfl 1 (en2 (r.less ++ [(r.lo, r.hi)])) el_98 hS rfl (hS.srcO 0 rfl) (en2_app _ _).symm (Rm.of (by first | omega | (simp <;> omega)) (by decide)) rfl rfl (fun a1 c1 w hS => ?_)
    replace hS := hS.n6 L (a0 := Own 106 2 (en2 [(r.lo, r.hi)]) (some ⟨b1, 0, none⟩) (List.length (en2 [(r.lo, r.hi)]))) (a1 := Own 106 2 (en2 (r.less ++ [(r.lo, r.hi)])) a1 c1) rfl
    refine WL.r 1 rfl <| WL.app rfl rfl 1 (en2 ((r.less ++ [(r.lo, r.hi)]) ++ r.gr)) el_98 hS rfl (hS.srcO 2 rfl) (en2_app _ _).symm (Rm.of (by first | omega | (simp <;> omega)) (by decide)) rfl rfl (fun a2 c2 w hS => ?_)
    replace hS := hS.n6 L (a1 := Own 106 2 (en2 ((r.less ++ [(r.lo, r.hi)]) ++ r.gr)) a2 c2) rfl
    refine WL.r 2 rfl <| WL.st rfl rfl rfl 3 hS rfl rfl rfl rfl rfl rfl (fun w hS => ?_)
    replace hS := hS.n6 L (a3 := cel x #[.pointer (some ⟨a, 0, none⟩), .int .u32 rt, .bool false, .map (some xm), .slice a2 (List.length (en2 ((r.less ++ [(r.lo, r.hi)]) ++ r.gr))) c2] 188) rfl
    refine WL.nil ?_
    replace hS := St.exClose (f := txF x a rt xs q (rdF lo hi S)) (L := Own 106 2 (en2 [(r.lo, r.hi)]) (some ⟨b1, 0, none⟩) (List.length (en2 [(r.lo, r.hi)])) :: Own 106 2 (en2 r.gr) u2 d2 :: Own 106 2 (en2 S) xu xc :: L) ⟨xm, a2, c2⟩ (by
      rw [e9] at hS
      exact (hS.sel 5 [3, 3, 1, 0, 0] rfl))
    replace hS := hS.n4 L (a0 := Tx x a rt xs q (rdF lo hi S)) rfl
    refine ⟨[], trivial, ?_⟩
    replace hS := (hS.sel 4 [0] rfl)
    exact ⟨rfl, hS⟩
set_option maxRecDepth 8192 in
theorem tx_get1 {g w : World} {L : List HP} (x a : Nat) (rt : Int) (xs : List WE) (q : Nat) (S : Kvs) (M : Wrs) (A : AM) (j : Nat) (e : WE) (k : Int) (hW : WOk xs q M) (he : xs[j]? = some e) (hek : e.k = k) (hS : St g (Tx x a rt xs q S :: Arn a A :: L) w) :
    Sp Tryz.prog 94 [.pointer (some ⟨x, 0, none⟩), .int .i64 k] w (fun v w' => v = .tuple #[.int .i64 e.v, .bool e.p, .int .i64 0] ∧ St g (Tx x a rt xs q S :: Arn a A :: L) w') := by
  refine Sp.enter Tryz.func94 rfl (by kernel_rfl) (by kernel_rfl) ?_
  refine WC.seq <| WC.region <| WL.r 3 rfl <| WL.nil <| WC.seq <| WC.seq <| WC.region ?_
  obtain ⟨⟨xm, xu, xc⟩, hS⟩ := St.exOpen (f := txF x a rt xs q S) hS
  replace hS := hS.n4 L (a0 := cel x #[.pointer (some ⟨a, 0, none⟩), .int .u32 rt, .bool false, .map (some xm), .slice xu (List.length (en2 S)) xc] 188) (a1 := blk xm (.map (mE (List.map wK xs)) q)) (a2 := Own 106 2 (en2 S) xu xc) rfl
  refine WL.run 4 [.bool false] rfl (by exact hS.ld 0 rfl rfl) ?_
  refine WL.nil <| WC.ifF rfl rfl <| WC.skip <| WC.seq <| WC.seq <| WC.region <| WL.run 5 [.map (some xm)] rfl (by exact hS.ld 0 rfl rfl) ?_
  refine WL.lk rfl rfl mt_186 1 hS rfl rfl rfl (by first | trivial | rfl) (r := some (j, .agg #[.bool e.p, .int .i64 e.v])) (hek ▸ ki_in (f := wK) (n := WE.k) hW.k.key hW.k.uniq he) rfl ?_
  refine WL.r 3 rfl <| WL.new rfl rfl zv_217 hS (fun b1 w hS => ?_)
  refine WL.stF rfl rfl rfl 0 hS rfl rfl rfl rfl rfl ag_217 (fun w hS => ?_)
  replace hS := hS.n5 L (a0 := cel b1 #[.bool e.p, .int .i64 e.v] 217) rfl
  refine WL.r 1 rfl <| WL.nil ?_
  as_aux_lemma =>
  refine WC.seq <| WC.region <| WL.r 1 rfl <| WL.nil <| WC.ifT rfl rfl <| WC.seq <| WC.plan [([0, 2, 1, 3, 4, 5, 6], none)] (by kernel_rfl) (by kernel_rfl) ?_
  refine WQ.run 7 [.int .i64 e.v, .bool e.p] rfl (by exact ⟨hS.ld 0 rfl rfl, hS.ld 0 rfl rfl⟩) ?_
  refine WQ.nil ?_
  intro m1
  replace hS := hS.drewN m1; generalize hwm1 : World.drewN _ _ = w at *; clear hwm1
  refine WC.ret ?_
  replace hS := St.exClose (f := txF x a rt xs q S) (L := cel b1 #[.bool e.p, .int .i64 e.v] 217 :: Arn a A :: L) ⟨xm, xu, xc⟩ ((hS.sel 4 [1, 1, 1, 0] rfl))
  replace hS := hS.n3 L (a0 := Tx x a rt xs q S) rfl
  refine ⟨[.int .i64 e.v, .bool e.p, .int .i64 0], ⟨rfl, rfl, rfl⟩, ?_⟩
  replace hS := (hS.sel 2 [0] rfl)
  exact ⟨rfl, hS⟩
set_option maxRecDepth 8192 in
theorem tx_get2 {g w : World} {L : List HP} (x a : Nat) (rt : Int) (xs : List WE) (q : Nat) (S : Kvs) (M : Wrs) (A : AM) (R : List Int) (k : Int) (t : Tr) (hW : WOk xs q M) (hn : ∀ e ∈ xs, e.k ≠ k) (hA : ARf A R) (hi : Is A t rt) (hk : i64R k) (hR : SpR S) (hSl : S.length ≤ 100000) (hS : St g (Tx x a rt xs q S :: Arn a A :: L) w) :
    Sp Tryz.prog 94 [.pointer (some ⟨x, 0, none⟩), .int .i64 k] w (fun v w' => v = .tuple #[.int .i64 ((Tr.get k t).getD 0), .bool (Tr.get k t).isSome, .int .i64 0] ∧ St g (Tx x a rt xs q (rdF k k S) :: Arn a A :: L) w') := by
  refine Sp.enter Tryz.func94 rfl (by kernel_rfl) (by kernel_rfl) ?_
  refine WC.seq <| WC.region <| WL.r 3 rfl <| WL.nil <| WC.seq <| WC.seq <| WC.region ?_
  obtain ⟨⟨xm, xu, xc⟩, hS⟩ := St.exOpen (f := txF x a rt xs q S) hS
  replace hS := hS.n4 L (a0 := cel x #[.pointer (some ⟨a, 0, none⟩), .int .u32 rt, .bool false, .map (some xm), .slice xu (List.length (en2 S)) xc] 188) (a1 := blk xm (.map (mE (List.map wK xs)) q)) (a2 := Own 106 2 (en2 S) xu xc) rfl
  refine WL.run 4 [.bool false] rfl (by exact hS.ld 0 rfl rfl) ?_
  refine WL.nil <| WC.ifF rfl rfl <| WC.skip <| WC.seq <| WC.seq <| WC.region <| WL.run 5 [.map (some xm)] rfl (by exact hS.ld 0 rfl rfl) ?_
  refine WL.lk rfl rfl mt_186 1 hS rfl rfl rfl (by first | trivial | rfl) (r := none) (ki_out (f := wK) (n := WE.k) hW.k.key hn) rfl ?_
  refine WL.r 3 rfl <| WL.new rfl rfl zv_217 hS (fun b1 w hS => ?_)
  refine WL.stF rfl rfl rfl 0 hS rfl rfl rfl rfl rfl ag_217 (fun w hS => ?_)
  replace hS := hS.n5 L (a0 := cel b1 #[.bool false, .int .i64 0] 217) rfl
  refine WL.r 1 rfl <| WL.nil ?_
  as_aux_lemma =>
  refine WC.seq <| WC.region <| WL.r 1 rfl <| WL.nil <| WC.ifF rfl rfl <| WC.skip <| WC.seq <| WC.region ?_
  replace hS := St.exClose (f := txF x a rt xs q S) (L := cel b1 #[.bool false, .int .i64 0] 217 :: Arn a A :: L) ⟨xm, xu, xc⟩ ((hS.sel 4 [1, 1, 1, 0] rfl))
  replace hS := hS.n3 L (a0 := Tx x a rt xs q S) rfl
  refine WL.r 3 rfl <| WL.call rfl rfl (tx_read (lo := k) (hi := k) (hlo := hk) (hhi := hk) (hR := hR) (hSl := hSl) (hS := hS)) rfl ?_
  clear hS; rintro _ w ⟨rfl, hS⟩
  replace hS := hS.n3 L (a0 := Tx x a rt xs q (rdF k k S)) rfl
  refine WL.nil <| WC.seq <| WC.plan [([0, 4, 8, 1, 5, 2, 6, 3, 7], some (9, [])), ([10, 11, 12, 13, 14], none)] (by kernel_rfl) (by kernel_rfl) ?_
  obtain ⟨⟨xm, xu, xc⟩, hS⟩ := St.exOpen (f := txF x a rt xs q (rdF k k S)) hS
  replace hS := hS.n5 L (a0 := cel x #[.pointer (some ⟨a, 0, none⟩), .int .u32 rt, .bool false, .map (some xm), .slice xu (List.length (en2 (rdF k k S))) xc] 188) (a1 := blk xm (.map (mE (List.map wK xs)) q)) (a2 := Own 106 2 (en2 (rdF k k S)) xu xc) rfl
  refine WQ.run 9 [.pointer (some ⟨a, 0, none⟩), .int .u32 rt] rfl (by exact ⟨hS.ld 0 rfl rfl, hS.ld 0 rfl rfl⟩) ?_
  refine WQ.nil ?_
  intro m1
  replace hS := hS.drewN m1; generalize hwm1 : World.drewN _ _ = w at *; clear hwm1
  refine WL.call rfl rfl (lk_get (R := R) (i := rt) (k := k) (t := t) (hA := hA) (hi := hi) (hS := (hS.sel 5 [4, 0, 0, 0, 0] rfl))) rfl ?_
  clear hS; rintro _ w ⟨rfl, hS⟩
  replace hS := hS.n5 L rfl
  refine WL.nil ?_
  refine ⟨by exact trivial, ?_⟩
  refine WQ.r 5 rfl <| WQ.nil ?_
  intro m2
  replace hS := hS.drewN m2; generalize hwm2 : World.drewN _ _ = w at *; clear hwm2
  as_aux_lemma =>
  refine WC.seq <| WC.region <| WL.r 5 rfl <| WL.nil <| WC.ret ?_
  replace hS := St.exClose (f := txF x a rt xs q (rdF k k S)) (L := Arn a A :: cel b1 #[.bool false, .int .i64 0] 217 :: L) ⟨xm, xu, xc⟩ ((hS.sel 4 [1, 1, 1, 0] rfl))
  replace hS := hS.n3 L (a0 := Tx x a rt xs q (rdF k k S)) rfl
  refine ⟨[.int .i64 ((Tr.get k t).getD 0), .bool (Tr.get k t).isSome, .int .i64 0], ⟨rfl, rfl, rfl⟩, ?_⟩
  replace hS := (hS.sel 3 [0, 0] rfl)
  exact ⟨rfl, hS⟩
def vGet (k : Int) (M : Wrs) (t : Tr) : Int × Bool := match wget k M with
  | some y => (y.2, y.1)
  | none => ((Tr.get k t).getD 0, (Tr.get k t).isSome)
def gSp (k : Int) (M : Wrs) (S : Kvs) : Kvs := if (wget k M).isSome then S else rdF k k S
set_option maxRecDepth 8192 in
theorem tx_get {g w : World} {L : List HP} (x a : Nat) (rt : Int) (xs : List WE) (q : Nat) (S : Kvs) (M : Wrs) (A : AM) (R : List Int) (k : Int) (t : Tr) (hW : WOk xs q M) (hA : ARf A R) (hi : Is A t rt) (hk : i64R k) (hR : SpR S) (hSl : S.length ≤ 100000) (hS : St g (Tx x a rt xs q S :: Arn a A :: L) w) :
    Sp Tryz.prog 94 [.pointer (some ⟨x, 0, none⟩), .int .i64 k] w (fun v w' => v = .tuple #[.int .i64 (vGet k M t).1, .bool (vGet k M t).2, .int .i64 0] ∧ St g (Tx x a rt xs q (gSp k M S) :: Arn a A :: L) w') := by
  rcases ki_cases WE.k xs k with ⟨j, e, he, hek⟩ | hn
  · have h1 : wget k M = some (e.p, e.v) := hek ▸ hW.get he
    have h2 : vGet k M t = (e.v, e.p) := by unfold vGet; rw [h1]
    have h3 : gSp k M S = S := by unfold gSp; rw [h1]; rfl
    rw [h2, h3]
    exact tx_get1 x a rt xs q S M A j e k hW he hek hS
  · have h1 : wget k M = none := hW.no hn
    have h2 : vGet k M t = ((Tr.get k t).getD 0, (Tr.get k t).isSome) := by unfold vGet; rw [h1]
    have h3 : gSp k M S = rdF k k S := by unfold gSp; rw [h1]; rfl
    rw [h2, h3]
    exact tx_get2 x a rt xs q S M A R k t hW hn hA hi hk hR hSl hS
end Go.Proofs.YtbeacjcmdijdmaaGreat
/-! ## Srf -/
namespace Go.V
open Go Go.RowKit Go.Maps Go.Sort Go.Proofs
def kv2 (x : Int × Int) : List Value := [.int .i64 x.1, .int .i64 x.2]
def kvC (x y : Int × Int) : Int := if x.1 < y.1 then -1 else 1
theorem kvLt (x y : Int × Int) : ltOf kvC x y = decide (x.1 < y.1) := by
  unfold ltOf kvC
  by_cases h : x.1 < y.1
  · rw [if_pos h, decide_eq_true h]; rfl
  · rw [if_neg h, decide_eq_false h]; rfl
theorem kvSwo : SWO (ltOf kvC) where
  irrefl x := by rw [kvLt]; simp
  trans x y z h1 h2 := by rw [kvLt] at *; simp at *; omega
  ntrans x y z h1 h2 := by rw [kvLt] at *; simp at *; omega
theorem flat2 (ls : List (Int × Int)) : (flatK kv2 2 ls.toArray).toList = (en2 ls).flatten := by
  apply List.ext_getElem?
  intro t
  by_cases h : t < ls.length * 2
  · have h1 : t / 2 < ls.length := by omega
    have h2 : (en2 ls)[t / 2]? = some (kv2 ls[t / 2]) := by simp [en2, kv2, h1]
    have h3 := flat_at (en2 ls) 2 (fun x hx => by obtain ⟨y, _, rfl⟩ := List.mem_map.1 hx; rfl) (t / 2) _ (t % 2) h2 (by show t % 2 < 2; omega)
    rw [show t / 2 * 2 + t % 2 = t by omega] at h3
    have h4 := get_flatK kv2 2 ls.toArray t (by simpa using h)
    have h5 : t < (flatK kv2 2 ls.toArray).size := by rw [size_flatK]; simpa using h
    rw [h3, Array.getElem?_toList, Array.getElem?_eq_getElem h5]
    rw [getElem!_pos (flatK kv2 2 ls.toArray) t h5] at h4
    rw [h4]
    have h6 : (ls.toArray)[t / 2]! = ls[t / 2] := by
      rw [getElem!_pos ls.toArray (t / 2) (by simpa using h1)]; simp
    rw [h6]
    have h7 : t % 2 < (kv2 ls[t / 2]).length := by show t % 2 < 2; omega
    rw [List.getElem?_eq_getElem h7, getElem!_pos (kv2 ls[t / 2]) (t % 2) h7]
  · rw [List.getElem?_eq_none (by rw [Array.length_toList, size_flatK]; simpa using h), List.getElem?_eq_none]
    rw [flat_len (en2 ls) 2 (fun x hx => by obtain ⟨y, _, rfl⟩ := List.mem_map.1 hx; rfl), en2_len]; omega
section
variable {g w : World} {L : List HP} {e c : Nat} {ls : List (Int × Int)} {b : Nat}
theorem heap_srt {n : Nat} {os : Array Obj} {cur : Array Value} {fr : Nat × Nat} (d : Array Value) (hb : w.heap[b]? = some (.cells cur e fr)) :
    (grow (putRow id (Sort.ahead w n) b 0 d) os).heap[b]? = some (.cells (putCells id 0 d cur) e fr) := by
  have hg : b < w.heap.size := (Array.getElem?_eq_some_iff.1 hb).1
  rw [heap_grow_old _ _ (by simpa using hg)]
  simp [putRow, mapBlock, Sort.ahead, Array.getElem?_modify, hb, onCells]
theorem grown_srt {n : Nat} {os : Array Obj} (d : Array Value) : w.grownBy (grow (putRow id (Sort.ahead w n) b 0 d) os) (some b) := by
  refine ⟨rfl, rfl, rfl, by simp, fun k hk hne => ?_⟩
  rw [heap_grow_old _ _ (by simpa using hk)]
  have : b ≠ k := fun e => hne (by rw [e])
  simp [putRow, mapBlock, Sort.ahead, Array.getElem?_modify, this]
theorem take_srt (cur ts : Array Value) (h : ts.size ≤ cur.size) : (putCells id 0 ts cur).toList.take ts.size = ts.toList := by
  apply List.ext_getElem?
  intro j
  by_cases hj : j < ts.size
  · rw [List.getElem?_take_of_lt hj, Array.getElem?_toList, Array.getElem?_toList]
    simp [putCells, hj, show j < cur.size by omega]
  · rw [List.getElem?_take_eq_none (by omega), List.getElem?_eq_none (by simp; omega)]
theorem St.holdsK (h : St g L w) (i : Nat) (hi : L[i]? = some (Own e 2 (en2 ls) (some ⟨b, 0, none⟩) c)) : HoldsK kv2 2 w b 0 ls.toArray ∧ b < w.heap.size := by
  obtain ⟨o1, r, ⟨h1, h2⟩, ho, hr⟩ := h.get i hi
  rcases h2 with ⟨h3, _, _⟩ | ⟨b', cur, h3, q2, q3, q4, q5, q6⟩
  · cases h3
  · cases h3
    have hb := ho _ _ q2
    refine ⟨fun j hj => ?_, (Array.getElem?_eq_some_iff.1 hb).1⟩
    have hj2 : j < (flatK kv2 2 ls.toArray).toList.length := by simpa using hj
    refine ⟨?_, by simp [World.frozen?, hb]⟩
    rw [Nat.zero_add, cell_of_row w b _ cur e (0, 0) hb]
    have h4 : (en2 ls).flatten[j]? = some (id (flatK kv2 2 ls.toArray)[j]!) := by
      rw [← flat2, List.getElem?_eq_getElem hj2, getElem!_pos _ j hj]; rfl
    rw [← q6, List.getElem?_take] at h4
    split at h4
    · simpa using h4
    · cases h4
theorem St.putK (h : St g (Own e 2 (en2 ls) (some ⟨b, 0, none⟩) c :: L) w) (ts : List (Int × Int)) (hl : ts.length = ls.length) (n : Nat) (os : Array Obj) :
    St g (Own e 2 (en2 ts) (some ⟨b, 0, none⟩) c :: L) (sortWorldK kv2 2 w b 0 n ts.toArray os) := by
  unfold sortWorldK putRowK
  have hg := grown_srt (w := w) (b := b) (n := n) (os := os) (flatK kv2 2 ts.toArray)
  refine h.upd hg.os hg.tape hg.output hg.size fun o1 r hA hw _ _ => ?_
  obtain ⟨h1, h2⟩ := hA
  rcases h2 with ⟨h3, _, _⟩ | ⟨b', cur, h3, q2, q3, q4, q5, q6⟩
  · cases h3
  · cases h3
    have hb := hw _ _ q2
    rw [en2_len] at q3 q6
    refine ⟨fun k => if k = b then some (.cells (putCells id 0 (flatK kv2 2 ts.toArray) cur) e (0, 0)) else none, ⟨en2_ok _, .inr ⟨b, _, rfl, if_pos rfl, by rw [en2_len, hl]; exact q3, q4, by simp [putCells, q5], ?_⟩⟩, fun k x hx => ?_, fun k hk => ?_, fun k hk hn => ?_⟩
    · rw [en2_len]
      have hs : (flatK kv2 2 ts.toArray).size = ts.length * 2 := by simp
      rw [← hs, take_srt _ _ (by rw [hs, q5, hl]; exact Nat.mul_le_mul_right _ q3), flat2]
    · simp only at hx
      split at hx
      · rename_i hk; subst hk; simp only [Option.some.injEq] at hx; subst hx; exact heap_srt _ hb
      · cases hx
    · simp only [ne_eq, ite_eq_right_iff, reduceCtorEq, imp_false, Classical.not_not] at hk
      subst hk; exact .inl (by rw [q2]; simp)
    · refine hg.block k hk fun he => ?_
      simp only [Option.some.injEq] at he; subst he
      rw [q2] at hn; cases hn
end
theorem srt_of_perm {ls ts : List (Int × Int)} (hk : ls.Pairwise fun a b => a.1 ≠ b.1) (hp : ts.Perm ls) (hs : ∀ i j (hi : i < ts.length) (hj : j < ts.length), i < j → ¬ ts[j].1 < ts[i].1) : Srt ts := by
  have hk2 : ts.Pairwise fun a b => a.1 ≠ b.1 := hp.symm.pairwise hk fun h e => h e.symm
  refine List.pairwise_iff_getElem.2 fun i j hi hj hij => ?_
  have h1 := List.pairwise_iff_getElem.1 hk2 i j hi hj hij
  have h2 := hs i j hi hj hij
  omega
def seenB {α : Type} (f : α → Value × Value × Nat) (ds : List α) : Array Nat := (ds.map fun x => (f x).2.2).toArray
section
variable {P : Program} {n : Nat} {os l : List Oper} {K : Kt} {F : Fm} {w g : World} {L : List HP} {b b2 q : Nat} {α : Type} {f : α → Value × Value × Nat} {xs ds : List α}
theorem left_of {e : MapEntry} (h : e ∈ (leftOf (mE (xs.map f)) (seenB f ds)).toList) : ∃ x ∈ xs, (∀ y ∈ ds, (f y).2.2 ≠ (f x).2.2) ∧ e = ⟨(f x).1, (f x).2.1, (f x).2.2⟩ := by
  unfold leftOf at h
  rw [Array.toList_filter, List.mem_filter, mE_toList, List.map_map, List.mem_map] at h
  obtain ⟨⟨x, hx, rfl⟩, h2⟩ := h
  refine ⟨x, hx, fun y hy he => ?_, rfl⟩
  simp only [Bool.not_eq_true', seenB, Function.comp_apply, Bool.eq_false_iff, ne_eq, Array.contains_iff_mem, List.mem_toArray, List.mem_map, not_exists, not_and] at h2
  exact h2 y hy he
theorem left_no (h : (leftOf (mE (xs.map f)) (seenB f ds)).size = 0) : ∀ x ∈ xs, ∃ y ∈ ds, (f y).2.2 = (f x).2.2 := fun x hx => by
  refine Classical.byContradiction fun hn => ?_
  have h1 : (leftOf (mE (xs.map f)) (seenB f ds)).toList = [] := List.length_eq_zero_iff.1 (by rw [Array.length_toList]; exact h)
  have h2 : (⟨(f x).1, (f x).2.1, (f x).2.2⟩ : MapEntry) ∈ (leftOf (mE (xs.map f)) (seenB f ds)).toList := by
    unfold leftOf
    rw [Array.toList_filter, List.mem_filter, mE_toList, List.map_map, List.mem_map]
    refine ⟨⟨x, hx, rfl⟩, ?_⟩
    simp only [Bool.not_eq_true', seenB, Bool.eq_false_iff, ne_eq, Array.contains_iff_mem, List.mem_toArray, List.mem_map, not_exists, not_and]
    exact fun y hy he => hn ⟨y, hy, he⟩
  rw [h1] at h2; cases h2
theorem WL.nxL {o : Oper} {x : Operand} (hg : o.guard = none) (ho : o.op = .next x false) (i j : Nat) (hS : St g L w) (hi : L[i]? = some (blk b2 (.mapIter (some b) q (seenB f ds) q))) (hj : L[j]? = some (blk b (.map (mE (xs.map f)) q))) (hold : ∀ x ∈ xs, (f x).2.2 < q) (hx : ev F x = .pointer (some ⟨b2, 0, none⟩))
    (h0 : (∀ x ∈ xs, ∃ y ∈ ds, (f y).2.2 = (f x).2.2) → WL P n os l K (updo F o.dst (.tuple #[.bool false])) w)
    (h1 : ∀ x ∈ xs, (∀ y ∈ ds, (f y).2.2 ≠ (f x).2.2) → ∀ w', St g (L.set i (blk b2 (.mapIter (some b) q (seenB f (ds ++ [x])) q))) w' → WL P n os l K (updo F o.dst (.tuple #[.bool true, (f x).1, (f x).2.1])) w') : WL P n os (o :: l) K F w := by
  have hr := hS.heap i hi
  have hb := hS.heap j hj
  rcases run_next_at (P := P) w o.type b2 b q q (seenB f ds) (mE (xs.map f)) q hr hb (fun x hx => by
    rw [mE_toList, List.map_map, List.mem_map] at hx
    obtain ⟨y, hy, rfl⟩ := hx
    exact hold y hy) (Nat.le_refl _) with ⟨q1, q2⟩ | ⟨e, he, w1, hw1, q2⟩
  · refine WL.val hg (fun hok => ?_) (h0 (left_no q1))
    have e1 := okX_at (F := F) hok (x := x) (by simp [ho, Op.operands])
    simp only [execOp, ho, e1, hx, Sem.run_bind, q2, Result.andThen_ok, Sem.run_pure]
  · obtain ⟨y, hy, hn, rfl⟩ := left_of he
    have hS1 : St g L w1 := by
      rcases hw1 with rfl | rfl
      · exact hS
      · exact hS.drew
    have hr1 := hS1.heap i hi
    have hb2 : b2 < w1.heap.size := (Array.getElem?_eq_some_iff.1 hr1).1
    have hse : (seenB f ds).push (f y).2.2 = seenB f (ds ++ [y]) := by
      unfold seenB; rw [List.map_append, List.push_toArray]; rfl
    rw [hse] at q2
    have hS2 : St g (L.set i (blk b2 (.mapIter (some b) q (seenB f (ds ++ [y])) q))) (ChangeMaps.setBlock w1 b2 (.mapIter (some b) q (seenB f (ds ++ [y])) q)) := by
      refine St.back i (St.upd (hS1.at_ i hi) rfl rfl rfl (by simp [ChangeMaps.setBlock]) fun o1 r hA hw _ _ => ⟨fun k => if k = b2 then some (.mapIter (some b) q (seenB f (ds ++ [y])) q) else none, if_pos rfl, fun k z hz => ?_, fun k hk => ?_, fun k hk hn => ?_⟩) hi
      · simp only at hz
        split at hz
        · rename_i hk; subst hk; simp only [Option.some.injEq] at hz; subst hz
          simp [ChangeMaps.setBlock, hb2]
        · cases hz
      · simp only [ne_eq, ite_eq_right_iff, reduceCtorEq, imp_false, Classical.not_not] at hk
        subst hk
        exact .inl (by rw [show o1 k = _ from hA]; simp)
      · have hne : b2 ≠ k := fun e => by subst e; rw [show o1 b2 = _ from hA] at hn; cases hn
        simp [ChangeMaps.setBlock, hne]
    refine WL.val hg (fun hok => ?_) (h1 y hy hn _ hS2)
    have e1 := okX_at (F := F) hok (x := x) (by simp [ho, Op.operands])
    simp only [execOp, ho, e1, hx, Sem.run_bind, q2, Result.andThen_ok, Sem.run_pure]
theorem WL.enL {o : Oper} {y : Operand} {x : α} (hg : o.guard = none) (ho : o.op = .entry y) (i j : Nat) (hS : St g L w) (hi : L[i]? = some (blk b2 (.mapIter (some b) q (seenB f (ds ++ [x])) q))) (hj : L[j]? = some (blk b (.map (mE (xs.map f)) q))) (hx : x ∈ xs) (hn : (xs.map fun x => (f x).2.2).Nodup) (hy : ev F y = .pointer (some ⟨b2, 0, none⟩))
    (hk : WL P n os l K (updo F o.dst (.tuple #[(f x).1, (f x).2.1])) w) : WL P n os (o :: l) K F w := by
  have hse : (seenB f ds).push (f x).2.2 = seenB f (ds ++ [x]) := by
    unfold seenB; rw [List.map_append, List.push_toArray]; rfl
  have hr := hS.heap i hi
  rw [← hse] at hr
  have hr2 := run_entry_at (P := P) w b2 b q (seenB f ds) (mE (xs.map f)) q ⟨(f x).1, (f x).2.1, (f x).2.2⟩ hr (hS.heap j hj) (by rw [mE_toList, List.map_map]; exact List.mem_map.2 ⟨x, hx, rfl⟩) (by rw [mE_toList, List.map_map, List.map_map]; exact hn)
  refine WL.val hg (fun hok => ?_) hk
  have e1 := okX_at (F := F) hok (x := y) (by simp [ho, Op.operands])
  simp only [execOp, ho, e1, hy, Sem.run_bind, hr2, Result.andThen_ok, Sem.run_pure]
end
end Go.V
/-! ## Srl -/
namespace Go.Proofs
open Go.Shelf
def Tryz.srtE_ren : Go.Shelf.Ren := ⟨fun | 6 => 167 | 15 => 198 | 14 => 204 | 28 => 231 | 29 => 232 | 20 => 234 | 21 => 235 | 22 => 236 | 23 => 237 | 24 => 238 | 25 => 239 | 26 => 240 | 27 => 241 | 46 => 263 | 47 => 258 | 48 => 259 | 49 => 264 | 50 => 265 | 57 => 271 | n => n, fun | 22 => 49 | 24 => 121 | 25 => 270 | 3 => 3 | 39 => 299 | 0 => 0 | 53 => 64 | 55 => 23 | 4 => 4 | 46 => 328 | 45 => 327 | 50 => 332 | 5 => 5 | 9 => 9 | 66 => 356 | 70 => 360 | 76 => 367 | 77 => 368 | n => n, fun | n => n⟩
theorem Tryz.srtE : Go.Proofs.SlLaysF0.n6 Tryz.prog Tryz.srtE_ren := {
  mixed := by kernel_rfl
  f6 := ⟨Tryz.f167.name, by decide, Tryz.func167.trans (congrArg some (by kernel_rfl))⟩
  f14 := ⟨Tryz.f204.name, by decide, Tryz.func204.trans (congrArg some (by kernel_rfl))⟩
  f15 := Tryz.func198.trans (congrArg some (by kernel_rfl))
  f20 := ⟨Tryz.f234.name, by decide, Tryz.func234.trans (congrArg some (by kernel_rfl))⟩
  f21 := ⟨Tryz.f235.name, by decide, Tryz.func235.trans (congrArg some (by kernel_rfl))⟩
  f22 := ⟨Tryz.f236.name, by decide, Tryz.func236.trans (congrArg some (by kernel_rfl))⟩
  f23 := ⟨Tryz.f237.name, by decide, Tryz.func237.trans (congrArg some (by kernel_rfl))⟩
  f24 := ⟨Tryz.f238.name, by decide, Tryz.func238.trans (congrArg some (by kernel_rfl))⟩
  f25 := ⟨Tryz.f239.name, by decide, Tryz.func239.trans (congrArg some (by kernel_rfl))⟩
  f26 := ⟨Tryz.f240.name, by decide, Tryz.func240.trans (congrArg some (by kernel_rfl))⟩
  f27 := ⟨Tryz.f241.name, by decide, Tryz.func241.trans (congrArg some (by kernel_rfl))⟩
  f28 := Tryz.func231.trans (congrArg some (by kernel_rfl))
  f29 := Tryz.func232.trans (congrArg some (by kernel_rfl))
  f46 := ⟨Tryz.f263.name, by decide, Tryz.func263.trans (congrArg some (by kernel_rfl))⟩
  f47 := Tryz.func258.trans (congrArg some (by kernel_rfl))
  f48 := Tryz.func259.trans (congrArg some (by kernel_rfl))
  f49 := ⟨Tryz.f264.name, by decide, Tryz.func264.trans (congrArg some (by kernel_rfl))⟩
  f50 := ⟨Tryz.f265.name, by decide, Tryz.func265.trans (congrArg some (by kernel_rfl))⟩
  f57 := ⟨Tryz.f271.name, by decide, Tryz.func271.trans (congrArg some (by kernel_rfl))⟩
  t0 := Tryz.underlying0
  a0 := Tryz.isAgg0
  z0 := Tryz.sizeOf0
  v0 := Tryz.zeroValue0
  t3 := Tryz.underlying3
  a3 := Tryz.isAgg3
  z3 := Tryz.sizeOf3
  v3 := Tryz.zeroValue3
  t4 := Tryz.underlying4
  a4 := Tryz.isAgg4
  z4 := Tryz.sizeOf4
  v4 := Tryz.zeroValue4
  t5 := Tryz.underlying5
  a5 := Tryz.isAgg5
  z5 := Tryz.sizeOf5
  v5 := Tryz.zeroValue5
  t9 := Tryz.underlying9
  a9 := Tryz.isAgg9
  z9 := Tryz.sizeOf9
  v9 := Tryz.zeroValue9
  t22 := Tryz.underlying49
  a22 := Tryz.isAgg49
  z22 := Tryz.sizeOf49
  v22 := Tryz.zeroValue49
  t25 := Tryz.underlying270
  a25 := Tryz.isAgg270
  z25 := Tryz.sizeOf270
  v25 := Tryz.zeroValue270
  t39 := Tryz.underlying299
  a39 := Tryz.isAgg299
  z39 := Tryz.sizeOf299
  v39 := Tryz.zeroValue299
  t45 := Tryz.underlying327
  a45 := Tryz.isAgg327
  z45 := Tryz.sizeOf327
  v45 := Tryz.zeroValue327
  t46 := Tryz.underlying328
  a46 := Tryz.isAgg328
  z46 := Tryz.sizeOf328
  v46 := Tryz.zeroValue328
  t50 := Tryz.underlying332
  a50 := Tryz.isAgg332
  z50 := Tryz.sizeOf332
  v50 := Tryz.zeroValue332
  t53 := Tryz.underlying64
  a53 := Tryz.isAgg64
  z53 := Tryz.sizeOf64
  v53 := Tryz.zeroValue64
  t55 := Tryz.underlying23
  a55 := Tryz.isAgg23
  z55 := Tryz.sizeOf23
  v55 := Tryz.zeroValue23
  t66 := Tryz.underlying356
  a66 := Tryz.isAgg356
  z66 := Tryz.sizeOf356
  v66 := Tryz.zeroValue356
  t70 := Tryz.underlying360
  a70 := Tryz.isAgg360
  z70 := Tryz.sizeOf360
  v70 := Tryz.zeroValue360
  t76 := Tryz.underlying367
  a76 := Tryz.isAgg367
  z76 := Tryz.sizeOf367
  v76 := Tryz.zeroValue367
  t77 := Tryz.underlying368
  a77 := Tryz.isAgg368
  z77 := Tryz.sizeOf368
  v77 := Tryz.zeroValue368 }
end Go.Proofs
/-! ## Mr -/
namespace Go.V
open Go Go.RowKit
section
variable {P : Program} {T : Tab} [hT : TabOk P T] {n : Nat} {os l : List Oper} {K : Kt} {F : Fm} {w g : World} {L : List HP} {t kt et : TypeId} {d : TypeDesc} {z : Value} {b b2 c c2 : Nat} {es : Array MapEntry}
theorem WL.rgM {o : Oper} {x : Operand} (hg : o.guard = none) (ho : o.op = .range t x) (hM : MapT P t kt d et z) (i : Nat) (hS : St g L w) (hi : L[i]? = some (blk b (.map es c))) (hx : ev F x = .map (some b))
    (hk : ∀ b' w', St g (blk b' (.mapIter (some b) c #[] c) :: L) w' → WL P n os l K (updo F o.dst (.pointer (some ⟨b', 0, none⟩))) w') : WL P n os (o :: l) K F w := by
  refine WL.val hg (fun hok => ?_) (hk w.heap.size (w.alloc (.mapIter (some b) c #[] c)) (hS.new _))
  have e1 := okX_at (F := F) hok (x := x) (by simp [ho, Op.operands])
  simp only [execOp, ho, e1, hx, Instr.range, newObj, Sem.run_bind, run_underlying hM.und, Result.andThen_ok, MapKept.run_getObj_map (hS.heap i hi), Sem.run_pure]
  rfl
end
end Go.V
/-! ## Txa -/
namespace Go.Proofs.YtbeacjcmdijdmaaGreat
open Go Go.V Go.RowKit Go.Maps Go.Sort Go.Shelf
theorem btw_node {lo hi k v : Int} {a b : Kvs} (h : Srt (a ++ (k, v) :: b)) : btw lo hi (a ++ (k, v) :: b) = (if lo < k then btw lo hi a else []) ++ ((if lo ≤ k ∧ k ≤ hi then [(k, v)] else []) ++ (if k < hi then btw lo hi b else [])) := by
  obtain ⟨h1, h2, h3⟩ := List.pairwise_append.1 h
  obtain ⟨h4, h5⟩ := List.pairwise_cons.1 h2
  have e1 : btw lo hi a = if lo < k then btw lo hi a else [] := by
    split
    · rfl
    · refine List.filter_eq_nil_iff.2 fun x hx hin => ?_
      have h6 := h3 x hx (k, v) (List.mem_cons_self ..)
      simp only [inK, Bool.and_eq_true, decide_eq_true_iff] at hin
      have : x.1 < k := h6
      omega
  have e2 : btw lo hi b = if k < hi then btw lo hi b else [] := by
    split
    · rfl
    · refine List.filter_eq_nil_iff.2 fun x hx hin => ?_
      have h6 := h4 x hx
      simp only [inK, Bool.and_eq_true, decide_eq_true_iff] at hin
      have : k < x.1 := h6
      omega
  have e3 : btw lo hi [(k, v)] = if lo ≤ k ∧ k ≤ hi then [(k, v)] else [] := by
    unfold btw
    by_cases c1 : lo ≤ k
    · by_cases c2 : k ≤ hi
      · rw [if_pos ⟨c1, c2⟩]; simp [inK, c1, c2]
      · rw [if_neg fun h => c2 h.2]; simp [inK, c2]
    · rw [if_neg fun h => c1 h.1]; simp [inK, c1]
  rw [← e1, ← e2, ← e3]
  unfold btw
  rw [← List.filter_append, ← List.filter_append]; rfl
theorem btw_none {lo hi : Int} {l : Kvs} (h : hi < lo) : btw lo hi l = [] := List.filter_eq_nil_iff.2 fun x _ hin => by
  simp only [inK, Bool.and_eq_true, decide_eq_true_iff] at hin
  omega
theorem bt_node {lo hi k v : Int} {o o2 a b t : Kvs} (hs : Srt (a ++ (k, v) :: b)) (ht : t = a ++ (k, v) :: b) (h : o2 = o ++ if lo < k then btw lo hi a else []) : o ++ btw lo hi t = o2 ++ (if lo ≤ k ∧ k ≤ hi then [(k, v)] else []) ++ (if k < hi then btw lo hi b else []) := by
  rw [ht, btw_node hs, h, List.append_assoc, List.append_assoc]
set_option maxRecDepth 8192 in
theorem bl_full {g w : World} {L : List HP} (p a : Nat) (o : Kvs) (u : Option Addr) (d : Nat) (hl : o.length ≤ 1000000) (hS : St g (cel p #[.pointer (some ⟨a, 0, none⟩), .slice u (List.length (en2 o)) d, .int .i64 2147483647] 307 :: L) w) :
    Sp Tryz.prog 233 [.pointer (some ⟨p, 0, none⟩)] w (fun v w' => v = .bool false ∧ St g (cel p #[.pointer (some ⟨a, 0, none⟩), .slice u (List.length (en2 o)) d, .int .i64 2147483647] 307 :: L) w') := by
  refine Sp.enter Tryz.func233 rfl (by kernel_rfl) (by kernel_rfl) ?_
  have _ := hl
  refine WC.seq <| WC.region ?_
  have hol := en2_len o
  refine WL.r 1 rfl <| WL.nil <| WC.seq <| WC.plan [([0, 5, 1, 6, 2, 7, 3, 8, 4, 9, 10], none)] (by kernel_rfl) (by kernel_rfl) ?_
  refine WQ.run 11 [.slice u (List.length (en2 o)) d, .int .i64 2147483647] rfl (by exact ⟨hS.ld 0 rfl rfl, hS.ld 0 rfl rfl⟩) ?_
  refine WQ.nil ?_
  intro m1
  replace hS := hS.drewN m1; generalize hwm1 : World.drewN _ _ = w at *; clear hwm1
  refine WC.ret ?_
  refine ⟨[.bool (decide (2147483647 ≤ (List.length (en2 o) : Int)))], rfl, ?_⟩
  exact ⟨congrArg Value.bool (decide_eq_false (by omega)), hS⟩
set_option maxHeartbeats 1000000 in
set_option maxRecDepth 8192 in
theorem bl_keys_step (nM : Nat) (ih : ∀ mM : Nat, mM < nM → ∀ (g w : World) (L : List HP) (p a : Nat) (A : AM) (R : List Int) (i lo hi : Int) (o : Kvs) (u : Option Addr) (d : Nat) (t : Tr), (ARf A R) → (Is A t i) → (Srt t.ls) → (o.length + t.n ≤ 1000000) → t.n = mM → St g (cel p #[.pointer (some ⟨a, 0, none⟩), .slice u (List.length (en2 o)) d, .int .i64 2147483647] 307 :: Own 121 2 (en2 o) u d :: Arn a A :: L) w → Sp Tryz.prog 203 [.pointer (some ⟨p, 0, none⟩), .int .u32 i, .int .i64 lo, .int .i64 hi] w (fun v w' => ∃ (u2 : Option Addr) (d2 : Nat), v = .tuple #[] ∧ St g (cel p #[.pointer (some ⟨a, 0, none⟩), .slice u2 (List.length (en2 (o ++ btw lo hi t.ls))) d2, .int .i64 2147483647] 307 :: Own 121 2 (en2 (o ++ btw lo hi t.ls)) u2 d2 :: Arn a A :: L) w')) {g w : World} {L : List HP} (p a : Nat) (A : AM) (R : List Int) (i lo hi : Int) (o : Kvs) (u : Option Addr) (d : Nat) (t : Tr) (hA : ARf A R) (hi9 : Is A t i) (hs : Srt t.ls) (hl : o.length + t.n ≤ 1000000) (hM : t.n = nM) (hS : St g (cel p #[.pointer (some ⟨a, 0, none⟩), .slice u (List.length (en2 o)) d, .int .i64 2147483647] 307 :: Own 121 2 (en2 o) u d :: Arn a A :: L) w) :
    Sp Tryz.prog 203 [.pointer (some ⟨p, 0, none⟩), .int .u32 i, .int .i64 lo, .int .i64 hi] w (fun v w' => ∃ (u2 : Option Addr) (d2 : Nat), v = .tuple #[] ∧ St g (cel p #[.pointer (some ⟨a, 0, none⟩), .slice u2 (List.length (en2 (o ++ btw lo hi t.ls))) d2, .int .i64 2147483647] 307 :: Own 121 2 (en2 (o ++ btw lo hi t.ls)) u2 d2 :: Arn a A :: L) w') := by
  refine Sp.enter Tryz.func203 rfl (by kernel_rfl) (by kernel_rfl) ?_
  have _ := hl
  refine WC.seq <| WC.seq <| WC.region ?_
  have hx0 := Is.nil_iff hi9; have hol := en2_len o
  refine WL.r 3 rfl ?_
  by_cases cg1 : i = 0
  · refine WL.reb 12 (.bool true) (congrArg Value.bool (decide_eq_true cg1)) <| WL.skp rfl rfl rfl rfl <| WL.skp rfl rfl rfl rfl <| WL.r 1 rfl <| WL.nil <| WC.ifT rfl rfl <| WC.ret ?_
    refine ⟨[], trivial, ?_⟩
    have h9 := hx0.1 cg1; subst h9; rw [show o ++ btw lo hi Tr.nil.ls = o from List.append_nil _]; exact ⟨_, _, rfl, hS⟩
  · refine WL.reb 12 (.bool false) (congrArg Value.bool (decide_eq_false cg1)) <| WL.ung rfl rfl rfl <| WL.r 1 rfl <| WL.ung rfl rfl rfl <| WL.call rfl rfl (bl_full (a := a) (o := o) (u := u) (d := d) (hl := (by omega)) (hS := hS)) rfl ?_
    clear hS; rintro _ w ⟨rfl, hS⟩
    replace hS := hS.n3 L rfl
    refine WL.r 1 rfl <| WL.nil <| WC.ifF rfl rfl <| WC.skip <| WC.seq <| WC.region ?_
    obtain ⟨tl, k, z, tr, ht⟩ := nil_or (t := t) (fun e => cg1 (hx0.2 e)); have htn : t.n = tl.n + tr.n + 1 := (by rw [ht]; rfl); have hi2 : Is A (.node tl k z tr) i := ht ▸ hi9; have hls : t.ls = tl.ls ++ ((A.nd i).key, (A.nd i).val) :: tr.ls := (by rw [ht, hi2.2.2.1, hi2.2.2.2.1]; rfl); have hl7 := hi2.2.2.2.2.1; have hr7 := hi2.2.2.2.2.2; have hri := hA.okrng hi9.ref; have hlr := hA.okrng hl7.ref; have hrr := hA.okrng hr7.ref; have hs2 := hs; rw [hls] at hs2; have hs7 := Srt.app hs2; have hs8 := (List.pairwise_cons.1 hs7.2.1).2; have hbl := List.length_filter_le (inK lo hi) tl.ls; have htl := Tr.ls_len tl; have htr := Tr.ls_len tr
    refine WL.run 5 [.pointer (some ⟨a, 0, none⟩)] rfl (by exact hS.ld 0 rfl rfl) ?_
    refine WL.call rfl rfl (ar_node (i := i) (hA := hA.toAWf) (hi := (by omega)) (hio := hi2.2.1) (hS := (hS.sel 3 [2, 0, 0] rfl))) rfl ?_
    clear hS; rintro _ w ⟨rfl, hS⟩
    replace hS := hS.n3 L rfl
    refine WL.r 3 rfl <| WL.new rfl rfl zv_172 hS (fun b1 w hS => ?_)
    refine WL.stF rfl rfl rfl 0 hS rfl rfl rfl rfl rfl ag_172 (fun w hS => ?_)
    replace hS := hS.n4 L (a0 := cel b1 #[.int .i64 (A.nd i).key, .int .i64 (A.nd i).val, .int .u32 (A.nd i).lf, .int .u32 (A.nd i).rg, .int .i64 (A.nd i).size, .int .i64 (A.nd i).sum, .int .i64 (A.nd i).mn, .int .i64 (A.nd i).mx] 172) rfl
    refine WL.r 1 rfl <| WL.nil ?_
    as_aux_lemma =>
    refine WC.seq <| WC.seq <| WC.region <| WL.r 2 rfl <| WL.nil <| WC.ifF rfl rfl <| WC.skip <| WC.seq <| WC.seq <| WC.region <| WL.run 4 [.int .i64 (A.nd i).key] rfl (by exact hS.ld 0 rfl rfl) ?_
    refine WL.nil <| WC.cut [0, 2, 3, 8] (fun vs w => ∃ (o2 : Kvs) (u2 : Option Addr) (d2 : Nat), vs = [.pointer (some ⟨p, 0, none⟩), .int .i64 lo, .int .i64 hi, .pointer (some ⟨b1, 0, none⟩)] ∧ St g (cel b1 #[.int .i64 (A.nd i).key, .int .i64 (A.nd i).val, .int .u32 (A.nd i).lf, .int .u32 (A.nd i).rg, .int .i64 (A.nd i).size, .int .i64 (A.nd i).sum, .int .i64 (A.nd i).mn, .int .i64 (A.nd i).mx] 172 :: Arn a A :: cel p #[.pointer (some ⟨a, 0, none⟩), .slice u2 (List.length (en2 o2)) d2, .int .i64 2147483647] 307 :: Own 121 2 (en2 o2) u2 d2 :: L) w ∧ (o2 = o ++ if lo < (A.nd i).key then btw lo hi tl.ls else []) ∧ (o2.length + tr.n + 1 ≤ 1000000)) ?_ ?_
    · refine WC.ifP rfl (fun cd1 => ?_) (fun cd1 => ?_)
      · refine WC.region <| WL.run 5 [.int .u32 (A.nd i).lf] rfl (by exact hS.ld 0 rfl rfl) ?_
        refine WL.call rfl rfl (ih (tl.n) (by omega) _ _ _ p a A R (A.nd i).lf lo hi o u d tl (hA) (hl7) (hs7.1) ((by omega)) rfl (hS.sel 4 [2, 2, 1, 0] rfl)) rfl ?_
        clear hS; rintro _ w ⟨u1, d1, rfl, hS⟩
        replace hS := hS.n4 L (a0 := cel p #[.pointer (some ⟨a, 0, none⟩), .slice u1 (List.length (en2 (o ++ btw lo hi tl.ls))) d1, .int .i64 2147483647] 307) (a1 := Own 121 2 (en2 (o ++ btw lo hi tl.ls)) u1 d1) rfl
        refine WL.nil ?_
        exact ⟨o ++ btw lo hi tl.ls, u1, d1, rfl, (hS.sel 4 [3, 2, 0, 0] rfl), (by rw [if_pos cd1]), (by rw [List.length_append]; unfold btw; omega)⟩
      · refine WC.skip ?_
        exact ⟨o, u, d, rfl, hS, (by rw [if_neg cd1, List.append_nil]), (by omega)⟩
    clear hS; rintro _ w j ⟨o2, u2, d2, rfl, hS, ho2, hol2⟩
    refine WC.seq <| WC.seq <| WC.region ?_
    have hol3 := en2_len o2; have hbt := bt_node hs2 hls ho2
    refine WL.run 5 [.int .i64 (A.nd i).key] rfl (by exact hS.ld 0 rfl rfl) ?_
    by_cases cg2 : lo ≤ (A.nd i).key
    · refine WL.reb 41 (.bool true) (congrArg Value.bool (decide_eq_true cg2)) <| WL.ung rfl rfl rfl <| WL.r 1 rfl <| WL.ung rfl rfl rfl <| WL.run 1 [.int .i64 (A.nd i).key] rfl (by exact hS.ld 0 rfl rfl) ?_
      refine WL.ung rfl rfl rfl <| WL.r 1 rfl <| WL.ung rfl rfl rfl <| WL.r 3 rfl ?_
      by_cases cg3 : (A.nd i).key ≤ hi
      · refine WL.reb 47 (.bool true) (congrArg Value.bool (decide_eq_true cg3)) <| WL.ung rfl rfl rfl <| WL.r 1 rfl <| WL.ung rfl rfl rfl <| WL.call rfl rfl (bl_full (a := a) (o := o2) (u := u2) (d := d2) (hl := (by omega)) (hS := (hS.sel 3 [2, 0, 0] rfl))) rfl ?_
        clear hS; rintro _ w ⟨rfl, hS⟩
        replace hS := hS.n4 L rfl
        refine WL.ung rfl rfl rfl <| WL.r 2 rfl <| WL.nil ?_
        as_aux_lemma =>
        refine WC.ifT rfl rfl <| WC.plan [([0, 1, 5, 7, 2, 6, 8, 3, 4], some (9, [0, 1, 2, 3, 4])), ([], some (10, [0, 1, 2, 3, 4])), ([], some (11, [0])), ([12, 13], some (14, []))] (by kernel_rfl) (by kernel_rfl) ?_
        refine WQ.run 9 [.int .i64 (A.nd i).key, .int .i64 (A.nd i).val, .slice u2 (List.length (en2 o2)) d2] rfl (by exact ⟨hS.ld 1 rfl rfl, hS.ld 1 rfl rfl, hS.ld 0 rfl rfl⟩) ?_
        refine WQ.nil ?_
        intro m1
        replace hS := hS.drewN m1; generalize hwm1 : World.drewN _ _ = w at *; clear hwm1
        refine WL.build rfl rfl (cs := [.int .i64 (A.nd i).key, .int .i64 (A.nd i).val]) zv_121 rfl rfl <| WL.nil ?_
        refine ⟨by exact ⟨RQ.pure rfl rfl rfl rfl, RQ.pure rfl rfl rfl rfl, RQ.pure rfl rfl rfl rfl, RQ.pure rfl rfl rfl rfl, RQ.load rfl rfl rfl rfl (hS.ld 0 rfl rfl)⟩, ?_⟩
        refine WQ.nil ?_
        intro m2
        replace hS := hS.drewN m2; generalize hwm2 : World.drewN _ _ = w at *; clear hwm2
        refine WL.lit rfl rfl (en2 [((A.nd i).key, (A.nd i).val)]) el_49 hS (by exact ⟨rfl, rfl⟩) (en2_ok _) rfl (Nat.le_of_ble_eq_true rfl) (fun b2 w hS => ?_)
        refine WL.nil ?_
        refine ⟨by exact ⟨RQ.pure rfl rfl rfl rfl, RQ.pure rfl rfl rfl rfl, RQ.pure rfl rfl rfl rfl, RQ.pure rfl rfl rfl rfl, RQ.load rfl rfl rfl rfl (hS.ld 1 rfl rfl)⟩, ?_⟩
        refine WQ.nil ?_
        intro m3
        replace hS := hS.drewN m3; generalize hwm3 : World.drewN _ _ = w at *; clear hwm3
        refine WL.app rfl rfl 4 (en2 (o2 ++ [((A.nd i).key, (A.nd i).val)])) el_49 hS rfl (hS.srcO 0 rfl) (en2_app _ _).symm (Rm.of (by first | omega | (simp <;> omega)) (by decide)) rfl rfl (fun a1 c1 w hS => ?_)
        replace hS := hS.n5 L (a0 := Own 121 2 (en2 [((A.nd i).key, (A.nd i).val)]) (some ⟨b2, 0, none⟩) (List.length (en2 [((A.nd i).key, (A.nd i).val)]))) (a4 := Own 121 2 (en2 (o2 ++ [((A.nd i).key, (A.nd i).val)])) a1 c1) rfl
        refine WL.nil ?_
        refine ⟨by exact RQ.pure rfl rfl rfl rfl, ?_⟩
        refine WQ.r 2 rfl <| WQ.nil ?_
        intro m4
        replace hS := hS.drewN m4; generalize hwm4 : World.drewN _ _ = w at *; clear hwm4
        refine WL.st rfl rfl rfl 1 hS rfl rfl rfl rfl rfl rfl (fun w hS => ?_)
        replace hS := hS.n5 L (a1 := cel p #[.pointer (some ⟨a, 0, none⟩), .slice a1 (List.length (en2 (o2 ++ [((A.nd i).key, (A.nd i).val)]))) c1, .int .i64 2147483647] 307) rfl
        refine WL.nil ?_
        refine ⟨by exact trivial, ?_⟩
        intro m5
        replace hS := hS.drewN m5; generalize hwm5 : World.drewN _ _ = w at *; clear hwm5
        as_aux_lemma =>
        refine WC.seq <| WC.region <| WL.run 4 [.int .i64 (A.nd i).key] rfl (by exact hS.ld 2 rfl rfl) ?_
        refine WL.nil <| WC.ifP rfl (fun hlt => ?_) (fun hlt => ?_)
        · refine WC.region <| WL.run 5 [.int .u32 (A.nd i).rg] rfl (by exact hS.ld 2 rfl rfl) ?_
          refine WL.call rfl rfl (ih (tr.n) (by omega) _ _ _ p a A R (A.nd i).rg lo hi (o2 ++ [((A.nd i).key, (A.nd i).val)]) a1 c1 tr (hA) (hr7) (hs8) ((by first | omega | (rw [List.length_append]; simp only [List.length_singleton]; omega))) rfl (hS.sel 5 [1, 3, 2, 0, 0] rfl)) rfl ?_
          clear hS; rintro _ w ⟨u1, d1, rfl, hS⟩
          replace hS := hS.n5 L (a0 := cel p #[.pointer (some ⟨a, 0, none⟩), .slice u1 (List.length (en2 ((o2 ++ [((A.nd i).key, (A.nd i).val)]) ++ btw lo hi tr.ls))) d1, .int .i64 2147483647] 307) (a1 := Own 121 2 (en2 ((o2 ++ [((A.nd i).key, (A.nd i).val)]) ++ btw lo hi tr.ls)) u1 d1) rfl
          refine WL.nil ?_
          refine ⟨[], trivial, ?_⟩
          replace hS := (hS.sel 5 [0, 0, 0] rfl)
          rw [hbt, if_pos ⟨cg2, cg3⟩, if_pos hlt]; exact ⟨_, _, rfl, hS⟩
        · refine WC.skip ?_
          refine ⟨[], trivial, ?_⟩
          replace hS := (hS.sel 5 [1, 3, 2] rfl)
          rw [hbt, if_pos ⟨cg2, cg3⟩, if_neg hlt, List.append_nil]; exact ⟨_, _, rfl, hS⟩
      · refine WL.reb 47 (.bool false) (congrArg Value.bool (decide_eq_false cg3)) <| WL.skp rfl rfl rfl rfl <| WL.skp rfl rfl rfl rfl <| WL.skp rfl rfl rfl rfl <| WL.r 1 rfl <| WL.nil ?_
        as_aux_lemma =>
        refine WC.ifF rfl rfl <| WC.skip <| WC.seq <| WC.region <| WL.run 4 [.int .i64 (A.nd i).key] rfl (by exact hS.ld 0 rfl rfl) ?_
        refine WL.nil <| WC.ifP rfl (fun hlt => ?_) (fun hlt => ?_)
        · refine WC.region <| WL.run 5 [.int .u32 (A.nd i).rg] rfl (by exact hS.ld 0 rfl rfl) ?_
          refine WL.call rfl rfl (ih (tr.n) (by omega) _ _ _ p a A R (A.nd i).rg lo hi o2 u2 d2 tr (hA) (hr7) (hs8) ((by first | omega | (rw [List.length_append]; simp only [List.length_singleton]; omega))) rfl (hS.sel 4 [2, 2, 1, 0] rfl)) rfl ?_
          clear hS; rintro _ w ⟨u1, d1, rfl, hS⟩
          replace hS := hS.n4 L (a0 := cel p #[.pointer (some ⟨a, 0, none⟩), .slice u1 (List.length (en2 (o2 ++ btw lo hi tr.ls))) d1, .int .i64 2147483647] 307) (a1 := Own 121 2 (en2 (o2 ++ btw lo hi tr.ls)) u1 d1) rfl
          refine WL.nil ?_
          refine ⟨[], trivial, ?_⟩
          replace hS := (hS.sel 4 [0, 0, 0] rfl)
          rw [hbt, if_neg (fun h => cg3 h.2), if_pos hlt, List.append_nil]; exact ⟨_, _, rfl, hS⟩
        · refine WC.skip ?_
          refine ⟨[], trivial, ?_⟩
          replace hS := (hS.sel 4 [2, 2, 1] rfl)
          rw [hbt, if_neg (fun h => cg3 h.2), if_neg hlt, List.append_nil, List.append_nil]; exact ⟨_, _, rfl, hS⟩
    · refine WL.reb 41 (.bool false) (congrArg Value.bool (decide_eq_false cg2)) <| WL.skp rfl rfl rfl rfl <| WL.skp rfl rfl rfl rfl <| WL.skp rfl rfl rfl rfl <| WL.skp rfl rfl rfl rfl <| WL.r 2 rfl <| WL.skp rfl rfl rfl rfl <| WL.skp rfl rfl rfl rfl <| WL.skp rfl rfl rfl rfl <| WL.r 1 rfl <| WL.nil ?_
      as_aux_lemma =>
      refine WC.ifF rfl rfl <| WC.skip <| WC.seq <| WC.region <| WL.run 4 [.int .i64 (A.nd i).key] rfl (by exact hS.ld 0 rfl rfl) ?_
      refine WL.nil <| WC.ifP rfl (fun hlt => ?_) (fun hlt => ?_)
      · refine WC.region <| WL.run 5 [.int .u32 (A.nd i).rg] rfl (by exact hS.ld 0 rfl rfl) ?_
        refine WL.call rfl rfl (ih (tr.n) (by omega) _ _ _ p a A R (A.nd i).rg lo hi o2 u2 d2 tr (hA) (hr7) (hs8) ((by first | omega | (rw [List.length_append]; simp only [List.length_singleton]; omega))) rfl (hS.sel 4 [2, 2, 1, 0] rfl)) rfl ?_
        clear hS; rintro _ w ⟨u1, d1, rfl, hS⟩
        replace hS := hS.n4 L (a0 := cel p #[.pointer (some ⟨a, 0, none⟩), .slice u1 (List.length (en2 (o2 ++ btw lo hi tr.ls))) d1, .int .i64 2147483647] 307) (a1 := Own 121 2 (en2 (o2 ++ btw lo hi tr.ls)) u1 d1) rfl
        refine WL.nil ?_
        refine ⟨[], trivial, ?_⟩
        replace hS := (hS.sel 4 [0, 0, 0] rfl)
        rw [hbt, if_neg (fun h => cg2 h.1), if_pos hlt, List.append_nil]; exact ⟨_, _, rfl, hS⟩
      · refine WC.skip ?_
        refine ⟨[], trivial, ?_⟩
        replace hS := (hS.sel 4 [2, 2, 1] rfl)
        rw [hbt, if_neg (fun h => cg2 h.1), if_neg hlt, List.append_nil, List.append_nil]; exact ⟨_, _, rfl, hS⟩
theorem bl_keys_all (nM : Nat) : ∀ (g w : World) (L : List HP) (p a : Nat) (A : AM) (R : List Int) (i lo hi : Int) (o : Kvs) (u : Option Addr) (d : Nat) (t : Tr), (ARf A R) → (Is A t i) → (Srt t.ls) → (o.length + t.n ≤ 1000000) → t.n = nM → St g (cel p #[.pointer (some ⟨a, 0, none⟩), .slice u (List.length (en2 o)) d, .int .i64 2147483647] 307 :: Own 121 2 (en2 o) u d :: Arn a A :: L) w → Sp Tryz.prog 203 [.pointer (some ⟨p, 0, none⟩), .int .u32 i, .int .i64 lo, .int .i64 hi] w (fun v w' => ∃ (u2 : Option Addr) (d2 : Nat), v = .tuple #[] ∧ St g (cel p #[.pointer (some ⟨a, 0, none⟩), .slice u2 (List.length (en2 (o ++ btw lo hi t.ls))) d2, .int .i64 2147483647] 307 :: Own 121 2 (en2 (o ++ btw lo hi t.ls)) u2 d2 :: Arn a A :: L) w') := by
  induction nM using Nat.strongRecOn with
  | _ nM ih => intro g w L p a A R i lo hi o u d t hA hi9 hs hl hM hS; exact bl_keys_step nM ih p a A R i lo hi o u d t hA hi9 hs hl hM hS
theorem bl_keys {g w : World} {L : List HP} (p a : Nat) (A : AM) (R : List Int) (i lo hi : Int) (o : Kvs) (u : Option Addr) (d : Nat) (t : Tr) (hA : ARf A R) (hi9 : Is A t i) (hs : Srt t.ls) (hl : o.length + t.n ≤ 1000000) (hS : St g (cel p #[.pointer (some ⟨a, 0, none⟩), .slice u (List.length (en2 o)) d, .int .i64 2147483647] 307 :: Own 121 2 (en2 o) u d :: Arn a A :: L) w) :
    Sp Tryz.prog 203 [.pointer (some ⟨p, 0, none⟩), .int .u32 i, .int .i64 lo, .int .i64 hi] w (fun v w' => ∃ (u2 : Option Addr) (d2 : Nat), v = .tuple #[] ∧ St g (cel p #[.pointer (some ⟨a, 0, none⟩), .slice u2 (List.length (en2 (o ++ btw lo hi t.ls))) d2, .int .i64 2147483647] 307 :: Own 121 2 (en2 (o ++ btw lo hi t.ls)) u2 d2 :: Arn a A :: L) w') := bl_keys_all _ g w L p a A R i lo hi o u d t hA hi9 hs hl rfl hS
set_option maxRecDepth 8192 in
theorem bk_range {g w : World} {L : List HP} (a : Nat) (A : AM) (R : List Int) (i lo hi : Int) (t : Tr) (hA : ARf A R) (hi9 : Is A t i) (hs : Srt t.ls) (hl : t.n ≤ 100000) (hle : lo ≤ hi) (hS : St g (Arn a A :: L) w) :
    Sp Tryz.prog 166 [.pointer (some ⟨a, 0, none⟩), .int .u32 i, .int .i64 lo, .int .i64 hi, .int .i64 2147483647] w (fun v w' => ∃ (u2 : Option Addr) (d2 : Nat), v = .slice u2 (List.length (en2 (btw lo hi t.ls))) d2 ∧ St g (Own 121 2 (en2 (btw lo hi t.ls)) u2 d2 :: Arn a A :: L) w') := by
  refine Sp.enter Tryz.func166 rfl (by kernel_rfl) (by kernel_rfl) ?_
  have _ := hle
  have _ := hl
  refine WC.seq <| WC.region <| WL.r 1 rfl <| WL.nil <| WC.seq <| WC.seq <| WC.region <| WL.r 2 rfl <| WL.rG 5 rfl (fun j => ?_)
  refine WL.prop 18 rfl (bor (dd _) (dd _)) <| WL.nil <| WC.ifF rfl (decide_eq_false ((by omega))) ?_
  refine WC.skip <| WC.seq <| WC.region <| WL.r 2 rfl <| WL.build rfl rfl (cs := [.pointer (some ⟨a, 0, none⟩), .slice none 0 0, .int .i64 2147483647]) zv_307 rfl rfl <| WL.box rfl rfl #[.pointer (some ⟨a, 0, none⟩), .slice none 0 0, .int .i64 2147483647] hS rfl rfl (fun b1 w hS => ?_)
  refine WL.r 1 rfl <| WL.nil <| WC.seq <| WC.region ?_
  replace hS : St g (Own 121 2 (en2 []) none 0 :: cel b1 #[.pointer (some ⟨a, 0, none⟩), .slice none 0 0, .int .i64 2147483647] 307 :: Arn a A :: L) w := hS.nil_ 121 2
  refine WL.r 4 rfl <| WL.call rfl rfl (bl_keys (R := R) (i := i) (lo := lo) (hi := hi) (o := []) (t := t) (hA := hA) (hi9 := hi9) (hs := hs) (hl := (by simp; omega)) (hS := (hS.sel 2 [1, 0] rfl))) rfl ?_
  clear hS; rintro _ w ⟨u1, d1, rfl, hS⟩
  replace hS := hS.n3 L (a0 := cel b1 #[.pointer (some ⟨a, 0, none⟩), .slice u1 (List.length (en2 ([] ++ btw lo hi t.ls))) d1, .int .i64 2147483647] 307) (a1 := Own 121 2 (en2 ([] ++ btw lo hi t.ls)) u1 d1) rfl
  refine WL.nil ?_
  as_aux_lemma =>
  refine WC.seq <| WC.region <| WL.run 5 [.slice u1 (List.length (en2 ([] ++ btw lo hi t.ls))) d1] rfl (by exact hS.ld 0 rfl rfl) ?_
  refine WL.nil <| WC.ret ?_
  refine ⟨[.slice u1 (List.length (en2 ([] ++ btw lo hi t.ls))) d1], rfl, ?_⟩
  replace hS := (hS.sel 1 [] rfl)
  exact ⟨_, _, rfl, hS⟩
theorem rng_cmp (x y : Int × Int) (W : World) : Calls Tryz.prog 168 #[.agg #[.int .i64 x.1, .int .i64 x.2], .agg #[.int .i64 y.1, .int .i64 y.2]] W fun e w' => e = .returned (.int .i64 (kvC x y)) ∧ ∃ q os', w' = grow (W.drewN q) os' := by
  unfold kvC
  go_enter Tryz.func168, Tryz.ntmps168
  go_wp2
  all_goals (go_ret; exact ⟨rfl, 0, _, by rw [alloc_eq_grow, alloc_eq_grow, grow_grow]; rfl⟩)
theorem rng_lays (blk off size : Nat) (w : World) : CmpLays Tryz.prog 168 #[] kv2 2 kvC blk off size w := fun _ _ _ _ x y => rng_cmp x y _
set_option maxRecDepth 8192 in
theorem len64_0 {g w : World} {L : List HP} (hS : St g (L) w) :
    Sp Tryz.prog 232 [.int .u64 0] w (fun v w' => v = .int .i64 0 ∧ St g (L) w') := by
  refine Sp.enter Tryz.func232 rfl (by kernel_rfl) (by kernel_rfl) ?_
  refine WC.seq <| WC.region <| WL.r 1 rfl <| WL.nil <| WC.seq <| WC.seq <| WC.region <| WL.r 2 rfl <| WL.nil <| WC.ifF rfl (decide_eq_false ((by decide))) ?_
  refine WC.skip <| WC.seq <| WC.seq <| WC.region <| WL.r 2 rfl <| WL.nil <| WC.ifF rfl (decide_eq_false ((by decide))) ?_
  refine WC.skip <| WC.seq <| WC.seq <| WC.region <| WL.r 2 rfl <| WL.nil <| WC.ifF rfl (decide_eq_false ((by decide))) ?_
  refine WC.skip ?_
  as_aux_lemma =>
  refine WC.seq <| WC.region <| WL.r 3 rfl <| WL.reb 21 (.int .u8 0) (congrArg (Value.int .u8) (by rfl)) ?_
  refine WL.ixs rfl rfl (v := 0) (0) rfl rfl rfl (by omega) (show (sb _)[0]? = some 0 from rfl) ?_
  refine WL.r 1 rfl <| WL.reb 23 (.int .i64 0) (congrArg (Value.int .i64) (by rfl)) ?_
  refine WL.r 1 rfl <| WL.reb 24 (.int .i64 0) (congrArg (Value.int .i64) (by decide)) ?_
  refine WL.r 1 rfl <| WL.nil <| WC.ret ?_
  refine ⟨[.int .i64 0], rfl, ?_⟩
  exact ⟨rfl, hS⟩
set_option maxRecDepth 8192 in
theorem len_0 {g w : World} {L : List HP} (hS : St g (L) w) :
    Sp Tryz.prog 198 [.int .u64 0] w (fun v w' => v = .int .i64 0 ∧ St g (L) w') := by
  refine Sp.enter Tryz.func198 rfl (by kernel_rfl) (by kernel_rfl) ?_
  refine WC.seq <| WC.region <| WL.r 1 rfl <| WL.nil <| WC.seq <| WC.ifF rfl rfl <| WC.skip <| WC.seq <| WC.region <| WL.r 1 rfl <| WL.call rfl rfl (len64_0   (hS := hS)) rfl ?_
  clear hS; rintro _ w ⟨rfl, hS⟩
  replace hS : St g (L) w := hS
  refine WL.r 1 rfl <| WL.nil <| WC.ret ?_
  refine ⟨[.int .i64 0], rfl, ?_⟩
  exact ⟨rfl, hS⟩
set_option maxRecDepth 8192 in
theorem ins_0 {g w : World} {L : List HP} (hS : St g (L) w) :
    Sp Tryz.prog 234 [.slice none 0 0, .int .i64 0, .int .i64 0, .func (.func 168) #[] #[]] w (fun v w' => v = .tuple #[] ∧ St g (L) w') := by
  refine Sp.enter Tryz.func234 rfl (by kernel_rfl) (by kernel_rfl) ?_
  refine WC.seq <| WC.region <| WL.r 2 rfl <| WL.reb 11 (.int .i64 1) (congrArg (Value.int .i64) (by decide)) ?_
  refine WL.r 1 rfl <| WL.nil <| WC.block <| WC.loop [0, 1, 2, 3, 8] (fun kM vs w => vs = [.slice none 0 0, .int .i64 0, .int .i64 0, .func (.func 168) #[] #[], .int .i64 1] ∧ St g (L) w ∧ (0) = kM) (0) ⟨rfl, hS, rfl⟩ ?_
  clear hS; rintro _ _ w j ⟨rfl, hS, rfl⟩
  refine WC.seq <| WC.seq <| WC.region <| WL.r 3 rfl <| WL.nil <| WC.ifF rfl (decide_eq_false ((by decide))) ?_
  refine WC.exit ?_
  refine ⟨[], trivial, ?_⟩
  exact ⟨rfl, hS⟩
set_option maxRecDepth 8192 in
theorem pdq_0 {g w : World} {L : List HP} (hS : St g (L) w) :
    Sp Tryz.prog 204 [.slice none 0 0, .int .i64 0, .int .i64 0, .int .i64 0, .func (.func 168) #[] #[]] w (fun v w' => v = .tuple #[] ∧ St g (L) w') := by
  refine Sp.enter Tryz.func204 rfl (by kernel_rfl) (by kernel_rfl) ?_
  refine WC.seq <| WC.region <| WL.r 1 rfl <| WL.nil <| WC.seq <| WC.region <| WL.r 1 rfl <| WL.nil <| WC.block <| WC.loop [0, 1, 2, 4] (fun kM vs w => vs = [.slice none 0 0, .int .i64 0, .int .i64 0, .func (.func 168) #[] #[]] ∧ St g (L) w ∧ (0) = kM) (0) ⟨rfl, hS, rfl⟩ ?_
  clear hS; rintro _ _ w j ⟨rfl, hS, rfl⟩
  refine WC.block <| WC.seq <| WC.region <| WL.r 3 rfl <| WL.reb 23 (.int .i64 0) (congrArg (Value.int .i64) (by decide)) ?_
  refine WL.r 1 rfl <| WL.nil <| WC.seq <| WC.seq <| WC.region <| WL.r 2 rfl <| WL.nil <| WC.ifT rfl (decide_eq_true ((by decide))) ?_
  refine WC.seq <| WC.region <| WL.r 4 rfl <| WL.call rfl rfl (ins_0   (hS := hS)) rfl ?_
  clear hS; rintro _ w ⟨rfl, hS⟩
  replace hS : St g (L) w := hS
  refine WL.nil ?_
  as_aux_lemma =>
  refine WC.ret ?_
  refine ⟨[], trivial, ?_⟩
  exact ⟨rfl, hS⟩
set_option maxRecDepth 8192 in
theorem sortF_0 {g w : World} {L : List HP} (hS : St g (L) w) :
    Sp Tryz.prog 167 [.slice none 0 0, .func (.func 168) #[] #[]] w (fun v w' => v = .tuple #[] ∧ St g (L) w') := by
  refine Sp.enter Tryz.func167 rfl (by kernel_rfl) (by kernel_rfl) ?_
  refine WC.seq <| WC.region <| WL.r 3 rfl <| WL.nil <| WC.region <| WL.r 4 rfl <| WL.nw 10 rfl (wu64 (by omega)) ?_
  refine WL.call rfl rfl (len_0   (hS := hS)) rfl ?_
  clear hS; rintro _ w ⟨rfl, hS⟩
  replace hS : St g (L) w := hS
  refine WL.r 1 rfl <| WL.call rfl rfl (pdq_0   (hS := hS)) rfl ?_
  clear hS; rintro _ w ⟨rfl, hS⟩
  replace hS : St g (L) w := hS
  refine WL.nil ?_
  refine ⟨[], trivial, ?_⟩
  exact ⟨rfl, hS⟩
theorem perm_of_in {ls : Kvs} {d' : Array (Int × Int)} (hp : PermIn 0 ls.toArray.size ls.toArray d') : d'.toList.Perm ls ∧ d'.toList.length = ls.length := by
  obtain ⟨h1, _, h3⟩ := hp
  have e1 : (d'.extract 0 ls.toArray.size) = d' := by rw [← h1]; simp
  rw [e1] at h3
  simp at h3
  exact ⟨h3, by rw [h3.length_eq]⟩
theorem sort_of_in {d' : Array (Int × Int)} {n : Nat} (hn : d'.size = n) (hs : SortedIn (ltOf kvC) 0 n d') : ∀ i j (hi : i < d'.toList.length) (hj : j < d'.toList.length), i < j → ¬ d'.toList[j].1 < d'.toList[i].1 := fun i j hi hj hij h => by
  rw [Array.length_toList] at hi hj
  have h1 := hs i j (Nat.zero_le _) hij (by omega)
  rw [kvLt, decide_eq_false_iff_not, getElem!_pos d' j hj, getElem!_pos d' i hi] at h1
  exact h1 (by simpa using h)
set_option maxRecDepth 8192 in
theorem srt_spec {g w : World} {L : List HP} (ls : Kvs) (u : Option Addr) (d : Nat) (hk : ls.Pairwise fun a b => a.1 ≠ b.1) (hl : ls.length ≤ 1000000) (hS : St g (Own 121 2 (en2 ls) u d :: L) w) :
    Sp Tryz.prog 167 [.slice u (List.length (en2 ls)) d, .func (.func 168) #[] #[]] w (fun v w' => ∃ (ts : Kvs), v = .tuple #[] ∧ St g (Own 121 2 (en2 ts) u d :: L) w' ∧ (Srt ts) ∧ (ts.Perm ls)) := by
  by_cases h0 : ls = [] ∧ u = none
  · obtain ⟨rfl, rfl⟩ := h0
    obtain ⟨o1, r, ⟨_, h2⟩, _, _⟩ := hS.get 0 rfl
    have hd : d = 0 := by
      rcases h2 with ⟨_, h3, _⟩ | ⟨_, _, h3, _⟩
      · exact h3
      · cases h3
    subst hd
    refine (sortF_0 hS).mono fun v w' ⟨hv, h⟩ => ⟨[], hv, h, List.Pairwise.nil, List.Perm.refl _⟩
  · obtain ⟨b, rfl⟩ : ∃ b, u = some ⟨b, 0, none⟩ := by
      obtain ⟨o1, r, ⟨_, h2⟩, _, _⟩ := hS.get 0 rfl
      rcases h2 with ⟨h3, _, h4⟩ | ⟨b, _, h3, _⟩
      · exact absurd ⟨by simpa [en2] using h4, h3⟩ h0
      · exact ⟨b, h3⟩
    obtain ⟨hH, hb⟩ := hS.holdsK 0 rfl
    have h := AnyQ.slices_SortFunc Tryz.srtE 2 Tryz.isAgg121 Tryz.sizeOf121 kv2 (fun _ => rfl) (fun x v hv => by simp [kv2] at hv; rcases hv with rfl | rfl <;> rfl) kvC kvSwo 168 #[] b 0 d ls.toArray w (enters_of Tryz.func168 (by kernel_rfl) rfl) (rng_lays b 0 _ w) hH hb (by simp; omega)
    have he : #[.slice (some ⟨b, 0, none⟩) ls.toArray.size d, .func (.func 168) #[] #[]] = #[Value.slice (some ⟨b, 0, none⟩) (en2 ls).length d, .func (.func 168) #[] #[]] := by rw [en2_len]; simp
    rw [he] at h
    refine ⟨⟨_, _, Tryz.func167, by kernel_rfl, rfl⟩, h.mono fun e w' ⟨he, d', n, os, hp, hs, hw⟩ => ⟨_, he, ?_⟩⟩
    subst hw
    obtain ⟨h1, h2⟩ := perm_of_in hp
    have h3 := hS.putK d'.toList h2 n os
    exact ⟨d'.toList, rfl, h3, srt_of_perm hk h1 (sort_of_in (by rw [← Array.length_toList, h2]; simp) hs), h1⟩
def wIn (lo hi : Int) (x : WE) : Bool := x.p && (decide (lo ≤ x.k) && decide (x.k ≤ hi))
def wOut (lo hi : Int) (ds : List WE) : Kvs := (ds.filter (wIn lo hi)).map fun x => (x.k, x.v)
def lft (xs ds : List WE) : List WE := xs.filter fun x => !ds.any fun y => decide (y.b = x.b)
structure DsI (xs ds : List WE) : Prop where
  sub : ∀ x ∈ ds, x ∈ xs
  uniq : ds.Pairwise fun a b => a.k ≠ b.k
  len : ds.length + (lft xs ds).length ≤ xs.length
theorem DsI.nil (xs : List WE) : DsI xs [] := ⟨fun _ h => (by cases h), List.Pairwise.nil, by rw [List.length_nil, Nat.zero_add]; exact List.length_filter_le _ _⟩
theorem lft_lt {xs ds : List WE} {x : WE} (hx : x ∈ xs) (hn : ∀ y ∈ ds, y.b ≠ x.b) : (lft xs (ds ++ [x])).length < (lft xs ds).length := by
  refine filter_lt _ _ (fun y hy => ?_) x ?_ ?_ xs hx
  · simp only [Bool.not_eq_true', List.any_append, Bool.or_eq_false_iff] at hy ⊢
    exact hy.1
  · simp only [Bool.not_eq_true', List.any_eq_false, decide_eq_true_eq]
    exact hn
  · simp
theorem DsI.snoc {xs ds : List WE} {x : WE} (h : DsI xs ds) (hu : xs.Pairwise fun a b => a.k ≠ b.k) (hx : x ∈ xs) (hn : ∀ y ∈ ds, y.b ≠ x.b) : DsI xs (ds ++ [x]) := by
  refine ⟨fun y hy => ?_, List.pairwise_append.2 ⟨h.uniq, List.pairwise_singleton _ _, fun a ha b hb => ?_⟩, ?_⟩
  · rcases List.mem_append.1 hy with hy | hy
    · exact h.sub y hy
    · rw [List.mem_singleton.1 hy]; exact hx
  · rw [List.mem_singleton.1 hb]
    intro he
    obtain ⟨i, hi⟩ := List.mem_iff_getElem?.1 (h.sub a ha)
    obtain ⟨j, hj⟩ := List.mem_iff_getElem?.1 hx
    obtain ⟨hi1, hi2⟩ := List.getElem?_eq_some_iff.1 hi
    obtain ⟨hj1, hj2⟩ := List.getElem?_eq_some_iff.1 hj
    rcases Nat.lt_trichotomy i j with hlt | heq | hgt
    · have := List.pairwise_iff_getElem.1 hu i j hi1 hj1 hlt
      rw [hi2, hj2] at this; exact this he
    · subst heq
      rw [hi] at hj
      exact hn a ha (by rw [Option.some.inj hj])
    · have := List.pairwise_iff_getElem.1 hu j i hj1 hi1 hgt
      rw [hi2, hj2] at this; exact this he.symm
  · have h1 := lft_lt hx hn
    have h2 := h.len
    rw [List.length_append, List.length_singleton]; omega
theorem wOut_in {lo hi : Int} {ds : List WE} {x : WE} (h : wIn lo hi x = true) : wOut lo hi (ds ++ [x]) = wOut lo hi ds ++ [(x.k, x.v)] := by
  unfold wOut; rw [List.filter_append, List.map_append]; simp [h]
theorem wOut_out {lo hi : Int} {ds : List WE} {x : WE} (h : wIn lo hi x = false) : wOut lo hi (ds ++ [x]) = wOut lo hi ds := by
  unfold wOut; rw [List.filter_append, List.map_append]; simp [h]
theorem wOut_len (lo hi : Int) (ds : List WE) : (wOut lo hi ds).length ≤ ds.length := by
  unfold wOut; rw [List.length_map]; exact List.length_filter_le _ _
theorem DsI.all {xs ds : List WE} (h : DsI xs ds) (hb : (xs.map fun x => (wK x).2.2).Nodup) (he : ∀ x ∈ xs, ∃ y ∈ ds, (wK y).2.2 = (wK x).2.2) : ∀ x ∈ xs, x ∈ ds := fun x hx => by
  obtain ⟨y, hy, hyx⟩ := he x hx
  obtain ⟨i, hi⟩ := List.mem_iff_getElem?.1 (h.sub y hy)
  obtain ⟨j, hj⟩ := List.mem_iff_getElem?.1 hx
  obtain ⟨hi1, hi2⟩ := List.getElem?_eq_some_iff.1 hi
  obtain ⟨hj1, hj2⟩ := List.getElem?_eq_some_iff.1 hj
  have hb2 := List.pairwise_map.1 hb
  rcases Nat.lt_trichotomy i j with hlt | heq | hgt
  · have := List.pairwise_iff_getElem.1 hb2 i j hi1 hj1 hlt
    rw [hi2, hj2] at this; exact absurd hyx this
  · subst heq
    rw [hi] at hj; rw [← Option.some.inj hj]; exact hy
  · have := List.pairwise_iff_getElem.1 hb2 j i hj1 hi1 hgt
    rw [hi2, hj2] at this; exact absurd hyx.symm this
def unw (M : Wrs) (l : Kvs) : Kvs := l.filter fun e => !(wget e.1 M).isSome
theorem unw_in {M : Wrs} {l : Kvs} {j : Nat} {e : Int × Int} (he : l[j]? = some e) (h : (wget e.1 M).isSome = false) : unw M (l.take (j + 1)) = unw M (l.take j) ++ [(e.1, e.2)] := by
  unfold unw; rw [List.take_add_one, he, List.filter_append]
  show _ ++ List.filter _ [e] = _
  rw [List.filter_cons, if_pos (by rw [h]; rfl)]; rfl
theorem unw_out {M : Wrs} {l : Kvs} {j : Nat} {e : Int × Int} (he : l[j]? = some e) (h : (wget e.1 M).isSome = true) : unw M (l.take (j + 1)) = unw M (l.take j) := by
  unfold unw; rw [List.take_add_one, he, List.filter_append]
  show _ ++ List.filter _ [e] = _
  rw [List.filter_cons, if_neg (by rw [h]; decide), List.filter_nil, List.append_nil]
theorem unw_len (M : Wrs) (l : Kvs) (j : Nat) : (unw M (l.take j)).length ≤ l.length := by
  unfold unw
  have h1 := List.length_filter_le (fun e : Int × Int => !(wget e.1 M).isSome) (l.take j)
  have h2 := List.length_take_le' j l
  omega
theorem wlk {xs : List WE} {q : Nat} {M : Wrs} (hW : WOk xs q M) (k : Int) : ∃ (r : Option (Nat × Value)) (p : Bool) (v : Int), mfind (.int .i64) (.int .i64 k) (xs.map wK) = some r ∧ lkV r (.agg #[.bool false, .int .i64 0]) true = .tuple #[.agg #[.bool p, .int .i64 v], .bool (wget k M).isSome] := by
  rcases wkeys hW k with ⟨h1, j, e, he, hk⟩ | ⟨h1, hn⟩
  · refine ⟨_, e.p, e.v, hk ▸ ki_in (f := wK) (n := WE.k) hW.k.key hW.k.uniq he, by rw [h1]; rfl⟩
  · exact ⟨none, false, 0, ki_out (f := wK) (n := WE.k) hW.k.key hn, by rw [h1]; rfl⟩
theorem rg_keys {xs ds : List WE} {q : Nat} {M : Wrs} {l : Kvs} {lo hi : Int} (hW : WOk xs q M) (hl : Srt l) (hd : DsI xs ds) : (unw M l ++ wOut lo hi ds).Pairwise fun a b => a.1 ≠ b.1 := by
  refine List.pairwise_append.2 ⟨(hl.sublist List.filter_sublist).imp fun {a b} h e => by rw [e] at h; omega, List.pairwise_map.2 (hd.uniq.sublist List.filter_sublist), fun a ha b hb => ?_⟩
  obtain ⟨_, h2⟩ := List.mem_filter.1 ha
  obtain ⟨y, hy, rfl⟩ := List.mem_map.1 hb
  have hy2 := hd.sub y (List.mem_filter.1 hy).1
  obtain ⟨j, hj⟩ := List.mem_iff_getElem?.1 hy2
  intro he
  have h3 := hW.get hj
  rw [← show a.1 = y.k from he] at h3
  rw [h3] at h2; cases h2
theorem rg_view {xs ds : List WE} {q : Nat} {M : Wrs} {l ts : Kvs} {lo hi : Int} (hW : WOk xs q M) (hl : Srt l) (hd : DsI xs ds) (ha : ∀ x ∈ xs, x ∈ ds) (hts : Srt ts) (hp : ts.Perm (unw M (btw lo hi l) ++ wOut lo hi ds)) : ts = btw lo hi (lwA M l) := by
  refine view_eq hl hW.srt hts fun e => ?_
  rw [hp.mem_iff, List.mem_append]
  have h1 : e ∈ unw M (btw lo hi l) ↔ (e ∈ l ∧ (lo ≤ e.1 ∧ e.1 ≤ hi) ∧ wget e.1 M = none) := by
    unfold unw
    rw [List.mem_filter, btw_mem, and_assoc]
    refine and_congr_right fun _ => and_congr_right fun _ => ?_
    cases wget e.1 M <;> simp
  have h2 : e ∈ wOut lo hi ds ↔ ((e.1, true, e.2) ∈ M ∧ lo ≤ e.1 ∧ e.1 ≤ hi) := by
    unfold wOut
    rw [List.mem_map, hW.mem]
    constructor
    · rintro ⟨x, hx, rfl⟩
      obtain ⟨hx1, hx2⟩ := List.mem_filter.1 hx
      simp only [wIn, Bool.and_eq_true, decide_eq_true_iff] at hx2
      exact ⟨⟨x, hd.sub x hx1, by unfold wT; rw [hx2.1]⟩, hx2.2⟩
    · rintro ⟨⟨x, hx, hxe⟩, h3, h4⟩
      have e1 : x.k = e.1 := congrArg (·.1) hxe
      have e2 : x.p = true := congrArg (·.2.1) hxe
      have e3 : x.v = e.2 := congrArg (·.2.2) hxe
      refine ⟨x, List.mem_filter.2 ⟨ha x hx, ?_⟩, by rw [e1, e3]⟩
      simp only [wIn, Bool.and_eq_true, decide_eq_true_iff]
      rw [e1]; exact ⟨e2, h3, h4⟩
  rw [h1, h2]
set_option maxHeartbeats 1000000 in
set_option maxRecDepth 8192 in
theorem tx_range {g w : World} {L : List HP} (x a : Nat) (rt : Int) (xs : List WE) (q : Nat) (S : Kvs) (M : Wrs) (A : AM) (R : List Int) (lo hi : Int) (t : Tr) (hW : WOk xs q M) (hA : ARf A R) (hi9 : Is A t rt) (hs : Srt t.ls) (htn : t.n ≤ 100000) (hlo : i64R lo) (hhi : i64R hi) (hR : SpR S) (hSl : S.length ≤ 100000) (hS : St g (Tx x a rt xs q S :: Arn a A :: L) w) :
    Sp Tryz.prog 97 [.pointer (some ⟨x, 0, none⟩), .int .i64 lo, .int .i64 hi] w (fun v w' => ∃ (u2 : Option Addr) (c2 : Nat), v = .tuple #[.slice u2 (List.length (en2 (btw lo hi (lwA M t.ls)))) c2, .int .i64 0] ∧ St g (Own 121 2 (en2 (btw lo hi (lwA M t.ls))) u2 c2 :: Tx x a rt xs q (rdS lo hi S) :: Arn a A :: L) w') := by
  refine Sp.enter Tryz.func97 rfl (by kernel_rfl) (by kernel_rfl) ?_
  refine WC.seq <| WC.region <| WL.r 2 rfl <| WL.nil <| WC.seq <| WC.seq <| WC.region ?_
  obtain ⟨⟨xm, xu, xc⟩, hS⟩ := St.exOpen (f := txF x a rt xs q S) hS
  replace hS := hS.n4 L (a0 := cel x #[.pointer (some ⟨a, 0, none⟩), .int .u32 rt, .bool false, .map (some xm), .slice xu (List.length (en2 S)) xc] 188) (a1 := blk xm (.map (mE (List.map wK xs)) q)) (a2 := Own 106 2 (en2 S) xu xc) rfl
  refine WL.run 4 [.bool false] rfl (by exact hS.ld 0 rfl rfl) ?_
  refine WL.nil <| WC.ifF rfl rfl <| WC.skip <| WC.seq <| WC.seq <| WC.region <| WL.r 3 rfl <| WL.nil <| WC.ifP rfl (fun hgt => ?_) (fun hgt => ?_)
  · refine WC.seq <| WC.region ?_
    have e9 : rdS lo hi S = S := if_neg (by omega); have e8 : btw lo hi (lwA M t.ls) = [] := btw_none (by omega)
    replace hS : St g (Own 121 2 (en2 (btw lo hi (lwA M t.ls))) none 0 :: cel x #[.pointer (some ⟨a, 0, none⟩), .int .u32 rt, .bool false, .map (some xm), .slice xu (List.length (en2 S)) xc] 188 :: blk xm (.map (mE (List.map wK xs)) q) :: Own 106 2 (en2 S) xu xc :: Arn a A :: L) w := (by rw [e8]; exact hS.nil_ 121 2)
    refine WL.r 2 rfl <| WL.nil ?_
    as_aux_lemma =>
    refine WC.ret ?_
    replace hS := St.exClose (f := txF x a rt xs q (rdS lo hi S)) (L := Own 121 2 (en2 (btw lo hi (lwA M t.ls))) none 0 :: Arn a A :: L) ⟨xm, xu, xc⟩ (by
      rw [e9]
      exact (hS.sel 4 [1, 1, 1, 0] rfl))
    replace hS := hS.n3 L (a0 := Tx x a rt xs q (rdS lo hi S)) (a1 := Own 121 2 (en2 (btw lo hi (lwA M t.ls))) none 0) rfl
    refine ⟨[.slice none 0 0, .int .i64 0], ⟨rfl, rfl⟩, ?_⟩
    replace hS := (hS.sel 2 [1, 0] rfl)
    exact ⟨none, 0, by rw [e8]; rfl, hS⟩
  · refine WC.skip <| WC.seq <| WC.region ?_
    replace hS := St.exClose (f := txF x a rt xs q S) (L := Arn a A :: L) ⟨xm, xu, xc⟩ (hS)
    replace hS := hS.n2 L (a0 := Tx x a rt xs q S) rfl
    refine WL.r 3 rfl <| WL.call rfl rfl (tx_read (lo := lo) (hi := hi) (hlo := hlo) (hhi := hhi) (hR := hR) (hSl := hSl) (hS := hS)) rfl ?_
    clear hS; rintro _ w ⟨rfl, hS⟩
    replace hS := hS.n2 L (a0 := Tx x a rt xs q (rdF lo hi S)) rfl
    refine WL.nil ?_
    as_aux_lemma =>
    refine WC.seq <| WC.region ?_
    obtain ⟨⟨xm, xu, xc⟩, hS⟩ := St.exOpen (f := txF x a rt xs q (rdF lo hi S)) hS
    replace hS := hS.n4 L (a0 := cel x #[.pointer (some ⟨a, 0, none⟩), .int .u32 rt, .bool false, .map (some xm), .slice xu (List.length (en2 (rdF lo hi S))) xc] 188) (a1 := blk xm (.map (mE (List.map wK xs)) q)) (a2 := Own 106 2 (en2 (rdF lo hi S)) xu xc) rfl
    have hll := hW.len; have hxn := hW.k.num; have hbl : (btw lo hi t.ls).length ≤ t.ls.length := List.length_filter_le _ _; have htl := Tr.ls_len t; have hbe := en2_len (btw lo hi t.ls); have hbs : Srt (btw lo hi t.ls) := hs.sublist List.filter_sublist
    refine WL.r 1 rfl <| WL.nil <| WC.seq <| WC.seq <| WC.plan [([0, 4, 8, 9, 12, 1, 5, 2, 6, 3, 7], some (10, [12])), ([11], none)] (by kernel_rfl) (by kernel_rfl) ?_
    refine WQ.run 11 [.pointer (some ⟨a, 0, none⟩), .int .u32 rt] rfl (by exact ⟨hS.ld 0 rfl rfl, hS.ld 0 rfl rfl⟩) ?_
    refine WQ.nil ?_
    intro m1
    replace hS := hS.drewN m1; generalize hwm1 : World.drewN _ _ = w at *; clear hwm1
    refine WL.call rfl rfl (bk_range (R := R) (i := rt) (lo := lo) (hi := hi) (t := t) (hA := hA) (hi9 := hi9) (hs := hs) (hl := htn) (hle := (by omega)) (hS := (hS.sel 4 [3, 0, 0, 0] rfl))) rfl ?_
    clear hS; rintro _ w ⟨u1, d1, rfl, hS⟩
    replace hS := hS.n5 L (a0 := Own 121 2 (en2 (btw lo hi t.ls)) u1 d1) rfl
    refine WL.nil ?_
    refine ⟨by exact RQ.pure rfl rfl rfl rfl, ?_⟩
    refine WQ.r 1 rfl <| WQ.nil ?_
    intro m2
    replace hS := hS.drewN m2; generalize hwm2 : World.drewN _ _ = w at *; clear hwm2
    refine WC.block ?_
    replace hS := hS.nil_ 121 2
    refine WC.loop [0, 1, 2, 6, 7, 8, 36, 37, 38] (fun kM vs w => ∃ (k : Nat) (acc : Kvs) (ua : Option Addr) (da : Nat), vs = [.pointer (some ⟨x, 0, none⟩), .int .i64 lo, .int .i64 hi, .slice none 0 0, .int .i64 0, .slice ua (List.length (en2 acc)) da, .slice u1 (List.length (en2 (btw lo hi t.ls))) d1, .int .i64 (List.length (en2 (btw lo hi t.ls)) : Int), .int .i64 (k : Int)] ∧ St g (Own 121 2 (en2 acc) ua da :: Own 121 2 (en2 (btw lo hi t.ls)) u1 d1 :: Arn a A :: cel x #[.pointer (some ⟨a, 0, none⟩), .int .u32 rt, .bool false, .map (some xm), .slice xu (List.length (en2 (rdF lo hi S))) xc] 188 :: blk xm (.map (mE (List.map wK xs)) q) :: Own 106 2 (en2 (rdF lo hi S)) xu xc :: L) w ∧ (k ≤ (btw lo hi t.ls).length) ∧ (acc = unw M ((btw lo hi t.ls).take k)) ∧ ((btw lo hi t.ls).length - k) = kM) ((List.length (btw lo hi t.ls)) - 0) ⟨0, [], none, 0, rfl, hS, (Nat.zero_le _), (rfl), rfl⟩ ?_
    clear hS; rintro _ _ w j ⟨k, acc, ua, da, rfl, hS, hk, hac, rfl⟩
    refine WC.seq <| WC.region <| WL.r 1 rfl <| WL.nil ?_
    as_aux_lemma =>
    refine WC.seq <| WC.ifP rfl (fun cd1 => ?_) (fun cd1 => ?_)
    · refine WC.skip <| WC.seq <| WC.block <| WC.seq <| WC.region ?_
      obtain ⟨e, he⟩ : ∃ e, (btw lo hi t.ls)[k]? = some e := ⟨_, List.getElem?_eq_getElem (by omega)⟩; obtain ⟨r9, p9, v9, hr1, hr2⟩ := wlk hW e.1; have hul := unw_len M (btw lo hi t.ls) k; rw [← hac] at hul; have hae := en2_len acc
      refine WL.ix rfl rfl (i := (k : Int)) (k) el_49 rfl rfl (by omega) (by omega) (hS.rdO 1 rfl (en2_at he)).1 ?_
      refine WL.ldC rfl rfl [.int .i64 e.1, .int .i64 e.2] ag_121 rfl (hS.rdO 1 rfl (en2_at he)).2 <| WL.new rfl rfl zv_121 hS (fun b1 w hS => ?_)
      refine WL.stF rfl rfl rfl 0 hS rfl rfl rfl rfl rfl ag_121 (fun w hS => ?_)
      replace hS := hS.n7 L (a0 := cel b1 #[.int .i64 e.1, .int .i64 e.2] 121) rfl
      refine WL.nil <| WC.seq <| WC.plan [([0, 4, 1, 5, 2, 3, 6, 7, 8, 9], some (10, [0, 1, 2, 3, 4, 5, 6, 7, 8, 9])), ([], some (11, [9])), ([12], none)] (by kernel_rfl) (by kernel_rfl) ?_
      refine WQ.run 6 [.int .i64 e.1, .map (some xm)] rfl (by exact ⟨hS.ld 0 rfl rfl, hS.ld 4 rfl rfl⟩) ?_
      refine WQ.lk rfl rfl mt_186 5 hS rfl rfl rfl (by first | trivial | rfl) (r := r9) hr1 hr2 ?_
      refine WQ.r 3 rfl <| WQ.nil ?_
      intro m3
      replace hS := hS.drewN m3; generalize hwm3 : World.drewN _ _ = w at *; clear hwm3
      refine WL.new rfl rfl zv_217 hS (fun b2 w hS => ?_)
      refine WL.nil ?_
      refine ⟨by exact ⟨RQ.pure rfl rfl rfl rfl, RQ.pure rfl rfl rfl rfl, RQ.pure rfl rfl rfl rfl, RQ.load rfl rfl rfl rfl (hS.ld 5 rfl rfl), RQ.pure rfl rfl rfl rfl, RQ.load rfl rfl rfl rfl (hS.ld 1 rfl rfl), RQ.lk rfl rfl mt_186 6 hS rfl rfl rfl (by first | trivial | rfl) (r := r9) hr1 hr2 rfl rfl, RQ.pure rfl rfl rfl rfl, RQ.pure rfl rfl rfl rfl, RQ.pure rfl rfl rfl rfl⟩, ?_⟩
      refine WQ.nil ?_
      intro m4
      replace hS := hS.drewN m4; generalize hwm4 : World.drewN _ _ = w at *; clear hwm4
      refine WL.stF rfl rfl rfl 0 hS rfl rfl rfl rfl rfl ag_217 (fun w hS => ?_)
      replace hS := hS.n8 L (a0 := cel b2 #[.bool p9, .int .i64 v9] 217) rfl
      refine WL.nil ?_
      refine ⟨by exact RQ.pure rfl rfl rfl rfl, ?_⟩
      refine WQ.r 1 rfl <| WQ.nil ?_
      intro m5
      replace hS := hS.drewN m5; generalize hwm5 : World.drewN _ _ = w at *; clear hwm5
      as_aux_lemma =>
      refine WC.seq <| WC.region <| WL.r 2 rfl <| WL.nil <| WC.if_ rfl (fun cd2 => ?_) (fun cd2 => ?_)
      · refine WC.region <| WL.r 1 rfl <| WL.ldF rfl rfl 1 hS rfl rfl ag_121 <| WL.lit rfl rfl (en2 [(e.1, e.2)]) el_49 hS (by exact ⟨rfl, rfl⟩) (en2_ok _) rfl (Nat.le_of_ble_eq_true rfl) (fun b3 w hS => ?_)
        refine WL.app rfl rfl 3 (en2 (acc ++ [(e.1, e.2)])) el_49 hS rfl (hS.srcO 0 rfl) (en2_app _ _).symm (Rm.of (by first | omega | (simp <;> omega)) (by decide)) rfl rfl (fun a1 c1 w hS => ?_)
        replace hS := hS.n9 L (a0 := Own 121 2 (en2 [(e.1, e.2)]) (some ⟨b3, 0, none⟩) (List.length (en2 [(e.1, e.2)]))) (a3 := Own 121 2 (en2 (acc ++ [(e.1, e.2)])) a1 c1) rfl
        refine WL.r 1 rfl <| WL.nil <| WC.region <| WL.r 1 rfl <| WL.nw 58 rfl (w64 (by omega)) ?_
        refine WL.r 1 rfl <| WL.nil ?_
        exact ⟨_, by omega, k + 1, acc ++ [(e.1, e.2)], _, _, rfl, (hS.sel 3 [] rfl), (by omega), (by rw [unw_in he (by simpa using cd2), ← hac]), rfl⟩
      · refine WC.skip <| WC.region <| WL.r 1 rfl <| WL.nw 58 rfl (w64 (by omega)) ?_
        refine WL.r 1 rfl <| WL.nil ?_
        exact ⟨_, by omega, k + 1, acc, ua, da, rfl, (hS.sel 2 [] rfl), (by omega), (by rw [unw_out he (by simpa using cd2), ← hac]), rfl⟩
    · refine WC.exit <| WC.seq <| WC.seq <| WC.region ?_
      have hac9 : acc = unw M (btw lo hi t.ls) := (by rw [hac, List.take_of_length_le (by omega)]); have hul := unw_len M (btw lo hi t.ls) k; rw [← hac] at hul
      refine WL.run 4 [.map (some xm)] rfl (by exact hS.ld 3 rfl rfl) ?_
      refine WL.rgM rfl rfl mt_186 4 hS rfl rfl (fun b1 w hS => ?_)
      refine WL.nil <| WC.block <| WC.loop [1, 2, 6, 7, 8, 63] (fun kM vs w => ∃ (ds : List WE) (ac2 : Kvs) (ub : Option Addr) (db : Nat), vs = [.int .i64 lo, .int .i64 hi, .slice none 0 0, .int .i64 0, .slice ub (List.length (en2 ac2)) db, .pointer (some ⟨b1, 0, none⟩)] ∧ St g (blk b1 (.mapIter (some xm) q (seenB wK ds) q) :: Own 121 2 (en2 ac2) ub db :: Own 121 2 (en2 (btw lo hi t.ls)) u1 d1 :: Arn a A :: cel x #[.pointer (some ⟨a, 0, none⟩), .int .u32 rt, .bool false, .map (some xm), .slice xu (List.length (en2 (rdF lo hi S))) xc] 188 :: blk xm (.map (mE (List.map wK xs)) q) :: Own 106 2 (en2 (rdF lo hi S)) xu xc :: L) w ∧ (DsI xs ds) ∧ (ac2 = acc ++ wOut lo hi ds) ∧ ((lft xs ds).length) = kM) (List.length (lft xs [])) ⟨[], acc, ua, da, rfl, hS, (DsI.nil xs), (List.append_nil _).symm, rfl⟩ ?_
      clear hS; rintro _ _ w j ⟨ds, ac2, ub, db, rfl, hS, hds, hac2, rfl⟩
      refine WC.seq <| WC.region ?_
      have hac9 : acc = unw M (btw lo hi t.ls) := (by rw [hac, List.take_of_length_le (by omega)]); have hul := unw_len M (btw lo hi t.ls) k; rw [← hac] at hul
      refine WL.nxL rfl rfl 0 5 hS rfl rfl hW.k.born rfl (fun hend1 => ?_) (fun x1 hx1 hnew1 w hS => ?_)
      · have _ := hend1
        refine WL.r 1 rfl <| WL.nil <| WC.seq <| WC.ifF rfl rfl <| WC.exit <| WC.seq <| WC.region ?_
        have hdl := hds.len; have hol := wOut_len lo hi ds; have hal2 : ac2.length ≤ 1000000 := (by rw [hac2, List.length_append]; omega)
        refine WL.r 1 rfl <| WL.call rfl rfl (srt_spec  (hk := (by rw [hac2, hac9]; exact rg_keys hW hbs hds)) (hl := hal2) (hS := (hS.sel 2 [1, 0] rfl))) rfl ?_
        clear hS; rintro _ w ⟨ts1, rfl, hS, f1, f2⟩
        replace hS := hS.n7 L (a0 := Own 121 2 (en2 ts1) ub db) rfl
        refine WL.nil ?_
        as_aux_lemma =>
        refine WC.seq <| WC.region ?_
        have e7 : rdS lo hi S = rdF lo hi S := if_pos (by omega)
        refine WL.r 3 rfl <| WL.nil <| WC.ret ?_
        replace hS := St.exClose (f := txF x a rt xs q (rdF lo hi S)) (L := Own 121 2 (en2 ts1) ub db :: blk b1 (.mapIter (some xm) q (seenB wK ds) q) :: Own 121 2 (en2 (btw lo hi t.ls)) u1 d1 :: Arn a A :: L) ⟨xm, xu, xc⟩ ((hS.sel 7 [4, 4, 4, 0, 0, 0, 0] rfl))
        replace hS := hS.n5 L (a0 := Tx x a rt xs q (rdF lo hi S)) rfl
        refine ⟨[.slice ub (List.length (en2 ac2)) db, .int .i64 0], ⟨rfl, rfl⟩, ?_⟩
        replace hS := (hS.sel 4 [1, 0] rfl)
        have hp9 : ts1.Perm (unw M (btw lo hi t.ls) ++ wOut lo hi ds) := (by rw [← hac9, ← hac2]; exact f2); have e9 := rg_view hW hs hds (hds.all hW.k.bnd hend1) f1 hp9; have e8 : (en2 ac2).length = (en2 ts1).length := (by rw [en2_len, en2_len, f2.length_eq]); rw [e8, e7]; rw [e9] at hS ⊢; exact ⟨_, _, rfl, hS⟩
      · refine WL.reb 64 (.tuple #[.bool true, .int .i64 x1.k, .agg #[.bool x1.p, .int .i64 x1.v]]) rfl ?_
        replace hS := hS.n7 L (a0 := blk b1 (.mapIter (some xm) q (seenB wK (ds ++ [x1])) q)) rfl
        refine WL.r 1 rfl <| WL.nil <| WC.seq <| WC.ifT rfl rfl <| WC.skip <| WC.block <| WC.seq <| WC.region <| WL.enL rfl rfl 0 5 hS rfl rfl hx1 hW.k.bnd rfl <| WL.reb 66 (.tuple #[.int .i64 x1.k, .agg #[.bool x1.p, .int .i64 x1.v]]) rfl <| WL.r 2 rfl <| WL.new rfl rfl zv_217 hS (fun b2 w hS => ?_)
        refine WL.r 1 rfl <| WL.stF rfl rfl rfl 0 hS rfl rfl rfl rfl rfl ag_217 (fun w hS => ?_)
        replace hS := hS.n8 L (a0 := cel b2 #[.bool x1.p, .int .i64 x1.v] 217) rfl
        refine WL.nil ?_
        as_aux_lemma =>
        refine WC.seq <| WC.region ?_
        have hdl := hds.len; have hol := wOut_len lo hi ds; have hal2 : ac2.length ≤ 1000000 := (by rw [hac2, List.length_append]; omega); have hae2 := en2_len ac2
        refine WL.run 2 [.bool x1.p] rfl (by exact hS.ld 0 rfl rfl) ?_
        refine WL.rG 10 rfl (fun j => ?_)
        refine WL.prop 80 rfl (band (band (dv _) (dd _)) (dd _)) <| WL.nil <| WC.ifP rfl (fun hin => ?_) (fun hin => ?_)
        · refine WC.region <| WL.run 4 [.int .i64 x1.v] rfl (by exact hS.ld 0 rfl rfl) ?_
          refine WL.build rfl rfl (cs := [.int .i64 x1.k, .int .i64 x1.v]) zv_121 rfl rfl <| WL.lit rfl rfl (en2 [(x1.k, x1.v)]) el_49 hS (by exact ⟨rfl, rfl⟩) (en2_ok _) rfl (Nat.le_of_ble_eq_true rfl) (fun b3 w hS => ?_)
          refine WL.app rfl rfl 3 (en2 (ac2 ++ [(x1.k, x1.v)])) el_49 hS rfl (hS.srcO 0 rfl) (en2_app _ _).symm (Rm.of (by first | omega | (simp <;> omega)) (by decide)) rfl rfl (fun a1 c1 w hS => ?_)
          replace hS := hS.n9 L (a0 := Own 121 2 (en2 [(x1.k, x1.v)]) (some ⟨b3, 0, none⟩) (List.length (en2 [(x1.k, x1.v)]))) (a3 := Own 121 2 (en2 (ac2 ++ [(x1.k, x1.v)])) a1 c1) rfl
          refine WL.r 1 rfl <| WL.nil ?_
          exact ⟨_, (lft_lt hx1 hnew1), ds ++ [x1], ac2 ++ [(x1.k, x1.v)], a1, c1, rfl, (hS.sel 2 [] rfl), (hds.snoc hW.k.uniq hx1 hnew1), (by rw [wOut_in (by simp only [wIn, Bool.and_eq_true, decide_eq_true_iff]; exact ⟨hin.1.1, hin.1.2, hin.2⟩), hac2, List.append_assoc]), rfl⟩
        · refine WC.skip ?_
          exact ⟨_, (lft_lt hx1 hnew1), ds ++ [x1], ac2, ub, db, rfl, (hS.sel 1 [] rfl), (hds.snoc hW.k.uniq hx1 hnew1), (by rw [wOut_out (Bool.eq_false_iff.2 fun h => hin (by simp only [wIn, Bool.and_eq_true, decide_eq_true_iff] at h; exact ⟨⟨h.1, h.2.1⟩, h.2.2⟩)), hac2]), rfl⟩
end Go.Proofs.YtbeacjcmdijdmaaGreat
/-! ## Md -/
namespace Go.Proofs.YtbeacjcmdijdmaaGreat
open Go Go.V
set_option maxRecDepth 8192 in
theorem md_spec {g w : World} {L : List HP} (k n : Int) (hk : -9223372036854775808 ≤ k ∧ k ≤ 9223372036854775807) (hn : 0 < n ∧ n ≤ 9223372036854775807) (hS : St g (L) w) :
    Sp Tryz.prog 24 [.int .i64 k, .int .i64 n] w (fun v w' => v = .int .i64 (k % n) ∧ St g (L) w') := by
  refine Sp.enter Tryz.func24 rfl (by kernel_rfl) (by kernel_rfl) ?_
  have _ := hk
  refine WC.seq <| WC.region <| WL.r 1 rfl <| WL.nil <| WC.seq <| WC.region ?_
  obtain ⟨m, rfl⟩ : ∃ m : Nat, n = Int.ofNat (m + 1) := ⟨n.toNat - 1, by simp; omega⟩; have htm := tm_lt (k := k) (n := Int.ofNat (m + 1)) hn.1
  refine WL.r 3 rfl <| WL.r 1 rfl <| WL.nil <| WC.seq <| WC.seq <| WC.region <| WL.r 2 rfl <| WL.nil <| WC.ifP rfl (fun cd1 => ?_) (fun cd1 => ?_)
  · refine WC.region <| WL.r 3 rfl <| WL.nw 13 rfl (w64 (by omega)) ?_
    refine WL.r 1 rfl <| WL.nil <| WC.seq <| WC.region <| WL.r 2 rfl <| WL.nil ?_
    as_aux_lemma =>
    refine WC.ret ?_
    refine ⟨[.int .i64 ((Int.tmod k (Int.ofNat (m + 1))) + (Int.ofNat (m + 1)))], rfl, ?_⟩
    rw [tm_neg hn.1 cd1]; exact ⟨rfl, hS⟩
  · refine WC.skip <| WC.seq <| WC.region <| WL.r 2 rfl <| WL.nil <| WC.ret ?_
    refine ⟨[.int .i64 (Int.tmod k (Int.ofNat (m + 1)))], rfl, ?_⟩
    rw [tm_pos hn.1 cd1]; exact ⟨rfl, hS⟩
end Go.Proofs.YtbeacjcmdijdmaaGreat
/-! ## Y3 -/
namespace Go.Proofs.YtbeacjcmdijdmaaGreat
open Go Go.V Go.RowKit Go.Maps
structure PI (n : Nat) (xs : List WE) (q : Nat) (M : Wrs) (R : Kvs) : Prop where
  w : WOk xs q M
  le : ∀ s ∈ R, s.1 ≤ s.2
  rR : SpR R
  rl : R.length ≤ n
  ml : M.length ≤ n
  z : ∀ e ∈ M, e.2.1 = false → e.2.2 = 0
theorem PI.nil : PI 0 [] 0 [] [] := ⟨WOk.nil, fun _ h => (by cases h), fun _ h => (by cases h), Nat.le_refl _, Nat.le_refl _, fun _ h => (by cases h)⟩
theorem SpR.rdL {R : Kvs} (h : SpR R) : SpR (rdL R) := by
  have := rdL_R h R.length
  rwa [List.take_length] at this
section
variable {n : Nat} {xs xs2 : List WE} {q q2 : Nat} {M : Wrs} {R : Kvs}
theorem PI.up (h : PI n xs q M R) : PI (n + 1) xs q M R := ⟨h.w, h.le, h.rR, Nat.le_succ_of_le h.rl, Nat.le_succ_of_le h.ml, h.z⟩
theorem PI.snoc (h : PI n xs q M R) {s : Int × Int} (hs : s.1 ≤ s.2) (h1 : i64R s.1) (h2 : i64R s.2) : PI (n + 1) xs q M (R ++ [s]) := by
  refine ⟨h.w, fun x hx => ?_, fun x hx => ?_, by rw [List.length_append]; have := h.rl; simp only [List.length_singleton]; omega, Nat.le_succ_of_le h.ml, h.z⟩
  · rcases List.mem_append.1 hx with hx | hx
    · exact h.le x hx
    · rw [List.mem_singleton.1 hx]; exact hs
  · rcases List.mem_append.1 hx with hx | hx
    · exact h.rR x hx
    · rw [List.mem_singleton.1 hx]; exact ⟨h1, h2⟩
theorem PI.get (h : PI n xs q M R) {k : Int} (hk : i64R k) : PI (n + 1) xs q M (fw k M R) := by
  unfold fw
  split
  · exact h.up
  · exact h.snoc (Int.le_refl _) hk hk
theorem PI.rng (h : PI n xs q M R) {lo hi : Int} (h1 : i64R lo) (h2 : i64R hi) {R2 : Kvs} (hR : R2 = if lo ≤ hi then R ++ [(lo, hi)] else R) : PI (n + 1) xs q M R2 := by
  subst hR
  split
  · rename_i hl; exact h.snoc hl h1 h2
  · exact h.up
theorem wput_len (k : Int) (y : Bool × Int) : ∀ (M : Wrs), (wput k y M).length ≤ M.length + 1
  | [] => Nat.le_refl _
  | x :: M => by
    have ih := wput_len k y M
    unfold wput at ih ⊢
    simp only [List.length_append, List.length_cons, List.filter_cons] at ih ⊢
    by_cases h1 : x.1 < k
    · simp only [h1, decide_true, if_true, show ¬ k < x.1 by omega, decide_false, Bool.false_eq_true, if_false, List.length_cons]; omega
    · by_cases h2 : k < x.1
      · simp only [h1, h2, decide_true, if_true, decide_false, Bool.false_eq_true, if_false, List.length_cons]; omega
      · simp only [h1, h2, decide_false, Bool.false_eq_true, if_false]; omega
theorem wNew_len (k : Int) (y : Bool × Int) (M : Wrs) : (wNew k y M).length ≤ M.length + 1 := by
  unfold wNew
  split
  · omega
  · exact wput_len k y M
theorem PI.put (h : PI n xs q M R) {k : Int} {y : Bool × Int} (hw : WOk xs2 q2 (wNew k y M)) (hy : y.1 = false → y.2 = 0) : PI (n + 1) xs2 q2 (wNew k y M) R := by
  refine ⟨hw, h.le, h.rR, Nat.le_succ_of_le h.rl, Nat.le_trans (wNew_len k y M) (Nat.succ_le_succ h.ml), fun e he => ?_⟩
  unfold wNew at he
  split at he
  · exact h.z e he
  · rcases (wput_mem e).1 he with rfl | ⟨he, _⟩
    · exact hy
    · exact h.z e he
theorem PI.both {R2 : Kvs} {M2 : Wrs} {ys : List WE} {p m : Nat} {N2 : Wrs} {U : Kvs} (a : PI n ys p N2 R2) (b : PI n xs m M2 U) : PI n xs m M2 R2 := ⟨b.w, a.le, a.rR, a.rl, b.ml, b.z⟩
theorem PI.val (h : PI n xs q M R) {t : Tr} (hs : Srt t.ls) (k : Int) : vGet k M t = ((lget k (lwA M t.ls)).getD 0, (lget k (lwA M t.ls)).isSome) := by
  rw [lwA_get M hs h.w.srt k]
  unfold vGet wvw
  cases hg : wget k M with
  | none => rw [Tr.get_ls k t hs]
  | some y =>
    obtain ⟨p, v⟩ := y
    cases p with
    | true => rfl
    | false =>
      have h1 := h.z _ ((wget_some h.w.srt).1 hg) rfl
      show (v, false) = (0, false)
      rw [show v = 0 from h1]
end
end Go.Proofs.YtbeacjcmdijdmaaGreat
/-! ## D1 -/
namespace Go.Proofs.YtbeacjcmdijdmaaGreat
open Go Go.V
def ordU (S : SM) (k : Nat) : List Int := (List.range k).map fun i : Nat => S.fresh + 1 + (i : Int)
def SM.order (S : SM) : List Int := S.rel.reverse ++ ordU S (S.cap - S.fresh).toNat
theorem rev_next {l : List Int} {k : Nat} {x : Int} (h : l[k]? = some x) : (l.drop k).reverse = (l.drop (k + 1)).reverse ++ [x] := by
  obtain ⟨hl, rfl⟩ := List.getElem?_eq_some_iff.1 h
  rw [List.drop_eq_getElem_cons hl, List.reverse_cons]
theorem ordU_next (S : SM) (k : Nat) : ordU S (k + 1) = ordU S k ++ [S.fresh + 1 + (k : Int)] := by
  unfold ordU; rw [List.range_succ, List.map_append]; rfl
set_option maxRecDepth 8192 in
theorem sl_order {g w : World} {L : List HP} (s : Nat) (S : SM) (hO : SOk S) (hS : St g (Slt s S :: L) w) :
    Sp Tryz.prog 79 [.pointer (some ⟨s, 0, none⟩)] w (fun v w' => ∃ (a2 : Option Addr) (c2 : Nat), v = .slice a2 (List.length (u32s (SM.order S))) c2 ∧ St g (Own 64 1 (u32s (SM.order S)) a2 c2 :: Slt s S :: L) w') := by
  refine Sp.enter Tryz.func79 rfl (by kernel_rfl) (by kernel_rfl) ?_
  refine WC.seq <| WC.region ?_
  obtain ⟨⟨ua, uc, ga, gc, ra, rc⟩, hS⟩ := St.exOpen (f := sltF s S) hS
  replace hS : St g (cel s #[.slice ua (List.length (bos S.used)) uc, .slice ga (List.length (u32s S.gen)) gc, .slice ra (List.length (u32s S.rel)) rc, .int .u32 S.fresh] 243 :: Own 4 1 (bos S.used) ua uc :: Own 64 1 (u32s S.gen) ga gc :: Own 64 1 (u32s S.rel) ra rc :: L) w := hS
  have hfr := hO.fr; have hcp : S.cap = (S.used.length : Int) - 1 := rfl; have hle := hO.le; have hrl := hO.rle; have hfd : S.free = (S.rel.length : Int) + S.cap - S.fresh := rfl; have hru := u32s_len S.rel; have hbu := bos_len S.used
  refine WL.r 1 rfl <| WL.nil <| WC.seq <| WC.region <| WL.r 1 rfl <| WL.call rfl rfl (sl_free0 (ua := ua) (ga := ga) (ra := ra) (n := List.length (bos S.used)) (ng := List.length (u32s S.gen)) (nr := List.length (u32s S.rel)) (uc := uc) (gc := gc) (rc := rc) (fr := S.fresh) (hn := (by omega)) (hS := hS)) rfl ?_
  clear hS; rintro _ w ⟨rfl, hS⟩
  replace hS := hS.n4 L rfl
  refine WL.make rfl rfl (v := 0) (v' := (List.length (u32s S.rel)) + ((List.length (bos S.used)) - 1) - S.fresh) (0) (S.free.toNat) el_32 hS rfl (by omega) rfl (by omega) (by omega) (Rm.of (by omega) (by decide)) (fun b1 w hS => ?_)
  replace hS := hS.n5 L (a0 := Own 64 1 [] (some ⟨b1, 0, none⟩) S.free.toNat) rfl
  refine WL.r 1 rfl <| WL.nil <| WC.seq <| WC.seq <| WC.region <| WL.run 6 [.slice ra (List.length (u32s S.rel)) rc] rfl (by exact hS.ld 1 rfl rfl) ?_
  refine WL.nw 14 rfl (w64 (by omega)) ?_
  refine WL.r 1 rfl <| WL.nil ?_
  as_aux_lemma =>
  refine WC.block <| WC.loop [0, 2, 3, 4] (fun kM vs w => ∃ (j : Int) (out : List Int) (ub : Option Addr) (ud : Nat), vs = [.pointer (some ⟨s, 0, none⟩), .slice none 0 0, .slice ub (List.length (u32s out)) ud, .int .i64 j] ∧ St g (Own 64 1 (u32s out) ub ud :: cel s #[.slice ua (List.length (bos S.used)) uc, .slice ga (List.length (u32s S.gen)) gc, .slice ra (List.length (u32s S.rel)) rc, .int .u32 S.fresh] 243 :: Own 4 1 (bos S.used) ua uc :: Own 64 1 (u32s S.gen) ga gc :: Own 64 1 (u32s S.rel) ra rc :: L) w ∧ (-1 ≤ j ∧ j < S.rel.length) ∧ (out = (S.rel.drop (j + 1).toNat).reverse) ∧ ((j + 1).toNat) = kM) ((((List.length (u32s S.rel) : Int) - 1) + 1).toNat) ⟨((u32s S.rel).length : Int) - 1, [], (some ⟨b1, 0, none⟩), S.free.toNat, rfl, hS, (by omega), (by rw [List.drop_eq_nil_of_le (by omega)]; rfl), rfl⟩ ?_
  clear hS; rintro _ _ w j ⟨j, out, ub, ud, rfl, hS, hj, ho, rfl⟩
  refine WC.seq <| WC.seq <| WC.region <| WL.r 2 rfl <| WL.nil <| WC.ifP rfl (fun cd1 => ?_) (fun cd1 => ?_)
  · refine WC.skip <| WC.seq <| WC.block <| WC.region <| WL.run 6 [.slice ra (List.length (u32s S.rel)) rc] rfl (by exact hS.ld 1 rfl rfl) ?_
    obtain ⟨x, hx⟩ : ∃ x, S.rel[j.toNat]? = some x := ⟨_, List.getElem?_eq_getElem (by omega)⟩; have hol : out.length ≤ S.rel.length := (by rw [ho, List.length_reverse, List.length_drop]; omega); have hoe := u32s_len out
    refine WL.ix rfl rfl (i := j) (j.toNat) el_32 rfl rfl (by omega) (by omega) (hS.rdO 4 rfl (u32s_at hx)).1 ?_
    refine WL.run 1 [.int .u32 x] rfl (by exact (hS.rdO 4 rfl (u32s_at hx)).2 0 _ rfl) ?_
    refine WL.lit rfl rfl (u32s [x]) el_32 hS (by exact ⟨rfl, rfl⟩) (u32s_ok _) rfl (Nat.le_of_ble_eq_true rfl) (fun b2 w hS => ?_)
    refine WL.app rfl rfl 1 (u32s (out ++ [x])) el_32 hS rfl (hS.srcO 0 rfl) (u32s_app _ _).symm (Rm.of (by first | omega | (simp <;> omega)) (by decide)) rfl rfl (fun a1 c1 w hS => ?_)
    replace hS := hS.n6 L (a0 := Own 64 1 (u32s [x]) (some ⟨b2, 0, none⟩) (List.length (u32s [x]))) (a1 := Own 64 1 (u32s (out ++ [x])) a1 c1) rfl
    refine WL.r 1 rfl <| WL.nil <| WC.region <| WL.r 2 rfl <| WL.nw 18 rfl (w64 (by omega)) ?_
    refine WL.r 1 rfl <| WL.nil ?_
    exact ⟨_, by omega, j - 1, out ++ [x], a1, c1, rfl, (hS.sel 1 [] rfl), (by omega), (by rw [ho, show (j + 1).toNat = j.toNat + 1 by omega, show (j - 1 + 1).toNat = j.toNat by omega]; exact (rev_next hx).symm), rfl⟩
  · refine WC.exit <| WC.seq <| WC.seq <| WC.region ?_
    have hor : out = S.rel.reverse := (by rw [ho, show (j + 1).toNat = 0 by omega]; rfl)
    refine WL.run 5 [.int .u32 S.fresh] rfl (by exact hS.ld 1 rfl rfl) ?_
    refine WL.nw 33 rfl (w64 (by omega)) ?_
    refine WL.r 1 rfl <| WL.nw 34 rfl (w64 (by omega)) ?_
    refine WL.r 1 rfl <| WL.nil <| WC.block <| WC.loop [0, 2, 3, 5] (fun kM vs w => ∃ (k : Nat) (j2 : Int) (acc : List Int) (uf : Option Addr) (ud2 : Nat), vs = [.pointer (some ⟨s, 0, none⟩), .slice none 0 0, .slice uf (List.length (u32s acc)) ud2, .int .i64 j2] ∧ St g (Own 64 1 (u32s acc) uf ud2 :: cel s #[.slice ua (List.length (bos S.used)) uc, .slice ga (List.length (u32s S.gen)) gc, .slice ra (List.length (u32s S.rel)) rc, .int .u32 S.fresh] 243 :: Own 4 1 (bos S.used) ua uc :: Own 64 1 (u32s S.gen) ga gc :: Own 64 1 (u32s S.rel) ra rc :: L) w ∧ ((k : Int) ≤ S.cap - S.fresh) ∧ (j2 = S.fresh + 1 + (k : Int)) ∧ (acc = S.rel.reverse ++ ordU S k) ∧ ((S.cap - S.fresh).toNat - k) = kM) ((S.cap - S.fresh).toNat - 0) ⟨0, S.fresh + 1, out, ub, ud, rfl, hS, (by omega), (by omega), (by rw [hor]; simp [ordU]), rfl⟩ ?_
    clear hS; rintro _ _ w j ⟨k, j2, acc, uf, ud2, rfl, hS, hk, hj2, ha, rfl⟩
    refine WC.seq <| WC.seq <| WC.region <| WL.r 2 rfl <| WL.call rfl rfl (sl_cap0 (ua := ua) (ga := ga) (ra := ra) (n := List.length (bos S.used)) (ng := List.length (u32s S.gen)) (nr := List.length (u32s S.rel)) (uc := uc) (gc := gc) (rc := rc) (fr := S.fresh) (hn := (by omega)) (hS := (hS.sel 2 [1, 0] rfl))) rfl ?_
    clear hS; rintro _ w ⟨rfl, hS⟩
    replace hS := hS.n5 L rfl
    refine WL.r 1 rfl <| WL.nil ?_
    as_aux_lemma =>
    refine WC.ifP rfl (fun cd2 => ?_) (fun cd2 => ?_)
    · refine WC.skip <| WC.seq <| WC.block <| WC.region ?_
      have hal : acc.length ≤ 140000 := (by rw [ha, List.length_append, List.length_reverse]; unfold ordU; simp; omega); have hac := u32s_len acc
      refine WL.r 3 rfl <| WL.nw 43 rfl (wu32 (by omega)) ?_
      refine WL.lit rfl rfl (u32s [j2]) el_32 hS (by exact ⟨rfl, rfl⟩) (u32s_ok _) rfl (Nat.le_of_ble_eq_true rfl) (fun b2 w hS => ?_)
      refine WL.app rfl rfl 2 (u32s (acc ++ [j2])) el_32 hS rfl (hS.srcO 0 rfl) (u32s_app _ _).symm (Rm.of (by first | omega | (simp <;> omega)) (by decide)) rfl rfl (fun a1 c1 w hS => ?_)
      replace hS := hS.n6 L (a0 := Own 64 1 (u32s [j2]) (some ⟨b2, 0, none⟩) (List.length (u32s [j2]))) (a2 := Own 64 1 (u32s (acc ++ [j2])) a1 c1) rfl
      refine WL.r 1 rfl <| WL.nil <| WC.region <| WL.r 2 rfl <| WL.nw 40 rfl (w64 (by omega)) ?_
      refine WL.r 1 rfl <| WL.nil ?_
      exact ⟨_, by omega, k + 1, j2 + 1, acc ++ [j2], a1, c1, rfl, (hS.sel 3 [2, 1] rfl), (by omega), (by omega), (by rw [hj2, ha, ordU_next, List.append_assoc]), rfl⟩
    · refine WC.exit <| WC.seq <| WC.region <| WL.r 2 rfl <| WL.nil <| WC.ret ?_
      replace hS := St.exClose (f := sltF s S) (L := Own 64 1 (u32s acc) uf ud2 :: L) ⟨ua, uc, ga, gc, ra, rc⟩ ((hS.sel 5 [0, 1, 1, 1, 0] rfl))
      replace hS := hS.n2 L (a0 := Slt s S) rfl
      refine ⟨[.slice uf (List.length (u32s acc)) ud2], rfl, ?_⟩
      replace hS := (hS.sel 2 [1, 0] rfl)
      have hke : k = (S.cap - S.fresh).toNat := (by omega); subst hke; rw [show acc = SM.order S from ha] at hS ⊢; exact ⟨_, _, rfl, hS⟩
end Go.Proofs.YtbeacjcmdijdmaaGreat
/-! ## Dm -/
namespace Go.V
open Go Go.RowKit
structure SlE where
  al : Bool
  cn : Int
  ge : Int
  nd : Nd
def slC (x : SlE) : List Value := [.bool x.al, .int .i64 x.cn, .int .u32 x.ge, .int .i64 x.nd.key, .int .i64 x.nd.val, .int .u32 x.nd.lf, .int .u32 x.nd.rg, .int .i64 x.nd.size, .int .i64 x.nd.sum, .int .i64 x.nd.mn, .int .i64 x.nd.mx]
def sls (l : List SlE) : List (List Value) := l.map slC
@[simp] theorem sls_len (l : List SlE) : (sls l).length = l.length := by simp [sls]
theorem sls_at {l : List SlE} {k : Nat} {x : SlE} (h : l[k]? = some x) : (sls l)[k]? = some (slC x) := by simp [sls, h]
theorem sls_set (l : List SlE) (k : Nat) (x : SlE) : (sls l).set k (slC x) = sls (l.set k x) := by simp [sls, List.map_set]
def SlE.zero : SlE := ⟨false, 0, 0, Nd.zero⟩
def AM.cntD (A : AM) (i : Int) : Int := if A.s.ok i = true then A.cntOf i else 0
def AM.dmpAt (A : AM) (i : Int) : SlE := ⟨A.s.ok i, A.cntD i, A.s.genOf i, (A.nodes[i.toNat]?).getD Nd.zero⟩
def AM.dmp (A : AM) : List SlE := (List.range A.s.cap.toNat).map fun j : Nat => A.dmpAt ((j : Int) + 1)
def AM.dmpK (A : AM) (k : Nat) : List SlE := (List.range A.s.cap.toNat).map fun j : Nat => if j < k then A.dmpAt ((j : Int) + 1) else SlE.zero
theorem AM.dmp_len (A : AM) : A.dmp.length = A.s.cap.toNat := by simp [AM.dmp]
theorem AM.dmpK_len (A : AM) (k : Nat) : (A.dmpK k).length = A.s.cap.toNat := by simp [AM.dmpK]
theorem AM.dmpK_0 (A : AM) : sls (A.dmpK 0) = List.replicate A.s.cap.toNat (slC SlE.zero) := by
  unfold AM.dmpK
  have : (List.range A.s.cap.toNat).map (fun j : Nat => if j < 0 then A.dmpAt ((j : Int) + 1) else SlE.zero) = List.replicate A.s.cap.toNat SlE.zero := by
    apply List.ext_getElem <;> simp
  rw [this]; simp [sls]
theorem AM.dmpK_set (A : AM) {k : Nat} : (A.dmpK k).set k (A.dmpAt ((k : Int) + 1)) = A.dmpK (k + 1) := by
  apply List.ext_getElem?
  intro i
  rw [List.getElem?_set]
  unfold AM.dmpK
  rw [List.length_map, List.length_range, List.getElem?_map, List.getElem?_map]
  by_cases hi : i < A.s.cap.toNat
  · rw [List.getElem?_range hi]
    by_cases hk : k = i
    · subst hk; rw [if_pos rfl, if_pos hi]; simp
    · rw [if_neg hk]
      simp only [Option.map_some]
      by_cases h2 : i < k
      · rw [if_pos h2, if_pos (by omega)]
      · rw [if_neg h2, if_neg (by omega)]
  · have hn : (List.range A.s.cap.toNat)[i]? = none := List.getElem?_eq_none (by simp; omega)
    rw [hn]
    by_cases hk : k = i
    · subst hk; rw [if_pos rfl, if_neg hi]; rfl
    · rw [if_neg hk]; rfl
theorem AM.dmpK_end (A : AM) : A.dmpK A.s.cap.toNat = A.dmp := by
  unfold AM.dmpK AM.dmp
  refine List.map_congr_left fun j hj => ?_
  rw [if_pos (List.mem_range.1 hj)]
end Go.V
/-! ## D2 -/
namespace Go.Proofs.YtbeacjcmdijdmaaGreat
open Go Go.V
set_option maxRecDepth 8192 in
theorem ar_cap_o {g w : World} {L : List HP} (a p : Nat) (A : AM) (na : Option Addr) (nc : Nat) (ca : Option Addr) (cc : Nat) (rd : Int) (hA : AWf A) (hS : St g (cel a #[.pointer (some ⟨p, 0, none⟩), .slice na (List.length (nds A.nodes)) nc, .slice ca (List.length (i64s A.cnt)) cc, .int .u64 rd] 161 :: Slt p A.s :: Own 172 8 (nds A.nodes) na nc :: Own 3 1 (i64s A.cnt) ca cc :: L) w) :
    Sp Tryz.prog 14 [.pointer (some ⟨a, 0, none⟩)] w (fun v w' => v = .int .i64 A.s.cap ∧ St g (cel a #[.pointer (some ⟨p, 0, none⟩), .slice na (List.length (nds A.nodes)) nc, .slice ca (List.length (i64s A.cnt)) cc, .int .u64 rd] 161 :: Slt p A.s :: Own 172 8 (nds A.nodes) na nc :: Own 3 1 (i64s A.cnt) ca cc :: L) w') := by
  refine Sp.enter Tryz.func14 rfl (by kernel_rfl) (by kernel_rfl) ?_
  refine WC.seq <| WC.region ?_
  have hs := hA.s
  refine WL.r 1 rfl <| WL.nil <| WC.seq <| WC.region <| WL.run 4 [.pointer (some ⟨p, 0, none⟩)] rfl (by exact hS.ld 0 rfl rfl) ?_
  refine WL.call rfl rfl (sl_cap (S := A.s) (hl := hA.s.le) (hS := (hS.sel 2 [1, 0] rfl))) rfl ?_
  clear hS; rintro _ w ⟨rfl, hS⟩
  replace hS := hS.n4 L rfl
  refine WL.r 1 rfl <| WL.nil <| WC.ret ?_
  refine ⟨[.int .i64 A.s.cap], rfl, ?_⟩
  replace hS := (hS.sel 2 [1, 0] rfl)
  exact ⟨rfl, hS⟩
set_option maxRecDepth 8192 in
theorem ar_gen_o {g w : World} {L : List HP} (a p : Nat) (A : AM) (na : Option Addr) (nc : Nat) (ca : Option Addr) (cc : Nat) (rd : Int) (i : Int) (hA : AWf A) (hi : 0 ≤ i ∧ i < 4294967296) (hS : St g (cel a #[.pointer (some ⟨p, 0, none⟩), .slice na (List.length (nds A.nodes)) nc, .slice ca (List.length (i64s A.cnt)) cc, .int .u64 rd] 161 :: Slt p A.s :: Own 172 8 (nds A.nodes) na nc :: Own 3 1 (i64s A.cnt) ca cc :: L) w) :
    Sp Tryz.prog 82 [.pointer (some ⟨a, 0, none⟩), .int .u32 i] w (fun v w' => v = .int .u32 (A.s.genOf i) ∧ St g (cel a #[.pointer (some ⟨p, 0, none⟩), .slice na (List.length (nds A.nodes)) nc, .slice ca (List.length (i64s A.cnt)) cc, .int .u64 rd] 161 :: Slt p A.s :: Own 172 8 (nds A.nodes) na nc :: Own 3 1 (i64s A.cnt) ca cc :: L) w') := by
  refine Sp.enter Tryz.func82 rfl (by kernel_rfl) (by kernel_rfl) ?_
  have _ := hi
  refine WC.seq <| WC.region ?_
  have hs := hA.s
  refine WL.r 1 rfl <| WL.nil <| WC.seq <| WC.region <| WL.run 5 [.pointer (some ⟨p, 0, none⟩)] rfl (by exact hS.ld 0 rfl rfl) ?_
  refine WL.call rfl rfl (sl_gen (S := A.s) (i := i) (hl := (by first | assumption | exact SOk.gle (by assumption))) (hi := (by omega)) (hS := (hS.sel 2 [1, 0] rfl))) rfl ?_
  clear hS; rintro _ w ⟨rfl, hS⟩
  replace hS := hS.n4 L rfl
  refine WL.r 1 rfl <| WL.nil <| WC.ret ?_
  refine ⟨[.int .u32 (A.s.genOf i)], rfl, ?_⟩
  replace hS := (hS.sel 2 [1, 0] rfl)
  exact ⟨rfl, hS⟩
set_option maxRecDepth 8192 in
theorem ar_count_o {g w : World} {L : List HP} (a p : Nat) (A : AM) (na : Option Addr) (nc : Nat) (ca : Option Addr) (cc : Nat) (rd : Int) (i : Int) (hA : AWf A) (hi : 0 ≤ i ∧ i < 4294967296) (hS : St g (cel a #[.pointer (some ⟨p, 0, none⟩), .slice na (List.length (nds A.nodes)) nc, .slice ca (List.length (i64s A.cnt)) cc, .int .u64 rd] 161 :: Slt p A.s :: Own 172 8 (nds A.nodes) na nc :: Own 3 1 (i64s A.cnt) ca cc :: L) w) :
    Sp Tryz.prog 81 [.pointer (some ⟨a, 0, none⟩), .int .u32 i] w (fun v w' => v = .int .i64 (AM.cntD A i) ∧ St g (cel a #[.pointer (some ⟨p, 0, none⟩), .slice na (List.length (nds A.nodes)) nc, .slice ca (List.length (i64s A.cnt)) cc, .int .u64 rd] 161 :: Slt p A.s :: Own 172 8 (nds A.nodes) na nc :: Own 3 1 (i64s A.cnt) ca cc :: L) w') := by
  refine Sp.enter Tryz.func81 rfl (by kernel_rfl) (by kernel_rfl) ?_
  refine WC.seq <| WC.region <| WL.r 1 rfl <| WL.nil <| WC.seq <| WC.seq <| WC.region ?_
  have hs := hA.s; have hle := hA.s.le; have hcl := hA.cl; have hil := i64s_len A.cnt
  refine WL.run 5 [.pointer (some ⟨p, 0, none⟩)] rfl (by exact hS.ld 0 rfl rfl) ?_
  refine WL.call rfl rfl (sl_ok (S := A.s) (i := i) (hl := hle) (hi := hi) (hS := (hS.sel 2 [1, 0] rfl))) rfl ?_
  clear hS; rintro _ w ⟨rfl, hS⟩
  replace hS := hS.n4 L rfl
  refine WL.r 1 rfl <| WL.nil <| WC.if_ rfl (fun hc => ?_) (fun hc => ?_)
  · refine WC.seq <| WC.region <| WL.r 1 rfl <| WL.nil <| WC.ret ?_
    refine ⟨[.int .i64 0], rfl, ?_⟩
    replace hS := (hS.sel 2 [1, 0] rfl)
    exact ⟨by unfold AM.cntD; rw [if_neg (by simpa using hc)]; rfl, hS⟩
  · refine WC.skip <| WC.seq <| WC.region <| WL.run 5 [.slice ca (List.length (i64s A.cnt)) cc] rfl (by exact hS.ld 1 rfl rfl) ?_
    have hr := SM.ok_rng hA.s hi.1 (by simpa using hc); obtain ⟨x, hx⟩ : ∃ x, A.cnt[i.toNat]? = some x := ⟨_, List.getElem?_eq_getElem (by omega)⟩
    refine WL.ix rfl rfl (i := i) (i.toNat) el_56 rfl rfl (by omega) (by omega) (hS.rdO 3 rfl (i64s_at hx)).1 ?_
    refine WL.run 2 [.int .i64 x] rfl (by exact (hS.rdO 3 rfl (i64s_at hx)).2 0 _ rfl) ?_
    refine WL.nil <| WC.ret ?_
    refine ⟨[.int .i64 x], rfl, ?_⟩
    replace hS := (hS.sel 2 [1, 0] rfl)
    exact ⟨by unfold AM.cntD AM.cntOf; rw [if_pos (by simpa using hc), hx]; rfl, hS⟩
end Go.Proofs.YtbeacjcmdijdmaaGreat
/-! ## D3 -/
namespace Go.Proofs.YtbeacjcmdijdmaaGreat
open Go Go.V
theorem dmp_nd {A : AM} (h : AWf A) {k : Nat} (hk : (k : Int) < A.s.cap) : ∃ nd, A.nodes[k + 1]? = some nd ∧ (A.dmpAt ((k : Int) + 1)).nd = nd := by
  have hn := h.nl
  have hc : A.s.cap = (A.s.used.length : Int) - 1 := rfl
  have h1 : A.nodes[k + 1]? = some (A.nodes[k + 1]'(by omega)) := List.getElem?_eq_getElem (by omega)
  refine ⟨_, h1, ?_⟩
  show (A.nodes[((k : Int) + 1).toNat]?).getD Nd.zero = _
  rw [show ((k : Int) + 1).toNat = k + 1 by omega, h1]; rfl
theorem dmp_zero (A : AM) : List.replicate A.s.cap.toNat [.bool false, .int .i64 0, .int .u32 0, .int .i64 0, .int .i64 0, .int .u32 0, .int .u32 0, .int .i64 0, .int .i64 0, .int .i64 0, .int .i64 0] = sls (A.dmpK 0) := A.dmpK_0.symm
theorem dmp_st {A : AM} {k : Nat} {nd : Nd} (h : (A.dmpAt ((k : Int) + 1)).nd = nd) : (sls (A.dmpK k)).set k [.bool (A.s.ok ((k : Int) + 1)), .int .i64 (A.cntD ((k : Int) + 1)), .int .u32 (A.s.genOf ((k : Int) + 1)), .int .i64 nd.key, .int .i64 nd.val, .int .u32 nd.lf, .int .u32 nd.rg, .int .i64 nd.size, .int .i64 nd.sum, .int .i64 nd.mn, .int .i64 nd.mx] = sls (A.dmpK (k + 1)) := by
  subst h
  exact (sls_set (A.dmpK k) k (A.dmpAt ((k : Int) + 1))).trans (congrArg sls A.dmpK_set)
set_option maxHeartbeats 2000000 in
set_option maxRecDepth 8192 in
theorem ar_dump {g w : World} {L : List HP} (a : Nat) (A : AM) (hA : AWf A) (hS : St g (Arn a A :: L) w) :
    Sp Tryz.prog 20 [.pointer (some ⟨a, 0, none⟩)] w (fun v w' => ∃ (a2 : Option Addr) (c2 : Nat) (a4 : Option Addr) (c4 : Nat), v = .agg #[.slice a2 (List.length (sls (AM.dmp A))) c2, .slice a4 (List.length (u32s (SM.order A.s))) c4] ∧ St g (Own 174 11 (sls (AM.dmp A)) a2 c2 :: Own 64 1 (u32s (SM.order A.s)) a4 c4 :: Arn a A :: L) w') := by
  refine Sp.enter Tryz.func20 rfl (by kernel_rfl) (by kernel_rfl) ?_
  refine WC.seq <| WC.region ?_
  obtain ⟨⟨xp, xna, xnc, xca, xcc, xrd⟩, hS⟩ := St.exOpen (f := arnF a A) hS
  replace hS : St g (cel a #[.pointer (some ⟨xp, 0, none⟩), .slice xna (List.length (nds A.nodes)) xnc, .slice xca (List.length (i64s A.cnt)) xcc, .int .u64 xrd] 161 :: Slt xp A.s :: Own 172 8 (nds A.nodes) xna xnc :: Own 3 1 (i64s A.cnt) xca xcc :: L) w := hS
  have hs := hA.s; have hle := hA.s.le; have hcp : A.s.cap = (A.s.used.length : Int) - 1 := rfl; have hce := hA.s.cap
  refine WL.new rfl rfl zv_62 hS (fun b1 w hS => ?_)
  refine WL.nil <| WC.seq <| WC.cut [0, 2, 3] (fun vs w => ∃ (b : Nat) (ua : Option Addr) (ub : Option Addr) (ud : Nat), vs = [.pointer (some ⟨a, 0, none⟩), .pointer (some ⟨b1, 0, none⟩), .pointer (some ⟨b, 0, none⟩)] ∧ St g (cel b #[.slice ua A.s.cap.toNat A.s.cap.toNat, .slice ub (List.length (u32s (SM.order A.s))) ud] 62 :: Own 174 11 (List.replicate A.s.cap.toNat [.bool false, .int .i64 0, .int .u32 0, .int .i64 0, .int .i64 0, .int .u32 0, .int .u32 0, .int .i64 0, .int .i64 0, .int .i64 0, .int .i64 0]) ua A.s.cap.toNat :: Own 64 1 (u32s (SM.order A.s)) ub ud :: cel b1 #[.slice none 0 0, .slice none 0 0] 62 :: cel a #[.pointer (some ⟨xp, 0, none⟩), .slice xna (List.length (nds A.nodes)) xnc, .slice xca (List.length (i64s A.cnt)) xcc, .int .u64 xrd] 161 :: Slt xp A.s :: Own 172 8 (nds A.nodes) xna xnc :: Own 3 1 (i64s A.cnt) xca xcc :: L) w) ?_ ?_
  · refine WC.tree (.two [0, 3, 4, 5, 6] 1 [3, 4, 5, 6] (.three [] 2 [3, 4, 5, 6] (.two [] 7 [] (.one [8] 9 [0, 3, 4, 5, 6, 8] (.one [] 10 [] .nil)) 9 [0, 3, 4, 5, 6] (.one [] 7 [] (.one [8] 10 [] .nil))) 7 [] (.two [] 2 [3, 4, 5, 6] (.one [8] 9 [0, 3, 4, 5, 6, 8] (.one [] 10 [] .nil)) 9 [0, 3, 4, 5, 6] (.one [] 2 [3, 4, 5, 6] (.one [8] 10 [] .nil))) 9 [0, 3, 4, 5, 6] (.two [] 2 [3, 4, 5, 6] (.one [] 7 [] (.one [8] 10 [] .nil)) 7 [] (.one [] 2 [3, 4, 5, 6] (.one [8] 10 [] .nil)))) 9 [0, 3, 4, 5, 6] (.one [] 1 [3, 4, 5, 6] (.two [] 2 [3, 4, 5, 6] (.one [] 7 [] (.one [8] 10 [] .nil)) 7 [] (.one [] 2 [3, 4, 5, 6] (.one [8] 10 [] .nil))))) (by kernel_rfl) (by kernel_rfl) ?_
    refine WQ.run 5 [.pointer (some ⟨xp, 0, none⟩)] rfl (by exact hS.ld 1 rfl rfl) ?_
    refine WQ.nil ?_
    intro m1
    replace hS := hS.drewN m1; generalize hwm1 : World.drewN _ _ = w at *; clear hwm1
    refine ⟨?_, ?_⟩
    · refine WL.call rfl rfl (ar_cap_o (A := A) (rd := xrd) (hA := hA) (hS := (hS.sel 5 [1, 1, 1, 1, 0] rfl))) rfl ?_
      clear hS; rintro _ w ⟨rfl, hS⟩
      replace hS := hS.n5 L (a4 := cel b1 #[.slice none 0 0, .slice none 0 0] 62) rfl
      refine WL.nil ?_
      refine ⟨by exact ⟨RQ.pure rfl rfl rfl rfl, RQ.pure rfl rfl rfl rfl, RQ.pure rfl rfl rfl rfl, RQ.load rfl rfl rfl rfl (hS.ld 0 rfl rfl)⟩, ?_⟩
      refine WQ.nil ?_
      intro m2
      replace hS := hS.drewN m2; generalize hwm2 : World.drewN _ _ = w at *; clear hwm2
      refine ⟨?_, ?_, ?_⟩
      · refine WL.make rfl rfl (v := A.s.cap) (v' := A.s.cap) (A.s.cap.toNat) (A.s.cap.toNat) el_60 hS rfl (by omega) rfl (by omega) (by omega) (Rm.of (by omega) (by decide)) (fun b2 w hS => ?_)
        replace hS := hS.n6 L (a0 := Own 174 11 (List.replicate A.s.cap.toNat [.bool false, .int .i64 0, .int .u32 0, .int .i64 0, .int .i64 0, .int .u32 0, .int .u32 0, .int .i64 0, .int .i64 0, .int .i64 0, .int .i64 0]) (some ⟨b2, 0, none⟩) A.s.cap.toNat) rfl
        refine WL.nil ?_
        refine ⟨by exact ⟨RQ.pure rfl rfl rfl rfl, RQ.pure rfl rfl rfl rfl, RQ.pure rfl rfl rfl rfl, RQ.load rfl rfl rfl rfl (hS.ld 1 rfl rfl)⟩, ?_⟩
        refine WQ.nil ?_
        intro m3
        replace hS := hS.drewN m3; generalize hwm3 : World.drewN _ _ = w at *; clear hwm3
        refine ⟨?_, ?_⟩
        · refine WL.call rfl rfl (sl_order (S := A.s) (hO := hs) (hS := (hS.sel 3 [2, 0, 0] rfl))) rfl ?_
          clear hS; rintro _ w ⟨a1, c1, rfl, hS⟩
          replace hS := hS.n7 L (a0 := Own 64 1 (u32s (SM.order A.s)) a1 c1) rfl
          refine WL.nil ?_
          refine ⟨by exact trivial, ?_⟩
          refine WQ.build rfl rfl (cs := [.slice (some ⟨b2, 0, none⟩) A.s.cap.toNat A.s.cap.toNat, .slice a1 (List.length (u32s (SM.order A.s))) c1]) zv_62 rfl rfl <| WQ.nil ?_
          intro m4
          replace hS := hS.drewN m4; generalize hwm4 : World.drewN _ _ = w at *; clear hwm4
          refine WL.new rfl rfl zv_62 hS (fun b3 w hS => ?_)
          refine WL.nil ?_
          refine ⟨by exact ⟨RQ.pure rfl rfl rfl rfl, RQ.pure rfl rfl rfl rfl, RQ.pure rfl rfl rfl rfl, RQ.pure rfl rfl rfl rfl, RQ.load rfl rfl rfl rfl (hS.ld 4 rfl rfl), RQ.build rfl rfl (cs := [.slice (some ⟨b2, 0, none⟩) A.s.cap.toNat A.s.cap.toNat, .slice a1 (List.length (u32s (SM.order A.s))) c1]) zv_62 rfl rfl rfl rfl⟩, ?_⟩
          refine WQ.nil ?_
          intro m5
          replace hS := hS.drewN m5; generalize hwm5 : World.drewN _ _ = w at *; clear hwm5
          refine WL.stF rfl rfl rfl 0 hS rfl rfl rfl rfl rfl ag_62 (fun w hS => ?_)
          replace hS := hS.n8 L (a0 := cel b3 #[.slice (some ⟨b2, 0, none⟩) A.s.cap.toNat A.s.cap.toNat, .slice a1 (List.length (u32s (SM.order A.s))) c1] 62) rfl
          refine WL.nil ?_
          refine ⟨by exact trivial, ?_⟩
          intro m6
          replace hS := hS.drewN m6; generalize hwm6 : World.drewN _ _ = w at *; clear hwm6
          exact ⟨b3, (some ⟨b2, 0, none⟩), a1, c1, rfl, (hS.sel 8 [0, 2, 0, 4, 1, 0, 0, 0] rfl)⟩
        · refine WL.new rfl rfl zv_62 hS (fun b3 w hS => ?_)
          refine WL.nil ?_
          refine ⟨by exact ⟨RQ.pure rfl rfl rfl rfl, RQ.pure rfl rfl rfl rfl, RQ.pure rfl rfl rfl rfl, RQ.pure rfl rfl rfl rfl, RQ.load rfl rfl rfl rfl (hS.ld 2 rfl rfl)⟩, ?_⟩
          refine WQ.nil ?_
          intro m4
          replace hS := hS.drewN m4; generalize hwm4 : World.drewN _ _ = w at *; clear hwm4
          refine WL.call rfl rfl (sl_order (S := A.s) (hO := hs) (hS := (hS.sel 4 [3, 0, 0, 0] rfl))) rfl ?_
          clear hS; rintro _ w ⟨a1, c1, rfl, hS⟩
          replace hS := hS.n8 L (a0 := Own 64 1 (u32s (SM.order A.s)) a1 c1) (a2 := cel b3 #[.slice none 0 0, .slice none 0 0] 62) rfl
          refine WL.nil ?_
          refine ⟨by exact trivial, ?_⟩
          refine WQ.build rfl rfl (cs := [.slice (some ⟨b2, 0, none⟩) A.s.cap.toNat A.s.cap.toNat, .slice a1 (List.length (u32s (SM.order A.s))) c1]) zv_62 rfl rfl <| WQ.nil ?_
          intro m5
          replace hS := hS.drewN m5; generalize hwm5 : World.drewN _ _ = w at *; clear hwm5
          refine WL.stF rfl rfl rfl 2 hS rfl rfl rfl rfl rfl ag_62 (fun w hS => ?_)
          replace hS := hS.n8 L (a2 := cel b3 #[.slice (some ⟨b2, 0, none⟩) A.s.cap.toNat A.s.cap.toNat, .slice a1 (List.length (u32s (SM.order A.s))) c1] 62) rfl
          refine WL.nil ?_
          refine ⟨by exact trivial, ?_⟩
          intro m6
          replace hS := hS.drewN m6; generalize hwm6 : World.drewN _ _ = w at *; clear hwm6
          exact ⟨b3, (some ⟨b2, 0, none⟩), a1, c1, rfl, (hS.sel 8 [2, 2, 0, 4, 1, 0, 0, 0] rfl)⟩
      · refine WL.call rfl rfl (sl_order (S := A.s) (hO := hs) (hS := (hS.sel 2 [1, 0] rfl))) rfl ?_
        clear hS; rintro _ w ⟨a1, c1, rfl, hS⟩
        replace hS := hS.n6 L (a0 := Own 64 1 (u32s (SM.order A.s)) a1 c1) rfl
        refine WL.nil ?_
        refine ⟨by exact trivial, ?_⟩
        refine WQ.nil ?_
        intro m3
        replace hS := hS.drewN m3; generalize hwm3 : World.drewN _ _ = w at *; clear hwm3
        refine ⟨?_, ?_⟩
        · refine WL.make rfl rfl (v := A.s.cap) (v' := A.s.cap) (A.s.cap.toNat) (A.s.cap.toNat) el_60 hS rfl (by omega) rfl (by omega) (by omega) (Rm.of (by omega) (by decide)) (fun b2 w hS => ?_)
          replace hS := hS.n7 L (a0 := Own 174 11 (List.replicate A.s.cap.toNat [.bool false, .int .i64 0, .int .u32 0, .int .i64 0, .int .i64 0, .int .u32 0, .int .u32 0, .int .i64 0, .int .i64 0, .int .i64 0, .int .i64 0]) (some ⟨b2, 0, none⟩) A.s.cap.toNat) rfl
          refine WL.nil ?_
          refine ⟨by exact ⟨RQ.pure rfl rfl rfl rfl, RQ.pure rfl rfl rfl rfl, RQ.pure rfl rfl rfl rfl, RQ.load rfl rfl rfl rfl (hS.ld 3 rfl rfl)⟩, ?_⟩
          refine WQ.build rfl rfl (cs := [.slice (some ⟨b2, 0, none⟩) A.s.cap.toNat A.s.cap.toNat, .slice a1 (List.length (u32s (SM.order A.s))) c1]) zv_62 rfl rfl <| WQ.nil ?_
          intro m4
          replace hS := hS.drewN m4; generalize hwm4 : World.drewN _ _ = w at *; clear hwm4
          refine WL.new rfl rfl zv_62 hS (fun b3 w hS => ?_)
          refine WL.nil ?_
          refine ⟨by exact ⟨RQ.pure rfl rfl rfl rfl, RQ.pure rfl rfl rfl rfl, RQ.pure rfl rfl rfl rfl, RQ.pure rfl rfl rfl rfl, RQ.load rfl rfl rfl rfl (hS.ld 4 rfl rfl), RQ.build rfl rfl (cs := [.slice (some ⟨b2, 0, none⟩) A.s.cap.toNat A.s.cap.toNat, .slice a1 (List.length (u32s (SM.order A.s))) c1]) zv_62 rfl rfl rfl rfl⟩, ?_⟩
          refine WQ.nil ?_
          intro m5
          replace hS := hS.drewN m5; generalize hwm5 : World.drewN _ _ = w at *; clear hwm5
          refine WL.stF rfl rfl rfl 0 hS rfl rfl rfl rfl rfl ag_62 (fun w hS => ?_)
          replace hS := hS.n8 L (a0 := cel b3 #[.slice (some ⟨b2, 0, none⟩) A.s.cap.toNat A.s.cap.toNat, .slice a1 (List.length (u32s (SM.order A.s))) c1] 62) rfl
          refine WL.nil ?_
          refine ⟨by exact trivial, ?_⟩
          intro m6
          replace hS := hS.drewN m6; generalize hwm6 : World.drewN _ _ = w at *; clear hwm6
          exact ⟨b3, (some ⟨b2, 0, none⟩), a1, c1, rfl, (hS.sel 8 [0, 0, 0, 4, 1, 0, 0, 0] rfl)⟩
        · refine WL.new rfl rfl zv_62 hS (fun b2 w hS => ?_)
          refine WL.nil ?_
          refine ⟨by exact ⟨RQ.pure rfl rfl rfl rfl, RQ.pure rfl rfl rfl rfl, RQ.pure rfl rfl rfl rfl, RQ.pure rfl rfl rfl rfl, RQ.load rfl rfl rfl rfl (hS.ld 3 rfl rfl)⟩, ?_⟩
          refine WQ.nil ?_
          intro m4
          replace hS := hS.drewN m4; generalize hwm4 : World.drewN _ _ = w at *; clear hwm4
          refine WL.make rfl rfl (v := A.s.cap) (v' := A.s.cap) (A.s.cap.toNat) (A.s.cap.toNat) el_60 hS rfl (by omega) rfl (by omega) (by omega) (Rm.of (by omega) (by decide)) (fun b3 w hS => ?_)
          replace hS := hS.n8 L (a0 := Own 174 11 (List.replicate A.s.cap.toNat [.bool false, .int .i64 0, .int .u32 0, .int .i64 0, .int .i64 0, .int .u32 0, .int .u32 0, .int .i64 0, .int .i64 0, .int .i64 0, .int .i64 0]) (some ⟨b3, 0, none⟩) A.s.cap.toNat) (a1 := cel b2 #[.slice none 0 0, .slice none 0 0] 62) rfl
          refine WL.nil ?_
          refine ⟨by exact ⟨RQ.pure rfl rfl rfl rfl, RQ.pure rfl rfl rfl rfl, RQ.pure rfl rfl rfl rfl, RQ.load rfl rfl rfl rfl (hS.ld 4 rfl rfl)⟩, ?_⟩
          refine WQ.build rfl rfl (cs := [.slice (some ⟨b3, 0, none⟩) A.s.cap.toNat A.s.cap.toNat, .slice a1 (List.length (u32s (SM.order A.s))) c1]) zv_62 rfl rfl <| WQ.nil ?_
          intro m5
          replace hS := hS.drewN m5; generalize hwm5 : World.drewN _ _ = w at *; clear hwm5
          refine WL.stF rfl rfl rfl 1 hS rfl rfl rfl rfl rfl ag_62 (fun w hS => ?_)
          replace hS := hS.n8 L (a1 := cel b2 #[.slice (some ⟨b3, 0, none⟩) A.s.cap.toNat A.s.cap.toNat, .slice a1 (List.length (u32s (SM.order A.s))) c1] 62) rfl
          refine WL.nil ?_
          refine ⟨by exact trivial, ?_⟩
          intro m6
          replace hS := hS.drewN m6; generalize hwm6 : World.drewN _ _ = w at *; clear hwm6
          exact ⟨b2, (some ⟨b3, 0, none⟩), a1, c1, rfl, (hS.sel 8 [1, 0, 0, 4, 1, 0, 0, 0] rfl)⟩
      · refine WL.new rfl rfl zv_62 hS (fun b2 w hS => ?_)
        refine WL.nil ?_
        refine ⟨by exact ⟨RQ.pure rfl rfl rfl rfl, RQ.pure rfl rfl rfl rfl, RQ.pure rfl rfl rfl rfl, RQ.pure rfl rfl rfl rfl, RQ.load rfl rfl rfl rfl (hS.ld 1 rfl rfl)⟩, ?_⟩
        refine WQ.nil ?_
        intro m3
        replace hS := hS.drewN m3; generalize hwm3 : World.drewN _ _ = w at *; clear hwm3
        refine ⟨?_, ?_⟩
        · refine WL.make rfl rfl (v := A.s.cap) (v' := A.s.cap) (A.s.cap.toNat) (A.s.cap.toNat) el_60 hS rfl (by omega) rfl (by omega) (by omega) (Rm.of (by omega) (by decide)) (fun b3 w hS => ?_)
          replace hS := hS.n7 L (a0 := Own 174 11 (List.replicate A.s.cap.toNat [.bool false, .int .i64 0, .int .u32 0, .int .i64 0, .int .i64 0, .int .u32 0, .int .u32 0, .int .i64 0, .int .i64 0, .int .i64 0, .int .i64 0]) (some ⟨b3, 0, none⟩) A.s.cap.toNat) (a1 := cel b2 #[.slice none 0 0, .slice none 0 0] 62) rfl
          refine WL.nil ?_
          refine ⟨by exact ⟨RQ.pure rfl rfl rfl rfl, RQ.pure rfl rfl rfl rfl, RQ.pure rfl rfl rfl rfl, RQ.load rfl rfl rfl rfl (hS.ld 2 rfl rfl)⟩, ?_⟩
          refine WQ.nil ?_
          intro m4
          replace hS := hS.drewN m4; generalize hwm4 : World.drewN _ _ = w at *; clear hwm4
          refine WL.call rfl rfl (sl_order (S := A.s) (hO := hs) (hS := (hS.sel 4 [3, 0, 0, 0] rfl))) rfl ?_
          clear hS; rintro _ w ⟨a1, c1, rfl, hS⟩
          replace hS := hS.n8 L (a0 := Own 64 1 (u32s (SM.order A.s)) a1 c1) rfl
          refine WL.nil ?_
          refine ⟨by exact trivial, ?_⟩
          refine WQ.build rfl rfl (cs := [.slice (some ⟨b3, 0, none⟩) A.s.cap.toNat A.s.cap.toNat, .slice a1 (List.length (u32s (SM.order A.s))) c1]) zv_62 rfl rfl <| WQ.nil ?_
          intro m5
          replace hS := hS.drewN m5; generalize hwm5 : World.drewN _ _ = w at *; clear hwm5
          refine WL.stF rfl rfl rfl 3 hS rfl rfl rfl rfl rfl ag_62 (fun w hS => ?_)
          replace hS := hS.n8 L (a3 := cel b2 #[.slice (some ⟨b3, 0, none⟩) A.s.cap.toNat A.s.cap.toNat, .slice a1 (List.length (u32s (SM.order A.s))) c1] 62) rfl
          refine WL.nil ?_
          refine ⟨by exact trivial, ?_⟩
          intro m6
          replace hS := hS.drewN m6; generalize hwm6 : World.drewN _ _ = w at *; clear hwm6
          exact ⟨b2, (some ⟨b3, 0, none⟩), a1, c1, rfl, (hS.sel 8 [3, 2, 0, 4, 1, 0, 0, 0] rfl)⟩
        · refine WL.call rfl rfl (sl_order (S := A.s) (hO := hs) (hS := (hS.sel 3 [2, 0, 0] rfl))) rfl ?_
          clear hS; rintro _ w ⟨a1, c1, rfl, hS⟩
          replace hS := hS.n7 L (a0 := Own 64 1 (u32s (SM.order A.s)) a1 c1) (a2 := cel b2 #[.slice none 0 0, .slice none 0 0] 62) rfl
          refine WL.nil ?_
          refine ⟨by exact trivial, ?_⟩
          refine WQ.nil ?_
          intro m4
          replace hS := hS.drewN m4; generalize hwm4 : World.drewN _ _ = w at *; clear hwm4
          refine WL.make rfl rfl (v := A.s.cap) (v' := A.s.cap) (A.s.cap.toNat) (A.s.cap.toNat) el_60 hS rfl (by omega) rfl (by omega) (by omega) (Rm.of (by omega) (by decide)) (fun b3 w hS => ?_)
          replace hS := hS.n8 L (a0 := Own 174 11 (List.replicate A.s.cap.toNat [.bool false, .int .i64 0, .int .u32 0, .int .i64 0, .int .i64 0, .int .u32 0, .int .u32 0, .int .i64 0, .int .i64 0, .int .i64 0, .int .i64 0]) (some ⟨b3, 0, none⟩) A.s.cap.toNat) rfl
          refine WL.nil ?_
          refine ⟨by exact ⟨RQ.pure rfl rfl rfl rfl, RQ.pure rfl rfl rfl rfl, RQ.pure rfl rfl rfl rfl, RQ.load rfl rfl rfl rfl (hS.ld 4 rfl rfl)⟩, ?_⟩
          refine WQ.build rfl rfl (cs := [.slice (some ⟨b3, 0, none⟩) A.s.cap.toNat A.s.cap.toNat, .slice a1 (List.length (u32s (SM.order A.s))) c1]) zv_62 rfl rfl <| WQ.nil ?_
          intro m5
          replace hS := hS.drewN m5; generalize hwm5 : World.drewN _ _ = w at *; clear hwm5
          refine WL.stF rfl rfl rfl 3 hS rfl rfl rfl rfl rfl ag_62 (fun w hS => ?_)
          replace hS := hS.n8 L (a3 := cel b2 #[.slice (some ⟨b3, 0, none⟩) A.s.cap.toNat A.s.cap.toNat, .slice a1 (List.length (u32s (SM.order A.s))) c1] 62) rfl
          refine WL.nil ?_
          refine ⟨by exact trivial, ?_⟩
          intro m6
          replace hS := hS.drewN m6; generalize hwm6 : World.drewN _ _ = w at *; clear hwm6
          exact ⟨b2, (some ⟨b3, 0, none⟩), a1, c1, rfl, (hS.sel 8 [3, 0, 0, 4, 1, 0, 0, 0] rfl)⟩
    · refine WL.new rfl rfl zv_62 hS (fun b2 w hS => ?_)
      refine WL.nil ?_
      refine ⟨by exact ⟨RQ.pure rfl rfl rfl rfl, RQ.pure rfl rfl rfl rfl, RQ.pure rfl rfl rfl rfl, RQ.pure rfl rfl rfl rfl, RQ.load rfl rfl rfl rfl (hS.ld 2 rfl rfl)⟩, ?_⟩
      refine WQ.nil ?_
      intro m2
      replace hS := hS.drewN m2; generalize hwm2 : World.drewN _ _ = w at *; clear hwm2
      refine WL.call rfl rfl (ar_cap_o (A := A) (rd := xrd) (hA := hA) (hS := (hS.sel 6 [2, 2, 2, 2, 0, 0] rfl))) rfl ?_
      clear hS; rintro _ w ⟨rfl, hS⟩
      replace hS := hS.n6 L (a4 := cel b2 #[.slice none 0 0, .slice none 0 0] 62) (a5 := cel b1 #[.slice none 0 0, .slice none 0 0] 62) rfl
      refine WL.nil ?_
      refine ⟨by exact ⟨RQ.pure rfl rfl rfl rfl, RQ.pure rfl rfl rfl rfl, RQ.pure rfl rfl rfl rfl, RQ.load rfl rfl rfl rfl (hS.ld 0 rfl rfl)⟩, ?_⟩
      refine WQ.nil ?_
      intro m3
      replace hS := hS.drewN m3; generalize hwm3 : World.drewN _ _ = w at *; clear hwm3
      refine ⟨?_, ?_⟩
      · refine WL.make rfl rfl (v := A.s.cap) (v' := A.s.cap) (A.s.cap.toNat) (A.s.cap.toNat) el_60 hS rfl (by omega) rfl (by omega) (by omega) (Rm.of (by omega) (by decide)) (fun b3 w hS => ?_)
        replace hS := hS.n7 L (a0 := Own 174 11 (List.replicate A.s.cap.toNat [.bool false, .int .i64 0, .int .u32 0, .int .i64 0, .int .i64 0, .int .u32 0, .int .u32 0, .int .i64 0, .int .i64 0, .int .i64 0, .int .i64 0]) (some ⟨b3, 0, none⟩) A.s.cap.toNat) rfl
        refine WL.nil ?_
        refine ⟨by exact ⟨RQ.pure rfl rfl rfl rfl, RQ.pure rfl rfl rfl rfl, RQ.pure rfl rfl rfl rfl, RQ.load rfl rfl rfl rfl (hS.ld 1 rfl rfl)⟩, ?_⟩
        refine WQ.nil ?_
        intro m4
        replace hS := hS.drewN m4; generalize hwm4 : World.drewN _ _ = w at *; clear hwm4
        refine WL.call rfl rfl (sl_order (S := A.s) (hO := hs) (hS := (hS.sel 3 [2, 0, 0] rfl))) rfl ?_
        clear hS; rintro _ w ⟨a1, c1, rfl, hS⟩
        replace hS := hS.n8 L (a0 := Own 64 1 (u32s (SM.order A.s)) a1 c1) rfl
        refine WL.nil ?_
        refine ⟨by exact trivial, ?_⟩
        refine WQ.build rfl rfl (cs := [.slice (some ⟨b3, 0, none⟩) A.s.cap.toNat A.s.cap.toNat, .slice a1 (List.length (u32s (SM.order A.s))) c1]) zv_62 rfl rfl <| WQ.nil ?_
        intro m5
        replace hS := hS.drewN m5; generalize hwm5 : World.drewN _ _ = w at *; clear hwm5
        refine WL.stF rfl rfl rfl 6 hS rfl rfl rfl rfl rfl ag_62 (fun w hS => ?_)
        replace hS := hS.n8 L (a6 := cel b2 #[.slice (some ⟨b3, 0, none⟩) A.s.cap.toNat A.s.cap.toNat, .slice a1 (List.length (u32s (SM.order A.s))) c1] 62) rfl
        refine WL.nil ?_
        refine ⟨by exact trivial, ?_⟩
        intro m6
        replace hS := hS.drewN m6; generalize hwm6 : World.drewN _ _ = w at *; clear hwm6
        exact ⟨b2, (some ⟨b3, 0, none⟩), a1, c1, rfl, (hS.sel 8 [6, 2, 0, 4, 1, 0, 0, 0] rfl)⟩
      · refine WL.call rfl rfl (sl_order (S := A.s) (hO := hs) (hS := (hS.sel 2 [1, 0] rfl))) rfl ?_
        clear hS; rintro _ w ⟨a1, c1, rfl, hS⟩
        replace hS := hS.n7 L (a0 := Own 64 1 (u32s (SM.order A.s)) a1 c1) rfl
        refine WL.nil ?_
        refine ⟨by exact trivial, ?_⟩
        refine WQ.nil ?_
        intro m4
        replace hS := hS.drewN m4; generalize hwm4 : World.drewN _ _ = w at *; clear hwm4
        refine WL.make rfl rfl (v := A.s.cap) (v' := A.s.cap) (A.s.cap.toNat) (A.s.cap.toNat) el_60 hS rfl (by omega) rfl (by omega) (by omega) (Rm.of (by omega) (by decide)) (fun b3 w hS => ?_)
        replace hS := hS.n8 L (a0 := Own 174 11 (List.replicate A.s.cap.toNat [.bool false, .int .i64 0, .int .u32 0, .int .i64 0, .int .i64 0, .int .u32 0, .int .u32 0, .int .i64 0, .int .i64 0, .int .i64 0, .int .i64 0]) (some ⟨b3, 0, none⟩) A.s.cap.toNat) rfl
        refine WL.nil ?_
        refine ⟨by exact ⟨RQ.pure rfl rfl rfl rfl, RQ.pure rfl rfl rfl rfl, RQ.pure rfl rfl rfl rfl, RQ.load rfl rfl rfl rfl (hS.ld 3 rfl rfl)⟩, ?_⟩
        refine WQ.build rfl rfl (cs := [.slice (some ⟨b3, 0, none⟩) A.s.cap.toNat A.s.cap.toNat, .slice a1 (List.length (u32s (SM.order A.s))) c1]) zv_62 rfl rfl <| WQ.nil ?_
        intro m5
        replace hS := hS.drewN m5; generalize hwm5 : World.drewN _ _ = w at *; clear hwm5
        refine WL.stF rfl rfl rfl 6 hS rfl rfl rfl rfl rfl ag_62 (fun w hS => ?_)
        replace hS := hS.n8 L (a6 := cel b2 #[.slice (some ⟨b3, 0, none⟩) A.s.cap.toNat A.s.cap.toNat, .slice a1 (List.length (u32s (SM.order A.s))) c1] 62) rfl
        refine WL.nil ?_
        refine ⟨by exact trivial, ?_⟩
        intro m6
        replace hS := hS.drewN m6; generalize hwm6 : World.drewN _ _ = w at *; clear hwm6
        exact ⟨b2, (some ⟨b3, 0, none⟩), a1, c1, rfl, (hS.sel 8 [6, 0, 0, 4, 1, 0, 0, 0] rfl)⟩
  clear hS; rintro _ w j ⟨b, ua, ub, ud, rfl, hS⟩
  refine WC.seq <| WC.seq <| WC.region ?_
  rw [dmp_zero] at hS
  refine WL.run 4 [.slice ua A.s.cap.toNat A.s.cap.toNat] rfl (by exact hS.ld 0 rfl rfl) ?_
  refine WL.nil <| WC.block <| WC.loop [0, 2, 3, 17, 18] (fun kM vs w => ∃ (k : Nat), vs = [.pointer (some ⟨a, 0, none⟩), .pointer (some ⟨b1, 0, none⟩), .pointer (some ⟨b, 0, none⟩), .int .i64 (A.s.cap.toNat : Int), .int .i64 (k : Int)] ∧ St g (cel b #[.slice ua A.s.cap.toNat A.s.cap.toNat, .slice ub (List.length (u32s (SM.order A.s))) ud] 62 :: Own 174 11 (sls (AM.dmpK A k)) ua A.s.cap.toNat :: Own 64 1 (u32s (SM.order A.s)) ub ud :: cel b1 #[.slice none 0 0, .slice none 0 0] 62 :: cel a #[.pointer (some ⟨xp, 0, none⟩), .slice xna (List.length (nds A.nodes)) xnc, .slice xca (List.length (i64s A.cnt)) xcc, .int .u64 xrd] 161 :: Slt xp A.s :: Own 172 8 (nds A.nodes) xna xnc :: Own 3 1 (i64s A.cnt) xca xcc :: L) w ∧ (k ≤ A.s.cap.toNat) ∧ (A.s.cap.toNat - k) = kM) (A.s.cap.toNat - 0) ⟨0, rfl, hS, (Nat.zero_le _), rfl⟩ ?_
  clear hS; rintro _ _ w j ⟨k, rfl, hS, hk, rfl⟩
  refine WC.seq <| WC.region <| WL.r 1 rfl <| WL.nil <| WC.seq <| WC.ifP rfl (fun cd1 => ?_) (fun cd1 => ?_)
  · refine WC.skip ?_
    as_aux_lemma =>
    refine WC.seq <| WC.block <| WC.seq <| WC.region <| WL.r 2 rfl <| WL.nil <| WC.seq <| WC.region ?_
    obtain ⟨nd, hnd, hne⟩ := dmp_nd hA (k := k) (by omega); have hnl := nds_len A.nodes; have hnn := hA.nl; have hkl := AM.dmpK_len A k; have hsl := sls_len (AM.dmpK A k); obtain ⟨z, hz⟩ : ∃ z, (AM.dmpK A k)[k]? = some z := ⟨_, List.getElem?_eq_getElem (by omega)⟩
    refine WL.r 2 rfl <| WL.nw 22 rfl (w64 (by omega)) ?_
    refine WL.r 1 rfl <| WL.nw 23 rfl (wu32 (by omega)) ?_
    refine WL.r 1 rfl <| WL.nil <| WC.plan [([0, 2, 3, 7, 9, 10, 12, 13, 15, 19, 1, 4, 16, 5, 17, 6, 18, 20, 21], some (8, [0, 1, 2, 9, 10, 12, 13, 15, 16, 17, 18, 19, 20, 21])), ([], some (11, [0, 1, 2, 12, 13, 15, 16, 17, 18, 19, 20, 21])), ([], some (14, [0, 1, 2, 15, 16, 17, 18, 19, 20, 21])), ([22, 23], some (24, []))] (by kernel_rfl) (by kernel_rfl) ?_
    refine WQ.run 17 [.slice ua A.s.cap.toNat A.s.cap.toNat, .pointer (some ⟨xp, 0, none⟩), .slice xna (List.length (nds A.nodes)) xnc] rfl (by exact ⟨hS.ld 0 rfl rfl, hS.ld 4 rfl rfl, hS.ld 4 rfl rfl⟩) ?_
    refine WQ.ix rfl rfl (i := (k : Int) + 1) (k + 1) el_159 rfl rfl (by omega) (by omega) (hS.rdO 6 rfl (nds_at hnd)).1 ?_
    refine WQ.ldC rfl rfl [.int .i64 nd.key, .int .i64 nd.val, .int .u32 nd.lf, .int .u32 nd.rg, .int .i64 nd.size, .int .i64 nd.sum, .int .i64 nd.mn, .int .i64 nd.mx] ag_172 rfl (hS.rdO 6 rfl (nds_at hnd)).2 <| WQ.nil ?_
    intro m1
    replace hS := hS.drewN m1; generalize hwm1 : World.drewN _ _ = w at *; clear hwm1
    refine WL.call rfl rfl (sl_ok (S := A.s) (i := (k : Int) + 1) (hl := hle) (hi := (by omega)) (hS := (hS.sel 6 [5, 0, 0, 0, 0, 0] rfl))) rfl ?_
    clear hS; rintro _ w ⟨rfl, hS⟩
    replace hS := hS.n8 L rfl
    refine WL.nil ?_
    refine ⟨by exact ⟨RQ.pure rfl rfl rfl rfl, RQ.load rfl rfl rfl rfl (hS.ld 1 rfl rfl), RQ.pure rfl rfl rfl rfl, RQ.pure rfl rfl rfl rfl, RQ.pure rfl rfl rfl rfl, RQ.pure rfl rfl rfl rfl, RQ.pure rfl rfl rfl rfl, RQ.pure rfl rfl rfl rfl, RQ.pure rfl rfl rfl rfl, RQ.pure rfl rfl rfl rfl, RQ.load rfl rfl rfl rfl (hS.ld 5 rfl rfl), RQ.pure rfl rfl rfl rfl, RQ.ix rfl rfl (i := (k : Int) + 1) (k + 1) el_159 rfl rfl (by omega) (by omega) (hS.rdO 6 rfl (nds_at hnd)).1 rfl rfl, RQ.ldC rfl rfl [.int .i64 nd.key, .int .i64 nd.val, .int .u32 nd.lf, .int .u32 nd.rg, .int .i64 nd.size, .int .i64 nd.sum, .int .i64 nd.mn, .int .i64 nd.mx] ag_172 rfl (hS.rdO 6 rfl (nds_at hnd)).2 rfl rfl⟩, ?_⟩
    refine WQ.nil ?_
    intro m2
    replace hS := hS.drewN m2; generalize hwm2 : World.drewN _ _ = w at *; clear hwm2
    refine WL.call rfl rfl (ar_count_o (A := A) (rd := xrd) (i := (k : Int) + 1) (hA := hA) (hi := (by omega)) (hS := (hS.sel 8 [5, 0, 4, 4, 0, 0, 0, 0] rfl))) rfl ?_
    clear hS; rintro _ w ⟨rfl, hS⟩
    replace hS := hS.n8 L rfl
    refine WL.nil ?_
    refine ⟨by exact ⟨RQ.pure rfl rfl rfl rfl, RQ.load rfl rfl rfl rfl (hS.ld 4 rfl rfl), RQ.pure rfl rfl rfl rfl, RQ.pure rfl rfl rfl rfl, RQ.pure rfl rfl rfl rfl, RQ.pure rfl rfl rfl rfl, RQ.pure rfl rfl rfl rfl, RQ.pure rfl rfl rfl rfl, RQ.load rfl rfl rfl rfl (hS.ld 0 rfl rfl), RQ.pure rfl rfl rfl rfl, RQ.ix rfl rfl (i := (k : Int) + 1) (k + 1) el_159 rfl rfl (by omega) (by omega) (hS.rdO 2 rfl (nds_at hnd)).1 rfl rfl, RQ.ldC rfl rfl [.int .i64 nd.key, .int .i64 nd.val, .int .u32 nd.lf, .int .u32 nd.rg, .int .i64 nd.size, .int .i64 nd.sum, .int .i64 nd.mn, .int .i64 nd.mx] ag_172 rfl (hS.rdO 2 rfl (nds_at hnd)).2 rfl rfl⟩, ?_⟩
    refine WQ.nil ?_
    intro m3
    replace hS := hS.drewN m3; generalize hwm3 : World.drewN _ _ = w at *; clear hwm3
    refine WL.call rfl rfl (ar_gen_o (A := A) (rd := xrd) (i := (k : Int) + 1) (hA := hA) (hi := (by omega)) (hS := hS)) rfl ?_
    clear hS; rintro _ w ⟨rfl, hS⟩
    replace hS := hS.n8 L rfl
    refine WL.nil ?_
    refine ⟨by exact ⟨RQ.pure rfl rfl rfl rfl, RQ.load rfl rfl rfl rfl (hS.ld 4 rfl rfl), RQ.pure rfl rfl rfl rfl, RQ.pure rfl rfl rfl rfl, RQ.pure rfl rfl rfl rfl, RQ.pure rfl rfl rfl rfl, RQ.load rfl rfl rfl rfl (hS.ld 0 rfl rfl), RQ.pure rfl rfl rfl rfl, RQ.ix rfl rfl (i := (k : Int) + 1) (k + 1) el_159 rfl rfl (by omega) (by omega) (hS.rdO 2 rfl (nds_at hnd)).1 rfl rfl, RQ.ldC rfl rfl [.int .i64 nd.key, .int .i64 nd.val, .int .u32 nd.lf, .int .u32 nd.rg, .int .i64 nd.size, .int .i64 nd.sum, .int .i64 nd.mn, .int .i64 nd.mx] ag_172 rfl (hS.rdO 2 rfl (nds_at hnd)).2 rfl rfl⟩, ?_⟩
    refine WQ.build rfl rfl (cs := [.bool (A.s.ok ((k : Int) + 1)), .int .i64 (AM.cntD A ((k : Int) + 1)), .int .u32 (A.s.genOf ((k : Int) + 1)), .int .i64 nd.key, .int .i64 nd.val, .int .u32 nd.lf, .int .u32 nd.rg, .int .i64 nd.size, .int .i64 nd.sum, .int .i64 nd.mn, .int .i64 nd.mx]) zv_174 rfl rfl <| WQ.ix rfl rfl (i := (k : Int)) (k) el_60 rfl rfl (by omega) (by omega) (hS.rdO 5 rfl (sls_at hz)).1 ?_
    refine WQ.nil ?_
    intro m4
    replace hS := hS.drewN m4; generalize hwm4 : World.drewN _ _ = w at *; clear hwm4
    refine WL.stS rfl rfl rfl 5 (k) [.bool z.al, .int .i64 z.cn, .int .u32 z.ge, .int .i64 z.nd.key, .int .i64 z.nd.val, .int .u32 z.nd.lf, .int .u32 z.nd.rg, .int .i64 z.nd.size, .int .i64 z.nd.sum, .int .i64 z.nd.mn, .int .i64 z.nd.mx] (sls (AM.dmpK A (k + 1))) hS rfl (sls_at hz) rfl rfl rfl rfl ag_174 (dmp_st hne) (fun w hS => ?_)
    replace hS := hS.n8 L (a5 := Own 174 11 (sls (AM.dmpK A (k + 1))) ua A.s.cap.toNat) rfl
    refine WL.nil ?_
    refine ⟨by exact trivial, ?_⟩
    intro m5
    replace hS := hS.drewN m5; generalize hwm5 : World.drewN _ _ = w at *; clear hwm5
    as_aux_lemma =>
    refine WC.region <| WL.r 1 rfl <| WL.nw 48 rfl (w64 (by omega)) ?_
    refine WL.r 1 rfl <| WL.nil ?_
    exact ⟨_, by omega, k + 1, rfl, (hS.sel 8 [4, 4, 4, 4, 0, 0, 0, 0] rfl), (by omega), rfl⟩
  · refine WC.exit ?_
    as_aux_lemma =>
    refine WC.seq <| WC.region <| WL.ldF rfl rfl 0 hS rfl rfl ag_62 <| WL.stF rfl rfl rfl 3 hS rfl rfl rfl rfl rfl ag_62 (fun w hS => ?_)
    replace hS := hS.n8 L (a3 := cel b1 #[.slice ua A.s.cap.toNat A.s.cap.toNat, .slice ub (List.length (u32s (SM.order A.s))) ud] 62) rfl
    refine WL.nil <| WC.ret ?_
    replace hS := St.exClose (f := arnF a A) (L := cel b #[.slice ua A.s.cap.toNat A.s.cap.toNat, .slice ub (List.length (u32s (SM.order A.s))) ud] 62 :: Own 174 11 (sls (AM.dmpK A k)) ua A.s.cap.toNat :: Own 64 1 (u32s (SM.order A.s)) ub ud :: cel b1 #[.slice ua A.s.cap.toNat A.s.cap.toNat, .slice ub (List.length (u32s (SM.order A.s))) ud] 62 :: L) ⟨xp, xna, xnc, xca, xcc, xrd⟩ ((hS.sel 8 [4, 4, 4, 4, 0, 0, 0, 0] rfl))
    replace hS := hS.n5 L (a0 := Arn a A) rfl
    refine ⟨[.agg #[.slice ua A.s.cap.toNat A.s.cap.toNat, .slice ub (List.length (u32s (SM.order A.s))) ud]], ⟨⟨_, rfl, hS.lvF 4 rfl ag_62⟩, trivial⟩, ?_⟩
    replace hS := (hS.sel 5 [2, 2, 0] rfl)
    have hke : k = A.s.cap.toNat := (by omega); subst hke; rw [AM.dmpK_end] at hS; exact ⟨_, _, _, _, by rw [sls_len, AM.dmp_len]; rfl, hS⟩
end Go.Proofs.YtbeacjcmdijdmaaGreat
/-! ## Cl -/
namespace Go.V
open Go Go.RowKit
theorem AM.dmp_at {A : AM} {k : Nat} (h : k < A.s.cap.toNat) : A.dmp[k]? = some (A.dmpAt ((k : Int) + 1)) := by
  simp [AM.dmp, List.getElem?_map, List.getElem?_range h]
structure MkI (A : AM) (R : List Int) (bs : List Bool) (ws : List Int) : Prop where
  len : bs.length = A.s.cap.toNat
  root : ∀ r ∈ R, r ≠ 0 → A.s.ok r = true → bs[(r - 1).toNat]? = some true ∨ r ∈ ws
  kid : ∀ j : Int, 1 ≤ j → A.s.ok j = true → bs[(j - 1).toNat]? = some true → ∀ c, c = (A.nd j).lf ∨ c = (A.nd j).rg → c ≠ 0 → bs[(c - 1).toNat]? = some true ∨ c ∈ ws
  rng : ∀ x ∈ ws, 0 ≤ x ∧ x ≤ 4294967295
theorem MkI.skip {A : AM} {R ws : List Int} {bs : List Bool} {i : Int} (h : MkI A R bs (ws ++ [i])) (hi : ¬ A.s.ok i = true ∨ bs[(i - 1).toNat]? = some true) (hA : ARf A R) : MkI A R bs ws := by
  refine ⟨h.len, fun r hr hne hok => ?_, fun j h1 h2 hb c hc hne => ?_, fun x hx => h.rng x (List.mem_append_left _ hx)⟩
  · rcases h.root r hr hne hok with h3 | h3
    · exact .inl h3
    · rcases List.mem_append.1 h3 with h3 | h3
      · exact .inr h3
      · have e := List.mem_singleton.1 h3
        subst e
        exact .inl (hi.resolve_left fun h4 => h4 hok)
  · rcases h.kid j h1 h2 hb c hc hne with h3 | h3
    · exact .inl h3
    · rcases List.mem_append.1 h3 with h3 | h3
      · exact .inr h3
      · have e := List.mem_singleton.1 h3
        subst e
        have hok := ((hA.kid j h2 (by omega) c hc).resolve_left hne).2
        exact .inl (hi.resolve_left fun h4 => h4 hok)
theorem MkI.all {A : AM} {R : List Int} {bs : List Bool} (h : MkI A R bs []) (hA : ARf A R) : ∀ j, 1 ≤ j → A.s.ok j = true → bs[(j - 1).toNat]? = some true :=
  reach hA (fun j => bs[(j - 1).toNat]? = some true) (fun r hr hne => by
    have hok := ((hA.ref r hr).resolve_left hne).2
    exact (h.root r hr hne hok).resolve_right fun h3 => by cases h3) (fun j h1 h2 hb c hc hne => (h.kid j h1 h2 hb c hc hne).resolve_right fun h3 => by cases h3)
end Go.V
/-! ## C1 -/
namespace Go.Proofs.YtbeacjcmdijdmaaGreat
open Go Go.V Go.RowKit
theorem dmp_n (A : AM) : (sls (AM.dmp A)).length = A.s.cap.toNat := by rw [sls_len, AM.dmp_len]
theorem cap_rng {A : AM} {R : List Int} (h : ARf A R) : 1 ≤ A.s.cap ∧ A.s.cap ≤ 65536 := by
  have h1 := h.s.cap
  have h2 : A.s.cap = (A.s.used.length : Int) - 1 := rfl
  omega
set_option maxRecDepth 8192 in
theorem c6_alloc {g w : World} {L : List HP} (A : AM) (R : List Int) (da fa : Option Addr) (dc fc : Nat) (i : Int) (hA : ARf A R) (hi : 0 ≤ i ∧ i ≤ 4294967295) (hS : St g (Sh 174 11 (sls (AM.dmp A)) da dc :: L) w) :
    Sp Tryz.prog 151 [.agg #[.slice da (List.length (sls (AM.dmp A))) dc, .slice fa (List.length (u32s (SM.order A.s))) fc], .int .u32 i] w (fun v w' => ∃ (b : Bool), v = .bool b ∧ St g (Sh 174 11 (sls (AM.dmp A)) da dc :: L) w' ∧ (b = A.s.ok i)) := by
  refine Sp.enter Tryz.func151 rfl (by kernel_rfl) (by kernel_rfl) ?_
  refine WC.seq <| WC.region <| WL.box rfl rfl #[.slice da (List.length (sls (AM.dmp A))) dc, .slice fa (List.length (u32s (SM.order A.s))) fc] hS rfl rfl (fun b1 w hS => ?_)
  refine WL.r 1 rfl <| WL.nil <| WC.seq <| WC.region ?_
  have hn := dmp_n A; have hcr := cap_rng hA; have hfr := hA.s.fr; have hcp : A.s.cap = (A.s.used.length : Int) - 1 := rfl
  refine WL.r 3 rfl ?_
  by_cases cg1 : 1 ≤ i
  · refine WL.reb 7 (.bool true) (congrArg Value.bool (decide_eq_true cg1)) <| WL.ung rfl rfl rfl <| WL.r 1 rfl <| WL.ung rfl rfl rfl <| WL.r 1 rfl <| WL.nw 9 rfl (wu64 (by omega)) ?_
    refine WL.ung rfl rfl rfl <| WL.r 1 rfl <| WL.ung rfl rfl rfl <| WL.run 1 [.slice da (List.length (sls (AM.dmp A))) dc] rfl (by exact hS.ld 0 rfl rfl) ?_
    refine WL.ung rfl rfl rfl <| WL.r 1 rfl <| WL.ung rfl rfl rfl <| WL.r 1 rfl <| WL.nw 13 rfl (wu64 (by omega)) ?_
    refine WL.ung rfl rfl rfl <| WL.r 3 rfl ?_
    by_cases cg2 : i ≤ (List.length (sls (AM.dmp A)) : Int)
    · refine WL.reb 16 (.bool true) (congrArg Value.bool (decide_eq_true cg2)) <| WL.ung rfl rfl rfl <| WL.r 1 rfl <| WL.ung rfl rfl rfl <| WL.run 1 [.slice da (List.length (sls (AM.dmp A))) dc] rfl (by exact hS.ld 0 rfl rfl) ?_
      refine WL.ung rfl rfl rfl <| WL.r 1 rfl <| WL.ung rfl rfl rfl <| WL.r 1 rfl <| WL.nw 20 rfl (wu32 (by omega)) ?_
      refine WL.ung rfl rfl rfl <| WL.ix rfl rfl (i := i - 1) (i.toNat - 1) el_60 rfl rfl (by omega) (by omega) (hS.rdS 1 rfl (sls_at (AM.dmp_at (A := A) (k := i.toNat - 1) (by omega)))).1 ?_
      refine WL.ung rfl rfl rfl <| WL.r 1 rfl <| WL.ung rfl rfl rfl <| WL.run 3 [.bool (A.dmpAt (((i.toNat - 1 : Nat) : Int) + 1)).al] rfl (by exact (hS.rdS 1 rfl (sls_at (AM.dmp_at (A := A) (k := i.toNat - 1) (by omega)))).2 0 _ rfl) ?_
      refine WL.nil ?_
      as_aux_lemma =>
      refine WC.ret ?_
      refine ⟨[.bool (A.dmpAt (((i.toNat - 1 : Nat) : Int) + 1)).al], rfl, ?_⟩
      replace hS := (hS.sel 1 [] rfl)
      exact ⟨_, rfl, hS, by show A.s.ok (((i.toNat - 1 : Nat) : Int) + 1) = _; rw [show ((i.toNat - 1 : Nat) : Int) + 1 = i by omega]⟩
    · refine WL.reb 16 (.bool false) (congrArg Value.bool (decide_eq_false cg2)) <| WL.skp rfl rfl rfl rfl <| WL.skp rfl rfl rfl rfl <| WL.skp rfl rfl rfl rfl <| WL.skp rfl rfl rfl rfl <| WL.skp rfl rfl rfl rfl <| WL.skp rfl rfl rfl rfl <| WL.skp rfl rfl rfl rfl <| WL.r 2 rfl <| WL.nil ?_
      as_aux_lemma =>
      refine WC.ret ?_
      refine ⟨[.bool false], rfl, ?_⟩
      replace hS := (hS.sel 1 [] rfl)
      exact ⟨false, rfl, hS, by have h9 : ¬ A.s.ok i = true := fun e => cg2 (by have := (SM.ok_rng hA.s (i := i) hi.1 e).2.1; omega); exact (Bool.eq_false_iff.2 h9).symm⟩
  · refine WL.reb 7 (.bool false) (congrArg Value.bool (decide_eq_false cg1)) <| WL.skp rfl rfl rfl rfl <| WL.skp rfl rfl rfl rfl <| WL.skp rfl rfl rfl rfl <| WL.skp rfl rfl rfl rfl <| WL.skp rfl rfl rfl rfl <| WL.skp rfl rfl rfl rfl <| WL.skp rfl rfl rfl rfl <| WL.r 2 rfl <| WL.skp rfl rfl rfl rfl <| WL.skp rfl rfl rfl rfl <| WL.skp rfl rfl rfl rfl ?_
    refine WL.skp rfl rfl rfl rfl <| WL.skp rfl rfl rfl rfl <| WL.skp rfl rfl rfl rfl <| WL.skp rfl rfl rfl rfl <| WL.r 2 rfl <| WL.nil ?_
    as_aux_lemma =>
    refine WC.ret ?_
    refine ⟨[.bool false], rfl, ?_⟩
    replace hS := (hS.sel 1 [] rfl)
    exact ⟨false, rfl, hS, by rw [show i = 0 by omega]; exact hA.s.u0.symm⟩
end Go.Proofs.YtbeacjcmdijdmaaGreat
/-! ## Arw -/
namespace Go.V
open Go Go.RowKit
def sz1 (P : Program) (e : TypeId) : Bool := match P.info? e with
  | some i => i.size == 1
  | none => false
theorem sz1_ex {P : Program} {e : TypeId} (h : sz1 P e = true) : ∃ i, P.info? e = some i ∧ i.size = 1 := by
  unfold sz1 at h
  cases hi : P.info? e with
  | none => rw [hi] at h; cases h
  | some i => rw [hi] at h; exact ⟨i, rfl, by simpa using h⟩
structure ArP (P : Program) (t : TypeId) (m : Nat) (e : TypeId) : Prop where
  und : P.underlying t = some (.array m e)
  one1 : sz1 P e = true
theorem ArP.one {P : Program} {t e : TypeId} {m : Nat} (h : ArP P t m e) : ∃ i, P.info? e = some i ∧ i.size = 1 := sz1_ex h.one1
theorem RdE.sub {w : World} {size k : Nat} {a : Option Addr} {cs : List Value} (h : RdE w size a k cs) (d : Nat) (sub : List Value) (hs : (cs.drop d).take sub.length = sub) (j : Nat) (u : Value) (hj : sub[j]? = some u) : w.cell? ⟨bo a, oo a + k * size + d + j, none⟩ = some u := by
  have hlt := (List.getElem?_eq_some_iff.1 hj).1
  rw [← hs, List.getElem?_take, if_pos hlt, List.getElem?_drop] at hj
  rw [Nat.add_assoc]
  exact h (d + j) u hj
end Go.V
/-! ## Tx5 -/
namespace Go.Proofs.YtbeacjcmdijdmaaGreat
open Go Go.V Go.RowKit Go.Maps
theorem wC_k (e : Int × Bool × Int) : (wC e).2.1 = e.1 := by unfold wC; split <;> rfl
theorem wC_3 (e : Int × Bool × Int) : decide ((wC e).1 = 3) = e.2.1 := by
  unfold wC
  cases e.2.1 <;> rfl
theorem wC_v {e : Int × Bool × Int} (h : e.2.1 = true) : (wC e).2.2.2 = e.2.2 := by unfold wC; rw [if_pos h]
theorem need_iff {t : Tr} {e : Int × Bool × Int} : ((¬ ((decide ((wC e).1 = 3) == (Tr.get (wC e).2.1 t).isSome) = true)) ∨ ((wC e).1 = 3 ∧ (Tr.get (wC e).2.1 t).getD 0 ≠ (wC e).2.2.2)) ↔ wNeed t e = true := by
  rw [wC_3, wC_k]
  have h3 : ((wC e).1 = 3) ↔ e.2.1 = true := by rw [← wC_3]; exact decide_eq_true_iff.symm
  rw [h3]
  unfold wNeed
  cases hp : e.2.1 with
  | false => cases (Tr.get e.1 t).isSome <;> simp
  | true => rw [wC_v hp]; cases (Tr.get e.1 t).isSome <;> simp
theorem wWork_len (t : Tr) (M : Wrs) : (wWork t M).length ≤ M.length := List.length_filter_le _ _
theorem wWork_in {t : Tr} {M : Wrs} {k : Nat} {e : Int × Bool × Int} (h : M[k]? = some e) (hn : wNeed t e = true) : wWork t (M.take (k + 1)) = wWork t (M.take k) ++ [e] := by
  unfold wWork; rw [List.take_add_one, h, List.filter_append]; simp [hn]
theorem wWork_out {t : Tr} {M : Wrs} {k : Nat} {e : Int × Bool × Int} (h : M[k]? = some e) (hn : wNeed t e = false) : wWork t (M.take (k + 1)) = wWork t (M.take k) := by
  unfold wWork; rw [List.take_add_one, h, List.filter_append]; simp [hn]
theorem wp_t {e : Int × Bool × Int} (h : (wC e).1 = 3) : e.2.1 = true := by rw [← wC_3]; exact decide_eq_true h
theorem wp_f {e : Int × Bool × Int} (h : ¬ (wC e).1 = 3) : e.2.1 = false := by rw [← wC_3]; exact decide_eq_false h
theorem wCost_ins {e : Int × Bool × Int} {u : Tr} {f : Int} (h : (wC e).1 = 3) (hc : (wCost u e : Int) ≤ f) : (Tr.ic (wC e).2.1 (wC e).2.2.2 u : Int) ≤ f := by
  unfold wCost at hc
  rw [if_pos (wp_t h)] at hc
  rw [wC_k, wC_v (wp_t h)]; exact hc
theorem wCost_del {e : Int × Bool × Int} {u : Tr} {f : Int} (h : ¬ (wC e).1 = 3) (hc : (wCost u e : Int) ≤ f) : (Tr.dc (wC e).2.1 u : Int) ≤ f := by
  unfold wCost at hc
  rw [if_neg (by rw [wp_f h]; decide)] at hc
  rw [wC_k]; exact hc
theorem step_ins {A B C : AM} {R : List Int} {o j : Int} {W : Wrs} {k : Nat} {e : Int × Bool × Int} {t : Tr} (he : W[k]? = some e) (h : (wC e).1 = 3) (hT : TOp A B R o (wAll (W.take k) t) (wSum (W.take k) t)) (f : TOp B C R j (Tr.ins (wC e).2.1 (wC e).2.2.2 (wAll (W.take k) t)) (Tr.ic (wC e).2.1 (wC e).2.2.2 (wAll (W.take k) t))) : TOp A C R j (wAll (W.take (k + 1)) t) (wSum (W.take (k + 1)) t) := by
  rw [wC_k, wC_v (wp_t h)] at f
  rw [wAll_snoc he, wSum_snoc he]
  unfold wOne wCost
  rw [if_pos (wp_t h), if_pos (wp_t h)]
  exact f.after hT.ch sb0 (Nat.le_refl _)
theorem step_del {A B C : AM} {R : List Int} {o j : Int} {W : Wrs} {k : Nat} {e : Int × Bool × Int} {t : Tr} (he : W[k]? = some e) (h : ¬ (wC e).1 = 3) (hT : TOp A B R o (wAll (W.take k) t) (wSum (W.take k) t)) (f : TOp B C R j (Tr.del (wC e).2.1 (wAll (W.take k) t)) (Tr.dc (wC e).2.1 (wAll (W.take k) t))) : TOp A C R j (wAll (W.take (k + 1)) t) (wSum (W.take (k + 1)) t) := by
  have hp : ¬ e.2.1 = true := by rw [wp_f h]; decide
  rw [wC_k] at f
  rw [wAll_snoc he, wSum_snoc he]
  unfold wOne wCost
  rw [if_neg hp, if_neg hp]
  exact f.after hT.ch sb0 (Nat.le_refl _)
theorem TOp.fin {A B C : AM} {R : List Int} {r o : Int} {u : Tr} {c : Nat} (h : TOp A B (r :: R) o u c) (k : Rl B C (o :: R)) : TOp A C R o u c :=
  ⟨k.ref, k.kp o (by simp) u h.is, (h.kp.sub sb1).trans (k.kp.sub sb1), by have := h.fr; have := k.fr; omega, by rw [k.cap, h.cap]⟩
def ComT (A : AM) (R : List Int) (th : Tr) (M : Wrs) (hd : Int) (A2 : AM) (i e : Int) (en : Bool) : Prop := (e = 0 ∧ en = true ∧ (wWork th M = [] ∨ ((th.n : Int) + M.length + 4 * ((Tr.mxH (th.n + M.length) : Int) + 2)) ≤ A.s.free) ∧ TOp A A2 R i (wAll (wWork th M) th) (wSum (wWork th M) th) ∧ (wWork th M = [] → i = hd)) ∨ (e = 2 ∧ i = 0 ∧ en = false ∧ A2 = A ∧ wWork th M ≠ [] ∧ A.s.free < ((th.n : Int) + M.length + 4 * ((Tr.mxH (th.n + M.length) : Int) + 2)))
set_option maxHeartbeats 4000000 in
set_option maxRecDepth 8192 in
theorem tx_com2 {g w : World} {L : List HP} (x a : Nat) (rt : Int) (xs : List WE) (q : Nat) (S : Kvs) (M : Wrs) (A : AM) (R : List Int) (hd : Int) (ts th : Tr) (hW : WOk xs q M) (hA : ARf A (rt :: R)) (hts : Is A ts rt) (hth : Is A th hd) (hss : Srt ts.ls) (hsh : Srt th.ls) (hn : ts.n + th.n ≤ 60000) (hSl : S.length ≤ 100000) (hR : R.length ≤ 500000000) (hno : ∀ s ∈ S, inR s.1 s.2 (dif ts.ls th.ls) = []) (hcs : wWork th M = [] ∨ ((th.n : Int) + M.length + 4 * ((Tr.mxH (th.n + M.length) : Int) + 2)) ≤ A.s.free → ∀ (k : Nat) (e : Int × Bool × Int) (B : AM) (o : Int), (wWork th M)[k]? = some e → TOp A B (rt :: R) o (wAll ((wWork th M).take k) th) (wSum ((wWork th M).take k) th) → (wCost (wAll ((wWork th M).take k) th) e : Int) ≤ B.s.free) (hS : St g (Tx x a rt xs q S :: Arn a A :: L) w) :
    Sp Tryz.prog 31 [.pointer (some ⟨x, 0, none⟩), .int .u32 hd] w (fun v w' => ∃ (A2 : AM) (i e : Int) (en : Bool), v = .tuple #[.int .u32 i, .int .i64 e] ∧ St g (Tz x a rt S en :: Arn a A2 :: L) w' ∧ (ComT A R th M hd A2 i e en)) := by
  refine Sp.enter Tryz.func31 rfl (by kernel_rfl) (by kernel_rfl) ?_
  have _ := hR
  have _ := hSl
  have _ := hn
  refine WC.seq <| WC.region <| WL.r 2 rfl <| WL.nil <| WC.seq <| WC.seq <| WC.region ?_
  obtain ⟨⟨xm, xu, xc⟩, hS⟩ := St.exOpen (f := txF x a rt xs q S) hS
  replace hS := hS.n4 L (a0 := cel x #[.pointer (some ⟨a, 0, none⟩), .int .u32 rt, .bool false, .map (some xm), .slice xu (List.length (en2 S)) xc] 188) (a1 := blk xm (.map (mE (List.map wK xs)) q)) (a2 := Own 106 2 (en2 S) xu xc) rfl
  have hll := en2_len S; have hml := hW.len; have hmn := hW.k.num
  refine WL.run 4 [.bool false] rfl (by exact hS.ld 0 rfl rfl) ?_
  refine WL.nil <| WC.ifF rfl rfl <| WC.skip <| WC.seq <| WC.seq <| WC.region <| WL.run 6 [.slice xu (List.length (en2 S)) xc] rfl (by exact hS.ld 0 rfl rfl) ?_
  refine WL.nil <| WC.block <| WC.loop [0, 1, 24, 25, 26] (fun kM vs w => ∃ (k : Nat), vs = [.pointer (some ⟨x, 0, none⟩), .int .u32 hd, .slice xu (List.length (en2 S)) xc, .int .i64 (List.length (en2 S) : Int), .int .i64 (k : Int)] ∧ St g (cel x #[.pointer (some ⟨a, 0, none⟩), .int .u32 rt, .bool false, .map (some xm), .slice xu (List.length (en2 S)) xc] 188 :: blk xm (.map (mE (List.map wK xs)) q) :: Own 106 2 (en2 S) xu xc :: Arn a A :: L) w ∧ (k ≤ S.length) ∧ (S.length - k) = kM) ((List.length S) - 0) ⟨0, rfl, hS, (Nat.zero_le _), rfl⟩ ?_
  clear hS; rintro _ _ w j ⟨k, rfl, hS, hk, rfl⟩
  refine WC.seq <| WC.region <| WL.r 1 rfl <| WL.nil ?_
  as_aux_lemma =>
  refine WC.seq <| WC.ifP rfl (fun cd1 => ?_) (fun cd1 => ?_)
  · refine WC.skip <| WC.seq <| WC.block <| WC.seq <| WC.region ?_
    obtain ⟨e, he⟩ : ∃ e, S[k]? = some e := ⟨_, List.getElem?_eq_getElem (by omega)⟩; have h0 := hno e (List.mem_of_getElem? he)
    refine WL.ix rfl rfl (i := (k : Int)) (k) el_98 rfl rfl (by omega) (by omega) (hS.rdO 2 rfl (en2_at he)).1 ?_
    refine WL.ldC rfl rfl [.int .i64 e.1, .int .i64 e.2] ag_106 rfl (hS.rdO 2 rfl (en2_at he)).2 <| WL.new rfl rfl zv_106 hS (fun b1 w hS => ?_)
    refine WL.stF rfl rfl rfl 0 hS rfl rfl rfl rfl rfl ag_106 (fun w hS => ?_)
    replace hS := hS.n5 L (a0 := cel b1 #[.int .i64 e.1, .int .i64 e.2] 106) rfl
    refine WL.nil <| WC.seq <| WC.plan [([0, 4, 8, 9, 11, 1, 5, 10, 12, 2, 6, 3, 7], some (13, [])), ([14, 15], none)] (by kernel_rfl) (by kernel_rfl) ?_
    refine WQ.run 13 [.int .i64 e.1, .int .i64 e.2, .pointer (some ⟨a, 0, none⟩), .int .u32 rt] rfl (by exact ⟨hS.ld 0 rfl rfl, hS.ld 0 rfl rfl, hS.ld 1 rfl rfl, hS.ld 1 rfl rfl⟩) ?_
    refine WQ.nil ?_
    intro m1
    replace hS := hS.drewN m1; generalize hwm1 : World.drewN _ _ = w at *; clear hwm1
    refine WL.call rfl rfl (df_range (R := rt :: R) (x := rt) (y := hd) (lo := e.1) (hi := e.2) (tx := ts) (ty := th) (hA := hA) (hx := hts) (hy := hth) (hsx := hss) (hsy := hsh) (hl := (by omega)) (hS := (hS.sel 5 [4, 0, 0, 0, 0] rfl))) rfl ?_
    clear hS; rintro _ w ⟨a1, c1, rfl, hS⟩
    replace hS := hS.n6 L (a0 := Own 110 4 (ch4 (inR e.1 e.2 (dif ts.ls th.ls))) a1 c1) rfl
    refine WL.nil ?_
    refine ⟨by exact trivial, ?_⟩
    refine WQ.r 2 rfl <| WQ.nil ?_
    intro m2
    replace hS := hS.drewN m2; generalize hwm2 : World.drewN _ _ = w at *; clear hwm2
    as_aux_lemma =>
    refine WC.ifF rfl (decide_eq_false ((by rw [h0]; decide))) ?_
    refine WC.skip <| WC.region <| WL.r 1 rfl <| WL.nw 46 rfl (w64 (by omega)) ?_
    refine WL.r 1 rfl <| WL.nil ?_
    exact ⟨_, by omega, k + 1, rfl, (hS.sel 6 [3, 3, 3, 1] rfl), (by omega), rfl⟩
  · refine WC.exit <| WC.seq <| WC.region ?_
    replace hS := St.exClose (f := txF x a rt xs q S) (L := Arn a A :: L) ⟨xm, xu, xc⟩ (hS)
    replace hS := hS.n2 L (a0 := Tx x a rt xs q S) rfl
    refine WL.r 1 rfl <| WL.nil <| WC.seq <| WC.seq <| WC.region ?_
    have hcl := ch4_len (M.map wC); have hmp : (M.map wC).length = M.length := List.length_map ..
    refine WL.r 1 rfl <| WL.call rfl rfl (tx_writes (M := M) (hW := hW) (hS := hS)) rfl ?_
    clear hS; rintro _ w ⟨a1, c1, rfl, hS⟩
    replace hS := hS.n3 L (a0 := Own 110 4 (ch4 (M.map wC)) a1 c1) rfl
    refine WL.r 2 rfl <| WL.nil <| WC.block ?_
    replace hS := hS.nil_ 110 4
    refine WC.loop [0, 1, 8, 48, 49, 50] (fun kM vs w => ∃ (k2 : Nat) (acc : List (Int × Int × Int × Int)) (u : Option Addr) (d : Nat), vs = [.pointer (some ⟨x, 0, none⟩), .int .u32 hd, .slice u (List.length (ch4 acc)) d, .slice a1 (List.length (ch4 (M.map wC))) c1, .int .i64 (List.length (ch4 (M.map wC)) : Int), .int .i64 (k2 : Int)] ∧ St g (Own 110 4 (ch4 acc) u d :: Own 110 4 (ch4 (M.map wC)) a1 c1 :: Tx x a rt xs q S :: Arn a A :: L) w ∧ (k2 ≤ M.length) ∧ (acc = (wWork th (M.take k2)).map wC) ∧ (M.length - k2) = kM) ((List.length M) - 0) ⟨0, [], none, 0, rfl, hS, (Nat.zero_le _), (rfl), rfl⟩ ?_
    clear hS; rintro _ _ w j ⟨k2, acc, u, d, rfl, hS, hk2, hac, rfl⟩
    refine WC.seq <| WC.region ?_
    have hcl := ch4_len (M.map wC); have hmp : (M.map wC).length = M.length := List.length_map ..
    refine WL.r 1 rfl <| WL.nil ?_
    as_aux_lemma =>
    refine WC.seq <| WC.ifP rfl (fun cd2 => ?_) (fun cd2 => ?_)
    · refine WC.skip <| WC.seq <| WC.block <| WC.seq <| WC.region ?_
      obtain ⟨e, he⟩ : ∃ e, M[k2]? = some e := ⟨_, List.getElem?_eq_getElem (by omega)⟩; have hz : (M.map wC)[k2]? = some (wC e) := (by rw [List.getElem?_map, he]; rfl); have hwl := wWork_len th (M.take k2); have htl := List.length_take_le k2 M; have hacl : acc.length ≤ k2 := (by rw [hac, List.length_map]; omega); have hal := ch4_len acc
      refine WL.ix rfl rfl (i := (k2 : Int)) (k2) el_111 rfl rfl (by omega) (by omega) (hS.rdO 1 rfl (ch4_at hz)).1 ?_
      refine WL.ldC rfl rfl [.int .i64 (wC e).1, .int .i64 (wC e).2.1, .int .i64 (wC e).2.2.1, .int .i64 (wC e).2.2.2] ag_110 rfl (hS.rdO 1 rfl (ch4_at hz)).2 <| WL.new rfl rfl zv_110 hS (fun b1 w hS => ?_)
      refine WL.stF rfl rfl rfl 0 hS rfl rfl rfl rfl rfl ag_110 (fun w hS => ?_)
      replace hS := hS.n5 L (a0 := cel b1 #[.int .i64 (wC e).1, .int .i64 (wC e).2.1, .int .i64 (wC e).2.2.1, .int .i64 (wC e).2.2.2] 110) rfl
      refine WL.nil <| WC.seq <| WC.plan [([0, 4, 5, 1, 6, 2, 3], some (7, [])), ([8, 9, 10, 11, 12], none)] (by kernel_rfl) (by kernel_rfl) ?_
      obtain ⟨⟨xm, xu, xc⟩, hS⟩ := St.exOpen (f := txF x a rt xs q S) (hS.at_ 3 rfl)
      replace hS := hS.n7 L (a0 := cel x #[.pointer (some ⟨a, 0, none⟩), .int .u32 rt, .bool false, .map (some xm), .slice xu (List.length (en2 S)) xc] 188) (a1 := blk xm (.map (mE (List.map wK xs)) q)) (a2 := Own 106 2 (en2 S) xu xc) rfl
      refine WQ.run 7 [.int .i64 (wC e).2.1, .pointer (some ⟨a, 0, none⟩)] rfl (by exact ⟨hS.ld 3 rfl rfl, hS.ld 0 rfl rfl⟩) ?_
      refine WQ.nil ?_
      intro m1
      replace hS := hS.drewN m1; generalize hwm1 : World.drewN _ _ = w at *; clear hwm1
      refine WL.call rfl rfl (lk_get (R := rt :: R) (i := hd) (k := (wC e).2.1) (t := th) (hA := hA) (hi := hth) (hS := (hS.sel 7 [6, 0, 0, 0, 0, 0, 0] rfl))) rfl ?_
      clear hS; rintro _ w ⟨rfl, hS⟩
      replace hS := hS.n7 L rfl
      refine WL.nil ?_
      refine ⟨by exact trivial, ?_⟩
      refine WQ.r 5 rfl <| WQ.nil ?_
      intro m2
      replace hS := hS.drewN m2; generalize hwm2 : World.drewN _ _ = w at *; clear hwm2
      as_aux_lemma =>
      refine WC.seq <| WC.region <| WL.run 4 [.int .i64 (wC e).1] rfl (by exact hS.ld 4 rfl rfl) ?_
      refine WL.nil <| WC.seq <| WC.region <| WL.r 3 rfl <| WL.runG 9 [.int .i64 (wC e).2.2.2] rfl (by exact (fun _ => hS.ld 4 rfl rfl)) (fun j => ?_)
      refine WL.prop 79 rfl (bor (bnot (dv _)) (band (dd _) (dd _))) <| WL.nil <| WC.ifP rfl (fun hnd => ?_) (fun hnd => ?_)
      · refine WC.region <| WL.r 1 rfl <| WL.ldF rfl rfl 4 hS rfl rfl ag_110 <| WL.lit rfl rfl (ch4 [((wC e).1, (wC e).2.1, (wC e).2.2.1, (wC e).2.2.2)]) el_111 hS (by exact ⟨rfl, rfl⟩) (ch4_ok _) rfl (Nat.le_of_ble_eq_true rfl) (fun b2 w hS => ?_)
        refine WL.app rfl rfl 6 (ch4 (acc ++ [((wC e).1, (wC e).2.1, (wC e).2.2.1, (wC e).2.2.2)])) el_111 hS rfl (hS.srcO 0 rfl) (ch4_app _ _).symm (Rm.of (by first | omega | (simp <;> omega)) (by decide)) rfl rfl (fun a2 c2 w hS => ?_)
        replace hS := hS.n8 L (a0 := Own 110 4 (ch4 [((wC e).1, (wC e).2.1, (wC e).2.2.1, (wC e).2.2.2)]) (some ⟨b2, 0, none⟩) (List.length (ch4 [((wC e).1, (wC e).2.1, (wC e).2.2.1, (wC e).2.2.2)]))) (a6 := Own 110 4 (ch4 (acc ++ [((wC e).1, (wC e).2.1, (wC e).2.2.1, (wC e).2.2.2)])) a2 c2) rfl
        refine WL.r 1 rfl <| WL.nil <| WC.region <| WL.r 1 rfl <| WL.nw 84 rfl (w64 (by omega)) ?_
        refine WL.r 1 rfl <| WL.nil ?_
        replace hS := St.exClose (f := txF x a rt xs q S) (L := Own 110 4 (ch4 [((wC e).1, (wC e).2.1, (wC e).2.2.1, (wC e).2.2.2)]) (some ⟨b2, 0, none⟩) (List.length (ch4 [((wC e).1, (wC e).2.1, (wC e).2.2.1, (wC e).2.2.2)])) :: Arn a A :: cel b1 #[.int .i64 (wC e).1, .int .i64 (wC e).2.1, .int .i64 (wC e).2.2.1, .int .i64 (wC e).2.2.2] 110 :: Own 110 4 (ch4 (acc ++ [((wC e).1, (wC e).2.1, (wC e).2.2.1, (wC e).2.2.2)])) a2 c2 :: Own 110 4 (ch4 (M.map wC)) a1 c1 :: L) ⟨xm, xu, xc⟩ ((hS.sel 5 [2, 2, 2, 0, 0] rfl))
        replace hS := hS.n6 L (a0 := Tx x a rt xs q S) rfl
        exact ⟨_, by omega, k2 + 1, acc ++ [wC e], a2, c2, rfl, (hS.sel 6 [4, 4, 0, 1] rfl), (by omega), (by rw [wWork_in he (need_iff.1 hnd), List.map_append, ← hac]; rfl), rfl⟩
      · refine WC.skip <| WC.region <| WL.r 1 rfl <| WL.nw 84 rfl (w64 (by omega)) ?_
        refine WL.r 1 rfl <| WL.nil ?_
        replace hS := St.exClose (f := txF x a rt xs q S) (L := Arn a A :: cel b1 #[.int .i64 (wC e).1, .int .i64 (wC e).2.1, .int .i64 (wC e).2.2.1, .int .i64 (wC e).2.2.2] 110 :: Own 110 4 (ch4 acc) u d :: Own 110 4 (ch4 (M.map wC)) a1 c1 :: L) ⟨xm, xu, xc⟩ ((hS.sel 4 [1, 1, 1, 0] rfl))
        replace hS := hS.n5 L (a0 := Tx x a rt xs q S) rfl
        exact ⟨_, by omega, k2 + 1, acc, u, d, rfl, (hS.sel 5 [3, 3, 0, 0] rfl), (by omega), (by rw [wWork_out he (by have := mt need_iff.2 hnd; simpa using this)]; exact hac), rfl⟩
    · refine WC.exit <| WC.seq <| WC.seq <| WC.plan [([0, 1, 2, 3, 4, 8, 12, 14, 5, 9, 15, 6, 10, 16, 7, 11, 17], some (13, [4, 5, 6, 7, 14, 15, 16, 17])), ([18], some (19, [4, 5, 6, 7])), ([], some (20, [])), ([21, 22], none)] (by kernel_rfl) (by kernel_rfl) ?_
      obtain ⟨⟨xm, xu, xc⟩, hS⟩ := St.exOpen (f := txF x a rt xs q S) (hS.at_ 2 rfl)
      replace hS := hS.n6 L (a0 := cel x #[.pointer (some ⟨a, 0, none⟩), .int .u32 rt, .bool false, .map (some xm), .slice xu (List.length (en2 S)) xc] 188) (a1 := blk xm (.map (mE (List.map wK xs)) q)) (a2 := Own 106 2 (en2 S) xu xc) rfl
      have hke : acc = (wWork th M).map wC := (by rw [hac, List.take_of_length_le (by omega)]); have hal := ch4_len acc; have hal2 : acc.length = (wWork th M).length := (by rw [hke, List.length_map]); have hwl := wWork_len th M
      refine WQ.r 4 rfl ?_
      by_cases cg1 : 0 < (List.length (ch4 acc) : Int)
      · refine WQ.reb 88 (.bool true) (congrArg Value.bool (decide_eq_true cg1)) <| WQ.ung rfl rfl rfl <| WQ.r 1 rfl <| WQ.ung rfl rfl rfl <| WQ.r 1 rfl <| WQ.ung rfl rfl rfl <| WQ.r 1 rfl <| WQ.ung rfl rfl rfl <| WQ.r 1 rfl <| WQ.ung rfl rfl rfl <| WQ.r 1 rfl <| WQ.ung rfl rfl rfl ?_
        refine WQ.r 1 rfl <| WQ.ung rfl rfl rfl <| WQ.r 1 rfl <| WQ.ung rfl rfl rfl <| WQ.r 1 rfl <| WQ.ung rfl rfl rfl <| WQ.r 1 rfl <| WQ.ung rfl rfl rfl <| WQ.r 1 rfl <| WQ.ung rfl rfl rfl <| WQ.run 1 [.pointer (some ⟨a, 0, none⟩)] rfl (by exact hS.ld 0 rfl rfl) ?_
        refine WQ.ung rfl rfl rfl <| WQ.run 1 [.pointer (some ⟨a, 0, none⟩)] rfl (by exact hS.ld 0 rfl rfl) ?_
        refine WQ.ung rfl rfl rfl <| WQ.run 1 [.map (some xm)] rfl (by exact hS.ld 0 rfl rfl) ?_
        refine WQ.nil ?_
        intro m1
        replace hS := hS.drewN m1; generalize hwm1 : World.drewN _ _ = w at *; clear hwm1
        refine WL.ung rfl rfl rfl <| WL.call rfl rfl (tr_size (R := rt :: R) (i := hd) (t := th) (hA := hA) (hi := hth) (hS := (hS.sel 6 [5, 0, 0, 0, 0, 0] rfl))) rfl ?_
        clear hS; rintro _ w ⟨rfl, hS⟩
        replace hS := hS.n6 L rfl
        refine WL.nil ?_
        refine ⟨by exact ⟨RQ.ung rfl rfl rfl (RQ.pure rfl rfl rfl rfl), RQ.ung rfl rfl rfl (RQ.pure rfl rfl rfl rfl), RQ.ung rfl rfl rfl (RQ.pure rfl rfl rfl rfl), RQ.ung rfl rfl rfl (RQ.load rfl rfl rfl rfl (hS.ld 1 rfl rfl)), RQ.ung rfl rfl rfl (RQ.pure rfl rfl rfl rfl), RQ.ung rfl rfl rfl (RQ.pure rfl rfl rfl rfl), RQ.ung rfl rfl rfl (RQ.pure rfl rfl rfl rfl), RQ.ung rfl rfl rfl (RQ.load rfl rfl rfl rfl (hS.ld 1 rfl rfl))⟩, ?_⟩
        refine WQ.ung rfl rfl rfl <| WQ.lenM rfl rfl mt_186 2 hS rfl rfl <| WQ.nil ?_
        intro m2
        replace hS := hS.drewN m2; generalize hwm2 : World.drewN _ _ = w at *; clear hwm2
        refine WL.ung rfl rfl rfl <| WL.call rfl rfl (rs_apply (n := th.n) (m := Array.size (mE (List.map wK xs))) (hn := (by rw [mE_size, List.length_map]; omega)) (hS := hS)) rfl ?_
        clear hS; rintro _ w ⟨rfl, hS⟩
        replace hS := hS.n6 L rfl
        refine WL.nil ?_
        refine ⟨by exact ⟨RQ.ung rfl rfl rfl (RQ.pure rfl rfl rfl rfl), RQ.ung rfl rfl rfl (RQ.pure rfl rfl rfl rfl), RQ.ung rfl rfl rfl (RQ.pure rfl rfl rfl rfl), RQ.ung rfl rfl rfl (RQ.load rfl rfl rfl rfl (hS.ld 1 rfl rfl))⟩, ?_⟩
        refine WQ.nil ?_
        intro m3
        replace hS := hS.drewN m3; generalize hwm3 : World.drewN _ _ = w at *; clear hwm3
        refine WL.ung rfl rfl rfl <| WL.call rfl rfl (tw_room (n := (th.n : Int) + (Array.size (mE (List.map wK xs))) + 4 * ((Tr.mxH (th.n + (Array.size (mE (List.map wK xs)))) : Int) + 2)) (hA := hA.toAWf) (hS := hS)) rfl ?_
        clear hS; rintro _ w ⟨rfl, hS⟩
        replace hS := hS.n6 L rfl
        refine WL.nil ?_
        refine ⟨by exact trivial, ?_⟩
        refine WQ.ung rfl rfl rfl <| WQ.r 1 rfl <| WQ.prop 106 rfl (bnot (dd _)) <| WQ.r 1 rfl <| WQ.nil ?_
        intro m4
        replace hS := hS.drewN m4; generalize hwm4 : World.drewN _ _ = w at *; clear hwm4
        as_aux_lemma =>
        refine WC.ifP rfl (fun hfl => ?_) (fun hfl => ?_)
        · refine WC.seq <| WC.region <| WL.r 2 rfl <| WL.nil <| WC.ret ?_
          replace hS := St.exClose (f := tzF x a rt S false) (L := Arn a A :: blk xm (.map (mE (List.map wK xs)) q) :: Own 106 2 (en2 S) xu xc :: Own 110 4 (ch4 acc) u d :: Own 110 4 (ch4 (M.map wC)) a1 c1 :: L) ⟨xm, xu, xc⟩ ((hS.sel 2 [1, 0] rfl))
          replace hS := hS.n6 L (a0 := Tz x a rt S false) rfl
          refine ⟨[.int .u32 0, .int .i64 2], ⟨rfl, rfl⟩, ?_⟩
          replace hS := (hS.sel 6 [0, 0] rfl)
          rw [mE_size, List.length_map, hml] at hfl; exact ⟨_, _, _, _, rfl, hS, .inr ⟨rfl, rfl, rfl, rfl, fun h => (by rw [h] at hal2; simp only [List.length_nil] at hal2; omega), Int.not_le.1 (fun h => hfl ⟨by omega, h⟩)⟩⟩
        · refine WC.skip <| WC.seq <| WC.region ?_
          have hrm : wWork th M = [] ∨ ((th.n : Int) + M.length + 4 * ((Tr.mxH (th.n + M.length) : Int) + 2)) ≤ A.s.free := (by first | exact .inl (List.length_eq_zero_iff.1 (by omega)) | (have h9 := (Classical.not_not.1 hfl).2; rw [mE_size, List.length_map, hml] at h9; exact .inr h9)); have hcs := hcs hrm
          refine WL.run 5 [.pointer (some ⟨a, 0, none⟩)] rfl (by exact hS.ld 1 rfl rfl) ?_
          refine WL.call rfl rfl (tw_hold (R := rt :: R) (i := hd) (hA := hA) (hi := hth.ref) (hz := (by simp only [List.length_cons]; omega)) (hS := hS)) rfl ?_
          clear hS; rintro _ w ⟨rfl, hS, f1⟩
          replace hS := hS.n6 L (a0 := Arn a (A.ret hd)) rfl
          refine WL.r 1 rfl <| WL.nil <| WC.seq <| WC.seq <| WC.region <| WL.r 3 rfl <| WL.nil <| WC.block <| WC.loop [0, 14, 114, 115, 116] (fun kM vs w => ∃ (k3 : Nat) (B : AM) (o : Int), vs = [.pointer (some ⟨x, 0, none⟩), .int .u32 o, .slice u (List.length (ch4 acc)) d, .int .i64 (List.length (ch4 acc) : Int), .int .i64 (k3 : Int)] ∧ St g (Arn a B :: cel x #[.pointer (some ⟨a, 0, none⟩), .int .u32 rt, .bool false, .map (some xm), .slice xu (List.length (en2 S)) xc] 188 :: blk xm (.map (mE (List.map wK xs)) q) :: Own 106 2 (en2 S) xu xc :: Own 110 4 (ch4 acc) u d :: Own 110 4 (ch4 (M.map wC)) a1 c1 :: L) w ∧ (k3 ≤ (wWork th M).length) ∧ (TOp A B (rt :: R) o (wAll ((wWork th M).take k3) th) (wSum ((wWork th M).take k3) th)) ∧ (k3 = 0 → o = hd) ∧ ((wWork th M).length - k3) = kM) ((List.length (wWork th M)) - 0) ⟨0, A.ret hd, hd, rfl, hS, (Nat.zero_le _), (TOp.held (ARf.refl f1 (hth.ret hd))), (fun _ => rfl), rfl⟩ ?_
          clear hS; rintro _ _ w j ⟨k3, B, o, rfl, hS, hk3, hT, ho3, rfl⟩
          refine WC.seq <| WC.region <| WL.r 1 rfl <| WL.nil <| WC.seq <| WC.ifP rfl (fun cd3 => ?_) (fun cd3 => ?_)
          · refine WC.skip ?_
            as_aux_lemma =>
            refine WC.seq <| WC.block <| WC.seq <| WC.region ?_
            obtain ⟨e3, he3⟩ : ∃ e, (wWork th M)[k3]? = some e := ⟨_, List.getElem?_eq_getElem (by omega)⟩; have hz3 : acc[k3]? = some (wC e3) := (by rw [hke, List.getElem?_map, he3]; rfl); have hc3 := hcs k3 e3 B o he3 hT; have hwn := wAll_n ((wWork th M).take k3) th; have htl3 := List.length_take_le k3 (wWork th M)
            refine WL.ix rfl rfl (i := (k3 : Int)) (k3) el_111 rfl rfl (by omega) (by omega) (hS.rdO 4 rfl (ch4_at hz3)).1 ?_
            refine WL.ldC rfl rfl [.int .i64 (wC e3).1, .int .i64 (wC e3).2.1, .int .i64 (wC e3).2.2.1, .int .i64 (wC e3).2.2.2] ag_110 rfl (hS.rdO 4 rfl (ch4_at hz3)).2 <| WL.new rfl rfl zv_110 hS (fun b1 w hS => ?_)
            refine WL.stF rfl rfl rfl 0 hS rfl rfl rfl rfl rfl ag_110 (fun w hS => ?_)
            replace hS := hS.n7 L (a0 := cel b1 #[.int .i64 (wC e3).1, .int .i64 (wC e3).2.1, .int .i64 (wC e3).2.2.1, .int .i64 (wC e3).2.2.2] 110) rfl
            refine WL.nil <| WC.seq <| WC.region <| WL.run 3 [.int .i64 (wC e3).1] rfl (by exact hS.ld 0 rfl rfl) ?_
            refine WL.nil <| WC.ifP rfl (fun hp => ?_) (fun hp => ?_)
            · refine WC.plan [([0, 4, 5, 7, 1, 6, 8, 2, 3], some (9, [0, 1, 2, 3, 4])), ([], some (10, [])), ([], some (11, []))] (by kernel_rfl) (by kernel_rfl) ?_
              refine WQ.run 9 [.int .i64 (wC e3).2.1, .int .i64 (wC e3).2.2.2, .pointer (some ⟨a, 0, none⟩)] rfl (by exact ⟨hS.ld 0 rfl rfl, hS.ld 0 rfl rfl, hS.ld 2 rfl rfl⟩) ?_
              refine WQ.nil ?_
              intro m5
              replace hS := hS.drewN m5; generalize hwm5 : World.drewN _ _ = w at *; clear hwm5
              refine WL.build rfl rfl (cs := [.int .i64 (wC e3).2.1, .int .i64 (wC e3).2.2.2]) zv_121 rfl rfl <| WL.nil ?_
              refine ⟨by exact ⟨RQ.pure rfl rfl rfl rfl, RQ.pure rfl rfl rfl rfl, RQ.pure rfl rfl rfl rfl, RQ.load rfl rfl rfl rfl (hS.ld 2 rfl rfl), RQ.pure rfl rfl rfl rfl⟩, ?_⟩
              refine WQ.nil ?_
              intro m6
              replace hS := hS.drewN m6; generalize hwm6 : World.drewN _ _ = w at *; clear hwm6
              refine WL.call rfl rfl (tw_ins (R := rt :: R) (i := o) (k := (wC e3).2.1) (z := (wC e3).2.2.2) (t := wAll ((wWork th M).take k3) th) (hA := hT.ref) (hi := hT.is) (hf := (wCost_ins hp hc3)) (hz := (by simp only [List.length_cons]; omega)) (hS := (hS.sel 2 [1, 0] rfl))) rfl ?_
              clear hS; rintro _ w ⟨A1, j1, rfl, hS, f2⟩
              replace hS := hS.n7 L (a0 := Arn a A1) rfl
              refine WL.nil ?_
              refine ⟨by exact trivial, ?_⟩
              refine WQ.nil ?_
              intro m7
              replace hS := hS.drewN m7; generalize hwm7 : World.drewN _ _ = w at *; clear hwm7
              refine WL.r 1 rfl <| WL.nil ?_
              refine ⟨by exact trivial, ?_⟩
              intro m8
              replace hS := hS.drewN m8; generalize hwm8 : World.drewN _ _ = w at *; clear hwm8
              as_aux_lemma =>
              refine WC.region <| WL.r 1 rfl <| WL.nw 142 rfl (w64 (by omega)) ?_
              refine WL.r 1 rfl <| WL.nil ?_
              exact ⟨_, by omega, k3 + 1, A1, j1, rfl, (hS.sel 2 [0] rfl), (by omega), (step_ins he3 hp hT f2), (fun h => absurd h (by omega)), rfl⟩
            · refine WC.plan [([0, 4, 5, 1, 6, 2, 3], some (7, [])), ([8], none)] (by kernel_rfl) (by kernel_rfl) ?_
              refine WQ.run 7 [.int .i64 (wC e3).2.1, .pointer (some ⟨a, 0, none⟩)] rfl (by exact ⟨hS.ld 0 rfl rfl, hS.ld 2 rfl rfl⟩) ?_
              refine WQ.nil ?_
              intro m5
              replace hS := hS.drewN m5; generalize hwm5 : World.drewN _ _ = w at *; clear hwm5
              refine WL.call rfl rfl (tw_del (R := rt :: R) (i := o) (k := (wC e3).2.1) (t := wAll ((wWork th M).take k3) th) (hA := hT.ref) (hi := hT.is) (hf := (wCost_del hp hc3)) (hz := (by simp only [List.length_cons]; omega)) (hS := (hS.sel 2 [1, 0] rfl))) rfl ?_
              clear hS; rintro _ w ⟨A1, j1, rfl, hS, f2⟩
              replace hS := hS.n7 L (a0 := Arn a A1) rfl
              refine WL.nil ?_
              refine ⟨by exact trivial, ?_⟩
              refine WQ.r 1 rfl <| WQ.nil ?_
              intro m6
              replace hS := hS.drewN m6; generalize hwm6 : World.drewN _ _ = w at *; clear hwm6
              as_aux_lemma =>
              refine WC.region <| WL.r 1 rfl <| WL.nw 142 rfl (w64 (by omega)) ?_
              refine WL.r 1 rfl <| WL.nil ?_
              exact ⟨_, by omega, k3 + 1, A1, j1, rfl, (hS.sel 2 [0] rfl), (by omega), (step_del he3 hp hT f2), (fun h => absurd h (by omega)), rfl⟩
          · refine WC.exit ?_
            as_aux_lemma =>
            refine WC.seq <| WC.region ?_
            replace hS := St.exClose (f := txF x a rt xs q S) (L := Arn a B :: Own 110 4 (ch4 acc) u d :: Own 110 4 (ch4 (M.map wC)) a1 c1 :: L) ⟨xm, xu, xc⟩ ((hS.sel 4 [1, 1, 1, 0] rfl))
            replace hS := hS.n4 L (a0 := Tx x a rt xs q S) rfl
            refine WL.r 1 rfl <| WL.call rfl rfl (tx_end (R := o :: R) (hA := hT.ref.sw) (hR := (by simp only [List.length_cons]; omega)) (hS := hS)) rfl ?_
            clear hS; rintro _ w ⟨A1, xm1, xu1, xc1, rfl, hS, f2⟩
            replace hS := hS.n4 L (a0 := cel x #[.pointer (some ⟨a, 0, none⟩), .int .u32 rt, .bool true, .map (some xm1), .slice xu1 (List.length (en2 S)) xc1] 188) (a1 := Arn a A1) rfl
            refine WL.nil <| WC.seq <| WC.region <| WL.r 3 rfl <| WL.nil <| WC.ret ?_
            replace hS := St.exClose (f := tzF x a rt S true) (L := Arn a A1 :: Own 110 4 (ch4 acc) u d :: Own 110 4 (ch4 (M.map wC)) a1 c1 :: L) ⟨xm1, xu1, xc1⟩ (hS)
            replace hS := hS.n4 L (a0 := Tz x a rt S true) rfl
            refine ⟨[.int .u32 o, .int .i64 0], ⟨rfl, rfl⟩, ?_⟩
            replace hS := (hS.sel 4 [0, 0] rfl)
            have hk9 : (wWork th M).take k3 = wWork th M := List.take_of_length_le (by omega); rw [hk9] at hT; exact ⟨_, _, _, _, rfl, hS, .inl ⟨rfl, rfl, hrm, TOp.fin hT f2, fun h => ho3 (by have h8 := congrArg List.length h; simp only [List.length_nil] at h8; omega)⟩⟩
      · refine WQ.reb 88 (.bool false) (congrArg Value.bool (decide_eq_false cg1)) <| WQ.skp rfl rfl rfl rfl <| WQ.skp rfl rfl rfl rfl <| WQ.skp rfl rfl rfl rfl <| WQ.skp rfl rfl rfl rfl <| WQ.skp rfl rfl rfl rfl <| WQ.skp rfl rfl rfl rfl <| WQ.skp rfl rfl rfl rfl <| WQ.skp rfl rfl rfl rfl <| WQ.skp rfl rfl rfl rfl <| WQ.skp rfl rfl rfl rfl <| WQ.skp rfl rfl rfl rfl ?_
        refine WQ.skp rfl rfl rfl rfl <| WQ.skp rfl rfl rfl rfl <| WQ.nil ?_
        intro m1
        replace hS := hS.drewN m1; generalize hwm1 : World.drewN _ _ = w at *; clear hwm1
        refine WL.skp rfl rfl rfl rfl <| WL.nil ?_
        refine ⟨by exact ⟨RQ.skp rfl rfl rfl rfl rfl rfl, RQ.skp rfl rfl rfl rfl rfl rfl, RQ.skp rfl rfl rfl rfl rfl rfl, RQ.skp rfl rfl rfl rfl rfl rfl, RQ.skp rfl rfl rfl rfl rfl rfl, RQ.skp rfl rfl rfl rfl rfl rfl, RQ.skp rfl rfl rfl rfl rfl rfl, RQ.skp rfl rfl rfl rfl rfl rfl⟩, ?_⟩
        refine WQ.skp rfl rfl rfl rfl <| WQ.nil ?_
        intro m2
        replace hS := hS.drewN m2; generalize hwm2 : World.drewN _ _ = w at *; clear hwm2
        refine WL.skp rfl rfl rfl rfl <| WL.nil ?_
        refine ⟨by exact ⟨RQ.skp rfl rfl rfl rfl rfl rfl, RQ.skp rfl rfl rfl rfl rfl rfl, RQ.skp rfl rfl rfl rfl rfl rfl, RQ.skp rfl rfl rfl rfl rfl rfl⟩, ?_⟩
        refine WQ.nil ?_
        intro m3
        replace hS := hS.drewN m3; generalize hwm3 : World.drewN _ _ = w at *; clear hwm3
        refine WL.skp rfl rfl rfl rfl <| WL.nil ?_
        refine ⟨by exact trivial, ?_⟩
        refine WQ.skp rfl rfl rfl rfl <| WQ.r 1 rfl <| WQ.nil ?_
        intro m4
        replace hS := hS.drewN m4; generalize hwm4 : World.drewN _ _ = w at *; clear hwm4
        as_aux_lemma =>
        refine WC.ifF rfl rfl <| WC.skip <| WC.seq <| WC.region ?_
        have hrm : wWork th M = [] ∨ ((th.n : Int) + M.length + 4 * ((Tr.mxH (th.n + M.length) : Int) + 2)) ≤ A.s.free := (by first | exact .inl (List.length_eq_zero_iff.1 (by omega)) | (have h9 := (Classical.not_not.1 hfl).2; rw [mE_size, List.length_map, hml] at h9; exact .inr h9)); have hcs := hcs hrm
        refine WL.run 5 [.pointer (some ⟨a, 0, none⟩)] rfl (by exact hS.ld 0 rfl rfl) ?_
        refine WL.call rfl rfl (tw_hold (R := rt :: R) (i := hd) (hA := hA) (hi := hth.ref) (hz := (by simp only [List.length_cons]; omega)) (hS := (hS.sel 6 [5, 0, 0, 0, 0, 0] rfl))) rfl ?_
        clear hS; rintro _ w ⟨rfl, hS, f1⟩
        replace hS := hS.n6 L (a0 := Arn a (A.ret hd)) rfl
        refine WL.r 1 rfl <| WL.nil <| WC.seq <| WC.seq <| WC.region <| WL.r 3 rfl <| WL.nil <| WC.block <| WC.loop [0, 14, 114, 115, 116] (fun kM vs w => ∃ (k3 : Nat) (B : AM) (o : Int), vs = [.pointer (some ⟨x, 0, none⟩), .int .u32 o, .slice u (List.length (ch4 acc)) d, .int .i64 (List.length (ch4 acc) : Int), .int .i64 (k3 : Int)] ∧ St g (Arn a B :: cel x #[.pointer (some ⟨a, 0, none⟩), .int .u32 rt, .bool false, .map (some xm), .slice xu (List.length (en2 S)) xc] 188 :: blk xm (.map (mE (List.map wK xs)) q) :: Own 106 2 (en2 S) xu xc :: Own 110 4 (ch4 acc) u d :: Own 110 4 (ch4 (M.map wC)) a1 c1 :: L) w ∧ (k3 ≤ (wWork th M).length) ∧ (TOp A B (rt :: R) o (wAll ((wWork th M).take k3) th) (wSum ((wWork th M).take k3) th)) ∧ (k3 = 0 → o = hd) ∧ ((wWork th M).length - k3) = kM) ((List.length (wWork th M)) - 0) ⟨0, A.ret hd, hd, rfl, hS, (Nat.zero_le _), (TOp.held (ARf.refl f1 (hth.ret hd))), (fun _ => rfl), rfl⟩ ?_
        clear hS; rintro _ _ w j ⟨k3, B, o, rfl, hS, hk3, hT, ho3, rfl⟩
        refine WC.seq <| WC.region <| WL.r 1 rfl <| WL.nil <| WC.seq <| WC.ifP rfl (fun cd3 => ?_) (fun cd3 => ?_)
        · refine WC.skip ?_
          as_aux_lemma =>
          refine WC.seq <| WC.block <| WC.seq <| WC.region ?_
          obtain ⟨e3, he3⟩ : ∃ e, (wWork th M)[k3]? = some e := ⟨_, List.getElem?_eq_getElem (by omega)⟩; have hz3 : acc[k3]? = some (wC e3) := (by rw [hke, List.getElem?_map, he3]; rfl); have hc3 := hcs k3 e3 B o he3 hT; have hwn := wAll_n ((wWork th M).take k3) th; have htl3 := List.length_take_le k3 (wWork th M)
          refine WL.ix rfl rfl (i := (k3 : Int)) (k3) el_111 rfl rfl (by omega) (by omega) (hS.rdO 4 rfl (ch4_at hz3)).1 ?_
          refine WL.ldC rfl rfl [.int .i64 (wC e3).1, .int .i64 (wC e3).2.1, .int .i64 (wC e3).2.2.1, .int .i64 (wC e3).2.2.2] ag_110 rfl (hS.rdO 4 rfl (ch4_at hz3)).2 <| WL.new rfl rfl zv_110 hS (fun b1 w hS => ?_)
          refine WL.stF rfl rfl rfl 0 hS rfl rfl rfl rfl rfl ag_110 (fun w hS => ?_)
          replace hS := hS.n7 L (a0 := cel b1 #[.int .i64 (wC e3).1, .int .i64 (wC e3).2.1, .int .i64 (wC e3).2.2.1, .int .i64 (wC e3).2.2.2] 110) rfl
          refine WL.nil <| WC.seq <| WC.region <| WL.run 3 [.int .i64 (wC e3).1] rfl (by exact hS.ld 0 rfl rfl) ?_
          refine WL.nil <| WC.ifP rfl (fun hp => ?_) (fun hp => ?_)
          · refine WC.plan [([0, 4, 5, 7, 1, 6, 8, 2, 3], some (9, [0, 1, 2, 3, 4])), ([], some (10, [])), ([], some (11, []))] (by kernel_rfl) (by kernel_rfl) ?_
            refine WQ.run 9 [.int .i64 (wC e3).2.1, .int .i64 (wC e3).2.2.2, .pointer (some ⟨a, 0, none⟩)] rfl (by exact ⟨hS.ld 0 rfl rfl, hS.ld 0 rfl rfl, hS.ld 2 rfl rfl⟩) ?_
            refine WQ.nil ?_
            intro m5
            replace hS := hS.drewN m5; generalize hwm5 : World.drewN _ _ = w at *; clear hwm5
            refine WL.build rfl rfl (cs := [.int .i64 (wC e3).2.1, .int .i64 (wC e3).2.2.2]) zv_121 rfl rfl <| WL.nil ?_
            refine ⟨by exact ⟨RQ.pure rfl rfl rfl rfl, RQ.pure rfl rfl rfl rfl, RQ.pure rfl rfl rfl rfl, RQ.load rfl rfl rfl rfl (hS.ld 2 rfl rfl), RQ.pure rfl rfl rfl rfl⟩, ?_⟩
            refine WQ.nil ?_
            intro m6
            replace hS := hS.drewN m6; generalize hwm6 : World.drewN _ _ = w at *; clear hwm6
            refine WL.call rfl rfl (tw_ins (R := rt :: R) (i := o) (k := (wC e3).2.1) (z := (wC e3).2.2.2) (t := wAll ((wWork th M).take k3) th) (hA := hT.ref) (hi := hT.is) (hf := (wCost_ins hp hc3)) (hz := (by simp only [List.length_cons]; omega)) (hS := (hS.sel 2 [1, 0] rfl))) rfl ?_
            clear hS; rintro _ w ⟨A1, j1, rfl, hS, f2⟩
            replace hS := hS.n7 L (a0 := Arn a A1) rfl
            refine WL.nil ?_
            refine ⟨by exact trivial, ?_⟩
            refine WQ.nil ?_
            intro m7
            replace hS := hS.drewN m7; generalize hwm7 : World.drewN _ _ = w at *; clear hwm7
            refine WL.r 1 rfl <| WL.nil ?_
            refine ⟨by exact trivial, ?_⟩
            intro m8
            replace hS := hS.drewN m8; generalize hwm8 : World.drewN _ _ = w at *; clear hwm8
            as_aux_lemma =>
            refine WC.region <| WL.r 1 rfl <| WL.nw 142 rfl (w64 (by omega)) ?_
            refine WL.r 1 rfl <| WL.nil ?_
            exact ⟨_, by omega, k3 + 1, A1, j1, rfl, (hS.sel 2 [0] rfl), (by omega), (step_ins he3 hp hT f2), (fun h => absurd h (by omega)), rfl⟩
          · refine WC.plan [([0, 4, 5, 1, 6, 2, 3], some (7, [])), ([8], none)] (by kernel_rfl) (by kernel_rfl) ?_
            refine WQ.run 7 [.int .i64 (wC e3).2.1, .pointer (some ⟨a, 0, none⟩)] rfl (by exact ⟨hS.ld 0 rfl rfl, hS.ld 2 rfl rfl⟩) ?_
            refine WQ.nil ?_
            intro m5
            replace hS := hS.drewN m5; generalize hwm5 : World.drewN _ _ = w at *; clear hwm5
            refine WL.call rfl rfl (tw_del (R := rt :: R) (i := o) (k := (wC e3).2.1) (t := wAll ((wWork th M).take k3) th) (hA := hT.ref) (hi := hT.is) (hf := (wCost_del hp hc3)) (hz := (by simp only [List.length_cons]; omega)) (hS := (hS.sel 2 [1, 0] rfl))) rfl ?_
            clear hS; rintro _ w ⟨A1, j1, rfl, hS, f2⟩
            replace hS := hS.n7 L (a0 := Arn a A1) rfl
            refine WL.nil ?_
            refine ⟨by exact trivial, ?_⟩
            refine WQ.r 1 rfl <| WQ.nil ?_
            intro m6
            replace hS := hS.drewN m6; generalize hwm6 : World.drewN _ _ = w at *; clear hwm6
            as_aux_lemma =>
            refine WC.region <| WL.r 1 rfl <| WL.nw 142 rfl (w64 (by omega)) ?_
            refine WL.r 1 rfl <| WL.nil ?_
            exact ⟨_, by omega, k3 + 1, A1, j1, rfl, (hS.sel 2 [0] rfl), (by omega), (step_del he3 hp hT f2), (fun h => absurd h (by omega)), rfl⟩
        · refine WC.exit ?_
          as_aux_lemma =>
          refine WC.seq <| WC.region ?_
          replace hS := St.exClose (f := txF x a rt xs q S) (L := Arn a B :: Own 110 4 (ch4 acc) u d :: Own 110 4 (ch4 (M.map wC)) a1 c1 :: L) ⟨xm, xu, xc⟩ ((hS.sel 4 [1, 1, 1, 0] rfl))
          replace hS := hS.n4 L (a0 := Tx x a rt xs q S) rfl
          refine WL.r 1 rfl <| WL.call rfl rfl (tx_end (R := o :: R) (hA := hT.ref.sw) (hR := (by simp only [List.length_cons]; omega)) (hS := hS)) rfl ?_
          clear hS; rintro _ w ⟨A1, xm1, xu1, xc1, rfl, hS, f2⟩
          replace hS := hS.n4 L (a0 := cel x #[.pointer (some ⟨a, 0, none⟩), .int .u32 rt, .bool true, .map (some xm1), .slice xu1 (List.length (en2 S)) xc1] 188) (a1 := Arn a A1) rfl
          refine WL.nil <| WC.seq <| WC.region <| WL.r 3 rfl <| WL.nil <| WC.ret ?_
          replace hS := St.exClose (f := tzF x a rt S true) (L := Arn a A1 :: Own 110 4 (ch4 acc) u d :: Own 110 4 (ch4 (M.map wC)) a1 c1 :: L) ⟨xm1, xu1, xc1⟩ (hS)
          replace hS := hS.n4 L (a0 := Tz x a rt S true) rfl
          refine ⟨[.int .u32 o, .int .i64 0], ⟨rfl, rfl⟩, ?_⟩
          replace hS := (hS.sel 4 [0, 0] rfl)
          have hk9 : (wWork th M).take k3 = wWork th M := List.take_of_length_le (by omega); rw [hk9] at hT; exact ⟨_, _, _, _, rfl, hS, .inl ⟨rfl, rfl, hrm, TOp.fin hT f2, fun h => ho3 (by have h8 := congrArg List.length h; simp only [List.length_nil] at h8; omega)⟩⟩
set_option maxRecDepth 8192 in
theorem tx_commit {g w : World} {L : List HP} (x a : Nat) (rt : Int) (xs : List WE) (q : Nat) (S : Kvs) (M : Wrs) (A : AM) (R : List Int) (hd : Int) (ts th : Tr) (hW : WOk xs q M) (hA : ARf A (rt :: R)) (hts : Is A ts rt) (hth : Is A th hd) (hss : Srt ts.ls) (hsh : Srt th.ls) (hn : ts.n + th.n ≤ 60000) (hSl : S.length ≤ 100000) (hR : R.length ≤ 500000000) (hno : ∀ s ∈ S, inR s.1 s.2 (dif ts.ls th.ls) = []) (hrm : wWork th M = [] ∨ ((th.n : Int) + M.length + 4 * ((Tr.mxH (th.n + M.length) : Int) + 2)) ≤ A.s.free) (hcs : ∀ (k : Nat) (e : Int × Bool × Int) (B : AM) (o : Int), (wWork th M)[k]? = some e → TOp A B (rt :: R) o (wAll ((wWork th M).take k) th) (wSum ((wWork th M).take k) th) → (wCost (wAll ((wWork th M).take k) th) e : Int) ≤ B.s.free) (hS : St g (Tx x a rt xs q S :: Arn a A :: L) w) :
    Sp Tryz.prog 31 [.pointer (some ⟨x, 0, none⟩), .int .u32 hd] w (fun v w' => ∃ (A2 : AM) (i : Int) (xm : Nat) (xu : Option Addr) (xc : Nat), v = .tuple #[.int .u32 i, .int .i64 0] ∧ St g (cel x #[.pointer (some ⟨a, 0, none⟩), .int .u32 rt, .bool true, .map (some xm), .slice xu (List.length (en2 S)) xc] 188 :: Arn a A2 :: L) w' ∧ (TOp A A2 R i (wAll (wWork th M) th) (wSum (wWork th M) th))) := by
  refine (tx_com2 x a rt xs q S M A R hd ts th hW hA hts hth hss hsh hn hSl hR hno (fun _ => hcs) hS).mono fun v w' ⟨A2, i, e, en, hv, hS', h⟩ => ?_
  rcases h with ⟨rfl, rfl, _, h1, _⟩ | ⟨_, _, _, _, h1, h2⟩
  · obtain ⟨⟨xm, xu, xc⟩, hS'⟩ := St.exOpen (f := tzF x a rt S true) hS'
    exact ⟨A2, i, xm, xu, xc, hv, hS', h1⟩
  · rcases hrm with h3 | h3
    · exact absurd h3 h1
    · omega
end Go.Proofs.YtbeacjcmdijdmaaGreat
/-! ## K1 -/
namespace Go.Proofs.YtbeacjcmdijdmaaGreat
open Go Go.V
set_option maxRecDepth 8192 in
theorem kb_bal {g w : World} {L : List HP} (x y : Int) (hx : 0 ≤ x ∧ x ≤ 2000000000) (hy : 0 ≤ y ∧ y ≤ 2000000000) (hS : St g (L) w) :
    Sp Tryz.prog 200 [.int .i64 x, .int .i64 y] w (fun v w' => v = .bool (decide (x + 1 ≤ 3 * (y + 1) ∧ y + 1 ≤ 3 * (x + 1))) ∧ St g (L) w') := by
  refine Sp.enter Tryz.func200 rfl (by kernel_rfl) (by kernel_rfl) ?_
  have _ := hy
  have _ := hx
  refine WC.seq <| WC.region <| WL.r 1 rfl <| WL.nil <| WC.seq <| WC.seq <| WC.region <| WL.r 2 rfl <| WL.rG 12 rfl (fun j => ?_)
  refine WL.prop 18 rfl (bor (bor (bor (dd _) (dd _)) (dd _)) (dd _)) <| WL.nil <| WC.ifF rfl (decide_eq_false ((by omega))) ?_
  refine WC.skip <| WC.seq <| WC.region <| WL.r 2 rfl <| WL.nw 20 rfl (w64 (by omega)) ?_
  refine WL.r 2 rfl <| WL.nw 22 rfl (w64 (by omega)) ?_
  refine WL.r 1 rfl <| WL.nw 23 rfl (w64 (by omega)) ?_
  refine WL.r 1 rfl <| WL.rG 9 rfl (fun j => ?_)
  refine WL.prop 32 rfl (band (dd _) (dd _)) <| WL.nil ?_
  as_aux_lemma =>
  refine WC.ret ?_
  refine ⟨[.bool (bif (decide ((x + 1) ≤ (3 * (y + 1)))) then (decide ((IntKind.i64.wrap (y + 1)) ≤ (IntKind.i64.wrap (3 * (IntKind.i64.wrap (x + 1)))))) else false)], rfl, ?_⟩
  exact ⟨congrArg Value.bool (by rw [w64 (z := y + 1) (by omega), w64 (z := x + 1) (by omega), w64 (z := 3 * (x + 1)) (by omega), bif_and]), hS⟩
set_option maxRecDepth 8192 in
theorem kt_least {g w : World} {L : List HP} (n : Nat) (hn : n ≤ 1000000) (hS : St g (L) w) :
    Sp Tryz.prog 201 [.int .i64 (n : Int)] w (fun v w' => v = .int .i64 ((n : Int) / 4) ∧ St g (L) w') := by
  refine Sp.enter Tryz.func201 rfl (by kernel_rfl) (by kernel_rfl) ?_
  have _ := hn
  refine WC.seq <| WC.region <| WL.r 1 rfl <| WL.nil <| WC.seq <| WC.region <| WL.r 3 rfl <| WL.reb 5 (.int .i64 ((max 0 (n : Int)) / 4)) (congrArg (Value.int .i64) (quo_i64 (p := max 0 (n : Int)) (q := 4) (by omega))) ?_
  refine WL.r 1 rfl <| WL.nil <| WC.ret ?_
  refine ⟨[.int .i64 ((max 0 (n : Int)) / 4)], rfl, ?_⟩
  exact ⟨congrArg (Value.int .i64) (by omega), hS⟩
set_option maxRecDepth 8192 in
theorem kt_pivot {g w : World} {L : List HP} (n : Nat) (q : Int) (hn : 1 ≤ n ∧ n ≤ 1000000) (hq : 0 ≤ q ∧ q < 18446744073709551616) (hS : St g (L) w) :
    Sp Tryz.prog 161 [.int .i64 (n : Int), .int .u64 q] w (fun v w' => ∃ (p : Nat), v = .int .i64 (p : Int) ∧ St g (L) w' ∧ (p < n) ∧ (Bal p (n - 1 - p))) := by
  refine Sp.enter Tryz.func161 rfl (by kernel_rfl) (by kernel_rfl) ?_
  have _ := hq
  have _ := hn
  refine WC.seq <| WC.region <| WL.r 1 rfl <| WL.nil <| WC.seq <| WC.region <| WL.r 1 rfl <| WL.call rfl rfl (kt_least (n := n) (hn := (by omega)) (hS := hS)) rfl ?_
  clear hS; rintro _ w ⟨rfl, hS⟩
  replace hS : St g (L) w := hS
  refine WL.r 1 rfl <| WL.nil <| WC.seq <| WC.block <| WC.loop [0, 1, 4, 5] (fun kM vs w => ∃ (j : Int), vs = [.int .i64 (n : Int), .int .u64 q, .int .i64 0, .int .i64 j] ∧ St g (L) w ∧ (0 ≤ j ∧ j < n) ∧ (j.toNat) = kM) (((n : Int) / 4).toNat) ⟨(n : Int) / 4, rfl, hS, (by omega), rfl⟩ ?_
  clear hS; rintro _ _ w j ⟨j, rfl, hS, hj, rfl⟩
  refine WC.seq <| WC.seq <| WC.region <| WL.r 3 rfl ?_
  by_cases cg1 : 0 < j
  · refine WL.reb 11 (.bool true) (congrArg Value.bool (decide_eq_true cg1)) <| WL.ung rfl rfl rfl <| WL.r 1 rfl <| WL.ung rfl rfl rfl <| WL.r 1 rfl <| WL.nw 13 rfl (w64 (by omega)) ?_
    refine WL.ung rfl rfl rfl <| WL.r 1 rfl <| WL.ung rfl rfl rfl <| WL.r 1 rfl <| WL.ung rfl rfl rfl <| WL.r 1 rfl <| WL.nw 16 rfl (w64 (by omega)) ?_
    refine WL.ung rfl rfl rfl <| WL.call rfl rfl (kb_bal (x := j - 1) (y := (n : Int) - j) (hx := (by omega)) (hy := (by omega)) (hS := hS)) rfl ?_
    clear hS; rintro _ w ⟨rfl, hS⟩
    replace hS : St g (L) w := hS
    refine WL.r 1 rfl <| WL.nil ?_
    as_aux_lemma =>
    refine WC.ifP rfl (fun cd1 => ?_) (fun cd1 => ?_)
    · refine WC.skip <| WC.block <| WC.region <| WL.r 2 rfl <| WL.nw 20 rfl (w64 (by omega)) ?_
      refine WL.r 1 rfl <| WL.nil ?_
      exact ⟨_, by omega, j - 1, rfl, hS, (by omega), rfl⟩
    · refine WC.exit <| WC.seq <| WC.block <| WC.loop [0, 1, 4, 5] (fun kM vs w => ∃ (k : Int), vs = [.int .i64 (n : Int), .int .u64 q, .int .i64 0, .int .i64 k] ∧ St g (L) w ∧ (0 ≤ k ∧ k < n) ∧ ((n - k).toNat) = kM) ((n - j).toNat) ⟨j, rfl, hS, (hj), rfl⟩ ?_
      clear hS; rintro _ _ w j ⟨k, rfl, hS, hk, rfl⟩
      refine WC.seq <| WC.seq <| WC.region <| WL.r 3 rfl <| WL.nw 23 rfl (w64 (by omega)) ?_
      refine WL.r 2 rfl ?_
      by_cases cg2 : k < ((n : Int) - 1)
      · refine WL.reb 25 (.bool true) (congrArg Value.bool (decide_eq_true cg2)) <| WL.ung rfl rfl rfl <| WL.r 1 rfl <| WL.ung rfl rfl rfl <| WL.r 1 rfl <| WL.ung rfl rfl rfl <| WL.r 1 rfl <| WL.nw 28 rfl (w64 (by omega)) ?_
        refine WL.ung rfl rfl rfl <| WL.r 1 rfl <| WL.ung rfl rfl rfl <| WL.r 1 rfl <| WL.nw 30 rfl (w64 (by omega)) ?_
        refine WL.ung rfl rfl rfl <| WL.call rfl rfl (kb_bal (x := k) (y := ((n : Int) - 1) - k) (hx := (by omega)) (hy := (by omega)) (hS := hS)) rfl ?_
        clear hS; rintro _ w ⟨rfl, hS⟩
        replace hS : St g (L) w := hS
        refine WL.ung rfl rfl rfl <| WL.r 1 rfl <| WL.prop 32 rfl (bnot (dd _)) <| WL.r 1 rfl <| WL.nil ?_
        as_aux_lemma =>
        refine WC.ifP rfl (fun cd2 => ?_) (fun cd2 => ?_)
        · refine WC.skip <| WC.block <| WC.region <| WL.r 2 rfl <| WL.nw 35 rfl (w64 (by omega)) ?_
          refine WL.r 1 rfl <| WL.nil ?_
          exact ⟨_, by omega, k + 1, rfl, hS, (by omega), rfl⟩
        · refine WC.exit <| WC.seq <| WC.region <| WL.r 2 rfl <| WL.nw 37 rfl (w64 (by omega)) ?_
          refine WL.r 2 rfl <| WL.nw 39 rfl (w64 (by omega)) ?_
          refine WL.r 1 rfl <| WL.nil <| WC.seq <| WC.seq <| WC.region <| WL.r 3 rfl <| WL.nil <| WC.ifP rfl (fun cd3 => ?_) (fun cd3 => ?_)
          · refine WC.seq <| WC.region <| WL.r 2 rfl <| WL.reb 44 (.int .i64 ((n : Int) / 2)) (congrArg (Value.int .i64) (quo_i64 (p := (n : Int)) (q := 2) (by omega))) ?_
            refine WL.r 1 rfl <| WL.nil <| WC.ret ?_
            refine ⟨[.int .i64 ((n : Int) / 2)], rfl, ?_⟩
            exact ⟨n / 2, congrArg (Value.int .i64) (by omega), hS, by omega, by constructor <;> omega⟩
          · refine WC.skip <| WC.seq <| WC.region ?_
            obtain ⟨m, hm⟩ : ∃ m : Nat, (n : Int) - 1 - k - k + 1 = Int.ofNat (m + 1) := ⟨((n : Int) - 1 - k - k).toNat, by simp; omega⟩; have hm1 := Int.emod_nonneg q (b := Int.ofNat (m + 1)) (by first | (simp; done) | (simp; omega)); have hm2 := Int.emod_lt_of_pos q (b := Int.ofNat (m + 1)) (by first | (simp; done) | (simp; omega))
            refine WL.r 5 rfl <| WL.nw 49 rfl (w64 (by omega)) ?_
            refine WL.r 1 rfl <| WL.nw 50 rfl (w64 (by omega)) ?_
            refine WL.r 1 rfl <| WL.reb 51 (.int .u64 (Int.ofNat (m + 1))) (congrArg (Value.int .u64) (by rw [wu64 (by omega)]; exact hm)) ?_
            refine WL.r 1 rfl <| WL.reb 52 (.int .u64 (q % (Int.ofNat (m + 1)))) (congrArg (Value.int .u64) (Int.tmod_eq_emod_of_nonneg (a := q) (by omega))) ?_
            refine WL.r 1 rfl <| WL.nw 53 rfl (w64 (by omega)) ?_
            refine WL.r 1 rfl <| WL.nw 54 rfl (w64 (by omega)) ?_
            refine WL.r 1 rfl <| WL.nil ?_
            as_aux_lemma =>
            refine WC.ret ?_
            refine ⟨[.int .i64 (k + (q % (Int.ofNat (m + 1))))], rfl, ?_⟩
            exact ⟨(k + q % Int.ofNat (m + 1)).toNat, congrArg (Value.int .i64) (by omega), hS, by omega, by constructor <;> omega⟩
      · refine WL.reb 25 (.bool false) (congrArg Value.bool (decide_eq_false cg2)) <| WL.skp rfl rfl rfl rfl <| WL.skp rfl rfl rfl rfl <| WL.skp rfl rfl rfl rfl <| WL.skp rfl rfl rfl rfl <| WL.skp rfl rfl rfl rfl <| WL.skp rfl rfl rfl rfl <| WL.skp rfl rfl rfl rfl <| WL.r 1 rfl <| WL.nil <| WC.ifF rfl rfl <| WC.exit ?_
        as_aux_lemma =>
        refine WC.seq <| WC.region <| WL.r 2 rfl <| WL.nw 37 rfl (w64 (by omega)) ?_
        refine WL.r 2 rfl <| WL.nw 39 rfl (w64 (by omega)) ?_
        refine WL.r 1 rfl <| WL.nil <| WC.seq <| WC.seq <| WC.region <| WL.r 3 rfl <| WL.nil <| WC.ifP rfl (fun cd2 => ?_) (fun cd2 => ?_)
        · refine WC.seq <| WC.region <| WL.r 2 rfl <| WL.reb 44 (.int .i64 ((n : Int) / 2)) (congrArg (Value.int .i64) (quo_i64 (p := (n : Int)) (q := 2) (by omega))) ?_
          refine WL.r 1 rfl <| WL.nil <| WC.ret ?_
          refine ⟨[.int .i64 ((n : Int) / 2)], rfl, ?_⟩
          exact ⟨n / 2, congrArg (Value.int .i64) (by omega), hS, by omega, by constructor <;> omega⟩
        · refine WC.skip <| WC.seq <| WC.region ?_
          obtain ⟨m, hm⟩ : ∃ m : Nat, (n : Int) - 1 - k - k + 1 = Int.ofNat (m + 1) := ⟨((n : Int) - 1 - k - k).toNat, by simp; omega⟩; have hm1 := Int.emod_nonneg q (b := Int.ofNat (m + 1)) (by first | (simp; done) | (simp; omega)); have hm2 := Int.emod_lt_of_pos q (b := Int.ofNat (m + 1)) (by first | (simp; done) | (simp; omega))
          refine WL.r 5 rfl <| WL.nw 49 rfl (w64 (by omega)) ?_
          refine WL.r 1 rfl <| WL.nw 50 rfl (w64 (by omega)) ?_
          refine WL.r 1 rfl <| WL.reb 51 (.int .u64 (Int.ofNat (m + 1))) (congrArg (Value.int .u64) (by rw [wu64 (by omega)]; exact hm)) ?_
          refine WL.r 1 rfl <| WL.reb 52 (.int .u64 (q % (Int.ofNat (m + 1)))) (congrArg (Value.int .u64) (Int.tmod_eq_emod_of_nonneg (a := q) (by omega))) ?_
          refine WL.r 1 rfl <| WL.nw 53 rfl (w64 (by omega)) ?_
          refine WL.r 1 rfl <| WL.nw 54 rfl (w64 (by omega)) ?_
          refine WL.r 1 rfl <| WL.nil ?_
          as_aux_lemma =>
          refine WC.ret ?_
          refine ⟨[.int .i64 (k + (q % (Int.ofNat (m + 1))))], rfl, ?_⟩
          exact ⟨(k + q % Int.ofNat (m + 1)).toNat, congrArg (Value.int .i64) (by omega), hS, by omega, by constructor <;> omega⟩
  · refine WL.reb 11 (.bool false) (congrArg Value.bool (decide_eq_false cg1)) <| WL.skp rfl rfl rfl rfl <| WL.skp rfl rfl rfl rfl <| WL.skp rfl rfl rfl rfl <| WL.skp rfl rfl rfl rfl <| WL.skp rfl rfl rfl rfl <| WL.skp rfl rfl rfl rfl <| WL.r 1 rfl <| WL.nil ?_
    as_aux_lemma =>
    refine WC.ifF rfl rfl <| WC.exit <| WC.seq <| WC.block <| WC.loop [0, 1, 4, 5] (fun kM vs w => ∃ (k : Int), vs = [.int .i64 (n : Int), .int .u64 q, .int .i64 0, .int .i64 k] ∧ St g (L) w ∧ (0 ≤ k ∧ k < n) ∧ ((n - k).toNat) = kM) ((n - j).toNat) ⟨j, rfl, hS, (hj), rfl⟩ ?_
    clear hS; rintro _ _ w j ⟨k, rfl, hS, hk, rfl⟩
    refine WC.seq <| WC.seq <| WC.region <| WL.r 3 rfl <| WL.nw 23 rfl (w64 (by omega)) ?_
    refine WL.r 2 rfl ?_
    by_cases cg2 : k < ((n : Int) - 1)
    · refine WL.reb 25 (.bool true) (congrArg Value.bool (decide_eq_true cg2)) <| WL.ung rfl rfl rfl <| WL.r 1 rfl <| WL.ung rfl rfl rfl <| WL.r 1 rfl <| WL.ung rfl rfl rfl <| WL.r 1 rfl <| WL.nw 28 rfl (w64 (by omega)) ?_
      refine WL.ung rfl rfl rfl <| WL.r 1 rfl <| WL.ung rfl rfl rfl <| WL.r 1 rfl <| WL.nw 30 rfl (w64 (by omega)) ?_
      refine WL.ung rfl rfl rfl <| WL.call rfl rfl (kb_bal (x := k) (y := ((n : Int) - 1) - k) (hx := (by omega)) (hy := (by omega)) (hS := hS)) rfl ?_
      clear hS; rintro _ w ⟨rfl, hS⟩
      replace hS : St g (L) w := hS
      refine WL.ung rfl rfl rfl <| WL.r 1 rfl <| WL.prop 32 rfl (bnot (dd _)) <| WL.r 1 rfl <| WL.nil ?_
      as_aux_lemma =>
      refine WC.ifP rfl (fun cd1 => ?_) (fun cd1 => ?_)
      · refine WC.skip <| WC.block <| WC.region <| WL.r 2 rfl <| WL.nw 35 rfl (w64 (by omega)) ?_
        refine WL.r 1 rfl <| WL.nil ?_
        exact ⟨_, by omega, k + 1, rfl, hS, (by omega), rfl⟩
      · refine WC.exit <| WC.seq <| WC.region <| WL.r 2 rfl <| WL.nw 37 rfl (w64 (by omega)) ?_
        refine WL.r 2 rfl <| WL.nw 39 rfl (w64 (by omega)) ?_
        refine WL.r 1 rfl <| WL.nil <| WC.seq <| WC.seq <| WC.region <| WL.r 3 rfl <| WL.nil <| WC.ifP rfl (fun cd2 => ?_) (fun cd2 => ?_)
        · refine WC.seq <| WC.region <| WL.r 2 rfl <| WL.reb 44 (.int .i64 ((n : Int) / 2)) (congrArg (Value.int .i64) (quo_i64 (p := (n : Int)) (q := 2) (by omega))) ?_
          refine WL.r 1 rfl <| WL.nil <| WC.ret ?_
          refine ⟨[.int .i64 ((n : Int) / 2)], rfl, ?_⟩
          exact ⟨n / 2, congrArg (Value.int .i64) (by omega), hS, by omega, by constructor <;> omega⟩
        · refine WC.skip <| WC.seq <| WC.region ?_
          obtain ⟨m, hm⟩ : ∃ m : Nat, (n : Int) - 1 - k - k + 1 = Int.ofNat (m + 1) := ⟨((n : Int) - 1 - k - k).toNat, by simp; omega⟩; have hm1 := Int.emod_nonneg q (b := Int.ofNat (m + 1)) (by first | (simp; done) | (simp; omega)); have hm2 := Int.emod_lt_of_pos q (b := Int.ofNat (m + 1)) (by first | (simp; done) | (simp; omega))
          refine WL.r 5 rfl <| WL.nw 49 rfl (w64 (by omega)) ?_
          refine WL.r 1 rfl <| WL.nw 50 rfl (w64 (by omega)) ?_
          refine WL.r 1 rfl <| WL.reb 51 (.int .u64 (Int.ofNat (m + 1))) (congrArg (Value.int .u64) (by rw [wu64 (by omega)]; exact hm)) ?_
          refine WL.r 1 rfl <| WL.reb 52 (.int .u64 (q % (Int.ofNat (m + 1)))) (congrArg (Value.int .u64) (Int.tmod_eq_emod_of_nonneg (a := q) (by omega))) ?_
          refine WL.r 1 rfl <| WL.nw 53 rfl (w64 (by omega)) ?_
          refine WL.r 1 rfl <| WL.nw 54 rfl (w64 (by omega)) ?_
          refine WL.r 1 rfl <| WL.nil ?_
          as_aux_lemma =>
          refine WC.ret ?_
          refine ⟨[.int .i64 (k + (q % (Int.ofNat (m + 1))))], rfl, ?_⟩
          exact ⟨(k + q % Int.ofNat (m + 1)).toNat, congrArg (Value.int .i64) (by omega), hS, by omega, by constructor <;> omega⟩
    · refine WL.reb 25 (.bool false) (congrArg Value.bool (decide_eq_false cg2)) <| WL.skp rfl rfl rfl rfl <| WL.skp rfl rfl rfl rfl <| WL.skp rfl rfl rfl rfl <| WL.skp rfl rfl rfl rfl <| WL.skp rfl rfl rfl rfl <| WL.skp rfl rfl rfl rfl <| WL.skp rfl rfl rfl rfl <| WL.r 1 rfl <| WL.nil <| WC.ifF rfl rfl <| WC.exit ?_
      as_aux_lemma =>
      refine WC.seq <| WC.region <| WL.r 2 rfl <| WL.nw 37 rfl (w64 (by omega)) ?_
      refine WL.r 2 rfl <| WL.nw 39 rfl (w64 (by omega)) ?_
      refine WL.r 1 rfl <| WL.nil <| WC.seq <| WC.seq <| WC.region <| WL.r 3 rfl <| WL.nil <| WC.ifP rfl (fun cd1 => ?_) (fun cd1 => ?_)
      · refine WC.seq <| WC.region <| WL.r 2 rfl <| WL.reb 44 (.int .i64 ((n : Int) / 2)) (congrArg (Value.int .i64) (quo_i64 (p := (n : Int)) (q := 2) (by omega))) ?_
        refine WL.r 1 rfl <| WL.nil <| WC.ret ?_
        refine ⟨[.int .i64 ((n : Int) / 2)], rfl, ?_⟩
        exact ⟨n / 2, congrArg (Value.int .i64) (by omega), hS, by omega, by constructor <;> omega⟩
      · refine WC.skip <| WC.seq <| WC.region ?_
        obtain ⟨m, hm⟩ : ∃ m : Nat, (n : Int) - 1 - k - k + 1 = Int.ofNat (m + 1) := ⟨((n : Int) - 1 - k - k).toNat, by simp; omega⟩; have hm1 := Int.emod_nonneg q (b := Int.ofNat (m + 1)) (by first | (simp; done) | (simp; omega)); have hm2 := Int.emod_lt_of_pos q (b := Int.ofNat (m + 1)) (by first | (simp; done) | (simp; omega))
        refine WL.r 5 rfl <| WL.nw 49 rfl (w64 (by omega)) ?_
        refine WL.r 1 rfl <| WL.nw 50 rfl (w64 (by omega)) ?_
        refine WL.r 1 rfl <| WL.reb 51 (.int .u64 (Int.ofNat (m + 1))) (congrArg (Value.int .u64) (by rw [wu64 (by omega)]; exact hm)) ?_
        refine WL.r 1 rfl <| WL.reb 52 (.int .u64 (q % (Int.ofNat (m + 1)))) (congrArg (Value.int .u64) (Int.tmod_eq_emod_of_nonneg (a := q) (by omega))) ?_
        refine WL.r 1 rfl <| WL.nw 53 rfl (w64 (by omega)) ?_
        refine WL.r 1 rfl <| WL.nw 54 rfl (w64 (by omega)) ?_
        refine WL.r 1 rfl <| WL.nil ?_
        as_aux_lemma =>
        refine WC.ret ?_
        refine ⟨[.int .i64 (k + (q % (Int.ofNat (m + 1))))], rfl, ?_⟩
        exact ⟨(k + q % Int.ofNat (m + 1)).toNat, congrArg (Value.int .i64) (by omega), hS, by omega, by constructor <;> omega⟩
theorem u64_rng (z : Int) : 0 ≤ IntKind.u64.wrap z ∧ IntKind.u64.wrap z < 18446744073709551616 := by
  have h : IntKind.u64.wrap z = z % 18446744073709551616 := rfl
  rw [h]; omega
theorem split_at {l : Kvs} {p : Nat} {e : Int × Int} (he : l[p]? = some e) : l.take p ++ e :: l.drop (p + 1) = l := by
  obtain ⟨h, rfl⟩ := List.getElem?_eq_some_iff.1 he
  rw [← List.drop_eq_getElem_cons h, List.take_append_drop]
set_option maxHeartbeats 1000000 in
set_option maxRecDepth 8192 in
theorem kt_plant_step (nM : Nat) (ih : ∀ mM : Nat, mM < nM → ∀ (g w : World) (L : List HP) (a : Nat) (A : AM) (R : List Int) (l : Kvs) (u : Option Addr) (d : Nat) (q : Int), (ARf A R) → ((l.length : Int) ≤ A.s.free) → (l.length ≤ 100000) → (R.length + l.length ≤ 800000000) → (0 ≤ q ∧ q < 18446744073709551616) → l.length = mM → St g (Arn a A :: Sh 121 2 (en2 l) u d :: L) w → Sp Tryz.prog 93 [.pointer (some ⟨a, 0, none⟩), .slice u (List.length (en2 l)) d, .int .u64 q] w (fun v w' => ∃ (A2 : AM) (i : Int) (t : Tr), v = .tuple #[.int .u32 i, .bool true] ∧ St g (Arn a A2 :: Sh 121 2 (en2 l) u d :: L) w' ∧ (TOp A A2 R i t l.length) ∧ (t.ok) ∧ (t.ls = l))) {g w : World} {L : List HP} (a : Nat) (A : AM) (R : List Int) (l : Kvs) (u : Option Addr) (d : Nat) (q : Int) (hA : ARf A R) (hf : (l.length : Int) ≤ A.s.free) (hl : l.length ≤ 100000) (hz : R.length + l.length ≤ 800000000) (hq : 0 ≤ q ∧ q < 18446744073709551616) (hM : l.length = nM) (hS : St g (Arn a A :: Sh 121 2 (en2 l) u d :: L) w) :
    Sp Tryz.prog 93 [.pointer (some ⟨a, 0, none⟩), .slice u (List.length (en2 l)) d, .int .u64 q] w (fun v w' => ∃ (A2 : AM) (i : Int) (t : Tr), v = .tuple #[.int .u32 i, .bool true] ∧ St g (Arn a A2 :: Sh 121 2 (en2 l) u d :: L) w' ∧ (TOp A A2 R i t l.length) ∧ (t.ok) ∧ (t.ls = l)) := by
  refine Sp.enter Tryz.func93 rfl (by kernel_rfl) (by kernel_rfl) ?_
  have _ := hz
  have _ := hl
  have _ := hf
  refine WC.seq <| WC.region <| WL.r 2 rfl <| WL.nil <| WC.seq <| WC.seq <| WC.region ?_
  have hll := en2_len l
  refine WL.r 3 rfl <| WL.nil <| WC.ifP rfl (fun he => ?_) (fun he => ?_)
  · refine WC.seq <| WC.region <| WL.r 2 rfl <| WL.nil <| WC.ret ?_
    refine ⟨[.int .u32 0, .bool true], ⟨rfl, rfl⟩, ?_⟩
    have hn : l = [] := List.length_eq_zero_iff.1 (by omega); subst hn; exact ⟨A, 0, .nil, rfl, hS, ARf.refl (hA.cons0 (by omega)) rfl, trivial, rfl⟩
  · refine WC.skip <| WC.seq <| WC.region <| WL.r 3 rfl <| WL.call rfl rfl (kt_pivot (n := List.length (en2 l)) (q := q) (hn := (by omega)) (hq := hq) (hS := hS)) rfl ?_
    clear hS; rintro _ w ⟨p1, rfl, hS, f1, f2⟩
    replace hS := hS.n2 L rfl
    refine WL.r 1 rfl <| WL.nil <| WC.seq <| WC.region ?_
    rw [hll] at f1 f2; obtain ⟨e, hee⟩ : ∃ e, l[p1]? = some e := ⟨_, List.getElem?_eq_getElem f1⟩; have hsp := split_at hee; have htl : (l.take p1).length = p1 := (by rw [List.length_take]; omega); have hdl : (l.drop (p1 + 1)).length = l.length - (p1 + 1) := List.length_drop
    refine WL.r 3 rfl <| WL.slHi rfl rfl (v := (p1 : Int)) 1 (p1) (en2 (l.take p1)) el_49 hS rfl rfl rfl (by omega) (by omega) (en2_take _ _) (fun a1 hS => ?_)
    replace hS := hS.n3 L (a0 := Sh 121 2 (en2 (l.take p1)) a1 d) rfl
    refine WL.r 2 rfl <| WL.reb 32 (.int .u64 (q / 5)) (congrArg (Value.int .u64) (quo_u64 (p := q) (q := 5) (by omega))) ?_
    refine WL.r 2 rfl <| WL.r 1 rfl <| WL.call rfl rfl (ih (List.length (l.take p1)) (by omega) _ _ _ a A R (l.take p1) a1 d (IntKind.u64.wrap ((q / 5) + (IntKind.u64.wrap (q * 3)))) (hA) ((by omega)) ((by omega)) ((by omega)) ((u64_rng _)) rfl (hS.sel 2 [1, 0] rfl)) rfl ?_
    clear hS; rintro _ w ⟨A1, i1, t1, rfl, hS, f3, f4, f5⟩
    replace hS := hS.n3 L (a0 := Arn a A1) rfl
    refine WL.r 5 rfl <| WL.nil ?_
    as_aux_lemma =>
    refine WC.seq <| WC.seq <| WC.region <| WL.r 2 rfl <| WL.nil <| WC.ifF rfl rfl <| WC.skip <| WC.seq <| WC.region ?_
    have hfr1 := f3.fr
    refine WL.r 4 rfl <| WL.reb 45 (.int .i64 ((p1 + 1 : Nat) : Int)) (congrArg (Value.int .i64) (by rw [w64 (by omega)]; omega)) ?_
    refine WL.slLo rfl rfl (v := ((p1 + 1 : Nat) : Int)) 2 (p1 + 1) (en2 (l.drop (p1 + 1))) el_49 hS rfl rfl rfl (by omega) (by omega) (en2_drop _ _) (fun a2 hS => ?_)
    replace hS := hS.n4 L (a0 := Sh 121 2 (en2 (l.drop (p1 + 1))) a2 (d - (p1 + 1))) rfl
    refine WL.r 2 rfl <| WL.reb 48 (.int .u64 (q / 7)) (congrArg (Value.int .u64) (quo_u64 (p := q) (q := 7) (by omega))) ?_
    refine WL.r 2 rfl <| WL.r 1 rfl <| WL.r 1 rfl <| WL.call rfl rfl (ih (List.length (l.drop (p1 + 1))) (by omega) _ _ _ a A1 (i1 :: R) (l.drop (p1 + 1)) a2 (d - (p1 + 1)) (IntKind.u64.wrap ((IntKind.u64.wrap ((q / 7) + (IntKind.u64.wrap (q * 5)))) + 1)) (f3.ref) ((by omega)) ((by omega)) ((by simp only [List.length_cons]; omega)) ((u64_rng _)) rfl (hS.sel 2 [1, 0] rfl)) rfl ?_
    clear hS; rintro _ w ⟨A2, i2, t2, rfl, hS, f6, f7, f8⟩
    replace hS := hS.n4 L (a0 := Arn a A2) rfl
    refine WL.r 5 rfl <| WL.nil <| WC.seq <| WC.seq <| WC.region <| WL.r 2 rfl <| WL.nil ?_
    as_aux_lemma =>
    refine WC.ifF rfl rfl <| WC.skip <| WC.seq <| WC.plan [([0, 1, 2, 6, 7, 11, 12, 3, 8, 4, 9, 5, 10], some (13, [])), ([14, 15, 16, 17, 18], none)] (by kernel_rfl) (by kernel_rfl) ?_
    have hfr2 := f6.fr; have hn1 := Tr.ls_len t1; have hn2 := Tr.ls_len t2; rw [f5] at hn1; rw [f8] at hn2; have hM := Mk.of (k := e.1) (v := e.2) f6.ref.sw (f6.kp i1 (by simp) t1 f3.is) f6.is (by omega) (by omega) (by omega); have hrl := f6.ref.rng (r := i1) (by simp); have hrr := f6.ref.rng (r := i2) (by simp); have hnx := hM.is.1
    refine WQ.r 7 rfl <| WQ.ix rfl rfl (i := (p1 : Int)) (p1) el_49 rfl rfl (by omega) (by omega) (hS.rdS 3 rfl (en2_at hee)).1 ?_
    refine WQ.ix rfl rfl (i := (p1 : Int)) (p1) el_49 rfl rfl (by omega) (by omega) (hS.rdS 3 rfl (en2_at hee)).1 ?_
    refine WQ.run 4 [.int .i64 e.1, .int .i64 e.2] rfl (by exact ⟨(hS.rdS 3 rfl (en2_at hee)).2 0 _ rfl, (hS.rdS 3 rfl (en2_at hee)).2 1 _ rfl⟩) ?_
    refine WQ.nil ?_
    intro m1
    replace hS := hS.drewN m1; generalize hwm1 : World.drewN _ _ = w at *; clear hwm1
    refine WL.call rfl rfl (ar_make (key := e.1) (val := e.2) (l := i1) (r := i2) (hA := f6.ref.toAWf) (hK := hM.kd) (hf := (by omega)) (hS := hS)) rfl ?_
    clear hS; rintro _ w ⟨rfl, hS⟩
    replace hS := hS.n4 L (a0 := Arn a (A2.make (A2.nodeOf e.1 e.2 i1 i2))) rfl
    refine WL.nil ?_
    refine ⟨by exact trivial, ?_⟩
    refine WQ.r 5 rfl <| WQ.nil ?_
    intro m2
    replace hS := hS.drewN m2; generalize hwm2 : World.drewN _ _ = w at *; clear hwm2
    refine WC.seq <| WC.region <| WL.r 2 rfl <| WL.call rfl rfl (tr_rel (A := A2.make (A2.nodeOf e.1 e.2 i1 i2)) (R := A2.s.next :: i2 :: R) (i := i1) (hA := hM.p1) (hR := (by simp only [List.length_cons]; omega)) (hS := hS)) rfl ?_
    clear hS; rintro _ w ⟨A3, f9, rfl, hS, f10, f11⟩
    replace hS := hS.n4 L (a0 := Arn a A3) rfl
    refine WL.r 5 rfl <| WL.nil ?_
    as_aux_lemma =>
    refine WC.seq <| WC.region <| WL.r 2 rfl <| WL.call rfl rfl (tr_rel (R := A2.s.next :: R) (i := i2) (hA := f10.p1) (hR := (by simp only [List.length_cons]; omega)) (hS := hS)) rfl ?_
    clear hS; rintro _ w ⟨A4, f12, rfl, hS, f13, f14⟩
    replace hS := hS.n4 L (a0 := Arn a A4) rfl
    refine WL.r 5 rfl <| WL.nil <| WC.seq <| WC.region <| WL.r 3 rfl <| WL.rG 14 rfl (fun j => ?_)
    refine WL.prop 101 rfl (band (band (band (dd _) (dd _)) (dd _)) (dd _)) <| WL.nil <| WC.ret ?_
    refine ⟨[.int .u32 A2.s.next, .bool (bif (bif (bif (decide (0 = 0)) then (decide (0 = 0)) else false) then (decide (0 = 0)) else false) then (decide (A2.s.next ≠ 0)) else false)], ⟨rfl, rfl⟩, ?_⟩
    replace hS := (hS.sel 3 [0] rfl)
    exact ⟨A4, A2.s.next, .node t1 e.1 e.2 t2, by rw [decide_eq_true (show A2.s.next ≠ 0 by omega)]; rfl, hS, (hM.op f10 f13).after (f3.ch.trans f6.ch sb0 sb1) sb0 (by omega), ⟨by unfold Bal at f2 ⊢; omega, f4, f7⟩, by rw [Tr.ls, f5, f8]; exact hsp⟩
theorem kt_plant_all (nM : Nat) : ∀ (g w : World) (L : List HP) (a : Nat) (A : AM) (R : List Int) (l : Kvs) (u : Option Addr) (d : Nat) (q : Int), (ARf A R) → ((l.length : Int) ≤ A.s.free) → (l.length ≤ 100000) → (R.length + l.length ≤ 800000000) → (0 ≤ q ∧ q < 18446744073709551616) → l.length = nM → St g (Arn a A :: Sh 121 2 (en2 l) u d :: L) w → Sp Tryz.prog 93 [.pointer (some ⟨a, 0, none⟩), .slice u (List.length (en2 l)) d, .int .u64 q] w (fun v w' => ∃ (A2 : AM) (i : Int) (t : Tr), v = .tuple #[.int .u32 i, .bool true] ∧ St g (Arn a A2 :: Sh 121 2 (en2 l) u d :: L) w' ∧ (TOp A A2 R i t l.length) ∧ (t.ok) ∧ (t.ls = l)) := by
  induction nM using Nat.strongRecOn with
  | _ nM ih => intro g w L a A R l u d q hA hf hl hz hq hM hS; exact kt_plant_step nM ih a A R l u d q hA hf hl hz hq hM hS
theorem kt_plant {g w : World} {L : List HP} (a : Nat) (A : AM) (R : List Int) (l : Kvs) (u : Option Addr) (d : Nat) (q : Int) (hA : ARf A R) (hf : (l.length : Int) ≤ A.s.free) (hl : l.length ≤ 100000) (hz : R.length + l.length ≤ 800000000) (hq : 0 ≤ q ∧ q < 18446744073709551616) (hS : St g (Arn a A :: Sh 121 2 (en2 l) u d :: L) w) :
    Sp Tryz.prog 93 [.pointer (some ⟨a, 0, none⟩), .slice u (List.length (en2 l)) d, .int .u64 q] w (fun v w' => ∃ (A2 : AM) (i : Int) (t : Tr), v = .tuple #[.int .u32 i, .bool true] ∧ St g (Arn a A2 :: Sh 121 2 (en2 l) u d :: L) w' ∧ (TOp A A2 R i t l.length) ∧ (t.ok) ∧ (t.ls = l)) := kt_plant_all _ g w L a A R l u d q hA hf hl hz hq rfl hS
end Go.Proofs.YtbeacjcmdijdmaaGreat
/-! ## Vra -/
namespace Go.V
open Go Go.RowKit
structure RN where
  n : Int
  root : Int
  born : Nat
def rK (x : RN) : Value × Value × Nat := (.int .i64 x.n, .int .u32 x.root, x.born)
structure VM where
  T : TM
  xs : List VN
  q : Nat
  last : Int
  rs : List RN
  q2 : Nat
  cap : Int
structure VsA where
  t : Nat
  p : Nat
  m : Nat
  m2 : Nat
def TM.vl (T : TM) (i : Int) : Int := (T.vals[i.toNat]?).getD 0
structure VI (V : VM) (A : AM) (R : List Int) : Prop where
  t : TOk V.T
  g : GI V.xs V.q V.cap V.last
  k : KOk rK RN.n V.rs V.q2
  pre : ∀ z, (∃ r ∈ V.rs, r.n = z) ↔ preG V.xs z = true
  lv : ∀ i : Int, 0 ≤ i → V.T.s.ok i = true → liveG V.xs (V.T.vl i) = true
  inj : ∀ i j : Int, 0 ≤ i → 0 ≤ j → V.T.s.ok i = true → V.T.s.ok j = true → V.T.vl i = V.T.vl j → i = j
  all : ∀ z, liveG V.xs z = true → ∃ i : Int, 0 ≤ i ∧ V.T.s.ok i = true ∧ V.T.vl i = z
  ref : ARf A (V.rs.map RN.root ++ R)
  cp : V.T.s.cap = V.cap
def VM.new (cap : Nat) : VM := ⟨TM.new cap, [], 0, 0, [], 0, cap⟩
theorem SM.new_live (cap : Nat) (i : Int) : (SM.new cap).ok i = false := by
  unfold SM.ok SM.new
  simp only
  cases hx : (List.replicate (cap + 1) false)[i.toNat]? with
  | none => rfl
  | some b => rw [List.eq_of_mem_replicate (List.mem_of_getElem? hx)]; rfl
theorem AM.new_rf {cap : Nat} (h : 1 ≤ cap ∧ cap ≤ 65536) : ARf (AM.new cap) [] := by
  have hno := SM.new_live cap
  refine ⟨AM.new_wf h, fun i hi => ?_, fun i hi => ?_, fun i hi => ?_, fun _ hr => (by cases hr), fun i hi => ?_, fun i _ _ => ?_, by simp⟩
  · have := hno i; rw [show (AM.new cap).s = SM.new cap from rfl, this] at hi; cases hi
  · have := hno i; rw [show (AM.new cap).s = SM.new cap from rfl, this] at hi; cases hi
  · have := hno i; rw [show (AM.new cap).s = SM.new cap from rfl, this] at hi; cases hi
  · have := hno i; rw [show (AM.new cap).s = SM.new cap from rfl, this] at hi; cases hi
  · unfold AM.nd AM.new
    simp only
    cases hx : (List.replicate (cap + 1) Nd.zero)[i.toNat]? with
    | none => rfl
    | some b => rw [List.eq_of_mem_replicate (List.mem_of_getElem? hx)]; rfl
theorem VI.new {slots cap : Nat} (h1 : 1 ≤ slots ∧ slots ≤ 65536) (h2 : 1 ≤ cap ∧ cap ≤ 4096) : VI (VM.new cap) (AM.new slots) [] := by
  have hno := SM.new_live cap
  refine ⟨TM.new_ok (by omega), ⟨GOk.nil, fun _ h => (by cases h), Int.le_refl _, by show 1 ≤ (cap : Int) ∧ (cap : Int) ≤ 4096; omega⟩, KOk.nil, fun z => ?_, fun i _ hi => ?_, fun i j _ _ hi => ?_, fun z hz => (by cases hz), AM.new_rf h1, ?_⟩
  · exact ⟨fun ⟨_, h, _⟩ => (by cases h), fun h => (by cases h)⟩
  · rw [show (VM.new cap).T.s = SM.new cap from rfl, hno i] at hi; cases hi
  · rw [show (VM.new cap).T.s = SM.new cap from rfl, hno i] at hi; cases hi
  · show (((List.replicate (cap + 1) false).length : Nat) : Int) - 1 = cap
    simp
def VM.room (V : VM) : Int := min (V.cap - V.xs.length) (V.cap - (V.T.s.cap - V.T.s.free))
def VM.rootOf (V : VM) (z : Int) : Int := ((V.rs.find? fun r => decide (r.n = z)).map RN.root).getD 0
theorem VM.rootOf_at {V : VM} (hu : V.rs.Pairwise fun x y => RN.n x ≠ RN.n y) {k : Nat} {r : RN} (hr : V.rs[k]? = some r) : V.rootOf r.n = r.root := by
  unfold VM.rootOf
  have : V.rs.find? (fun x => decide (x.n = r.n)) = some r := by
    cases hf : V.rs.find? (fun x => decide (x.n = r.n)) with
    | none => exact absurd (decide_eq_true rfl) (List.find?_eq_none.1 hf r (List.mem_of_getElem? hr))
    | some y =>
      have hn : y.n = r.n := of_decide_eq_true (List.find?_some (p := fun q : RN => decide (q.n = r.n)) hf)
      obtain ⟨j, hj⟩ := List.mem_iff_getElem?.1 (List.mem_of_find?_eq_some hf)
      have h1 := (List.getElem?_eq_some_iff.1 hj).1
      have h2 := (List.getElem?_eq_some_iff.1 hr).1
      have e1 : V.rs[j] = y := (List.getElem?_eq_some_iff.1 hj).2
      have e2 : V.rs[k] = r := (List.getElem?_eq_some_iff.1 hr).2
      rcases Nat.lt_trichotomy j k with hl | hl | hl
      · exact absurd (by rw [e1, e2]; exact hn) (List.pairwise_iff_getElem.1 hu j k h1 h2 hl)
      · subst hl; rw [hj] at hr; exact hr
      · exact absurd (by rw [e1, e2]; exact hn.symm) (List.pairwise_iff_getElem.1 hu k j h2 h1 hl)
  rw [this]; rfl
end Go.V
namespace Go.V
open Go Go.RowKit
theorem TM.open_vl {T : TM} (h : TOk T) (hf : 0 < T.s.free) (v : Int) {i : Int} (hi : 0 ≤ i) : (T.open v).vl i = if i = T.s.next then v else T.vl i := by
  have hn := SM.next_rng h.s hf
  unfold TM.vl TM.open
  simp only
  rw [List.getElem?_set]
  by_cases e : i = T.s.next
  · subst e; rw [if_pos rfl, if_pos (by rw [h.vl]; exact hn.2.2.1), if_pos rfl]; rfl
  · rw [if_neg (by omega), if_neg e]
theorem TM.open_ok {T : TM} (h : TOk T) (hf : 0 < T.s.free) (v : Int) {i : Int} (hi : 0 ≤ i) : (T.open v).s.ok i = if i = T.s.next then true else T.s.ok i := SM.alloc_ok' h.s hf hi
theorem rs_len {V : VM} {A : AM} {R : List Int} (h : VI V A R) : V.rs.length ≤ V.xs.length := by
  have h1 := nd_le (l := V.rs.map RN.n) (m := V.xs.map VN.n) (List.pairwise_map.2 h.k.uniq) (fun z hz => by
    obtain ⟨r, hr, e⟩ := List.mem_map.1 hz
    obtain ⟨x, hx, e2⟩ := pre_iff.1 ((h.pre z).1 ⟨r, hr, e⟩)
    exact List.mem_map.2 ⟨x, hx, e2⟩)
  simpa using h1
def VM.add (V : VM) (xs2 : List VN) (q : Nat) (root : Int) : VM := ⟨V.T.open (V.last + 1), xs2, q, V.last + 1, V.rs ++ [⟨V.last + 1, root, V.q2⟩], V.q2 + 1, V.cap⟩
theorem VI.add {V : VM} {A : AM} {R : List Int} (h : VI V A R) {root : Int} (hr : root = 0 ∨ (1 ≤ root ∧ A.s.ok root = true)) {ps : List Int} {xs2 : List VN} {q : Nat} (h0 : addE V.xs V.cap ps = 0) (hA : AddP V.xs V.cap V.last ps xs2 (V.last + 1))
    (hG : GI xs2 q V.cap (V.last + 1)) (hf : 0 < V.T.s.free) (hla : V.last < 1000000000) (hlen : R.length ≤ 900000000) : VI (V.add xs2 q root) (A.ret root) R := by
  have hla0 := h.g.la
  have hle := rs_len h
  have hnum := hG.ok.num
  obtain ⟨_, _, hn, hlv, hpr, hxl⟩ := (AddP.facts h.g.le hA).resolve_left fun e => e.1 h0
  have hlast : ∀ z, preG V.xs z = true → z ≤ V.last := fun z hz => by
    obtain ⟨x, hx, e⟩ := pre_iff.1 hz
    have := h.g.le x hx; omega
  have hnx := SM.next_rng h.t.s hf
  have hlvl : ∀ i : Int, 0 ≤ i → V.T.s.ok i = true → V.T.vl i ≤ V.last := fun i h0 hi => hlast _ (live_pre (h.lv i h0 hi))
  refine ⟨h.t.open hf (by omega), hG, h.k.snoc rfl (fun y hy e => ?_) rfl (by show _ ≤ V.last + 1 ∧ V.last + 1 ≤ _; omega) (by omega), fun z => ?_, fun i hi ho => ?_, fun i j hi hj ho ho2 e => ?_, fun z hz => ?_, ?_, ?_⟩
  · have := hlast _ ((h.pre y.n).1 ⟨y, hy, rfl⟩)
    have e2 : y.n = V.last + 1 := e
    omega
  · show (∃ r ∈ V.rs ++ [_], r.n = z) ↔ preG xs2 z = true
    rw [hpr z, Bool.or_eq_true, ← h.pre z]
    constructor
    · rintro ⟨r, hr2, e⟩
      rcases List.mem_append.1 hr2 with hr2 | hr2
      · exact .inl ⟨r, hr2, e⟩
      · rw [List.mem_singleton.1 hr2] at e
        exact .inr (decide_eq_true e.symm)
    · rintro (⟨r, hr2, e⟩ | e)
      · exact ⟨r, List.mem_append_left _ hr2, e⟩
      · exact ⟨_, List.mem_append_right _ (List.mem_singleton.2 rfl), (of_decide_eq_true e).symm⟩
  · show liveG xs2 ((V.T.open (V.last + 1)).vl i) = true
    rw [TM.open_vl h.t hf _ hi, hlv]
    rw [show (V.add xs2 q root).T.s.ok i = _ from TM.open_ok h.t hf _ hi] at ho
    by_cases e : i = V.T.s.next
    · rw [if_pos e]; simp
    · rw [if_neg e] at ho ⊢
      rw [h.lv i hi ho, Bool.true_or]
  · rw [show (V.add xs2 q root).T.s.ok i = _ from TM.open_ok h.t hf _ hi] at ho
    rw [show (V.add xs2 q root).T.s.ok j = _ from TM.open_ok h.t hf _ hj] at ho2
    rw [show (V.add xs2 q root).T.vl i = _ from TM.open_vl h.t hf _ hi, show (V.add xs2 q root).T.vl j = _ from TM.open_vl h.t hf _ hj] at e
    by_cases e1 : i = V.T.s.next
    · by_cases e2 : j = V.T.s.next
      · rw [e1, e2]
      · rw [if_neg e2] at ho2
        rw [if_pos e1, if_neg e2] at e
        have := hlvl j hj ho2; omega
    · rw [if_neg e1] at ho
      by_cases e2 : j = V.T.s.next
      · rw [if_neg e1, if_pos e2] at e
        have := hlvl i hi ho; omega
      · rw [if_neg e2] at ho2
        rw [if_neg e1, if_neg e2] at e
        exact h.inj i j hi hj ho ho2 e
  · have hz2 : (liveG V.xs z || decide (z = V.last + 1)) = true := by rw [← hlv z]; exact hz
    rcases Bool.or_eq_true_iff.1 hz2 with hz2 | hz2
    · obtain ⟨i, h1, h2, h3⟩ := h.all z hz2
      have hne : i ≠ V.T.s.next := fun e => by rw [e, hnx.2.2.2] at h2; cases h2
      exact ⟨i, h1, by rw [show (V.add xs2 q root).T.s.ok i = _ from TM.open_ok h.t hf _ h1, if_neg hne]; exact h2, by rw [show (V.add xs2 q root).T.vl i = _ from TM.open_vl h.t hf _ h1, if_neg hne]; exact h3⟩
    · have h1 : 0 ≤ V.T.s.next := by omega
      exact ⟨V.T.s.next, h1, by rw [show (V.add xs2 q root).T.s.ok _ = _ from TM.open_ok h.t hf _ h1, if_pos rfl], by rw [show (V.add xs2 q root).T.vl _ = _ from TM.open_vl h.t hf _ h1, if_pos rfl]; exact (of_decide_eq_true hz2).symm⟩
  · have h1 := (AM.ret_eq h.ref hr (by rw [List.length_append, List.length_map]; omega)).1
    refine h1.perm ?_
    show (root :: (V.rs.map RN.root ++ R)).Perm ((V.rs ++ [(⟨V.last + 1, root, V.q2⟩ : RN)]).map RN.root ++ R)
    rw [List.map_append]
    simpa using (List.perm_middle (a := root) (l₁ := V.rs.map RN.root) (l₂ := R)).symm
  · show (V.T.s.alloc).cap = V.cap
    rw [← h.cp]
    unfold SM.cap SM.alloc; simp
end Go.V
namespace Go.V
open Go Go.RowKit
theorem VI.ar {V : VM} {A A2 : AM} {R R2 : List Int} (h : VI V A R) (hA : ARf A2 (V.rs.map RN.root ++ R2)) : VI V A2 R2 := ⟨h.t, h.g, h.k, h.pre, h.lv, h.inj, h.all, hA, h.cp⟩
theorem len_single {xs : List VN} {m : Int} (hu : VUq xs) (h : ∀ z, preG xs z = true ↔ z = m) : xs.length = 1 := by
  match xs, hu, h with
  | [], _, h => exact absurd ((h m).2 rfl) (by simp [preG, vfind])
  | [_], _, _ => rfl
  | x :: y :: t, hu, h =>
    have h1 := (h x.n).1 (pre_iff.2 ⟨x, by simp, rfl⟩)
    have h2 := (h y.n).1 (pre_iff.2 ⟨y, by simp, rfl⟩)
    have := (List.pairwise_cons.1 hu).1 y (by simp)
    rw [h1, h2] at this; exact absurd rfl this
structure FvS (V : VM) (A : AM) (hd root : Int) (t : Tr) : Prop where
  vi : VI V A []
  opn : V.T.s.opn hd = true
  rng : 0 ≤ hd ∧ hd ≤ 18446744073709551615
  val : V.T.val hd = V.last
  pre : ∀ z, preG V.xs z = true ↔ z = V.last
  free : V.T.s.free = 49
  cap : V.cap = 50
  rs : ∃ b, V.rs = [⟨V.last, root, b⟩]
  is : Is A t root
  ok : t.ok
  srt : Srt t.ls
  acap : A.s.used.length = 601
theorem FvS.len {V : VM} {A : AM} {hd root : Int} {t : Tr} (h : FvS V A hd root t) : V.xs.length = 1 := len_single h.vi.g.ok.uniq h.pre
theorem FvS.room {V : VM} {A : AM} {hd root : Int} {t : Tr} (h : FvS V A hd root t) : V.room = 49 := by
  have h1 := h.len; have h2 := h.vi.cp; have h3 := h.cap; have h4 := h.free
  unfold VM.room; omega
theorem FvS.root {V : VM} {A : AM} {hd root : Int} {t : Tr} (h : FvS V A hd root t) : V.rootOf (V.T.val hd) = root := by
  obtain ⟨b, hb⟩ := h.rs
  rw [h.val]
  exact VM.rootOf_at (V := V) h.vi.k.uniq (k := 0) (r := ⟨V.last, root, b⟩) (by rw [hb]; rfl)
theorem FvS.ref {V : VM} {A : AM} {hd root : Int} {t : Tr} (h : FvS V A hd root t) : ARf A [root] := by
  obtain ⟨b, hb⟩ := h.rs
  have := h.vi.ref
  rw [hb] at this; exact this
theorem FvS.used {V : VM} {A : AM} {hd root : Int} {t : Tr} (h : FvS V A hd root t) : A.s.cap = 600 ∧ A.s.cap - A.s.free = t.n := by
  have h1 := one_tree h.ref h.is h.srt
  have h2 : A.s.cap = (A.s.used.length : Int) - 1 := rfl
  have h3 := h.acap
  omega
end Go.V
/-! ## K2 -/
namespace Go.Proofs.YtbeacjcmdijdmaaGreat
open Go Go.V
def mkL (raw : Kvs) (k : Nat) : Kvs := (raw.take k).foldl (fun l e => lins e.1 e.2 l) []
theorem mkL_succ {raw : Kvs} {k : Nat} {e : Int × Int} (h : raw[k]? = some e) : mkL raw (k + 1) = lins e.1 e.2 (mkL raw k) := by
  unfold mkL
  rw [List.take_add_one, h, List.foldl_append]; rfl
theorem mkL_srt (raw : Kvs) : ∀ k, Srt (mkL raw k) ∧ (mkL raw k).length ≤ k
  | 0 => ⟨List.Pairwise.nil, Nat.le_refl _⟩
  | k + 1 => by
    obtain ⟨h1, h2⟩ := mkL_srt raw k
    cases h : raw[k]? with
    | none =>
      have : mkL raw (k + 1) = mkL raw k := by unfold mkL; rw [List.take_add_one, h]; simp
      rw [this]; exact ⟨h1, by omega⟩
    | some e =>
      rw [mkL_succ h, lins_len h1]
      exact ⟨lins_srt h1, by split <;> omega⟩
theorem mkL_end {raw : Kvs} {k m : Nat} (h : ¬ (k < raw.length ∧ k < m)) (hk : k ≤ raw.length ∧ k ≤ m) : mkL raw k = mkL raw m := by
  unfold mkL
  by_cases h1 : k = m
  · rw [h1]
  · rw [List.take_of_length_le (show raw.length ≤ k by omega), List.take_of_length_le (show raw.length ≤ m by omega)]
set_option maxRecDepth 8192 in
theorem kt_list {g w : World} {L : List HP} (raw : Kvs) (u : Option Addr) (d : Nat) (most : Int) (hm : 0 ≤ most ∧ most ≤ 1000) (hS : St g (Sh 121 2 (en2 raw) u d :: L) w) :
    Sp Tryz.prog 26 [.slice u (List.length (en2 raw)) d, .int .i64 most] w (fun v w' => ∃ (a2 : Option Addr) (c2 : Nat), v = .slice a2 (List.length (en2 (mkL raw most.toNat))) c2 ∧ St g (Own 121 2 (en2 (mkL raw most.toNat)) a2 c2 :: Sh 121 2 (en2 raw) u d :: L) w') := by
  refine Sp.enter Tryz.func26 rfl (by kernel_rfl) (by kernel_rfl) ?_
  refine WC.seq <| WC.region <| WL.r 1 rfl <| WL.nil <| WC.seq <| WC.region ?_
  have hll := en2_len raw
  refine WL.r 1 rfl <| WL.nil <| WC.seq <| WC.seq <| WC.region <| WL.r 1 rfl <| WL.nil <| WC.block ?_
  replace hS := hS.nil_ 121 2
  refine WC.loop [0, 1, 4, 5, 6] (fun kM vs w => ∃ (k : Nat) (m : Kvs) (ua : Option Addr) (uc : Nat), vs = [.slice u (List.length (en2 raw)) d, .int .i64 most, .slice none 0 0, .slice ua (List.length (en2 m)) uc, .int .i64 (k : Int)] ∧ St g (Own 121 2 (en2 m) ua uc :: Sh 121 2 (en2 raw) u d :: L) w ∧ (k ≤ raw.length ∧ k ≤ most) ∧ (m = mkL raw k) ∧ (raw.length - k) = kM) ((List.length raw) - 0) ⟨0, [], none, 0, rfl, hS, (by omega), (rfl), rfl⟩ ?_
  clear hS; rintro _ _ w j ⟨k, m, ua, uc, rfl, hS, hk, hm, rfl⟩
  refine WC.seq <| WC.seq <| WC.region <| WL.r 4 rfl <| WL.rG 5 rfl (fun j => ?_)
  refine WL.prop 15 rfl (band (dd _) (dd _)) <| WL.nil ?_
  as_aux_lemma =>
  refine WC.ifP rfl (fun cd1 => ?_) (fun cd1 => ?_)
  · refine WC.skip <| WC.seq <| WC.block <| WC.region <| WL.r 3 rfl ?_
    obtain ⟨e, he⟩ : ∃ e, raw[k]? = some e := ⟨_, List.getElem?_eq_getElem (by omega)⟩; have hms := mkL_srt raw k; rw [← hm] at hms
    refine WL.ix rfl rfl (i := (k : Int)) (k) el_49 rfl rfl (by omega) (by omega) (hS.rdS 1 rfl (en2_at he)).1 ?_
    refine WL.ldC rfl rfl [.int .i64 e.1, .int .i64 e.2] ag_121 rfl (hS.rdS 1 rfl (en2_at he)).2 ?_
    replace hS := (hS.at_ 0 rfl).share
    replace hS := hS.n2 L (a0 := Sh 121 2 (en2 m) ua uc) rfl
    refine WL.call rfl rfl (ref_ins (k := e.1) (z := e.2) (hs := hms.1) (hl := (by omega)) (hS := hS)) rfl ?_
    clear hS; rintro _ w ⟨a1, c1, rfl, hS⟩
    replace hS := hS.n3 L (a0 := Own 121 2 (en2 (lins e.1 e.2 m)) a1 c1) rfl
    refine WL.r 1 rfl <| WL.nil <| WC.region <| WL.r 2 rfl <| WL.nw 17 rfl (w64 (by omega)) ?_
    refine WL.r 1 rfl <| WL.nil ?_
    exact ⟨_, by omega, k + 1, lins e.1 e.2 m, a1, c1, rfl, (hS.sel 2 [0] rfl), (by omega), (by rw [hm, mkL_succ he]), rfl⟩
  · refine WC.exit <| WC.seq <| WC.region <| WL.r 2 rfl <| WL.nil <| WC.ret ?_
    refine ⟨[.slice ua (List.length (en2 m)) uc], rfl, ?_⟩
    have e9 := mkL_end (raw := raw) (k := k) (m := most.toNat) (by omega) ⟨hk.1, by omega⟩; rw [← hm] at e9; rw [e9] at hS ⊢; exact ⟨_, _, rfl, hS⟩
set_option maxRecDepth 8192 in
theorem kt_grow {g w : World} {L : List HP} (l : Kvs) (u : Option Addr) (d : Nat) (q sp : Int) (hl : l.length ≤ 1000) (hs : 0 ≤ sp ∧ 1 ≤ l.length + sp ∧ sp ≤ 60000) (hq : 0 ≤ q ∧ q < 18446744073709551616) (hS : St g (Sh 121 2 (en2 l) u d :: L) w) :
    Sp Tryz.prog 27 [.slice u (List.length (en2 l)) d, .int .u64 q, .int .i64 sp] w (fun v w' => ∃ (a : Nat) (A : AM) (i : Int) (t : Tr), v = .tuple #[.pointer (some ⟨a, 0, none⟩), .int .u32 i, .bool true] ∧ St g (Arn a A :: Sh 121 2 (en2 l) u d :: L) w' ∧ (ARf A [i]) ∧ (Is A t i) ∧ (t.ok) ∧ (t.ls = l) ∧ (sp ≤ A.s.free)) := by
  refine Sp.enter Tryz.func27 rfl (by kernel_rfl) (by kernel_rfl) ?_
  have _ := hs
  have _ := hl
  refine WC.seq <| WC.region <| WL.r 3 rfl <| WL.nil <| WC.seq <| WC.region ?_
  have hll := en2_len l; have hcp : 1 ≤ ((l.length : Int) + sp).toNat ∧ ((l.length : Int) + sp).toNat ≤ 65536 := (by omega); have hrf := AM.new_rf hcp; have hfr : (AM.new ((l.length : Int) + sp).toNat).s.free = (((l.length : Int) + sp).toNat : Int) := SM.new_free ((l.length : Int) + sp).toNat
  refine WL.r 4 rfl <| WL.reb 17 (.int .i64 ((List.length l : Int) + sp)) (congrArg (Value.int .i64) (by rw [hll, w64 (by omega)])) ?_
  refine WL.call rfl rfl (ar_new_ok (cap := (List.length l : Int) + sp) (hc := (by omega)) (hS := hS)) rfl ?_
  clear hS; rintro _ w ⟨a1, rfl, hS⟩
  replace hS := hS.n2 L (a0 := Arn a1 (AM.new ((List.length l : Int) + sp).toNat)) rfl
  refine WL.r 5 rfl <| WL.nil <| WC.seq <| WC.seq <| WC.region <| WL.r 2 rfl <| WL.rG 4 rfl (fun j => ?_)
  refine WL.nil <| WC.ifF rfl (by simp) ?_
  refine WC.skip <| WC.seq <| WC.region <| WL.r 3 rfl <| WL.call rfl rfl (kt_plant (A := AM.new ((List.length l : Int) + sp).toNat) (R := []) (q := q) (hA := hrf) (hf := (by omega)) (hl := (by omega)) (hz := (by simp; omega)) (hq := hq) (hS := hS)) rfl ?_
  clear hS; rintro _ w ⟨A1, i1, t1, rfl, hS, f1, f2, f3⟩
  replace hS := hS.n2 L (a0 := Arn a1 A1) rfl
  refine WL.r 5 rfl <| WL.nil ?_
  as_aux_lemma =>
  refine WC.seq <| WC.region <| WL.r 6 rfl <| WL.nil <| WC.ret ?_
  refine ⟨[.pointer (some ⟨a1, 0, none⟩), .int .u32 i1, .bool true], ⟨rfl, rfl, rfl⟩, ?_⟩
  exact ⟨_, _, _, _, rfl, hS, f1.ref, f1.is, f2, f3, by have h := f1.fr; omega⟩
end Go.Proofs.YtbeacjcmdijdmaaGreat
/-! ## Tx6 -/
namespace Go.Proofs.YtbeacjcmdijdmaaGreat
open Go Go.V Go.RowKit Go.Maps
theorem work_one (t : Tr) (x : Int × Bool × Int) : wWork t [x] = if wNeed t x then [x] else [] := by
  unfold wWork; rw [List.filter_cons]; rfl
theorem put_cost {A : AM} {R : List Int} {t : Tr} {k v : Int} (hok : t.ok) (hn : t.n ≤ 60000) (hf : (t.n : Int) + 1 + 4 * ((Tr.mxH (t.n + 1) : Int) + 2) ≤ A.s.free) (j : Nat) (e : Int × Bool × Int) (B : AM) (o : Int) (he : (wWork t [(k, true, v)])[j]? = some e) (hT : TOp A B R o (wAll ((wWork t [(k, true, v)]).take j) t) (wSum ((wWork t [(k, true, v)]).take j) t)) : (wCost (wAll ((wWork t [(k, true, v)]).take j) t) e : Int) ≤ B.s.free := by
  rw [work_one] at he hT ⊢
  split at he
  · rename_i hnd
    rw [if_pos hnd] at hT ⊢
    cases j with
    | zero =>
      obtain rfl := Option.some.inj he
      have h1 : wCost t (k, true, v) = Tr.ic k v t := rfl
      have h2 : TOp A B R o t 0 := hT
      have h3 := Tr.ic_res k v t hok (by omega)
      have h4 := h2.fr
      show (wCost t (k, true, v) : Int) ≤ _
      rw [h1]; omega
    | succ j => cases he
  · cases he
theorem put_all {t : Tr} {k v : Int} (hok : t.ok) : wAll (wWork t [(k, true, v)]) t = Tr.ins k v t := by
  rw [work_one]
  split
  · rfl
  · rename_i h
    show t = _
    have h1 : (Tr.get k t).isSome = true ∧ (Tr.get k t).getD 0 = v := by
      unfold wNeed at h
      cases hg : Tr.get k t with
      | none => rw [hg] at h; exact absurd rfl h
      | some y => rw [hg] at h; simpa using h
    exact (Tr.ins_same k v t hok (get_of h1.1 h1.2)).symm
theorem wput_nil {k v : Int} {p : Bool} : wNew k (p, v) [] = [(k, p, v)] := by
  rw [wNew_f (fun h => by have := h.2; simp at this)]; rfl
theorem gSp_nil (k : Int) : gSp k [] [] = [(k, k)] := rfl
theorem vGet_nil (k : Int) (t : Tr) : vGet k [] t = ((Tr.get k t).getD 0, (Tr.get k t).isSome) := rfl
set_option maxRecDepth 8192 in
theorem awake26_spec {g w : World} {L : List HP} (hS : St g (L) w) :
    Sp Tryz.prog 28 [] w (fun v w' => v = .bool true ∧ St g (L) w') := by
  refine Sp.enter Tryz.func28 rfl (by kernel_rfl) (by kernel_rfl) ?_
  refine WC.seq <| WC.region <| WL.r 1 rfl <| WL.nil <| WC.seq <| WC.region <| WL.build rfl rfl (cs := [.int .i64 1, .int .i64 10]) zv_121 rfl rfl <| WL.lit rfl rfl (en2 [(1, 10)]) el_49 hS (by exact ⟨rfl, rfl⟩) (en2_ok _) rfl (Nat.le_of_ble_eq_true rfl) (fun b1 w hS => ?_)
  replace hS := (hS.at_ 0 rfl).share
  replace hS : St g (Sh 121 2 (en2 [(1, 10)]) (some ⟨b1, 0, none⟩) (List.length (en2 [(1, 10)])) :: L) w := hS
  refine WL.call rfl rfl (kt_grow (l := [(1, 10)]) (u := some ⟨b1, 0, none⟩) (d := List.length (en2 [(1, 10)])) (q := 0) (sp := 200) (hl := (by simp)) (hs := (by simp)) (hq := (by omega)) (hS := hS)) rfl ?_
  clear hS; rintro _ w ⟨a1, A1, i1, t1, rfl, hS, f1, f2, f3, f4, f5⟩
  replace hS := hS.n2 L (a0 := Arn a1 A1) rfl
  refine WL.r 7 rfl <| WL.nil <| WC.seq <| WC.seq <| WC.region <| WL.r 2 rfl <| WL.nil <| WC.ifF rfl rfl <| WC.skip <| WC.seq <| WC.region <| WL.r 2 rfl ?_
  refine WL.call rfl rfl (tx_begin (R := [i1]) (i := i1) (hA := f1) (hi := f2.ref) (hz := (by simp)) (hS := hS)) rfl ?_
  clear hS; rintro _ w ⟨x1, rfl, hS, f6⟩
  replace hS := hS.n3 L (a0 := Tx x1 a1 i1 [] 0 []) (a1 := Arn a1 (A1.ret i1)) rfl
  refine WL.r 5 rfl <| WL.nil ?_
  as_aux_lemma =>
  refine WC.seq <| WC.region <| WL.r 2 rfl <| WL.call rfl rfl (tx_begin (A := A1.ret i1) (R := [i1, i1]) (i := i1) (hA := f6) (hi := (f2.ret i1).ref) (hz := (by simp)) (hS := (hS.sel 2 [1, 0] rfl))) rfl ?_
  clear hS; rintro _ w ⟨x2, rfl, hS, f7⟩
  replace hS := hS.n4 L (a0 := Tx x2 a1 i1 [] 0 []) (a1 := Arn a1 ((A1.ret i1).ret i1)) rfl
  refine WL.r 5 rfl <| WL.nil <| WC.seq <| WC.seq <| WC.region <| WL.r 2 rfl <| WL.rG 12 rfl (fun j => ?_)
  refine WL.nil <| WC.ifF rfl (by rfl) ?_
  refine WC.skip <| WC.seq <| WC.region ?_
  have hn1 : t1.n = 1 := (by rw [← Tr.ls_len, f4]; rfl); have hs1 : Srt t1.ls := (by rw [f4]; exact List.pairwise_singleton _ _); have hg1 : Tr.get 1 t1 = some 10 := (by rw [Tr.get_ls 1 t1 hs1, f4]; rfl); have h2 := (f2.ret i1).ret i1; have hfr : ((A1.ret i1).ret i1).s.free = A1.s.free := (by rw [(AM.ret_same _ _).1, (AM.ret_same _ _).1]); have hm2 : Tr.mxH (1 + 1) ≤ 10 := (by decide); have hv : vGet 1 [] t1 = (10, true) := (by rw [vGet_nil, hg1]; rfl)
  refine WL.r 1 rfl <| WL.call rfl rfl (tx_get (xs := []) (S := []) (M := []) (A := (A1.ret i1).ret i1) (R := [i1, i1, i1]) (k := 1) (t := t1) (hW := WOk.nil) (hA := f7) (hi := h2) (hk := (by unfold i64R; omega)) (hR := (fun _ h => by cases h)) (hSl := (by simp)) (hS := (hS.sel 3 [2, 1, 0] rfl))) rfl ?_
  clear hS; rintro _ w ⟨rfl, hS⟩
  replace hS := hS.n4 L (a0 := Tx x1 a1 i1 [] 0 (gSp 1 [] [])) rfl
  refine WL.r 7 rfl <| WL.nil ?_
  as_aux_lemma =>
  refine WC.seq <| WC.region <| WL.reb 8 (.int .i64 10) (congrArg (fun z : Int × Bool => Value.int .i64 z.1) hv) <| WL.reb 9 (.bool true) (congrArg (fun z : Int × Bool => Value.bool z.2) hv) <| WL.r 1 rfl <| WL.call rfl rfl (tx_get (xs := []) (S := []) (M := []) (A := (A1.ret i1).ret i1) (R := [i1, i1, i1]) (k := 1) (t := t1) (hW := WOk.nil) (hA := f7) (hi := h2) (hk := (by unfold i64R; omega)) (hR := (fun _ h => by cases h)) (hSl := (by simp)) (hS := (hS.sel 3 [2, 1, 0] rfl))) rfl ?_
  clear hS; rintro _ w ⟨rfl, hS⟩
  replace hS := hS.n4 L (a0 := Tx x2 a1 i1 [] 0 (gSp 1 [] [])) rfl
  refine WL.nil <| WC.seq <| WC.region <| WL.r 3 rfl <| WL.reb 62 (.int .i64 11) (congrArg (Value.int .i64) (by decide)) ?_
  refine WL.call rfl rfl (tx_put (xs := []) (S := gSp 1 [] []) (M := []) (k := 1) (z := 11) (hW := WOk.nil) (hr := (by unfold i64R; omega)) (hS := (hS.sel 3 [2, 0, 0] rfl))) rfl ?_
  clear hS; rintro _ w ⟨xs1, q1, rfl, hS, f8⟩
  replace hS := hS.n4 L (a0 := Tx x1 a1 i1 xs1 q1 (gSp 1 [] [])) rfl
  refine WL.nil <| WC.seq <| WC.region <| WL.r 3 rfl <| WL.reb 66 (.int .i64 12) (congrArg (Value.int .i64) (by decide)) ?_
  refine WL.call rfl rfl (tx_put (xs := []) (S := gSp 1 [] []) (M := []) (k := 1) (z := 12) (hW := WOk.nil) (hr := (by unfold i64R; omega)) (hS := (hS.sel 2 [1, 0] rfl))) rfl ?_
  clear hS; rintro _ w ⟨xs2, q2, rfl, hS, f9⟩
  replace hS := hS.n4 L (a0 := Tx x2 a1 i1 xs2 q2 (gSp 1 [] [])) rfl
  refine WL.nil ?_
  as_aux_lemma =>
  refine WC.seq <| WC.region ?_
  rw [wput_nil] at f8 f9
  refine WL.r 2 rfl <| WL.call rfl rfl (tx_commit (S := gSp 1 [] []) (M := [(1, true, 11)]) (A := (A1.ret i1).ret i1) (R := [i1, i1]) (hd := i1) (ts := t1) (th := t1) (hW := f8) (hA := f7) (hts := h2) (hth := h2) (hss := hs1) (hsh := hs1) (hn := (by omega)) (hSl := (by rw [gSp_nil]; simp)) (hR := (by simp)) (hno := (fun s _ => by rw [dif_self]; rfl)) (hrm := (.inr (by rw [hfr, hn1]; simp only [List.length_singleton]; omega))) (hcs := (put_cost f3 (by omega) (by rw [hfr, hn1]; omega))) (hS := (hS.sel 3 [1, 1, 0] rfl))) rfl ?_
  clear hS; rintro _ w ⟨A2, i2, xm1, xu1, xc1, rfl, hS, f10⟩
  replace hS := hS.n4 L (a0 := cel x1 #[.pointer (some ⟨a1, 0, none⟩), .int .u32 i1, .bool true, .map (some xm1), .slice xu1 (List.length (en2 (gSp 1 [] []))) xc1] 188) (a1 := Arn a1 A2) rfl
  refine WL.r 5 rfl <| WL.nil <| WC.seq <| WC.region ?_
  rw [put_all f3] at f10; have hls : (Tr.ins 1 11 t1).ls = [(1, 11)] := (by rw [Tr.ins_ls _ _ _ hs1, f4]; rfl); have hs2 : Srt (Tr.ins 1 11 t1).ls := (by rw [hls]; exact List.pairwise_singleton _ _); have hg2 : Tr.get 1 (Tr.ins 1 11 t1) = some 11 := (by rw [Tr.get_ls 1 _ hs2, hls]; rfl); have hn2 : (Tr.ins 1 11 t1).n = 1 := (by rw [← Tr.ls_len, hls]; rfl)
  refine WL.r 2 rfl <| WL.call rfl rfl (tx_conflict (S := gSp 1 [] []) (R := [i2, i1, i1]) (hd := i2) (ts := t1) (th := Tr.ins 1 11 t1) (hA := f10.ref) (hts := (f10.kp i1 (by simp) t1 h2)) (hth := f10.is) (hss := hs1) (hsh := hs2) (hn := (by omega)) (hSl := (by rw [gSp_nil]; simp)) (hcf := (fun h => by have h9 := h (1, 1) (by rw [gSp_nil]; simp); rw [f4, hls] at h9; simp [dif, inR] at h9)) (hS := (hS.sel 3 [2, 1, 0] rfl))) rfl ?_
  clear hS; rintro _ w ⟨rfl, hS⟩
  replace hS := hS.n4 L rfl
  refine WL.r 5 rfl <| WL.nil <| WC.seq <| WC.region <| WL.r 2 rfl <| WL.call rfl rfl (lk_get (R := [i2, i1, i1]) (i := i2) (k := 1) (t := Tr.ins 1 11 t1) (hA := f10.ref) (hi := f10.is) (hS := (hS.sel 2 [1, 0] rfl))) rfl ?_
  clear hS; rintro _ w ⟨rfl, hS⟩
  replace hS := hS.n4 L rfl
  refine WL.r 5 rfl <| WL.nil ?_
  as_aux_lemma =>
  refine WC.seq <| WC.region <| WL.r 2 rfl <| WL.ung rfl rfl rfl <| WL.r 1 rfl <| WL.ung rfl rfl rfl <| WL.r 2 rfl <| WL.rG 13 rfl (fun j => ?_)
  refine WL.prop 102 rfl (band (band (band (dd _) (dd _)) (dd _)) (dd _)) <| WL.nil <| WC.ret ?_
  refine ⟨[.bool (bif (bif (bif (decide (10 = 10)) then (decide (0 = 0)) else false) then (decide (((Tr.get 1 (Tr.ins 1 11 t1)).getD 0) = 11)) else false) then (decide (10 = 10)) else false)], rfl, ?_⟩
  replace hS := (hS.sel 4 [] rfl)
  exact ⟨by rw [hg2]; rfl, hS⟩
end Go.Proofs.YtbeacjcmdijdmaaGreat
/-! ## Ser -/
namespace Go.V
open Go Go.RowKit Go.Maps
abbrev A4 := Int × Int × Int × Int
def seenE (k : Int) (o : Option Int) : Kvs := match o with
  | some v => [(k, v)]
  | none => [(k, 0), (k, 0)]
structure TS where
  M : Wrs
  S : Kvs
  sn : Kvs
def gS (k : Int) (M : Wrs) (S : Kvs) : Kvs := if (wget k M).isSome then S else rdF k k S
theorem gS_rd {k : Int} {M : Wrs} {S : Kvs} (h : wget k M = none) : gS k M S = rdS k k S := by
  unfold gS rdS
  rw [h, if_neg (by decide), if_pos (Int.le_refl k)]
def actT (l : Kvs) (s : TS) (a : A4) : TS :=
  if a.1 % 8 = 2 then ⟨s.M, rdS a.2.1 a.2.2.2 s.S, s.sn ++ btw a.2.1 a.2.2.2 (lwA s.M l)⟩
  else if a.1 % 8 = 3 ∨ a.1 % 8 = 4 ∨ a.1 % 8 = 5 then ⟨wput a.2.1 (true, a.2.2.1) s.M, s.S, s.sn⟩
  else if a.1 % 8 = 6 then ⟨wput a.2.1 (false, 0) s.M, s.S, s.sn⟩
  else if a.1 % 8 = 7 then ⟨wput a.2.1 (true, IntKind.i64.wrap ((lget a.2.2.2 (lwA s.M l)).getD 0 + a.2.2.1)) s.M, gS a.2.2.2 s.M s.S, s.sn ++ seenE a.2.2.2 (lget a.2.2.2 (lwA s.M l))⟩
  else ⟨s.M, gS a.2.1 s.M s.S, s.sn ++ seenE a.2.1 (lget a.2.1 (lwA s.M l))⟩
def serA (p : Kvs × Kvs) (a : A4) : Kvs × Kvs :=
  if a.1 % 8 = 2 then (p.1, p.2 ++ btw a.2.1 a.2.2.2 p.1)
  else if a.1 % 8 = 3 ∨ a.1 % 8 = 4 ∨ a.1 % 8 = 5 then (lins a.2.1 a.2.2.1 p.1, p.2)
  else if a.1 % 8 = 6 then (ldel a.2.1 p.1, p.2)
  else if a.1 % 8 = 7 then (lins a.2.1 (IntKind.i64.wrap ((lget a.2.2.2 p.1).getD 0 + a.2.2.1)) p.1, p.2 ++ seenE a.2.2.2 (lget a.2.2.2 p.1))
  else (p.1, p.2 ++ seenE a.2.1 (lget a.2.1 p.1))
theorem wget_wput {k : Int} {y : Bool × Int} {M : Wrs} (h : wSrt M) (z : Int) : wget z (wput k y M) = if z = k then some y else wget z M := by
  by_cases hz : z = k
  · rw [if_pos hz, hz]
    exact (wget_some (wput_srt h)).2 ((wput_mem _).2 (.inl rfl))
  · rw [if_neg hz]
    cases hg : wget z M with
    | some v => exact (wget_some (wput_srt h)).2 ((wput_mem _).2 (.inr ⟨(wget_some h).1 hg, hz⟩))
    | none =>
      refine wget_none fun x hx e => ?_
      rcases (wput_mem x).1 hx with rfl | ⟨hx, _⟩
      · exact hz e.symm
      · have := (wget_some h (k := z) (y := x.2)).2 (by rw [← e]; exact hx)
        rw [hg] at this; cases this
theorem kve {a b : Kvs} (ha : Srt a) (hb : Srt b) (h : ∀ z, lget z a = lget z b) : a = b :=
  srt_ext ha hb fun e => by rw [← lget_some ha, ← lget_some hb, h]
section
variable {l h : Kvs} {M : Wrs} {S : Kvs}
theorem lwA_put (hl : Srt l) (hM : wSrt M) (k : Int) (y : Bool × Int) : lwA (wput k y M) l = lw1 (lwA M l) (k, y) := by
  refine kve (lwA_srt _ hl) (lw1_srt (lwA_srt _ hl)) fun z => ?_
  rw [lwA_get _ hl (wput_srt hM) z, lw1_get (lwA_srt _ hl), lwA_get _ hl hM z]
  unfold wvw
  rw [wget_wput hM]
  by_cases hz : z = k
  · rw [if_pos hz, if_pos hz]
  · rw [if_neg hz, if_neg hz]
def Agr (S l h : Kvs) : Prop := ∀ k, inS k S → lget k l = lget k h
theorem agr_get (hl : Srt l) (hh : Srt h) (hM : wSrt M) (hS : SpG S) {k : Int} (hA : Agr (gS k M S) l h) : lget k (lwA M l) = lget k (lwA M h) := by
  rw [lwA_get M hl hM, lwA_get M hh hM]
  unfold wvw
  cases hg : wget k M with
  | some y => rfl
  | none => exact hA k (by rw [gS_rd hg]; exact ((rdS_ok hS).2 k).2 (.inr ⟨Int.le_refl _, Int.le_refl _⟩))
theorem agr_rng (hl : Srt l) (hh : Srt h) (hM : wSrt M) (hS : SpG S) {lo hi : Int} (hA : Agr (rdS lo hi S) l h) : btw lo hi (lwA M l) = btw lo hi (lwA M h) := by
  refine srt_ext ((lwA_srt _ hl).sublist List.filter_sublist) ((lwA_srt _ hh).sublist List.filter_sublist) fun e => ?_
  rw [btw_mem, btw_mem]
  have h1 : lo ≤ e.1 ∧ e.1 ≤ hi → (e ∈ lwA M l ↔ e ∈ lwA M h) := fun hr => by
    have h2 := hA e.1 (((rdS_ok hS).2 e.1).2 (.inr hr))
    have h3 : lget e.1 (lwA M l) = lget e.1 (lwA M h) := by
      rw [lwA_get M hl hM, lwA_get M hh hM, h2]
    rw [← lget_some (lwA_srt _ hl), ← lget_some (lwA_srt _ hh), h3]
  constructor
  · rintro ⟨h2, h3⟩; exact ⟨(h1 h3).1 h2, h3⟩
  · rintro ⟨h2, h3⟩; exact ⟨(h1 h3).2 h2, h3⟩
end
theorem gS_ok {k : Int} {M : Wrs} {S : Kvs} (hS : SpG S) : SpG (gS k M S) ∧ ∀ x, inS x S → inS x (gS k M S) := by
  cases hg : wget k M with
  | some y =>
    have e : gS k M S = S := by unfold gS; rw [hg]; rfl
    rw [e]; exact ⟨hS, fun _ h => h⟩
  | none =>
    rw [gS_rd hg]
    exact ⟨(rdS_ok hS).1, fun x hx => ((rdS_ok hS).2 x).2 (.inl hx)⟩
theorem act_ok (l : Kvs) {s : TS} (a : A4) (hM : wSrt s.M) (hS : SpG s.S) : wSrt (actT l s a).M ∧ SpG (actT l s a).S ∧ ∀ x, inS x s.S → inS x (actT l s a).S := by
  unfold actT
  split
  · exact ⟨hM, (rdS_ok hS).1, fun x hx => ((rdS_ok hS).2 x).2 (.inl hx)⟩
  · split
    · exact ⟨wput_srt hM, hS, fun _ h => h⟩
    · split
      · exact ⟨wput_srt hM, hS, fun _ h => h⟩
      · split
        · exact ⟨wput_srt hM, gS_ok hS⟩
        · exact ⟨hM, gS_ok hS⟩
theorem run_ok (l : Kvs) : ∀ (acts : List A4) {s : TS}, wSrt s.M → SpG s.S → wSrt (acts.foldl (actT l) s).M ∧ SpG (acts.foldl (actT l) s).S ∧ ∀ x, inS x s.S → inS x (acts.foldl (actT l) s).S
  | [], _, hM, hS => ⟨hM, hS, fun _ h => h⟩
  | a :: acts, s, hM, hS => by
    obtain ⟨h1, h2, h3⟩ := act_ok l a hM hS
    obtain ⟨h4, h5, h6⟩ := run_ok l acts h1 h2
    exact ⟨h4, h5, fun x hx => h6 x (h3 x hx)⟩
theorem act_ser {l h : Kvs} (hl : Srt l) (hh : Srt h) {s : TS} (a : A4) (hM : wSrt s.M) (hS : SpG s.S) (hA : Agr (actT l s a).S l h) : serA (lwA s.M h, s.sn) a = (lwA (actT l s a).M h, (actT l s a).sn) := by
  unfold actT serA at *
  by_cases c2 : a.1 % 8 = 2
  · simp only [if_pos c2] at hA ⊢
    rw [agr_rng hl hh hM hS hA]
  · simp only [if_neg c2] at hA ⊢
    by_cases c3 : a.1 % 8 = 3 ∨ a.1 % 8 = 4 ∨ a.1 % 8 = 5
    · simp only [if_pos c3] at hA ⊢
      rw [lwA_put hh hM]; rfl
    · simp only [if_neg c3] at hA ⊢
      by_cases c6 : a.1 % 8 = 6
      · simp only [if_pos c6] at hA ⊢
        rw [lwA_put hh hM]; rfl
      · simp only [if_neg c6] at hA ⊢
        by_cases c7 : a.1 % 8 = 7
        · simp only [if_pos c7] at hA ⊢
          rw [lwA_put hh hM, agr_get hl hh hM hS hA]; rfl
        · simp only [if_neg c7] at hA ⊢
          rw [agr_get hl hh hM hS hA]
theorem run_ser {l h : Kvs} (hl : Srt l) (hh : Srt h) : ∀ (acts : List A4) (s : TS), wSrt s.M → SpG s.S → Agr (acts.foldl (actT l) s).S l h → acts.foldl serA (lwA s.M h, s.sn) = (lwA (acts.foldl (actT l) s).M h, (acts.foldl (actT l) s).sn)
  | [], _, _, _, _ => rfl
  | a :: acts, s, hM, hS, hA => by
    obtain ⟨h1, h2, h3⟩ := act_ok l a hM hS
    have h4 := run_ok l acts h1 h2
    rw [List.foldl_cons, List.foldl_cons, act_ser hl hh a hM hS fun k hk => hA k (h4.2.2 k hk)]
    exact run_ser hl hh acts _ h1 h2 hA
def TS0 : TS := ⟨[], [], []⟩
def runQ (l : Kvs) (acts : List A4) : TS := acts.foldl (actT l) TS0
def serR (h : Kvs) (acts : List A4) : Kvs × Kvs := acts.foldl serA (h, [])
theorem TS0_ok : wSrt TS0.M ∧ SpG TS0.S := ⟨List.Pairwise.nil, List.Pairwise.nil, fun _ h => by cases h⟩
theorem ser_ok {l h : Kvs} (hl : Srt l) (hh : Srt h) (acts : List A4) (hA : Agr (runQ l acts).S l h) : serR h acts = (lwA (runQ l acts).M h, (runQ l acts).sn) := run_ser hl hh acts TS0 TS0_ok.1 TS0_ok.2 hA
theorem runT_snoc {l : Kvs} {acts : List A4} {j : Nat} {a : A4} (h : acts[j]? = some a) : runQ l (acts.take (j + 1)) = actT l (runQ l (acts.take j)) a := by
  unfold runQ; rw [List.take_add_one, h, List.foldl_append]; rfl
theorem serR_snoc {l : Kvs} {acts : List A4} {j : Nat} {a : A4} (h : acts[j]? = some a) : serR l (acts.take (j + 1)) = serA (serR l (acts.take j)) a := by
  unfold serR; rw [List.take_add_one, h, List.foldl_append]; rfl
end Go.V
