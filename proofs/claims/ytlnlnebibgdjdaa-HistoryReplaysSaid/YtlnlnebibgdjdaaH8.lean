/-
  Histories: performing all events gives the lists.
  Conditions: none.
-/
import Derived.Test.YtlnlnebibgdjdaaH7
import Derived.Test.YtlnlnebibgdjdaaH6
namespace Go.Proofs.Ytlnlnebibgdjdaa
open Go Go.V Go.RowKit

theorem rp_next {L : List Kvs} {n i m : Nat} {e : Ev} (he : (hev minI maxI L n)[(hev minI maxI L i).length + m]? = some e) (h1 : e.1 = (i : Int)) : ∃ c, (dA minI maxI L i)[m]? = some c ∧ e = ((i : Int), c) := by
  obtain ⟨i2, m2, c, a1, a2, rfl, a4, _⟩ := hev_pos he
  have h2 : i2 = i := by have h3 : (i2 : Int) = i := h1; omega
  subst h2
  have h4 : m2 = m := by omega
  subst h4
  exact ⟨c, a2, rfl⟩
theorem rp_stop {L : List Kvs} {n i m : Nat} (hi : i < n) (hm : m ≤ (dA minI maxI L i).length) (h : ∀ e, (hev minI maxI L n)[(hev minI maxI L i).length + m]? = some e → e.1 ≠ (i : Int)) : m = (dA minI maxI L i).length := by
  rcases Nat.lt_or_ge m (dA minI maxI L i).length with h1 | h1
  · exact absurd rfl (h _ (hev_at hi (List.getElem?_eq_getElem h1)))
  · omega
theorem rp_all {L : List Kvs} (h : LOk L) (i : Nat) : reps (lsB L i) (dA minI maxI L i) = lsA L i := by
  rw [dA_full h]; exact reps_dif (h.b i).1 (h.a i).1
theorem rp_len {L : List Kvs} (h : LOk L) (i m : Nat) : (reps (lsB L i) ((dA minI maxI L i).take m)).length ≤ 100 + m := by
  have h0 : ∀ (D : List Chg) (l : Kvs), Srt l → (reps l D).length ≤ l.length + D.length := fun D => by
    induction D with
    | nil => exact fun l _ => Nat.le_refl _
    | cons c D ih =>
      intro l hl
      have h1 := ih (rep l c) (rep_srt hl)
      have h2 : (rep l c).length ≤ l.length + 1 := by
        unfold rep
        split
        · exact Nat.le_trans (List.length_filter_le _ _) (by omega)
        · rw [lins_len hl]; split <;> omega
      show (reps (rep l c) D).length ≤ l.length + (D.length + 1)
      omega
  have h1 := h0 ((dA minI maxI L i).take m) _ (h.b i).1
  have h2 := (h.b i).2.1
  have h3 := List.length_take_le m (dA minI maxI L i)
  omega
theorem lsA_at {LL : List LsE} {i : Nat} {z : LsE} (hz : LL[i]? = some z) : lsA (LL.map LsE.es) i = z.es := by
  unfold lsA
  rw [List.getD_eq_getElem?_getD, List.getElem?_map, hz]; rfl
theorem hi_evF {g w : World} {L : List HP} (a : Nat) (A : AM) (R : List Int) (Ls : List Kvs) (rs : List Int) (u : Option Addr) (d : Nat) (hA : ARf A R) (hT : RTs A Ls rs) (hL : LOk Ls) (hn : rs.length ≤ 100) (hS : St g (Arn a A :: Sh 40 1 (u32s rs) u d :: L) w) :
    Sp Try.prog 27 [.pointer (some ⟨a, 0, none⟩), .slice u (List.length (u32s rs)) d, .int .i64 (-9223372036854775808), .int .i64 9223372036854775807] w (fun v w' => ∃ (a2 : Option Addr) (c2 : Nat), v = .slice a2 (List.length (ev5 (hev minI maxI Ls (List.length rs)))) c2 ∧ St g (Own 63 5 (ev5 (hev minI maxI Ls (List.length rs))) a2 c2 :: Arn a A :: Sh 40 1 (u32s rs) u d :: L) w') := by
  exact hi_events a A R Ls rs u d minI maxI hA hT hL hn hS
set_option maxHeartbeats 2000000 in
set_option maxRecDepth 8192 in
theorem law_hrep {g w : World} {L : List HP} (raw : Kvs) (u : Option Addr) (d : Nat) (q : Int) (S : List Chg) (us : Option Addr) (ds : Nat) (hq : 0 ≤ q ∧ q ≤ 18446744073709551615) (hraw : kvR raw) (hS0 : stR S) (hSl : S.length ≤ 9223372036854775807) (hS : St g (Sh 46 2 (en2 raw) u d :: Sh 127 4 (ch4 S) us ds :: L) w) :
    Sp Try.prog 5 [.slice u (List.length (en2 raw)) d, .int .u64 q, .slice us (List.length (ch4 S)) ds] w (fun v w' => v = .bool true ∧ St g (L) w') := by
  refine Sp.enter Try.func5 rfl (by kernel_rfl) (by kernel_rfl) ?_
  refine WC.seq ?_
  refine WC.region ?_
  refine WL.r 1 rfl ?_
  refine WL.nil ?_
  refine WC.seq ?_
  refine WC.region ?_
  refine WL.r 3 rfl ?_
  refine WL.call rfl rfl (kt_chain (raw := raw) (u := u) (d := d) (q := q) (S := S) (us := us) (ds := ds) (hq := hq) (hraw := hraw) (hS0 := hS0) (hSl := hSl) (hS := hS)) rfl ?_
  clear hS; rintro _ w ⟨a1, A1, R1, rs1, ru1, rc1, LL1, lu1, lc1, rfl, hS, f1, f2, f3, f4⟩
  replace hS : St g (Arn a1 A1 :: Own 40 1 (u32s rs1) ru1 rc1 :: Own 36 1 (enL LL1) lu1 lc1 :: Shs leF LL1 :: L) w := hS
  refine WL.r 9 rfl ?_
  refine WL.nil ?_
  refine WC.seq ?_
  refine WC.seq ?_
  refine WC.region ?_
  refine WL.call rfl rfl (awake27_spec   (hS := hS)) rfl ?_
  clear hS; rintro _ w ⟨rfl, hS⟩
  replace hS : St g (Arn a1 A1 :: Own 40 1 (u32s rs1) ru1 rc1 :: Own 36 1 (enL LL1) lu1 lc1 :: Shs leF LL1 :: L) w := hS
  refine WL.r 2 rfl ?_
  refine WL.ung rfl rfl rfl ?_
  refine WL.r 1 rfl ?_
  refine WL.ung rfl rfl rfl ?_
  refine WL.r 2 rfl ?_
  refine WL.nil ?_
  as_aux_lemma =>
    refine WC.ifF rfl rfl ?_
    refine WC.skip ?_
    refine WC.seq ?_
    refine WC.region ?_
    refine WL.r 2 rfl ?_
    replace hS := (hS.at_ 1 rfl).share
    replace hS : St g (Sh 40 1 (u32s rs1) ru1 rc1 :: Arn a1 A1 :: Own 36 1 (enL LL1) lu1 lc1 :: Shs leF LL1 :: L) w := hS
    refine WL.call rfl rfl (hi_evF (a := a1) (A := A1) (R := R1) (Ls := LL1.map LsE.es) (rs := rs1) (u := ru1) (d := rc1) (hA := f1) (hT := f2) (hL := f3) (hn := (by omega)) (hS := (hS.sel 2 [1, 0] rfl))) rfl ?_
    clear hS; rintro _ w ⟨a2, c1, rfl, hS⟩
    replace hS : St g (Own 63 5 (ev5 (hev minI maxI (LL1.map LsE.es) (List.length rs1))) a2 c1 :: Arn a1 A1 :: Sh 40 1 (u32s rs1) ru1 rc1 :: Own 36 1 (enL LL1) lu1 lc1 :: Shs leF LL1 :: L) w := hS
    refine WL.r 1 rfl ?_
    refine WL.nil ?_
    refine WC.seq ?_
    refine WC.region ?_
    have hLl : LL1.length = rs1.length := (by have := f2.len; rw [List.length_map] at this; exact this); have hel := hev_len (lo := minI) (hi := maxI) f3 rs1.length; have he5 := ev5_len (hev minI maxI (LL1.map LsE.es) rs1.length); have hul := u32s_len rs1; have hnl := enL_len LL1
    replace hS : St g (Sh 46 2 (en2 []) none 0 :: Own 63 5 (ev5 (hev minI maxI (LL1.map LsE.es) (List.length rs1))) a2 c1 :: Arn a1 A1 :: Sh 40 1 (u32s rs1) ru1 rc1 :: Own 36 1 (enL LL1) lu1 lc1 :: Shs leF LL1 :: L) w := (hS.nil_ 46 2).share
    refine WL.r 1 rfl ?_
    refine WL.nil ?_
    refine WC.seq ?_
    refine WC.region ?_
    refine WL.r 1 rfl ?_
    refine WL.nil ?_
    refine WC.seq ?_
    refine WC.seq ?_
    refine WC.region ?_
    refine WL.r 1 rfl ?_
    refine WL.nil ?_
    as_aux_lemma =>
      refine WC.block ?_
      refine WC.loop [8, 9, 11, 12, 13, 14] (fun kM vs w => ∃ (i : Nat) (now : Kvs) (un : Option Addr) (dn : Nat), vs = [.slice ru1 (List.length (u32s rs1)) rc1, .slice lu1 (List.length (enL LL1)) lc1, .slice a2 (List.length (ev5 (hev minI maxI (LL1.map LsE.es) (List.length rs1)))) c1, .slice un (List.length (en2 now)) dn, .int .i64 (List.length (hev minI maxI (LL1.map LsE.es) i) : Int), .int .i64 (i : Int)] ∧ St g (Sh 46 2 (en2 now) un dn :: Own 63 5 (ev5 (hev minI maxI (LL1.map LsE.es) (List.length rs1))) a2 c1 :: Arn a1 A1 :: Sh 40 1 (u32s rs1) ru1 rc1 :: Own 36 1 (enL LL1) lu1 lc1 :: Shs leF LL1 :: L) w ∧ (i ≤ rs1.length) ∧ (now = lsB (LL1.map LsE.es) i) ∧ (rs1.length - i) = kM) ((List.length rs1) - 0) ⟨0, [], none, 0, rfl, hS, (Nat.zero_le _), (rfl), rfl⟩ ?_
      clear hS; rintro _ _ w j ⟨i, now, un, dn, rfl, hS, hi, hw, rfl⟩
      refine WC.seq ?_
      refine WC.seq ?_
      refine WC.region ?_
      refine WL.r 4 rfl ?_
      refine WL.nil ?_
      refine WC.ifP rfl (fun cd1 => ?_) (fun cd1 => ?_)
      · refine WC.skip ?_
        refine WC.seq ?_
        refine WC.block ?_
        refine WC.seq ?_
        refine WC.block ?_
        refine WC.loop [8, 9, 11, 12, 13, 14, 34, 35, 36, 37] (fun kM vs w => ∃ (m : Nat) (nw : Kvs) (u2 : Option Addr) (d2 : Nat), vs = [.slice ru1 (List.length (u32s rs1)) rc1, .slice lu1 (List.length (enL LL1)) lc1, .slice a2 (List.length (ev5 (hev minI maxI (LL1.map LsE.es) (List.length rs1)))) c1, .slice u2 (List.length (en2 nw)) d2, .int .i64 ((List.length (hev minI maxI (LL1.map LsE.es) i)) + m : Int), .int .i64 (i : Int), .int .i64 (i : Int), .slice ru1 (List.length (u32s rs1)) rc1, .int .i64 (List.length (u32s rs1) : Int), .bool (decide ((i : Int) < (List.length (u32s rs1) : Int)))] ∧ St g (Sh 46 2 (en2 nw) u2 d2 :: Own 63 5 (ev5 (hev minI maxI (LL1.map LsE.es) (List.length rs1))) a2 c1 :: Arn a1 A1 :: Sh 40 1 (u32s rs1) ru1 rc1 :: Own 36 1 (enL LL1) lu1 lc1 :: Shs leF LL1 :: L) w ∧ (m ≤ (dA minI maxI (LL1.map LsE.es) i).length) ∧ (nw = reps (lsB (LL1.map LsE.es) i) ((dA minI maxI (LL1.map LsE.es) i).take m)) ∧ ((dA minI maxI (LL1.map LsE.es) i).length - m) = kM) ((List.length (dA minI maxI (LL1.map LsE.es) i)) - 0) ⟨0, now, un, dn, rfl, hS, (Nat.zero_le _), (hw), rfl⟩ ?_
        clear hS; rintro _ _ w j ⟨m, nw, u2, d2, rfl, hS, hm, hn, rfl⟩
        refine WC.seq ?_
        refine WC.seq ?_
        refine WC.region ?_
        have hil := hev_le (lo := minI) (hi := maxI) (L := LL1.map LsE.es) hi; have hdl := dA_len (lo := minI) (hi := maxI) f3 i
        refine WL.r 5 rfl ?_
        by_cases cg1 : ((List.length (hev minI maxI (LL1.map LsE.es) i)) + m : Int) < (List.length (ev5 (hev minI maxI (LL1.map LsE.es) (List.length rs1))) : Int)
        · refine WL.reb 44 (.bool true) (congrArg Value.bool (decide_eq_true cg1)) ?_
          refine WL.ung rfl rfl rfl ?_
          refine WL.r 1 rfl ?_
          refine WL.ung rfl rfl rfl ?_
          refine WL.r 1 rfl ?_
          refine WL.ung rfl rfl rfl ?_
          obtain ⟨e, he⟩ : ∃ e, (hev minI maxI (LL1.map LsE.es) rs1.length)[(hev minI maxI (LL1.map LsE.es) i).length + m]? = some e := ⟨_, List.getElem?_eq_getElem (by omega)⟩
          refine WL.ix rfl rfl (i := ((List.length (hev minI maxI (LL1.map LsE.es) i)) + m : Int)) ((hev minI maxI (LL1.map LsE.es) i).length + m) el_58 rfl rfl (by omega) (by omega) (hS.rdO 1 rfl (ev5_at he)).1 ?_
          refine WL.ung rfl rfl rfl ?_
          refine WL.r 1 rfl ?_
          refine WL.ung rfl rfl rfl ?_
          refine WL.run 1 [.int .i64 e.1] rfl (by exact (hS.rdO 1 rfl (ev5_at he)).2 0 _ rfl) ?_
          refine WL.ung rfl rfl rfl ?_
          refine WL.r 1 rfl ?_
          refine WL.ung rfl rfl rfl ?_
          refine WL.r 2 rfl ?_
          refine WL.nil ?_
          as_aux_lemma =>
            refine WC.ifP rfl (fun cd2 => ?_) (fun cd2 => ?_)
            · refine WC.skip ?_
              refine WC.block ?_
              refine WC.seq ?_
              refine WC.region ?_
              obtain ⟨c, hdc, hec⟩ := rp_next he cd2; have hlt9 := (List.getElem?_eq_some_iff.1 hdc).1; have hnl2 := rp_len f3 i m; rw [← hn] at hnl2; have hen := en2_len nw; have hns : Srt nw := (by rw [hn]; exact reps_srt (f3.b i).1); have hrn := reps_snoc (l := lsB (LL1.map LsE.es) i) hdc; rw [← hn] at hrn
              refine WL.r 2 rfl ?_
              refine WL.ix rfl rfl (i := ((List.length (hev minI maxI (LL1.map LsE.es) i)) + m : Int)) ((hev minI maxI (LL1.map LsE.es) i).length + m) el_58 rfl rfl (by omega) (by omega) (hS.rdO 1 rfl (ev5_at he)).1 ?_
              refine WL.r 1 rfl ?_
              refine WL.ldC rfl rfl [.int .i64 e.2.1, .int .i64 e.2.2.1, .int .i64 e.2.2.2.1, .int .i64 e.2.2.2.2] ag_61 rfl (RdE.sub (hS.rdO 1 rfl (ev5_at he)).2 1 [.int .i64 e.2.1, .int .i64 e.2.2.1, .int .i64 e.2.2.2.1, .int .i64 e.2.2.2.2] rfl) ?_
              refine WL.new rfl rfl zv_61 hS (fun b1 w hS => ?_)
              refine WL.stF rfl rfl rfl 0 hS rfl rfl rfl rfl rfl ag_61 (fun w hS => ?_)
              replace hS : St g (cel b1 #[.int .i64 e.2.1, .int .i64 e.2.2.1, .int .i64 e.2.2.2.1, .int .i64 e.2.2.2.2] 61 :: Sh 46 2 (en2 nw) u2 d2 :: Own 63 5 (ev5 (hev minI maxI (LL1.map LsE.es) (List.length rs1))) a2 c1 :: Arn a1 A1 :: Sh 40 1 (u32s rs1) ru1 rc1 :: Own 36 1 (enL LL1) lu1 lc1 :: Shs leF LL1 :: L) w := hS
              refine WL.nil ?_
              refine WC.seq ?_
              refine WC.seq ?_
              refine WC.region ?_
              refine WL.run 3 [.int .i64 e.2.1] rfl (by exact hS.ld 0 rfl rfl) ?_
              refine WL.nil ?_
              refine WC.ifP rfl (fun hk2 => ?_) (fun hk2 => ?_)
              · refine WC.region ?_
                refine WL.run 3 [.int .i64 e.2.2.1] rfl (by exact hS.ld 0 rfl rfl) ?_
                refine WL.call rfl rfl (refS_del (l := nw) (u := u2) (d := d2) (k := e.2.2.1) (hl := (by omega)) (hS := (hS.sel 2 [1, 0] rfl))) rfl ?_
                clear hS; rintro _ w ⟨a3, c2, rfl, hS⟩
                replace hS : St g (Sh 46 2 (en2 (ldel e.2.2.1 nw)) a3 c2 :: Sh 46 2 (en2 nw) u2 d2 :: cel b1 #[.int .i64 e.2.1, .int .i64 e.2.2.1, .int .i64 e.2.2.2.1, .int .i64 e.2.2.2.2] 61 :: Own 63 5 (ev5 (hev minI maxI (LL1.map LsE.es) (List.length rs1))) a2 c1 :: Arn a1 A1 :: Sh 40 1 (u32s rs1) ru1 rc1 :: Own 36 1 (enL LL1) lu1 lc1 :: Shs leF LL1 :: L) w := hS
                refine WL.r 1 rfl ?_
                refine WL.nil ?_
                as_aux_lemma =>
                  refine WC.region ?_
                  refine WL.r 2 rfl ?_
                  refine WL.nw 73 rfl (w64 (by omega)) ?_
                  refine WL.r 1 rfl ?_
                  refine WL.nil ?_
                  exact ⟨_, by omega, m + 1, ldel e.2.2.1 nw, a3, c2, rfl, (hS.sel 3 [0] rfl), (by omega), (by rw [hrn]; subst hec; exact (if_pos hk2).symm), rfl⟩
              · refine WC.region ?_
                refine WL.run 5 [.int .i64 e.2.2.1, .int .i64 e.2.2.2.2] rfl (by exact ⟨hS.ld 0 rfl rfl, hS.ld 0 rfl rfl⟩) ?_
                refine WL.build rfl rfl (cs := [.int .i64 e.2.2.1, .int .i64 e.2.2.2.2]) zv_46 rfl rfl ?_
                refine WL.call rfl rfl (refS_ins (l := nw) (u := u2) (d := d2) (k := e.2.2.1) (z := e.2.2.2.2) (hs := hns) (hl := (by omega)) (hS := (hS.sel 2 [1, 0] rfl))) rfl ?_
                clear hS; rintro _ w ⟨a3, c2, rfl, hS⟩
                replace hS : St g (Sh 46 2 (en2 (lins e.2.2.1 e.2.2.2.2 nw)) a3 c2 :: Sh 46 2 (en2 nw) u2 d2 :: cel b1 #[.int .i64 e.2.1, .int .i64 e.2.2.1, .int .i64 e.2.2.2.1, .int .i64 e.2.2.2.2] 61 :: Own 63 5 (ev5 (hev minI maxI (LL1.map LsE.es) (List.length rs1))) a2 c1 :: Arn a1 A1 :: Sh 40 1 (u32s rs1) ru1 rc1 :: Own 36 1 (enL LL1) lu1 lc1 :: Shs leF LL1 :: L) w := hS
                refine WL.r 1 rfl ?_
                refine WL.nil ?_
                as_aux_lemma =>
                  refine WC.region ?_
                  refine WL.r 2 rfl ?_
                  refine WL.nw 73 rfl (w64 (by omega)) ?_
                  refine WL.r 1 rfl ?_
                  refine WL.nil ?_
                  exact ⟨_, by omega, m + 1, lins e.2.2.1 e.2.2.2.2 nw, a3, c2, rfl, (hS.sel 3 [0] rfl), (by omega), (by rw [hrn]; subst hec; exact (if_neg hk2).symm), rfl⟩
            · refine WC.exit ?_
              refine WC.seq ?_
              refine WC.region ?_
              have hm9 : m = (dA minI maxI (LL1.map LsE.es) i).length := rp_stop (n := rs1.length) (by omega) hm (by intro e9 he9; first | exact absurd (List.getElem?_eq_some_iff.1 he9).1 (by omega) | (rw [he] at he9; cases he9; exact cd2)); obtain ⟨z, hz⟩ : ∃ z, LL1[i]? = some z := ⟨_, List.getElem?_eq_getElem (by omega)⟩; have hwz : nw = z.es := (by rw [hn, hm9, List.take_length, rp_all f3]; exact lsA_at hz); have hnz := rp_len f3 i m; rw [← hn] at hnz; have hke : (((hev minI maxI (LL1.map LsE.es) i).length + m : Nat) : Int) = ((hev minI maxI (LL1.map LsE.es) (i + 1)).length : Int) := (by rw [hev_succ, List.length_append, evA_len, hm9])
              replace hS : St g (Sh 46 2 (en2 z.es) z.a z.c :: Sh 46 2 (en2 nw) u2 d2 :: Own 63 5 (ev5 (hev minI maxI (LL1.map LsE.es) (List.length rs1))) a2 c1 :: Arn a1 A1 :: Sh 40 1 (u32s rs1) ru1 rc1 :: Own 36 1 (enL LL1) lu1 lc1 :: Shs leF LL1 :: L) w := hS.shsGet 5 rfl (List.mem_of_getElem? hz)
              refine WL.reb 13 (.int .i64 ((hev minI maxI (LL1.map LsE.es) (i + 1)).length : Int)) (congrArg (Value.int .i64) hke) ?_
              refine WL.r 3 rfl ?_
              refine WL.ix rfl rfl (i := (i : Int)) (i) el_55 rfl rfl (by omega) (by omega) (hS.rdO 5 rfl (enL_at hz)).1 ?_
              refine WL.run 1 [.slice z.a (List.length (en2 z.es)) z.c] rfl (by exact (hS.rdO 5 rfl (enL_at hz)).2 0 _ rfl) ?_
              refine WL.call rfl rfl (same9 (xs := nw) (ys := z.es) (a := u2) (b := z.a) (c := d2) (d := z.c) (hl := (by omega)) (hS := (hS.sel 2 [1, 0] rfl))) rfl ?_
              clear hS; rintro _ w ⟨rfl, hS⟩
              replace hS : St g (Sh 46 2 (en2 nw) u2 d2 :: Sh 46 2 (en2 z.es) z.a z.c :: Own 63 5 (ev5 (hev minI maxI (LL1.map LsE.es) (List.length rs1))) a2 c1 :: Arn a1 A1 :: Sh 40 1 (u32s rs1) ru1 rc1 :: Own 36 1 (enL LL1) lu1 lc1 :: Shs leF LL1 :: L) w := hS
              refine WL.r 1 rfl ?_
              refine WL.prop 80 rfl (bnot (dd _)) ?_
              refine WL.nil ?_
              refine WC.ifF rfl (decide_eq_false ((by simp [hwz]))) ?_
              refine WC.skip ?_
              refine WC.region ?_
              refine WL.r 2 rfl ?_
              refine WL.nw 39 rfl (w64 (by omega)) ?_
              refine WL.r 1 rfl ?_
              refine WL.nil ?_
              exact ⟨_, by omega, i + 1, nw, u2, d2, rfl, (hS.sel 2 [0] rfl), (by omega), (by rw [hwz, ← lsA_at hz]; rfl), rfl⟩
        · refine WL.reb 44 (.bool false) (congrArg Value.bool (decide_eq_false cg1)) ?_
          refine WL.skp rfl rfl rfl rfl ?_
          refine WL.skp rfl rfl rfl rfl ?_
          refine WL.skp rfl rfl rfl rfl ?_
          refine WL.skp rfl rfl rfl rfl ?_
          refine WL.skp rfl rfl rfl rfl ?_
          refine WL.skp rfl rfl rfl rfl ?_
          refine WL.skp rfl rfl rfl rfl ?_
          refine WL.r 1 rfl ?_
          refine WL.nil ?_
          as_aux_lemma =>
            refine WC.ifF rfl rfl ?_
            refine WC.exit ?_
            refine WC.seq ?_
            refine WC.region ?_
            have hm9 : m = (dA minI maxI (LL1.map LsE.es) i).length := rp_stop (n := rs1.length) (by omega) hm (by intro e9 he9; first | exact absurd (List.getElem?_eq_some_iff.1 he9).1 (by omega) | (rw [he] at he9; cases he9; exact cd2)); obtain ⟨z, hz⟩ : ∃ z, LL1[i]? = some z := ⟨_, List.getElem?_eq_getElem (by omega)⟩; have hwz : nw = z.es := (by rw [hn, hm9, List.take_length, rp_all f3]; exact lsA_at hz); have hnz := rp_len f3 i m; rw [← hn] at hnz; have hke : (((hev minI maxI (LL1.map LsE.es) i).length + m : Nat) : Int) = ((hev minI maxI (LL1.map LsE.es) (i + 1)).length : Int) := (by rw [hev_succ, List.length_append, evA_len, hm9])
            replace hS : St g (Sh 46 2 (en2 z.es) z.a z.c :: Sh 46 2 (en2 nw) u2 d2 :: Own 63 5 (ev5 (hev minI maxI (LL1.map LsE.es) (List.length rs1))) a2 c1 :: Arn a1 A1 :: Sh 40 1 (u32s rs1) ru1 rc1 :: Own 36 1 (enL LL1) lu1 lc1 :: Shs leF LL1 :: L) w := hS.shsGet 5 rfl (List.mem_of_getElem? hz)
            refine WL.reb 13 (.int .i64 ((hev minI maxI (LL1.map LsE.es) (i + 1)).length : Int)) (congrArg (Value.int .i64) hke) ?_
            refine WL.r 3 rfl ?_
            refine WL.ix rfl rfl (i := (i : Int)) (i) el_55 rfl rfl (by omega) (by omega) (hS.rdO 5 rfl (enL_at hz)).1 ?_
            refine WL.run 1 [.slice z.a (List.length (en2 z.es)) z.c] rfl (by exact (hS.rdO 5 rfl (enL_at hz)).2 0 _ rfl) ?_
            refine WL.call rfl rfl (same9 (xs := nw) (ys := z.es) (a := u2) (b := z.a) (c := d2) (d := z.c) (hl := (by omega)) (hS := (hS.sel 2 [1, 0] rfl))) rfl ?_
            clear hS; rintro _ w ⟨rfl, hS⟩
            replace hS : St g (Sh 46 2 (en2 nw) u2 d2 :: Sh 46 2 (en2 z.es) z.a z.c :: Own 63 5 (ev5 (hev minI maxI (LL1.map LsE.es) (List.length rs1))) a2 c1 :: Arn a1 A1 :: Sh 40 1 (u32s rs1) ru1 rc1 :: Own 36 1 (enL LL1) lu1 lc1 :: Shs leF LL1 :: L) w := hS
            refine WL.r 1 rfl ?_
            refine WL.prop 80 rfl (bnot (dd _)) ?_
            refine WL.nil ?_
            refine WC.ifF rfl (decide_eq_false ((by simp [hwz]))) ?_
            refine WC.skip ?_
            refine WC.region ?_
            refine WL.r 2 rfl ?_
            refine WL.nw 39 rfl (w64 (by omega)) ?_
            refine WL.r 1 rfl ?_
            refine WL.nil ?_
            exact ⟨_, by omega, i + 1, nw, u2, d2, rfl, (hS.sel 2 [0] rfl), (by omega), (by rw [hwz, ← lsA_at hz]; rfl), rfl⟩
      · refine WC.exit ?_
        refine WC.seq ?_
        refine WC.region ?_
        refine WL.r 5 rfl ?_
        refine WL.nil ?_
        refine WC.ret ?_
        refine ⟨[.bool (decide ((List.length (hev minI maxI (LL1.map LsE.es) i) : Int) = (List.length (ev5 (hev minI maxI (LL1.map LsE.es) (List.length rs1))) : Int)))], rfl, ?_⟩
        replace hS := (hS.sel 6 [] rfl)
        have hie : i = rs1.length := (by omega); subst hie; exact ⟨congrArg Value.bool (decide_eq_true (by rw [he5])), hS⟩
end Go.Proofs.Ytlnlnebibgdjdaa
