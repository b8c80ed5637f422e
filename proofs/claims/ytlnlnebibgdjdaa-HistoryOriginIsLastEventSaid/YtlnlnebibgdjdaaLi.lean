/-
  Lists of entries: the reference's insertion.
  Conditions: the list is ascending.
-/
import Derived.Test.YtlnlnebibgdjdaaTypes
import Derived.Test.YtlnlnebibgdjdaaTra
namespace Go.Proofs.Ytlnlnebibgdjdaa
open Go Go.V

/-- the list on the way: the first part is done -/
def lpart (k z : Int) (l : Kvs) (put : Bool) : Kvs := l.filter (fun x => decide (x.1 < k)) ++ (if put then (k, z) :: l.filter (fun x => decide (k < x.1)) else [])
structure LP (k z : Int) (l : Kvs) (j : Nat) (put : Bool) (out : Kvs) : Prop where
  eq : out = lpart k z (l.take j) put
  no : put = false → ∀ x ∈ l.take j, x.1 < k
  yes : put = true → ∃ x ∈ l.take j, k ≤ x.1
theorem LP.zero (k z : Int) (l : Kvs) : LP k z l 0 false [] := ⟨by simp [lpart], fun _ x hx => by simp at hx, fun h => by cases h⟩
theorem take_next {l : Kvs} {j : Nat} {e : Int × Int} (h : l[j]? = some e) : l.take (j + 1) = l.take j ++ [e] := by rw [List.take_add_one, h]; rfl
theorem LP.less {k z : Int} {l : Kvs} {j : Nat} {out : Kvs} {e : Int × Int} (h : LP k z l j false out) (he : l[j]? = some e) (hlt : e.1 < k) : LP k z l (j + 1) false (out ++ [e]) := by
  refine ⟨?_, fun _ x hx => ?_, fun h => by cases h⟩
  · rw [h.eq, take_next he]
    simp [lpart, List.filter_append, hlt]
  · rw [take_next he] at hx
    rcases List.mem_append.1 hx with hx | hx
    · exact h.no rfl x hx
    · rw [List.mem_singleton.1 hx]; exact hlt
theorem LP.eq_ {k z : Int} {l : Kvs} {j : Nat} {out : Kvs} {e : Int × Int} (h : LP k z l j false out) (he : l[j]? = some e) (hk : e.1 = k) : LP k z l (j + 1) true (out ++ [(k, z)]) := by
  refine ⟨?_, fun h => (by cases h), fun _ => ⟨e, by rw [take_next he]; simp, by omega⟩⟩
  rw [h.eq, take_next he]
  have h1 : (l.take j).filter (fun x => decide (k < x.1)) = [] := filter_no fun x hx => decide_eq_false (by have := h.no rfl x hx; omega)
  simp [lpart, List.filter_append, hk, h1]
theorem LP.more {k z : Int} {l : Kvs} {j : Nat} {out : Kvs} {e : Int × Int} (h : LP k z l j false out) (he : l[j]? = some e) (hk : k < e.1) : LP k z l (j + 1) true (out ++ [(k, z)] ++ [e]) := by
  refine ⟨?_, fun h => (by cases h), fun _ => ⟨e, by rw [take_next he]; simp, by omega⟩⟩
  rw [h.eq, take_next he]
  have h1 : (l.take j).filter (fun x => decide (k < x.1)) = [] := filter_no fun x hx => decide_eq_false (by have := h.no rfl x hx; omega)
  simp [lpart, List.filter_append, hk, h1, show ¬ e.1 < k by omega]
theorem LP.gt {k z : Int} {l : Kvs} {j : Nat} {out : Kvs} {e : Int × Int} (h : LP k z l j true out) (hs : Srt l) (he : l[j]? = some e) : k < e.1 := by
  obtain ⟨x, hx, hxk⟩ := h.yes rfl
  obtain ⟨i, hi⟩ := List.mem_iff_getElem?.1 hx
  have hij : i < j := by
    have := (List.getElem?_eq_some_iff.1 hi).1
    rw [List.length_take] at this; omega
  rw [List.getElem?_take, if_pos hij] at hi
  have h1 := (List.getElem?_eq_some_iff.1 hi).1
  have h2 := (List.getElem?_eq_some_iff.1 he).1
  have := List.pairwise_iff_getElem.1 hs i j h1 h2 hij
  rw [(List.getElem?_eq_some_iff.1 hi).2, (List.getElem?_eq_some_iff.1 he).2] at this
  omega
theorem LP.rest {k z : Int} {l : Kvs} {j : Nat} {out : Kvs} {e : Int × Int} (h : LP k z l j true out) (hs : Srt l) (he : l[j]? = some e) : LP k z l (j + 1) true (out ++ [e]) := by
  have hgt := h.gt hs he
  refine ⟨?_, fun h => (by cases h), fun _ => ?_⟩
  · rw [h.eq, take_next he]
    simp [lpart, List.filter_append, hgt, show ¬ e.1 < k by omega]
  · obtain ⟨x, hx, hxk⟩ := h.yes rfl
    exact ⟨x, by rw [take_next he]; exact List.mem_append_left _ hx, hxk⟩
theorem LP.end_t {k z : Int} {l out : Kvs} {j : Nat} (h : LP k z l j true out) (hj : l.length ≤ j) : out = lins k z l := by
  rw [h.eq, List.take_of_length_le hj]; rfl
theorem LP.end_f {k z : Int} {l out : Kvs} {j : Nat} (h : LP k z l j false out) (hj : l.length ≤ j) : out ++ [(k, z)] = lins k z l := by
  have h1 := h.no rfl
  rw [h.eq]
  rw [List.take_of_length_le hj] at h1 ⊢
  have h2 : l.filter (fun x => decide (k < x.1)) = [] := filter_no fun x hx => decide_eq_false (by have := h1 x hx; omega)
  simp [lpart, lins, h2]
theorem LP.len {k z : Int} {l out : Kvs} {j : Nat} {put : Bool} (h : LP k z l j put out) : out.length ≤ 2 * l.length + 1 := by
  rw [h.eq]
  unfold lpart
  have h1 := List.length_filter_le (fun x : Int × Int => decide (x.1 < k)) (l.take j)
  have h2 := List.length_filter_le (fun x : Int × Int => decide (k < x.1)) (l.take j)
  have h3 : (l.take j).length ≤ l.length := by simp; omega
  rw [List.length_append]
  split <;> simp only [List.length_cons, List.length_nil] <;> omega
set_option maxHeartbeats 1000000 in
set_option maxRecDepth 8192 in
theorem ref_ins {g w : World} {L : List HP} (l : Kvs) (u : Option Addr) (d : Nat) (k z : Int) (hs : Srt l) (hl : l.length ≤ 1000000) (hS : St g (Sh 46 2 (en2 l) u d :: L) w) :
    Sp Try.prog 23 [.slice u (List.length (en2 l)) d, .agg #[.int .i64 k, .int .i64 z]] w (fun v w' => ∃ (a2 : Option Addr) (c2 : Nat), v = .slice a2 (List.length (en2 (lins k z l))) c2 ∧ St g (Own 46 2 (en2 (lins k z l)) a2 c2 :: Sh 46 2 (en2 l) u d :: L) w') := by
  refine Sp.enter Try.func23 rfl (by kernel_rfl) (by kernel_rfl) ?_
  have _ := hl
  refine WC.seq ?_
  refine WC.region ?_
  have hll := en2_len l
  refine WL.box rfl rfl #[.int .i64 k, .int .i64 z] hS rfl rfl (fun b1 w hS => ?_)
  refine WL.r 1 rfl ?_
  refine WL.nil ?_
  refine WC.seq ?_
  refine WC.region ?_
  refine WL.r 1 rfl ?_
  refine WL.nil ?_
  refine WC.seq ?_
  refine WC.region ?_
  refine WL.r 1 rfl ?_
  refine WL.nil ?_
  refine WC.seq ?_
  refine WC.seq ?_
  refine WC.region ?_
  refine WL.r 1 rfl ?_
  refine WL.nil ?_
  refine WC.block ?_
  replace hS := hS.nil_ 46 2
  refine WC.loop [0, 3, 4, 5, 6, 7] (fun kM vs w => ∃ (j : Nat) (put : Bool) (out : Kvs) (ua : Option Addr) (uc : Nat), vs = [.slice u (List.length (en2 l)) d, .pointer (some ⟨b1, 0, none⟩), .slice none 0 0, .slice ua (List.length (en2 out)) uc, .bool put, .int .i64 (j : Int)] ∧ St g (Own 46 2 (en2 out) ua uc :: cel b1 #[.int .i64 k, .int .i64 z] 46 :: Sh 46 2 (en2 l) u d :: L) w ∧ (j ≤ l.length) ∧ (LP k z l j put out) ∧ (l.length - j) = kM) ((List.length l) - 0) ⟨0, false, [], none, 0, rfl, hS, (Nat.zero_le _), (LP.zero k z l), rfl⟩ ?_
  clear hS; rintro _ _ w j ⟨j, put, out, ua, uc, rfl, hS, hj, hP, rfl⟩
  refine WC.seq ?_
  refine WC.seq ?_
  refine WC.region ?_
  refine WL.r 4 rfl ?_
  refine WL.nil ?_
  as_aux_lemma =>
    refine WC.ifP rfl (fun cd1 => ?_) (fun cd1 => ?_)
    · refine WC.skip ?_
      refine WC.seq ?_
      refine WC.block ?_
      refine WC.seq ?_
      refine WC.seq ?_
      refine WC.plan [([0, 1, 2, 3, 4, 8, 5, 9, 6, 7, 10, 11], none)] (by kernel_rfl) (by kernel_rfl) ?_
      obtain ⟨e, he⟩ : ∃ e, l[j]? = some e := ⟨_, List.getElem?_eq_getElem (by omega)⟩; have hol := hP.len; have hoe := en2_len out
      refine WQ.r 2 rfl ?_
      refine WQ.r 1 rfl ?_
      by_cases cg1 : (! put) = true
      · refine WQ.reb 16 (.bool true) (congrArg Value.bool cg1) ?_
        refine WQ.ung rfl rfl rfl ?_
        refine WQ.r 1 rfl ?_
        refine WQ.ung rfl rfl rfl ?_
        refine WQ.r 1 rfl ?_
        refine WQ.ung rfl rfl rfl ?_
        refine WQ.r 1 rfl ?_
        refine WQ.ung rfl rfl rfl ?_
        refine WQ.ix rfl rfl (i := (j : Int)) (j) el_36 rfl rfl (by omega) (by omega) (hS.rdS 2 rfl (en2_at he)).1 ?_
        refine WQ.ung rfl rfl rfl ?_
        refine WQ.run 1 [.int .i64 k] rfl (by exact hS.ld 1 rfl rfl) ?_
        refine WQ.ung rfl rfl rfl ?_
        refine WQ.r 1 rfl ?_
        refine WQ.ung rfl rfl rfl ?_
        refine WQ.run 1 [.int .i64 e.1] rfl (by exact (hS.rdS 2 rfl (en2_at he)).2 0 _ rfl) ?_
        refine WQ.ung rfl rfl rfl ?_
        refine WQ.r 2 rfl ?_
        refine WQ.nil ?_
        intro m1
        replace hS := hS.drewN m1; generalize hwm1 : World.drewN _ _ = w at *; clear hwm1
        as_aux_lemma =>
          refine WC.ifP rfl (fun cd2 => ?_) (fun cd2 => ?_)
          · refine WC.seq ?_
            refine WC.region ?_
            refine WL.r 1 rfl ?_
            refine WL.ldF rfl rfl 1 hS rfl rfl ag_46 ?_
            refine WL.lit rfl rfl (en2 [(k, z)]) el_36 hS (by exact ⟨rfl, rfl⟩) (en2_ok _) rfl (by decide) (fun b2 w hS => ?_)
            refine WL.app rfl rfl 1 (en2 (out ++ [(k, z)])) el_36 hS rfl (hS.srcO 0 rfl) (en2_app _ _).symm (Rm.of (by first | omega | (simp <;> omega)) (by decide)) rfl rfl (fun a1 c1 w hS => ?_)
            replace hS : St g (Own 46 2 (en2 [(k, z)]) (some ⟨b2, 0, none⟩) (List.length (en2 [(k, z)])) :: Own 46 2 (en2 (out ++ [(k, z)])) a1 c1 :: cel b1 #[.int .i64 k, .int .i64 z] 46 :: Sh 46 2 (en2 l) u d :: L) w := hS
            refine WL.r 1 rfl ?_
            refine WL.nil ?_
            refine WC.region ?_
            refine WL.r 1 rfl ?_
            refine WL.nil ?_
            refine WC.seq ?_
            refine WC.plan [([0, 1, 5, 6], some (2, [5, 6])), ([3, 4, 7], none)] (by kernel_rfl) (by kernel_rfl) ?_
            refine WQ.run 4 [.int .i64 k] rfl (by exact hS.ld 2 rfl rfl) ?_
            refine WQ.nil ?_
            intro m2
            replace hS := hS.drewN m2; generalize hwm2 : World.drewN _ _ = w at *; clear hwm2
            refine WL.ix rfl rfl (i := (j : Int)) (j) el_36 rfl rfl (by omega) (by omega) (hS.rdS 3 rfl (en2_at he)).1 ?_
            refine WL.nil ?_
            refine ⟨by exact ⟨RQ.pure rfl rfl rfl rfl, RQ.load rfl rfl rfl rfl (hS.ld 2 rfl rfl)⟩, ?_⟩
            refine WQ.run 3 [.int .i64 e.1] rfl (by exact (hS.rdS 3 rfl (en2_at he)).2 0 _ rfl) ?_
            refine WQ.nil ?_
            intro m3
            replace hS := hS.drewN m3; generalize hwm3 : World.drewN _ _ = w at *; clear hwm3
            as_aux_lemma =>
              refine WC.ifP rfl (fun cd3 => ?_) (fun cd3 => ?_)
              · refine WC.region ?_
                refine WL.r 3 rfl ?_
                refine WL.ix rfl rfl (i := (j : Int)) (j) el_36 rfl rfl (by omega) (by omega) (hS.rdS 3 rfl (en2_at he)).1 ?_
                refine WL.ldC rfl rfl [.int .i64 e.1, .int .i64 e.2] ag_46 rfl (hS.rdS 3 rfl (en2_at he)).2 ?_
                refine WL.lit rfl rfl (en2 [(e.1, e.2)]) el_36 hS (by exact ⟨rfl, rfl⟩) (en2_ok _) rfl (by decide) (fun b3 w hS => ?_)
                refine WL.app rfl rfl 2 (en2 ((out ++ [(k, z)]) ++ [(e.1, e.2)])) el_36 hS rfl (hS.srcO 0 rfl) (en2_app _ _).symm (Rm.of (by first | omega | (simp <;> omega)) (by decide)) rfl rfl (fun a2 c2 w hS => ?_)
                replace hS : St g (Own 46 2 (en2 [(e.1, e.2)]) (some ⟨b3, 0, none⟩) (List.length (en2 [(e.1, e.2)])) :: Own 46 2 (en2 [(k, z)]) (some ⟨b2, 0, none⟩) (List.length (en2 [(k, z)])) :: Own 46 2 (en2 ((out ++ [(k, z)]) ++ [(e.1, e.2)])) a2 c2 :: cel b1 #[.int .i64 k, .int .i64 z] 46 :: Sh 46 2 (en2 l) u d :: L) w := hS
                refine WL.r 1 rfl ?_
                refine WL.nil ?_
                refine WC.region ?_
                refine WL.r 2 rfl ?_
                refine WL.nw 13 rfl (w64 (by omega)) ?_
                refine WL.r 1 rfl ?_
                refine WL.nil ?_
                exact ⟨_, by omega, j + 1, true, out ++ [(k, z)] ++ [(e.1, e.2)], a2, c2, rfl, (hS.sel 2 [] rfl), (by omega), (by have hp : put = false := (by simpa using cg1); subst hp; exact hP.more he (by omega)), rfl⟩
              · refine WC.skip ?_
                refine WC.region ?_
                refine WL.r 2 rfl ?_
                refine WL.nw 13 rfl (w64 (by omega)) ?_
                refine WL.r 1 rfl ?_
                refine WL.nil ?_
                exact ⟨_, by omega, j + 1, true, out ++ [(k, z)], a1, c1, rfl, (hS.sel 1 [] rfl), (by omega), (by have hp : put = false := (by simpa using cg1); subst hp; exact hP.eq_ he (by omega)), rfl⟩
          · refine WC.skip ?_
            refine WC.seq ?_
            refine WC.plan [([0, 1, 5, 6], some (2, [5, 6])), ([3, 4, 7], none)] (by kernel_rfl) (by kernel_rfl) ?_
            refine WQ.run 4 [.int .i64 k] rfl (by exact hS.ld 1 rfl rfl) ?_
            refine WQ.nil ?_
            intro m2
            replace hS := hS.drewN m2; generalize hwm2 : World.drewN _ _ = w at *; clear hwm2
            refine WL.ix rfl rfl (i := (j : Int)) (j) el_36 rfl rfl (by omega) (by omega) (hS.rdS 2 rfl (en2_at he)).1 ?_
            refine WL.nil ?_
            refine ⟨by exact ⟨RQ.pure rfl rfl rfl rfl, RQ.load rfl rfl rfl rfl (hS.ld 1 rfl rfl)⟩, ?_⟩
            refine WQ.run 3 [.int .i64 e.1] rfl (by exact (hS.rdS 2 rfl (en2_at he)).2 0 _ rfl) ?_
            refine WQ.nil ?_
            intro m3
            replace hS := hS.drewN m3; generalize hwm3 : World.drewN _ _ = w at *; clear hwm3
            refine WC.ifP rfl (fun cd3 => ?_) (fun cd3 => ?_)
            · refine WC.region ?_
              refine WL.r 3 rfl ?_
              refine WL.ix rfl rfl (i := (j : Int)) (j) el_36 rfl rfl (by omega) (by omega) (hS.rdS 2 rfl (en2_at he)).1 ?_
              refine WL.ldC rfl rfl [.int .i64 e.1, .int .i64 e.2] ag_46 rfl (hS.rdS 2 rfl (en2_at he)).2 ?_
              refine WL.lit rfl rfl (en2 [(e.1, e.2)]) el_36 hS (by exact ⟨rfl, rfl⟩) (en2_ok _) rfl (by decide) (fun b2 w hS => ?_)
              refine WL.app rfl rfl 1 (en2 (out ++ [(e.1, e.2)])) el_36 hS rfl (hS.srcO 0 rfl) (en2_app _ _).symm (Rm.of (by first | omega | (simp <;> omega)) (by decide)) rfl rfl (fun a1 c1 w hS => ?_)
              replace hS : St g (Own 46 2 (en2 [(e.1, e.2)]) (some ⟨b2, 0, none⟩) (List.length (en2 [(e.1, e.2)])) :: Own 46 2 (en2 (out ++ [(e.1, e.2)])) a1 c1 :: cel b1 #[.int .i64 k, .int .i64 z] 46 :: Sh 46 2 (en2 l) u d :: L) w := hS
              refine WL.r 1 rfl ?_
              refine WL.nil ?_
              as_aux_lemma =>
                refine WC.region ?_
                refine WL.r 2 rfl ?_
                refine WL.nw 13 rfl (w64 (by omega)) ?_
                refine WL.r 1 rfl ?_
                refine WL.nil ?_
                exact ⟨_, by omega, j + 1, put, out ++ [(e.1, e.2)], a1, c1, rfl, (hS.sel 1 [] rfl), (by omega), (by have hp : put = false := (by simpa using cg1); subst hp; exact hP.less he (by omega)), rfl⟩
            · refine WC.skip ?_
              refine WC.region ?_
              refine WL.r 2 rfl ?_
              refine WL.nw 13 rfl (w64 (by omega)) ?_
              refine WL.r 1 rfl ?_
              refine WL.nil ?_
              exact ⟨_, by omega, j + 1, put, out, ua, uc, rfl, hS, (by omega), (by exfalso; omega), rfl⟩
      · refine WQ.reb 16 (.bool false) (congrArg Value.bool (Bool.eq_false_iff.2 cg1)) ?_
        refine WQ.skp rfl rfl rfl rfl ?_
        refine WQ.skp rfl rfl rfl rfl ?_
        refine WQ.skp rfl rfl rfl rfl ?_
        refine WQ.skp rfl rfl rfl rfl ?_
        refine WQ.skp rfl rfl rfl rfl ?_
        refine WQ.skp rfl rfl rfl rfl ?_
        refine WQ.skp rfl rfl rfl rfl ?_
        refine WQ.skp rfl rfl rfl rfl ?_
        refine WQ.r 1 rfl ?_
        refine WQ.nil ?_
        intro m1
        replace hS := hS.drewN m1; generalize hwm1 : World.drewN _ _ = w at *; clear hwm1
        refine WC.ifF rfl rfl ?_
        refine WC.skip ?_
        as_aux_lemma =>
          refine WC.seq ?_
          refine WC.plan [([0, 1, 5, 6], some (2, [5, 6])), ([3, 4, 7], none)] (by kernel_rfl) (by kernel_rfl) ?_
          refine WQ.run 4 [.int .i64 k] rfl (by exact hS.ld 1 rfl rfl) ?_
          refine WQ.nil ?_
          intro m2
          replace hS := hS.drewN m2; generalize hwm2 : World.drewN _ _ = w at *; clear hwm2
          refine WL.ix rfl rfl (i := (j : Int)) (j) el_36 rfl rfl (by omega) (by omega) (hS.rdS 2 rfl (en2_at he)).1 ?_
          refine WL.nil ?_
          refine ⟨by exact ⟨RQ.pure rfl rfl rfl rfl, RQ.load rfl rfl rfl rfl (hS.ld 1 rfl rfl)⟩, ?_⟩
          refine WQ.run 3 [.int .i64 e.1] rfl (by exact (hS.rdS 2 rfl (en2_at he)).2 0 _ rfl) ?_
          refine WQ.nil ?_
          intro m3
          replace hS := hS.drewN m3; generalize hwm3 : World.drewN _ _ = w at *; clear hwm3
          refine WC.ifP rfl (fun cd2 => ?_) (fun cd2 => ?_)
          · refine WC.region ?_
            refine WL.r 3 rfl ?_
            refine WL.ix rfl rfl (i := (j : Int)) (j) el_36 rfl rfl (by omega) (by omega) (hS.rdS 2 rfl (en2_at he)).1 ?_
            refine WL.ldC rfl rfl [.int .i64 e.1, .int .i64 e.2] ag_46 rfl (hS.rdS 2 rfl (en2_at he)).2 ?_
            refine WL.lit rfl rfl (en2 [(e.1, e.2)]) el_36 hS (by exact ⟨rfl, rfl⟩) (en2_ok _) rfl (by decide) (fun b2 w hS => ?_)
            refine WL.app rfl rfl 1 (en2 (out ++ [(e.1, e.2)])) el_36 hS rfl (hS.srcO 0 rfl) (en2_app _ _).symm (Rm.of (by first | omega | (simp <;> omega)) (by decide)) rfl rfl (fun a1 c1 w hS => ?_)
            replace hS : St g (Own 46 2 (en2 [(e.1, e.2)]) (some ⟨b2, 0, none⟩) (List.length (en2 [(e.1, e.2)])) :: Own 46 2 (en2 (out ++ [(e.1, e.2)])) a1 c1 :: cel b1 #[.int .i64 k, .int .i64 z] 46 :: Sh 46 2 (en2 l) u d :: L) w := hS
            refine WL.r 1 rfl ?_
            refine WL.nil ?_
            refine WC.region ?_
            refine WL.r 2 rfl ?_
            refine WL.nw 13 rfl (w64 (by omega)) ?_
            refine WL.r 1 rfl ?_
            refine WL.nil ?_
            exact ⟨_, by omega, j + 1, put, out ++ [(e.1, e.2)], a1, c1, rfl, (hS.sel 1 [] rfl), (by omega), (by have hp : put = true := (by simpa using cg1); subst hp; exact hP.rest hs he), rfl⟩
          · refine WC.skip ?_
            refine WC.region ?_
            refine WL.r 2 rfl ?_
            refine WL.nw 13 rfl (w64 (by omega)) ?_
            refine WL.r 1 rfl ?_
            refine WL.nil ?_
            exact ⟨_, by omega, j + 1, put, out, ua, uc, rfl, hS, (by omega), (by have hp : put = true := (by simpa using cg1); subst hp; have := hP.gt hs he; exfalso; omega), rfl⟩
    · refine WC.exit ?_
      refine WC.seq ?_
      refine WC.seq ?_
      refine WC.region ?_
      have hol2 := hP.len; have hoe2 := en2_len out
      refine WL.r 2 rfl ?_
      refine WL.nil ?_
      refine WC.if_ rfl (fun cd2 => ?_) (fun cd2 => ?_)
      · refine WC.region ?_
        refine WL.r 1 rfl ?_
        refine WL.ldF rfl rfl 1 hS rfl rfl ag_46 ?_
        refine WL.lit rfl rfl (en2 [(k, z)]) el_36 hS (by exact ⟨rfl, rfl⟩) (en2_ok _) rfl (by decide) (fun b2 w hS => ?_)
        refine WL.app rfl rfl 1 (en2 (out ++ [(k, z)])) el_36 hS rfl (hS.srcO 0 rfl) (en2_app _ _).symm (Rm.of (by first | omega | (simp <;> omega)) (by decide)) rfl rfl (fun a1 c1 w hS => ?_)
        replace hS : St g (Own 46 2 (en2 [(k, z)]) (some ⟨b2, 0, none⟩) (List.length (en2 [(k, z)])) :: Own 46 2 (en2 (out ++ [(k, z)])) a1 c1 :: cel b1 #[.int .i64 k, .int .i64 z] 46 :: Sh 46 2 (en2 l) u d :: L) w := hS
        refine WL.r 1 rfl ?_
        refine WL.nil ?_
        refine WC.seq ?_
        refine WC.region ?_
        refine WL.r 2 rfl ?_
        refine WL.nil ?_
        refine WC.ret ?_
        refine ⟨[.slice a1 (List.length (en2 (out ++ [(k, z)]))) c1], rfl, ?_⟩
        replace hS := (hS.sel 3 [1] rfl)
        have hp : put = false := (by simpa using cd2); subst hp; have e9 := hP.end_f (by omega); rw [e9] at hS ⊢; exact ⟨_, _, rfl, hS⟩
      · refine WC.skip ?_
        refine WC.seq ?_
        refine WC.region ?_
        refine WL.r 2 rfl ?_
        refine WL.nil ?_
        refine WC.ret ?_
        refine ⟨[.slice ua (List.length (en2 out)) uc], rfl, ?_⟩
        replace hS := (hS.sel 2 [0] rfl)
        have hp : put = true := (by simpa using cd2); subst hp; have e9 := hP.end_t (by omega); rw [e9] at hS ⊢; exact ⟨_, _, rfl, hS⟩
end Go.Proofs.Ytlnlnebibgdjdaa
