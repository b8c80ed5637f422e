/-
  The law AncestryStaysSmall, walked.
  Conditions: the arguments lie in their kinds.
-/
import Derived.Test.YtjoilgpleaemcaaA7
import Derived.Test.YtjoilgpleaemcaaHs
namespace Go.Proofs.Ytjoilgpleaemcaa
open Go Go.V

set_option maxHeartbeats 2000000 in
set_option maxRecDepth 8192 in
theorem law_small {g w : World} {L : List HP} (ls : List Cg) (a : Option Addr) (c : Nat) (hls : ∀ z ∈ ls, CgOk z ∧ z.ps.length ≤ maxLen) (hS : St g (Sh 38 3 (enG ls) a c :: Shs cgF ls :: L) w) :
    Sp Try.prog 5 [.slice a (List.length (enG ls)) c] w (fun v w' => v = .bool true ∧ St g (L) w') := by
  refine Sp.enter Try.func5 rfl (by kernel_rfl) (by kernel_rfl) ?_
  refine WC.seq ?_
  refine WC.region ?_
  refine WL.r 1 rfl ?_
  refine WL.nil ?_
  refine WC.seq ?_
  refine WC.region ?_
  have hel := enG_len ls
  refine WL.call rfl rfl (new_ok (cap := 60) (hc := (by decide)) (hS := hS)) rfl ?_
  clear hS; rintro _ w ⟨p1, m1, rfl, hS⟩
  replace hS : St g (cel p1 #[.int .i64 60, .int .i64 0, .map (some m1)] 60 :: blk m1 (.map (mE (List.map vK [])) 0) :: Shs vF [] :: Sh 38 3 (enG ls) a c :: Shs cgF ls :: L) w := hS
  refine WL.r 5 rfl ?_
  refine WL.nil ?_
  refine WC.seq ?_
  refine WC.seq ?_
  refine WC.region ?_
  refine WL.call rfl rfl (awake_spec   (hS := hS)) rfl ?_
  clear hS; rintro _ w ⟨rfl, hS⟩
  replace hS : St g (cel p1 #[.int .i64 60, .int .i64 0, .map (some m1)] 60 :: blk m1 (.map (mE (List.map vK [])) 0) :: Shs vF [] :: Sh 38 3 (enG ls) a c :: Shs cgF ls :: L) w := hS
  refine WL.r 2 rfl ?_
  refine WL.ung rfl rfl rfl ?_
  refine WL.r 1 rfl ?_
  refine WL.ung rfl rfl rfl ?_
  refine WL.r 2 rfl ?_
  refine WL.rG 4 rfl (fun j => ?_)
  refine WL.nil ?_
  as_aux_lemma =>
    refine WC.ifF rfl (by simp) ?_
    refine WC.skip ?_
    refine WC.seq ?_
    refine WC.region ?_
    refine WL.r 1 rfl ?_
    refine WL.nil ?_
    refine WC.seq ?_
    refine WC.seq ?_
    refine WC.region ?_
    refine WL.r 1 rfl ?_
    refine WL.nil ?_
    refine WC.block ?_
    replace hS := hS.nil_ 3 1
    refine WC.loop [0, 3, 5, 6] (fun kM vs w => ∃ (k : Nat) (xs : List VN) (q : Nat) (la : Int) (lv : List Int) (u : Option Addr) (d : Nat), vs = [.slice a (List.length (enG ls)) c, .pointer (some ⟨p1, 0, none⟩), .slice u (List.length (i64s lv)) d, .int .i64 (k : Int)] ∧ St g (Own 3 1 (i64s lv) u d :: cel p1 #[.int .i64 60, .int .i64 la, .map (some m1)] 60 :: blk m1 (.map (mE (List.map vK xs)) q) :: Shs vF xs :: Sh 38 3 (enG ls) a c :: Shs cgF ls :: L) w ∧ (k ≤ ls.length ∧ k ≤ 200) ∧ (GI xs q 60 la) ∧ (KO xs) ∧ (FO xs) ∧ (LV xs lv) ∧ (lv.length ≤ 25) ∧ (la ≤ k) ∧ (200 - k) = kM) (200 - 0) ⟨0, [], 0, 0, [], none, 0, rfl, hS, (by omega), (⟨GOk.nil, fun _ h => (by cases h), by decide, by decide⟩), (KO.nil), (FO.nil), (LV.nil), (by decide), (by decide), rfl⟩ ?_
    clear hS; rintro _ _ w j ⟨k, xs, q, la, lv, u, d, rfl, hS, hk, hI, hK, hF, hL, hll, hla, rfl⟩
    refine WC.seq ?_
    refine WC.seq ?_
    refine WC.region ?_
    refine WL.r 4 rfl ?_
    refine WL.rG 4 rfl (fun j => ?_)
    refine WL.prop 33 rfl (band (dd _) (dd _)) ?_
    refine WL.nil ?_
    refine WC.ifP rfl (fun cd1 => ?_) (fun cd1 => ?_)
    · refine WC.skip ?_
      refine WC.seq ?_
      refine WC.block ?_
      refine WC.seq ?_
      refine WC.seq ?_
      refine WC.cut [0, 3, 5, 6, 26, 27, 28, 29, 30, 33, 50] (fun vs w => ∃ (t : Bool), vs = [.slice a (List.length (enG ls)) c, .pointer (some ⟨p1, 0, none⟩), .slice u (List.length (i64s lv)) d, .int .i64 (k : Int), .int .i64 (k : Int), .slice a (List.length (enG ls)) c, .int .i64 (List.length (enG ls) : Int), .bool (decide ((k : Int) < (List.length (enG ls) : Int))), .bool (decide ((k : Int) < (List.length (enG ls) : Int))), .bool (decide (((k : Int) < (List.length (enG ls) : Int)) ∧ ((k : Int) < 200))), .bool t] ∧ St g (Own 3 1 (i64s lv) u d :: cel p1 #[.int .i64 60, .int .i64 la, .map (some m1)] 60 :: blk m1 (.map (mE (List.map vK xs)) q) :: Shs vF xs :: Sh 38 3 (enG ls) a c :: Shs cgF ls :: L) w ∧ ((t = true → 0 < lv.length) ∧ (t = false → lv.length < 25))) ?_ ?_
      · refine WC.region ?_
        obtain ⟨z, hz⟩ : ∃ z, ls[k]? = some z := ⟨_, List.getElem?_eq_getElem (by omega)⟩; obtain ⟨hz1, hz2⟩ := hls z (List.mem_of_getElem? hz); have hla0 := hI.la; have hvl := i64s_len lv; have hfew := hL.few hI.ok hK hF
        refine WL.r 4 rfl ?_
        by_cases cg1 : 0 < (List.length (i64s lv) : Int)
        · refine WL.reb 39 (.bool true) (congrArg Value.bool (decide_eq_true cg1)) ?_
          refine WL.ung rfl rfl rfl ?_
          refine WL.r 1 rfl ?_
          refine WL.ung rfl rfl rfl ?_
          refine WL.r 1 rfl ?_
          refine WL.ung rfl rfl rfl ?_
          refine WL.ix rfl rfl (i := (k : Int)) (k) el_33 rfl rfl (by omega) (len_of (enG_at hz)) (hS.rdS 4 rfl (enG_at hz)).1 ?_
          refine WL.ung rfl rfl rfl ?_
          refine WL.r 1 rfl ?_
          refine WL.ung rfl rfl rfl ?_
          refine WL.run 1 [.bool z.rel] rfl (by exact (hS.rdS 4 rfl (enG_at hz)).2 0 _ rfl) ?_
          refine WL.ung rfl rfl rfl ?_
          refine WL.r 1 rfl ?_
          by_cases cg2 : z.rel = true
          · refine WL.reb 45 (.bool true) (congrArg Value.bool cg2) ?_
            refine WL.skp rfl rfl rfl rfl ?_
            refine WL.skp rfl rfl rfl rfl ?_
            refine WL.skp rfl rfl rfl rfl ?_
            refine WL.ung rfl rfl rfl ?_
            refine WL.r 2 rfl ?_
            refine WL.nil ?_
            exact ⟨true, rfl, hS, (⟨fun _ => by omega, fun h => (by cases h)⟩)⟩
          · refine WL.reb 45 (.bool false) (congrArg Value.bool (Bool.eq_false_iff.2 cg2)) ?_
            refine WL.ung rfl rfl rfl ?_
            refine WL.r 1 rfl ?_
            refine WL.ung rfl rfl rfl ?_
            refine WL.r 1 rfl ?_
            refine WL.ung rfl rfl rfl ?_
            refine WL.r 1 rfl ?_
            refine WL.ung rfl rfl rfl ?_
            refine WL.r 2 rfl ?_
            refine WL.nil ?_
            exact ⟨decide ((25 : Int) ≤ (List.length (i64s lv) : Int)), rfl, hS, (⟨fun _ => by omega, fun h => by have := of_decide_eq_false h; omega⟩)⟩
        · refine WL.reb 39 (.bool false) (congrArg Value.bool (decide_eq_false cg1)) ?_
          refine WL.skp rfl rfl rfl rfl ?_
          refine WL.skp rfl rfl rfl rfl ?_
          refine WL.skp rfl rfl rfl rfl ?_
          refine WL.skp rfl rfl rfl rfl ?_
          refine WL.skp rfl rfl rfl rfl ?_
          refine WL.skp rfl rfl rfl rfl ?_
          refine WL.skU rfl rfl rfl ?_
          refine WL.skU rfl rfl rfl ?_
          refine WL.skU rfl rfl rfl ?_
          refine WL.skp rfl rfl rfl rfl ?_
          refine WL.r 1 rfl ?_
          refine WL.nil ?_
          exact ⟨false, rfl, hS, (⟨fun h => (by cases h), fun _ => by omega⟩)⟩
      clear hS; rintro _ w j ⟨t, rfl, hS, ht⟩
      as_aux_lemma =>
        refine WC.cut [0, 3, 5, 6, 26, 27, 28, 29, 30, 33, 50] (fun vs w => ∃ (xj : List VN) (qj : Nat) (laj : Int) (lvj : List Int) (uj : Option Addr) (dj : Nat), vs = [.slice a (List.length (enG ls)) c, .pointer (some ⟨p1, 0, none⟩), .slice uj (List.length (i64s lvj)) dj, .int .i64 (k : Int), .int .i64 (k : Int), .slice a (List.length (enG ls)) c, .int .i64 (List.length (enG ls) : Int), .bool (decide ((k : Int) < (List.length (enG ls) : Int))), .bool (decide ((k : Int) < (List.length (enG ls) : Int))), .bool (decide (((k : Int) < (List.length (enG ls) : Int)) ∧ ((k : Int) < 200))), .bool t] ∧ St g (Own 3 1 (i64s lvj) uj dj :: cel p1 #[.int .i64 60, .int .i64 laj, .map (some m1)] 60 :: blk m1 (.map (mE (List.map vK xj)) qj) :: Shs vF xj :: Sh 38 3 (enG ls) a c :: Shs cgF ls :: L) w ∧ (GI xj qj 60 laj) ∧ (KO xj) ∧ (FO xj) ∧ (LV xj lvj) ∧ (lvj.length ≤ 25) ∧ (laj ≤ k + 1)) ?_ ?_
        · refine WC.if_ rfl (fun cd2 => ?_) (fun cd2 => ?_)
          · refine WC.seq ?_
            refine WC.region ?_
            obtain ⟨z, hz⟩ : ∃ z, ls[k]? = some z := ⟨_, List.getElem?_eq_getElem (by omega)⟩; obtain ⟨hz1, hz2⟩ := hls z (List.mem_of_getElem? hz); have hla0 := hI.la; have hvl := i64s_len lv; have hfew := hL.few hI.ok hK hF; have htl := ht.1 cd2; have ez := Int.emod_nonneg z.ver (show ((i64s lv).length : Int) ≠ 0 by omega); have ez2 := Int.emod_lt_of_pos z.ver (show 0 < ((i64s lv).length : Int) by omega); obtain ⟨i, hi⟩ : ∃ i : Nat, z.ver % ((i64s lv).length : Int) = (i : Int) := ⟨(z.ver % ((i64s lv).length : Int)).toNat, by omega⟩; obtain ⟨n, hn⟩ : ∃ n, lv[i]? = some n := ⟨_, List.getElem?_eq_getElem (by omega)⟩; have hln := (hL.2 n).1 (List.mem_of_getElem? hn)
            refine WL.r 2 rfl ?_
            refine WL.ix rfl rfl (i := (k : Int)) (k) el_33 rfl rfl (by omega) (len_of (enG_at hz)) (hS.rdS 4 rfl (enG_at hz)).1 ?_
            refine WL.run 4 [.int .i64 z.ver] rfl (by exact (hS.rdS 4 rfl (enG_at hz)).2 1 _ rfl) ?_
            refine WL.call rfl rfl (mod_spec (k := z.ver) (n := (List.length (i64s lv) : Int)) (hk := hz1.ver) (hn := (by omega)) (hS := hS)) rfl ?_
            clear hS; rintro _ w ⟨rfl, hS⟩
            replace hS : St g (Own 3 1 (i64s lv) u d :: cel p1 #[.int .i64 60, .int .i64 la, .map (some m1)] 60 :: blk m1 (.map (mE (List.map vK xs)) q) :: Shs vF xs :: Sh 38 3 (enG ls) a c :: Shs cgF ls :: L) w := hS
            refine WL.r 1 rfl ?_
            refine WL.nil ?_
            refine WC.seq ?_
            refine WC.seq ?_
            refine WC.region ?_
            refine WL.r 3 rfl ?_
            refine WL.ix rfl rfl (i := z.ver % (List.length (i64s lv) : Int)) (i) el_28 rfl rfl (by omega) (len_of (i64s_at hn)) (hS.rdO 0 rfl (i64s_at hn)).1 ?_
            refine WL.run 1 [.int .i64 n] rfl (by exact (hS.rdO 0 rfl (i64s_at hn)).2 0 _ rfl) ?_
            refine WL.call rfl rfl (rel_spec (p := p1) (m := m1) (cap := 60) (last := la) (xs := xs) (q := q) (n := n) (hI := (by assumption)) (hS := (hS.sel 4 [1, 1, 1, 0] rfl))) rfl ?_
            clear hS; rintro _ w ⟨xs1, rfl, hS, f1, f2⟩
            replace hS : St g (cel p1 #[.int .i64 60, .int .i64 la, .map (some m1)] 60 :: blk m1 (.map (mE (List.map vK xs1)) q) :: Shs vF xs1 :: Own 3 1 (i64s lv) u d :: Sh 38 3 (enG ls) a c :: Shs cgF ls :: L) w := hS
            refine WL.r 1 rfl ?_
            refine WL.nil ?_
            refine WC.ifF rfl (decide_eq_false ((by rw [relE, if_pos hln]; simp))) ?_
            refine WC.skip ?_
            as_aux_lemma =>
              refine WC.plan [([0, 1, 4, 5, 2, 6, 7], some (3, [4, 5, 6, 7])), ([], some (8, [])), ([], some (9, []))] (by kernel_rfl) (by kernel_rfl) ?_
              replace hS := (hS.at_ 3 rfl).share
              replace hS : St g (Sh 3 1 (i64s lv) u d :: cel p1 #[.int .i64 60, .int .i64 la, .map (some m1)] 60 :: blk m1 (.map (mE (List.map vK xs1)) q) :: Shs vF xs1 :: Sh 38 3 (enG ls) a c :: Shs cgF ls :: L) w := hS
              refine WQ.r 4 rfl ?_
              refine WQ.slHi rfl rfl (v := z.ver % (List.length (i64s lv) : Int)) 0 (i) (i64s (lv.take i)) el_28 hS rfl rfl rfl (by omega) (by omega) (i64s_take _ _) (fun a1 qa1 hS => ?_)
              replace hS : St g (Sh 3 1 (i64s (lv.take i)) a1 d :: Sh 3 1 (i64s lv) u d :: cel p1 #[.int .i64 60, .int .i64 la, .map (some m1)] 60 :: blk m1 (.map (mE (List.map vK xs1)) q) :: Shs vF xs1 :: Sh 38 3 (enG ls) a c :: Shs cgF ls :: L) w := hS
              refine WQ.r 1 rfl ?_
              refine WQ.nw 72 rfl (w64 (by omega)) ?_
              refine WQ.slLo rfl rfl (v := (z.ver % (List.length (i64s lv) : Int)) + 1) 1 (i + 1) (i64s (lv.drop (i + 1))) el_28 hS rfl rfl rfl (by omega) (by omega) (i64s_drop _ _) (fun a2 qa2 hS => ?_)
              replace hS : St g (Sh 3 1 (i64s (lv.drop (i + 1))) a2 (d - (i + 1)) :: Sh 3 1 (i64s (lv.take i)) a1 d :: Sh 3 1 (i64s lv) u d :: cel p1 #[.int .i64 60, .int .i64 la, .map (some m1)] 60 :: blk m1 (.map (mE (List.map vK xs1)) q) :: Shs vF xs1 :: Sh 38 3 (enG ls) a c :: Shs cgF ls :: L) w := hS
              refine WQ.nil ?_
              intro m2
              replace hS := hS.drewN m2; generalize hwm2 : World.drewN _ _ = w at *; clear hwm2
              replace hS := hS.nil_ 3 1
              refine WL.app rfl rfl 0 (i64s (lv.take i)) el_28 hS rfl (hS.srcS 2 rfl) (List.nil_append _) (Rm.of (by first | omega | (simp <;> omega)) (by decide)) rfl rfl (fun a3 c1 w hS => ?_)
              replace hS : St g (Own 3 1 (i64s (lv.take i)) a3 c1 :: Sh 3 1 (i64s (lv.drop (i + 1))) a2 (d - (i + 1)) :: Sh 3 1 (i64s (lv.take i)) a1 d :: Sh 3 1 (i64s lv) u d :: cel p1 #[.int .i64 60, .int .i64 la, .map (some m1)] 60 :: blk m1 (.map (mE (List.map vK xs1)) q) :: Shs vF xs1 :: Sh 38 3 (enG ls) a c :: Shs cgF ls :: L) w := hS
              refine WL.nil ?_
              refine ⟨by exact ⟨RQ.pure rfl rfl rfl rfl, RQ.pure rfl rfl rfl rfl, RQ.pure rfl rfl rfl (congrArg (Value.int .i64) (Eq.symm (w64 (by omega)))), RQ.slLo rfl rfl (v := (z.ver % (List.length (i64s lv) : Int)) + 1) (i + 1) el_28 rfl rfl (by omega) (by omega) (i64s_drop _ _) qa2 rfl rfl⟩, ?_⟩
              refine WQ.nil ?_
              intro m3
              replace hS := hS.drewN m3; generalize hwm3 : World.drewN _ _ = w at *; clear hwm3
              refine WL.app rfl rfl 0 (i64s ((lv.take i) ++ (lv.drop (i + 1)))) el_28 hS rfl (hS.srcS 1 rfl) (i64s_app _ _).symm (Rm.of (by first | omega | (simp <;> omega)) (by decide)) rfl rfl (fun a4 c2 w hS => ?_)
              replace hS : St g (Own 3 1 (i64s ((lv.take i) ++ (lv.drop (i + 1)))) a4 c2 :: Sh 3 1 (i64s (lv.drop (i + 1))) a2 (d - (i + 1)) :: Sh 3 1 (i64s (lv.take i)) a1 d :: Sh 3 1 (i64s lv) u d :: cel p1 #[.int .i64 60, .int .i64 la, .map (some m1)] 60 :: blk m1 (.map (mE (List.map vK xs1)) q) :: Shs vF xs1 :: Sh 38 3 (enG ls) a c :: Shs cgF ls :: L) w := hS
              refine WL.nil ?_
              refine ⟨by exact trivial, ?_⟩
              refine WQ.nil ?_
              intro m4
              replace hS := hS.drewN m4; generalize hwm4 : World.drewN _ _ = w at *; clear hwm4
              refine WL.r 1 rfl ?_
              refine WL.nil ?_
              refine ⟨by exact trivial, ?_⟩
              intro m5
              replace hS := hS.drewN m5; generalize hwm5 : World.drewN _ _ = w at *; clear hwm5
              exact ⟨xs1, q, la, lv.take i ++ lv.drop (i + 1), a4, c2, rfl, (hS.sel 4 [0] rfl), (f1), (hK.rel hI.ok f2), (hF.rel hI.ok f2), (hL.rel hI.ok hn f2), (by rw [List.length_append, List.length_take, List.length_drop]; omega), (by omega)⟩
          · refine WC.seq ?_
            refine WC.region ?_
            obtain ⟨z, hz⟩ : ∃ z, ls[k]? = some z := ⟨_, List.getElem?_eq_getElem (by omega)⟩; obtain ⟨hz1, hz2⟩ := hls z (List.mem_of_getElem? hz); have hla0 := hI.la; have hvl := i64s_len lv; have hfew := hL.few hI.ok hK hF
            replace hS := hS.nil_ 3 1
            replace hS : St g (Own 3 1 (i64s []) none 0 :: Own 3 1 (i64s lv) u d :: cel p1 #[.int .i64 60, .int .i64 la, .map (some m1)] 60 :: blk m1 (.map (mE (List.map vK xs)) q) :: Shs vF xs :: Sh 38 3 (enG ls) a c :: Shs cgF ls :: L) w := hS
            refine WL.r 1 rfl ?_
            refine WL.nil ?_
            refine WC.seq ?_
            refine WC.seq ?_
            refine WC.cut [0, 3, 5, 6, 8, 26, 27, 28, 29, 30, 33, 50, 86] (fun vs w => ∃ (t2 : Bool), vs = [.slice a (List.length (enG ls)) c, .pointer (some ⟨p1, 0, none⟩), .slice u (List.length (i64s lv)) d, .int .i64 (k : Int), .slice none 0 0, .int .i64 (k : Int), .slice a (List.length (enG ls)) c, .int .i64 (List.length (enG ls) : Int), .bool (decide ((k : Int) < (List.length (enG ls) : Int))), .bool (decide ((k : Int) < (List.length (enG ls) : Int))), .bool (decide (((k : Int) < (List.length (enG ls) : Int)) ∧ ((k : Int) < 200))), .bool t, .bool t2] ∧ St g (Own 3 1 (i64s []) none 0 :: Own 3 1 (i64s lv) u d :: cel p1 #[.int .i64 60, .int .i64 la, .map (some m1)] 60 :: blk m1 (.map (mE (List.map vK xs)) q) :: Shs vF xs :: Sh 38 3 (enG ls) a c :: Shs cgF ls :: L) w ∧ (t2 = true → 0 < lv.length)) ?_ ?_
            · refine WC.region ?_
              refine WL.r 4 rfl ?_
              by_cases cg1 : 0 < (List.length (i64s lv) : Int)
              · refine WL.reb 78 (.bool true) (congrArg Value.bool (decide_eq_true cg1)) ?_
                refine WL.ung rfl rfl rfl ?_
                refine WL.r 1 rfl ?_
                refine WL.ung rfl rfl rfl ?_
                refine WL.r 1 rfl ?_
                refine WL.ung rfl rfl rfl ?_
                refine WL.ix rfl rfl (i := (k : Int)) (k) el_33 rfl rfl (by omega) (len_of (enG_at hz)) (hS.rdS 5 rfl (enG_at hz)).1 ?_
                refine WL.ung rfl rfl rfl ?_
                refine WL.r 1 rfl ?_
                refine WL.ung rfl rfl rfl ?_
                refine WL.run 1 [.int .i64 z.ver] rfl (by exact (hS.rdS 5 rfl (enG_at hz)).2 1 _ rfl) ?_
                refine WL.ung rfl rfl rfl ?_
                refine WL.r 1 rfl ?_
                refine WL.ung rfl rfl rfl ?_
                refine WL.r 2 rfl ?_
                refine WL.nil ?_
                exact ⟨decide (Int.tmod z.ver 7 ≠ 6), rfl, hS, (fun _ => by omega)⟩
              · refine WL.reb 78 (.bool false) (congrArg Value.bool (decide_eq_false cg1)) ?_
                refine WL.skp rfl rfl rfl rfl ?_
                refine WL.skp rfl rfl rfl rfl ?_
                refine WL.skp rfl rfl rfl rfl ?_
                refine WL.skp rfl rfl rfl rfl ?_
                refine WL.skp rfl rfl rfl rfl ?_
                refine WL.skp rfl rfl rfl rfl ?_
                refine WL.skp rfl rfl rfl rfl ?_
                refine WL.r 1 rfl ?_
                refine WL.nil ?_
                exact ⟨false, rfl, hS, (fun h => by cases h)⟩
            clear hS; rintro _ w j ⟨t2, rfl, hS, ht2⟩
            refine WC.cut [0, 3, 5, 6, 8, 26, 27, 28, 29, 30, 33, 50, 86] (fun vs w => ∃ (ps : List Int) (e : Option Addr) (f : Nat), vs = [.slice a (List.length (enG ls)) c, .pointer (some ⟨p1, 0, none⟩), .slice u (List.length (i64s lv)) d, .int .i64 (k : Int), .slice e (List.length (i64s ps)) f, .int .i64 (k : Int), .slice a (List.length (enG ls)) c, .int .i64 (List.length (enG ls) : Int), .bool (decide ((k : Int) < (List.length (enG ls) : Int))), .bool (decide ((k : Int) < (List.length (enG ls) : Int))), .bool (decide (((k : Int) < (List.length (enG ls) : Int)) ∧ ((k : Int) < 200))), .bool t, .bool t2] ∧ St g (Own 3 1 (i64s ps) e f :: Own 3 1 (i64s lv) u d :: cel p1 #[.int .i64 60, .int .i64 la, .map (some m1)] 60 :: blk m1 (.map (mE (List.map vK xs)) q) :: Shs vF xs :: Sh 38 3 (enG ls) a c :: Shs cgF ls :: L) w ∧ (ps.length ≤ 1) ∧ (∀ z ∈ ps, liveG xs z = true)) ?_ ?_
            · refine WC.if_ rfl (fun cd3 => ?_) (fun cd3 => ?_)
              · refine WC.region ?_
                have htl := ht2 cd3; have ez := Int.emod_nonneg z.ver (show ((i64s lv).length : Int) ≠ 0 by omega); have ez2 := Int.emod_lt_of_pos z.ver (show 0 < ((i64s lv).length : Int) by omega); obtain ⟨i, hi⟩ : ∃ i : Nat, z.ver % ((i64s lv).length : Int) = (i : Int) := ⟨(z.ver % ((i64s lv).length : Int)).toNat, by omega⟩; obtain ⟨n, hn⟩ : ∃ n, lv[i]? = some n := ⟨_, List.getElem?_eq_getElem (by omega)⟩; have hln := (hL.2 n).1 (List.mem_of_getElem? hn)
                refine WL.r 3 rfl ?_
                refine WL.ix rfl rfl (i := (k : Int)) (k) el_33 rfl rfl (by omega) (len_of (enG_at hz)) (hS.rdS 5 rfl (enG_at hz)).1 ?_
                refine WL.run 4 [.int .i64 z.ver] rfl (by exact (hS.rdS 5 rfl (enG_at hz)).2 1 _ rfl) ?_
                refine WL.call rfl rfl (mod_spec (k := z.ver) (n := (List.length (i64s lv) : Int)) (hk := hz1.ver) (hn := (by omega)) (hS := hS)) rfl ?_
                clear hS; rintro _ w ⟨rfl, hS⟩
                replace hS : St g (Own 3 1 (i64s []) none 0 :: Own 3 1 (i64s lv) u d :: cel p1 #[.int .i64 60, .int .i64 la, .map (some m1)] 60 :: blk m1 (.map (mE (List.map vK xs)) q) :: Shs vF xs :: Sh 38 3 (enG ls) a c :: Shs cgF ls :: L) w := hS
                refine WL.ix rfl rfl (i := z.ver % (List.length (i64s lv) : Int)) (i) el_28 rfl rfl (by omega) (len_of (i64s_at hn)) (hS.rdO 1 rfl (i64s_at hn)).1 ?_
                refine WL.run 1 [.int .i64 n] rfl (by exact (hS.rdO 1 rfl (i64s_at hn)).2 0 _ rfl) ?_
                refine WL.lit rfl rfl (i64s [n]) el_28 hS (by exact ⟨rfl, rfl⟩) (i64s_ok _) rfl (by decide) (fun b1 w hS => ?_)
                refine WL.r 1 rfl ?_
                refine WL.nil ?_
                exact ⟨[n], some ⟨b1, 0, none⟩, 1, rfl, (hS.sel 2 [0] rfl), (by simp), (fun y hy => by rw [List.mem_singleton.1 hy]; exact hln)⟩
              · refine WC.skip ?_
                exact ⟨[], none, 0, rfl, hS, (by simp), (fun y hy => by cases hy)⟩
            clear hS; rintro _ w j ⟨ps, e, f, rfl, hS, hps, hpl⟩
            refine WC.seq ?_
            refine WC.region ?_
            have h0 : addE xs 60 ps = 0 := addE_ok ⟨by omega, fun x y e => by subst e; simp at hps⟩ hpl (by have := ht.2 cd2; omega); have hav : addV xs 60 la ps = la + 1 := by rw [addV, if_pos h0]
            refine WL.r 2 rfl ?_
            replace hS := (hS.at_ 0 rfl).share
            replace hS : St g (Sh 3 1 (i64s ps) e f :: Own 3 1 (i64s lv) u d :: cel p1 #[.int .i64 60, .int .i64 la, .map (some m1)] 60 :: blk m1 (.map (mE (List.map vK xs)) q) :: Shs vF xs :: Sh 38 3 (enG ls) a c :: Shs cgF ls :: L) w := hS
            refine WL.call rfl rfl (add_spec (p := p1) (m := m1) (cap := 60) (last := la) (xs := xs) (q := q) (ps := ps) (a := e) (c := f) (hI := (by assumption)) (hla := (by omega)) (hS := (hS.sel 5 [0, 1, 1, 1, 0] rfl))) rfl ?_
            clear hS; rintro _ w ⟨xs1, q1, last1, rfl, hS, f1, f2⟩
            replace hS : St g (Sh 3 1 (i64s ps) e f :: cel p1 #[.int .i64 60, .int .i64 last1, .map (some m1)] 60 :: blk m1 (.map (mE (List.map vK xs1)) q1) :: Shs vF xs1 :: Own 3 1 (i64s lv) u d :: Sh 38 3 (enG ls) a c :: Shs cgF ls :: L) w := hS
            refine WL.r 5 rfl ?_
            refine WL.nil ?_
            as_aux_lemma =>
              refine WC.seq ?_
              refine WC.seq ?_
              refine WC.region ?_
              refine WL.r 2 rfl ?_
              refine WL.rG 4 rfl (fun j => ?_)
              refine WL.prop 110 rfl (bor (dd _) (dd _)) ?_
              refine WL.nil ?_
              refine WC.ifF rfl (decide_eq_false ((by rw [h0, hav]; omega))) ?_
              refine WC.skip ?_
              refine WC.region ?_
              refine WL.r 2 rfl ?_
              refine WL.lit rfl rfl (i64s [addV xs 60 la ps]) el_28 hS (by exact ⟨rfl, rfl⟩) (i64s_ok _) rfl (by decide) (fun b1 w hS => ?_)
              refine WL.app rfl rfl 5 (i64s (lv ++ [addV xs 60 la ps])) el_28 hS rfl (hS.srcO 0 rfl) (i64s_app _ _).symm (Rm.of (by first | omega | (simp <;> omega)) (by decide)) rfl rfl (fun a1 c1 w hS => ?_)
              replace hS : St g (Own 3 1 (i64s [addV xs 60 la ps]) (some ⟨b1, 0, none⟩) (List.length (i64s [addV xs 60 la ps])) :: Sh 3 1 (i64s ps) e f :: cel p1 #[.int .i64 60, .int .i64 last1, .map (some m1)] 60 :: blk m1 (.map (mE (List.map vK xs1)) q1) :: Shs vF xs1 :: Own 3 1 (i64s (lv ++ [addV xs 60 la ps])) a1 c1 :: Sh 38 3 (enG ls) a c :: Shs cgF ls :: L) w := hS
              refine WL.r 1 rfl ?_
              refine WL.nil ?_
              exact ⟨xs1, q1, last1, lv ++ [addV xs 60 la ps], a1, c1, rfl, (hS.sel 6 [5, 2, 2, 2] rfl), (f1), (hK.add hI.le f2), (hF.add hI f2 hps), (hL.add hI f2 h0), (by rw [List.length_append]; have := ht.2 cd2; simp; omega), (by have := f2.bnd; omega)⟩
        clear hS; rintro _ w j ⟨xj, qj, laj, lvj, uj, dj, rfl, hS, hIj, hKj, hFj, hLj, hllj, hlaj⟩
        refine WC.seq ?_
        refine WC.region ?_
        obtain ⟨ss, hs⟩ := keys_ex hIj.ok.uniq; have hkl := keys_len hs.perm; have hsl := i64s_len ss; have hnum := hIj.ok.num; have hvlj := i64s_len lvj; have hfewj := hLj.few hIj.ok hKj hFj
        refine WL.r 1 rfl ?_
        refine WL.call rfl rfl (vers_spec (p := p1) (m := m1) (cap := 60) (last := laj) (xs := xj) (q := qj) (ss := ss) (ht := (by first | assumption | exact (GI.ok (by assumption)).toVOk)) (hp := hs.perm) (hs := hs.le) (hS := (hS.sel 4 [1, 1, 1, 0] rfl))) rfl ?_
        clear hS; rintro _ w ⟨a1, c1, rfl, hS⟩
        replace hS : St g (Own 3 1 (i64s ss) a1 c1 :: cel p1 #[.int .i64 60, .int .i64 laj, .map (some m1)] 60 :: blk m1 (.map (mE (List.map vK xj)) qj) :: Shs vF xj :: Own 3 1 (i64s lvj) uj dj :: Sh 38 3 (enG ls) a c :: Shs cgF ls :: L) w := hS
        refine WL.r 2 rfl ?_
        refine WL.nil ?_
        refine WC.seq ?_
        refine WC.region ?_
        refine WL.r 4 rfl ?_
        refine WL.nw 121 rfl (w64 (by omega)) ?_
        refine WL.r 1 rfl ?_
        refine WL.rG 10 rfl (fun j => ?_)
        refine WL.prop 132 rfl (bor (band (dd _) (dd _)) (dd _)) ?_
        refine WL.nil ?_
        refine WC.ifF rfl (decide_eq_false ((by omega))) ?_
        refine WC.skip ?_
        refine WC.region ?_
        refine WL.r 2 rfl ?_
        refine WL.nw 35 rfl (w64 (by omega)) ?_
        refine WL.r 1 rfl ?_
        refine WL.nil ?_
        exact ⟨_, by omega, k + 1, xj, qj, laj, lvj, uj, dj, rfl, (hS.sel 5 [4, 1, 1, 1] rfl), (by omega), (hIj), (hKj), (hFj), (hLj), (hllj), (by omega), rfl⟩
    · refine WC.exit ?_
      refine WC.seq ?_
      refine WC.region ?_
      refine WL.r 1 rfl ?_
      refine WL.nil ?_
      as_aux_lemma =>
        refine WC.ret ?_
        refine ⟨[.bool true], rfl, ?_⟩
        replace hS := (hS.sel 6 [] rfl)
        exact ⟨rfl, hS⟩
end Go.Proofs.Ytjoilgpleaemcaa
