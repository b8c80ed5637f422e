/-
  The law NamesAreValid, walked.
  Conditions: the arguments lie in their kinds.
-/
import Derived.Test.YtenkmjbghbegfaaDoorNm3
import Derived.Test.YtenkmjbghbegfaaDoorVal2
namespace Go.Proofs.YtenkmjbghbegfaaDoor
open Go Go.V

theorem rep8 (n : Nat) : List.replicate n [Value.int .u8 0] = by8 (List.replicate n 0) := by simp [by8]
theorem B8.rep (n : Nat) : B8 (List.replicate n 0) := fun x hx => by
  obtain ⟨_, rfl⟩ := List.mem_replicate.1 hx
  omega
theorem B8.set {l : List Int} {k : Nat} {x : Int} (h : B8 l) (hx : 0 ≤ x ∧ x ≤ 255) : B8 (l.set k x) := fun y hy => by
  rcases List.mem_or_eq_of_mem_set hy with h1 | rfl
  · exact h y h1
  · exact hx
set_option maxHeartbeats 1000000 in
set_option maxRecDepth 8192 in
theorem law_areValid {g w : World} {L : List HP} (s : ByteArray) (ls : List Int) (a : Option Addr) (c : Nat) (hb : B8 ls) (hS : St g (Sh 5 1 (by8 ls) a c :: L) w) :
    Sp Tryd.prog 3 [.string s, .slice a (List.length (by8 ls)) c] w (fun v w' => v = .bool true ∧ St g (L) w') := by
  refine Sp.enter Tryd.func3 rfl (by kernel_rfl) (by kernel_rfl) ?_
  refine WC.seq ?_
  refine WC.region ?_
  refine WL.r 1 rfl ?_
  refine WL.nil ?_
  refine WC.seq ?_
  refine WC.seq ?_
  refine WC.region ?_
  have hl8 := by8_len ls
  refine WL.r 3 rfl ?_
  refine WL.nil ?_
  refine WC.ifP rfl (fun cd1 => ?_) (fun cd1 => ?_)
  · refine WC.seq ?_
    refine WC.region ?_
    refine WL.call rfl rfl (awake_spec   (hS := hS)) rfl ?_
    clear hS; rintro _ w ⟨rfl, hS⟩
    replace hS : St g (Sh 5 1 (by8 ls) a c :: L) w := hS
    refine WL.r 1 rfl ?_
    refine WL.nil ?_
    refine WC.ret ?_
    refine ⟨[.bool true], rfl, ?_⟩
    replace hS := (hS.sel 1 [] rfl)
    exact ⟨rfl, hS⟩
  · refine WC.skip ?_
    refine WC.seq ?_
    refine WC.region ?_
    refine WL.r 2 rfl ?_
    refine WL.make rfl rfl (v := (List.length (by8 ls) : Int)) (v' := (List.length (by8 ls) : Int)) (ls.length) (ls.length) el_22 hS rfl (by omega) rfl (by omega) (by omega) (Rm.of (by omega) (by decide)) (fun b1 w hS => ?_)
    replace hS : St g (Own 5 1 (List.replicate (List.length ls) [.int .u8 0]) (some ⟨b1, 0, none⟩) (List.length ls) :: Sh 5 1 (by8 ls) a c :: L) w := hS
    refine WL.r 1 rfl ?_
    refine WL.nil ?_
    refine WC.seq ?_
    refine WC.seq ?_
    refine WC.region ?_
    refine WL.r 1 rfl ?_
    refine WL.nil ?_
    as_aux_lemma =>
      refine WC.block ?_
      rw [rep8] at hS
      replace hS : St g (Own 5 1 (by8 (List.replicate (List.length ls) 0)) (some ⟨b1, 0, none⟩) (List.length ls) :: Sh 5 1 (by8 ls) a c :: L) w := hS
      refine WC.loop [0, 1, 4, 5, 6] (fun kM vs w => ∃ (k : Nat) (bs : List Int), vs = [.string s, .slice a (List.length (by8 ls)) c, .bool false, .slice (some ⟨b1, 0, none⟩) (List.length ls) (List.length ls), .int .i64 (k : Int)] ∧ St g (Own 5 1 (by8 bs) (some ⟨b1, 0, none⟩) (List.length ls) :: Sh 5 1 (by8 ls) a c :: L) w ∧ (k ≤ ls.length) ∧ (bs.length = ls.length) ∧ (B8 bs) ∧ (ls.length - k) = kM) ((List.length ls) - 0) ⟨0, List.replicate ls.length 0, rfl, hS, (Nat.zero_le _), (by simp), (B8.rep _), rfl⟩ ?_
      clear hS; rintro _ _ w j ⟨k, bs, rfl, hS, hk, hm, h8, rfl⟩
      refine WC.seq ?_
      refine WC.seq ?_
      refine WC.region ?_
      refine WL.r 4 rfl ?_
      refine WL.nil ?_
      refine WC.ifP rfl (fun cd2 => ?_) (fun cd2 => ?_)
      · refine WC.skip ?_
        refine WC.seq ?_
        refine WC.block ?_
        refine WC.region ?_
        refine WL.r 4 rfl ?_
        obtain ⟨x, hx⟩ : ∃ x, ls[k]? = some x := ⟨_, List.getElem?_eq_getElem (by omega)⟩; have hx8 := hb x (List.mem_of_getElem? hx); obtain ⟨z, hz⟩ : ∃ z, bs[k]? = some z := ⟨_, List.getElem?_eq_getElem (by omega)⟩; have hb8 := by8_len bs; obtain ⟨y, hy⟩ : ∃ y, (sb ⟨#[97, 122, 48, 57, 45, 95, 46, 47, 90, 98]⟩)[(x % 10).toNat]? = some y := ⟨_, List.getElem?_eq_getElem (show (x % 10).toNat < 10 by omega)⟩; have hy8 := sb_B8 _ y (List.mem_of_getElem? hy)
        refine WL.ix rfl rfl (i := (k : Int)) (k) el_22 rfl rfl (by omega) (by omega) (hS.rdS 1 rfl (by8_at hx)).1 ?_
        refine WL.run 2 [.int .u8 x] rfl (by exact (hS.rdS 1 rfl (by8_at hx)).2 0 _ rfl) ?_
        refine WL.reb 26 (.int .u8 (x % 10)) (congrArg (Value.int .u8) (Int.tmod_eq_emod_of_nonneg (a := x) (by omega))) ?_
        refine WL.ixs rfl rfl (v := x % 10) ((x % 10).toNat) rfl rfl rfl (by omega) hy ?_
        refine WL.ix rfl rfl (i := (k : Int)) (k) el_22 rfl rfl (by omega) (by omega) (hS.rdO 0 rfl (by8_at hz)).1 ?_
        refine WL.stE rfl rfl rfl 0 (k) 0 [.int .u8 z] (by8 (bs.set k y)) hS rfl (by8_at hz) rfl rfl rfl rfl rfl (by8_set _ _ _) (fun w hS => ?_)
        replace hS : St g (Own 5 1 (by8 (bs.set k y)) (some ⟨b1, 0, none⟩) (List.length ls) :: Sh 5 1 (by8 ls) a c :: L) w := hS
        refine WL.nil ?_
        as_aux_lemma =>
          refine WC.region ?_
          refine WL.r 2 rfl ?_
          refine WL.nw 19 rfl (w64 (by omega)) ?_
          refine WL.r 1 rfl ?_
          refine WL.nil ?_
          exact ⟨_, by omega, k + 1, bs.set k y, rfl, hS, (by omega), (by simp [hm]), (B8.set h8 hy8), rfl⟩
      · refine WC.exit ?_
        refine WC.seq ?_
        refine WC.plan [([], some (0, [])), ([1, 2, 4], some (3, [4])), ([], some (5, [])), ([6, 7, 8, 9, 12, 10, 13], some (11, [12, 13])), ([], some (14, [])), ([15, 16, 17], none)] (by kernel_rfl) (by kernel_rfl) ?_
        refine WQ.nil ?_
        intro m1
        replace hS := hS.drewN m1; generalize hwm1 : World.drewN _ _ = w at *; clear hwm1
        refine WL.reb 5 (.slice (some ⟨b1, 0, none⟩) (by8 bs).length ls.length) (congrArg (fun m => Value.slice (some ⟨b1, 0, none⟩) m ls.length) (by rw [by8_len, hm])) ?_
        refine WL.call rfl rfl (awake_spec   (hS := hS)) rfl ?_
        clear hS; rintro _ w ⟨rfl, hS⟩
        replace hS : St g (Own 5 1 (by8 bs) (some ⟨b1, 0, none⟩) (List.length ls) :: Sh 5 1 (by8 ls) a c :: L) w := hS
        refine WL.nil ?_
        refine ⟨by exact trivial, ?_⟩
        refine WQ.r 1 rfl ?_
        refine WQ.ung rfl rfl rfl ?_
        refine WQ.r 1 rfl ?_
        refine WQ.ung rfl rfl rfl ?_
        refine WQ.r 1 rfl ?_
        refine WQ.nil ?_
        intro m2
        replace hS := hS.drewN m2; generalize hwm2 : World.drewN _ _ = w at *; clear hwm2
        refine WL.ung rfl rfl rfl ?_
        refine WL.call rfl rfl (validName_spec (s := s)  (hS := hS)) rfl ?_
        clear hS; rintro _ w ⟨rfl, hS⟩
        replace hS : St g (Own 5 1 (by8 bs) (some ⟨b1, 0, none⟩) (List.length ls) :: Sh 5 1 (by8 ls) a c :: L) w := hS
        refine WL.nil ?_
        refine ⟨by exact RQ.ung rfl rfl rfl (RQ.pure rfl rfl rfl rfl), ?_⟩
        refine WQ.nil ?_
        intro m3
        replace hS := hS.drewN m3; generalize hwm3 : World.drewN _ _ = w at *; clear hwm3
        refine WL.ung rfl rfl rfl ?_
        refine WL.call rfl rfl (rvalidName_spec (s := s)  (hS := hS)) rfl ?_
        clear hS; rintro _ w ⟨rfl, hS⟩
        replace hS : St g (Own 5 1 (by8 bs) (some ⟨b1, 0, none⟩) (List.length ls) :: Sh 5 1 (by8 ls) a c :: L) w := hS
        refine WL.nil ?_
        refine ⟨by exact trivial, ?_⟩
        refine WQ.ung rfl rfl rfl ?_
        refine WQ.r 3 rfl ?_
        by_cases cg1 : ((decide (okName (sb s))) == (decide (okRef (sb s)))) = true
        · refine WQ.reb 37 (.bool true) (congrArg Value.bool cg1) ?_
          refine WQ.ung rfl rfl rfl ?_
          refine WQ.r 1 rfl ?_
          refine WQ.ung rfl rfl rfl ?_
          refine WQ.r 1 rfl ?_
          refine WQ.ung rfl rfl rfl ?_
          refine WQ.toS rfl rfl Tryd.underlying22 Tryd.underlying9 Tryd.underlying5 (fun m => (hS.drewN m).srcO 0 rfl) h8 rfl ?_
          refine WQ.ung rfl rfl rfl ?_
          refine WQ.toS rfl rfl Tryd.underlying22 Tryd.underlying9 Tryd.underlying5 (fun m => (hS.drewN m).srcO 0 rfl) h8 rfl ?_
          refine WQ.nil ?_
          intro m4
          replace hS := hS.drewN m4; generalize hwm4 : World.drewN _ _ = w at *; clear hwm4
          refine WL.ung rfl rfl rfl ?_
          refine WL.call rfl rfl (validName_spec (s := mkS bs)  (hS := hS)) rfl ?_
          clear hS; rintro _ w ⟨rfl, hS⟩
          replace hS : St g (Own 5 1 (by8 bs) (some ⟨b1, 0, none⟩) (List.length ls) :: Sh 5 1 (by8 ls) a c :: L) w := hS
          refine WL.nil ?_
          refine ⟨by exact ⟨RQ.ung rfl rfl rfl (RQ.pure rfl rfl rfl rfl), RQ.ung rfl rfl rfl (RQ.toS rfl rfl Tryd.underlying22 Tryd.underlying9 Tryd.underlying5 (fun m => (hS.drewN m).srcO 0 rfl) h8 rfl rfl rfl)⟩, ?_⟩
          refine WQ.nil ?_
          intro m5
          replace hS := hS.drewN m5; generalize hwm5 : World.drewN _ _ = w at *; clear hwm5
          refine WL.ung rfl rfl rfl ?_
          refine WL.call rfl rfl (rvalidName_spec (s := mkS bs)  (hS := hS)) rfl ?_
          clear hS; rintro _ w ⟨rfl, hS⟩
          replace hS : St g (Own 5 1 (by8 bs) (some ⟨b1, 0, none⟩) (List.length ls) :: Sh 5 1 (by8 ls) a c :: L) w := hS
          refine WL.nil ?_
          refine ⟨by exact trivial, ?_⟩
          refine WQ.ung rfl rfl rfl ?_
          refine WQ.r 3 rfl ?_
          refine WQ.nil ?_
          intro m6
          replace hS := hS.drewN m6; generalize hwm6 : World.drewN _ _ = w at *; clear hwm6
          as_aux_lemma =>
            refine WC.ret ?_
            refine ⟨[.bool ((decide (okName (sb (mkS bs)))) == (decide (okRef (sb (mkS bs)))))], rfl, ?_⟩
            replace hS := (hS.sel 2 [] rfl)
            exact ⟨congrArg Value.bool (ok_eq _), hS⟩
        · refine WQ.reb 37 (.bool false) (congrArg Value.bool (Bool.eq_false_iff.2 cg1)) ?_
          refine WQ.skp rfl rfl rfl rfl ?_
          refine WQ.skp rfl rfl rfl rfl ?_
          refine WQ.skp rfl rfl rfl rfl ?_
          refine WQ.skp rfl rfl rfl rfl ?_
          refine WQ.nil ?_
          intro m4
          replace hS := hS.drewN m4; generalize hwm4 : World.drewN _ _ = w at *; clear hwm4
          refine WL.skp rfl rfl rfl rfl ?_
          refine WL.nil ?_
          refine ⟨by exact ⟨RQ.skp rfl rfl rfl rfl rfl rfl, RQ.skp rfl rfl rfl rfl rfl rfl⟩, ?_⟩
          refine WQ.nil ?_
          intro m5
          replace hS := hS.drewN m5; generalize hwm5 : World.drewN _ _ = w at *; clear hwm5
          refine WL.skp rfl rfl rfl rfl ?_
          refine WL.nil ?_
          refine ⟨by exact trivial, ?_⟩
          refine WQ.skp rfl rfl rfl rfl ?_
          refine WQ.r 2 rfl ?_
          refine WQ.nil ?_
          intro m6
          replace hS := hS.drewN m6; generalize hwm6 : World.drewN _ _ = w at *; clear hwm6
          as_aux_lemma =>
            refine WC.ret ?_
            refine ⟨[.bool false], rfl, ?_⟩
            replace hS := (hS.sel 2 [] rfl)
            exact absurd (ok_eq _) cg1
end Go.Proofs.YtenkmjbghbegfaaDoor
