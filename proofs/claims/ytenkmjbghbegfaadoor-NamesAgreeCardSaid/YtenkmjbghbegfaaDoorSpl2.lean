/-
  Parting a string at the slashes: strings.Split.
  Conditions: sizes below a bound.
-/
import Derived.Test.YtenkmjbghbegfaaDoorSpl
import Derived.Test.YtenkmjbghbegfaaDoorSpm
namespace Go.Proofs.YtenkmjbghbegfaaDoor
open Go Go.V

set_option maxHeartbeats 1000000 in
set_option maxRecDepth 8192 in
theorem gensplit_spec {g w : World} {L : List HP} (s : ByteArray) (hs : s.size ≤ 1000000) (hS : St g (L) w) :
    Sp Tryd.prog 36 [.string s, .string ⟨#[47]⟩, .int .i64 0, .int .i64 (-1)] w (fun v w' => ∃ (a2 : Option Addr) (c2 : Nat), v = .slice a2 (List.length (strs (prt (sb s)))) c2 ∧ St g (Own 9 1 (strs (prt (sb s))) a2 c2 :: L) w') := by
  refine Sp.enter Tryd.func36 rfl (by kernel_rfl) (by kernel_rfl) ?_
  have _ := hs
  refine WC.seq ?_
  refine WC.region ?_
  have hz1 : (⟨#[47]⟩ : ByteArray).size = 1 := rfl; have hsl := sb_len s; have hcn := List.count_le_length (a := (47 : Int)) (l := sb s); have hpl := prt_len (sb s)
  refine WL.r 1 rfl ?_
  refine WL.nil ?_
  refine WC.seq ?_
  refine WC.seq ?_
  refine WC.region ?_
  refine WL.r 2 rfl ?_
  refine WL.nil ?_
  refine WC.ifF rfl (by decide) ?_
  refine WC.skip ?_
  refine WC.seq ?_
  refine WC.seq ?_
  refine WC.region ?_
  refine WL.r 2 rfl ?_
  refine WL.nil ?_
  refine WC.ifF rfl (decide_eq_false ((by decide))) ?_
  refine WC.skip ?_
  refine WC.seq ?_
  refine WC.seq ?_
  refine WC.region ?_
  refine WL.r 2 rfl ?_
  refine WL.nil ?_
  as_aux_lemma =>
    refine WC.ifT rfl (by decide) ?_
    refine WC.region ?_
    refine WL.r 2 rfl ?_
    refine WL.call rfl rfl (cnt_spec (s := s)  (hS := hS)) rfl ?_
    clear hS; rintro _ w ⟨rfl, hS⟩
    replace hS : St g (L) w := hS
    refine WL.r 1 rfl ?_
    refine WL.nw 24 rfl (w64 (by omega)) ?_
    refine WL.r 1 rfl ?_
    refine WL.nil ?_
    refine WC.seq ?_
    refine WC.region ?_
    refine WL.r 4 rfl ?_
    refine WL.nw 28 rfl (w64 (by omega)) ?_
    refine WL.r 2 rfl ?_
    refine WL.nil ?_
    refine WC.seq ?_
    refine WC.region ?_
    refine WL.reb 3 (.int .i64 (((sb s).count 47 + 1 : Nat) : Int)) (congrArg (Value.int .i64) (by simp only [cond_false]; omega)) ?_
    refine WL.r 1 rfl ?_
    refine WL.make rfl rfl (v := (((sb s).count 47 + 1 : Nat) : Int)) (v' := (((sb s).count 47 + 1 : Nat) : Int)) ((sb s).count 47 + 1) ((sb s).count 47 + 1) el_57 hS rfl (by omega) rfl (by omega) (by omega) (Rm.of (by omega) (by decide)) (fun b1 w hS => ?_)
    replace hS : St g (Own 9 1 (List.replicate ((sb s).count 47 + 1) [.string ⟨#[]⟩]) (some ⟨b1, 0, none⟩) ((sb s).count 47 + 1) :: L) w := hS
    refine WL.r 1 rfl ?_
    refine WL.nil ?_
    refine WC.seq ?_
    refine WC.region ?_
    refine WL.r 2 rfl ?_
    refine WL.nw 33 rfl (w64 (by omega)) ?_
    refine WL.r 1 rfl ?_
    refine WL.nil ?_
    as_aux_lemma =>
      refine WC.seq ?_
      refine WC.region ?_
      refine WL.r 1 rfl ?_
      refine WL.nil ?_
      refine WC.seq ?_
      refine WC.block ?_
      rw [strs_rep] at hS
      replace hS : St g (Own 9 1 (strs ([] ++ List.replicate ((sb s).count 47 + 1 - 0) [])) (some ⟨b1, 0, none⟩) ((sb s).count 47 + 1) :: L) w := hS
      refine WC.loop [0, 1, 2, 3, 8, 9, 10] (fun kM vs w => ∃ (k : Nat) (r : ByteArray) (done : List (List Int)), vs = [.string r, .string ⟨#[47]⟩, .int .i64 0, .int .i64 ((((sb s).count 47 + 1 : Nat) : Int) - 1), .slice none 0 0, .slice (some ⟨b1, 0, none⟩) ((sb s).count 47 + 1) ((sb s).count 47 + 1), .int .i64 (k : Int)] ∧ St g (Own 9 1 (strs (done ++ List.replicate ((sb s).count 47 + 1 - k) [])) (some ⟨b1, 0, none⟩) ((sb s).count 47 + 1) :: L) w ∧ (done.length = k) ∧ (k + (sb r).count 47 = (sb s).count 47) ∧ (r.size ≤ s.size) ∧ (done ++ prt (sb r) = prt (sb s)) ∧ ((sb s).count 47 - k) = kM) ((sb s).count 47 - 0) ⟨0, s, [], rfl, hS, (rfl), (by omega), (Nat.le_refl _), (rfl), rfl⟩ ?_
      clear hS; rintro _ _ w j ⟨k, r, done, rfl, hS, hd, hc, hz, hp, rfl⟩
      refine WC.seq ?_
      refine WC.seq ?_
      refine WC.region ?_
      refine WL.r 3 rfl ?_
      refine WL.nil ?_
      refine WC.ifP rfl (fun cd3 => ?_) (fun cd3 => ?_)
      · refine WC.skip ?_
        refine WC.block ?_
        refine WC.seq ?_
        refine WC.region ?_
        have hg := fidx_ge (sb r); obtain ⟨m, hm⟩ : ∃ m : Nat, fidx (sb r) 47 = m := ⟨(fidx (sb r) 47).toNat, by have := count_pos (l := sb r) (by omega); omega⟩; obtain ⟨hm1, hm2⟩ := fidx_some (sb r) m hm; have hrl := sb_len r
        refine WL.r 2 rfl ?_
        refine WL.call rfl rfl (idx_spec (s := r)  (hS := hS)) rfl ?_
        clear hS; rintro _ w ⟨rfl, hS⟩
        replace hS : St g (Own 9 1 (strs (done ++ List.replicate ((sb s).count 47 + 1 - k) [])) (some ⟨b1, 0, none⟩) ((sb s).count 47 + 1) :: L) w := hS
        refine WL.r 1 rfl ?_
        refine WL.nil ?_
        as_aux_lemma =>
          refine WC.seq ?_
          refine WC.seq ?_
          refine WC.region ?_
          refine WL.r 2 rfl ?_
          refine WL.nil ?_
          refine WC.ifF rfl (decide_eq_false ((count_pos (by omega)))) ?_
          refine WC.skip ?_
          refine WC.seq ?_
          refine WC.region ?_
          refine WL.r 6 rfl ?_
          refine WL.nw 47 rfl (w64 (by omega)) ?_
          refine WL.ssHi rfl rfl (v := (fidx (sb r) 47) + 0) (m) rfl rfl rfl (by omega) (by omega) ?_
          refine WL.ix rfl rfl (i := (k : Int)) (k) el_57 rfl rfl (by omega) (by omega) (hS.rdO 0 rfl (fill_at hd (by omega))).1 ?_
          refine WL.stE rfl rfl rfl 0 (k) 0 [.string (mkS [])] (strs ((done ++ [(sb r).take m]) ++ List.replicate ((sb s).count 47 + 1 - (k + 1)) [])) hS rfl (fill_at hd (by omega)) rfl rfl rfl rfl rfl (fill_put hd (by omega)) (fun w hS => ?_)
          replace hS : St g (Own 9 1 (strs ((done ++ [(sb r).take m]) ++ List.replicate ((sb s).count 47 + 1 - (k + 1)) [])) (some ⟨b1, 0, none⟩) ((sb s).count 47 + 1) :: L) w := hS
          refine WL.nil ?_
          refine WC.seq ?_
          refine WC.region ?_
          refine WL.r 5 rfl ?_
          refine WL.nw 54 rfl (w64 (by omega)) ?_
          refine WL.ssLo rfl rfl (v := (fidx (sb r) 47) + (ByteArray.size ⟨#[47]⟩ : Int)) (m + 1) rfl rfl rfl (by omega) (by omega) ?_
          refine WL.r 1 rfl ?_
          refine WL.nil ?_
          refine WC.region ?_
          have hsm : sb (mkS ((sb r).drop (m + 1))) = (sb r).drop (m + 1) := sb_mkS (fun x hx => sb_B8 r x (List.mem_of_mem_drop hx))
          refine WL.r 2 rfl ?_
          refine WL.nw 57 rfl (w64 (by omega)) ?_
          refine WL.r 1 rfl ?_
          refine WL.nil ?_
          exact ⟨_, by omega, k + 1, mkS ((sb r).drop (m + 1)), done ++ [(sb r).take m], rfl, hS, (by simp [hd]), (by rw [hsm]; omega), (by rw [mkS_size, List.length_drop]; omega), (by rw [hsm, List.append_assoc]; rw [hm1] at hp; simpa using hp), rfl⟩
      · refine WC.exit ?_
        refine WC.seq ?_
        refine WC.region ?_
        refine WL.r 3 rfl ?_
        refine WL.ix rfl rfl (i := (k : Int)) (k) el_57 rfl rfl (by omega) (by omega) (hS.rdO 0 rfl (fill_at hd (by omega))).1 ?_
        refine WL.stE rfl rfl rfl 0 (k) 0 [.string (mkS [])] (strs (prt (sb s))) hS rfl (fill_at hd (by omega)) rfl rfl rfl rfl rfl (fill_end hd (by omega) hp (by omega)) (fun w hS => ?_)
        replace hS : St g (Own 9 1 (strs (prt (sb s))) (some ⟨b1, 0, none⟩) ((sb s).count 47 + 1) :: L) w := hS
        refine WL.nil ?_
        refine WC.seq ?_
        refine WC.region ?_
        have hsl2 := strs_len (prt (sb s))
        refine WL.reb 9 (.slice (some ⟨b1, 0, none⟩) (strs (prt (sb s))).length ((sb s).count 47 + 1)) (congrArg (fun n => Value.slice (some ⟨b1, 0, none⟩) n ((sb s).count 47 + 1)) (by omega)) ?_
        refine WL.r 3 rfl ?_
        refine WL.nw 64 rfl (w64 (by omega)) ?_
        refine WL.slOwn rfl rfl (v := (k : Int) + 1) 0 (k + 1) (strs (prt (sb s))) el_57 hS rfl rfl rfl (by omega) (by omega) (by rw [List.take_of_length_le (by omega)]) (fun hS => ?_)
        replace hS : St g (Own 9 1 (strs (prt (sb s))) (some ⟨b1, 0, none⟩) ((sb s).count 47 + 1) :: L) w := hS
        refine WL.r 1 rfl ?_
        refine WL.nil ?_
        as_aux_lemma =>
          refine WC.ret ?_
          refine ⟨[.slice (some ⟨b1, 0, none⟩) (List.length (strs (prt (sb s)))) ((sb s).count 47 + 1)], rfl, ?_⟩
          exact ⟨_, _, rfl, hS⟩
theorem split_spec {g w : World} {L : List HP} (s : ByteArray) (hs : s.size ≤ 1000000) (hS : St g (L) w) :
    Sp Tryd.prog 26 [.string s, .string ⟨#[47]⟩] w (fun v w' => ∃ (a2 : Option Addr) (c2 : Nat), v = .slice a2 (List.length (strs (prt (sb s)))) c2 ∧ St g (Own 9 1 (strs (prt (sb s))) a2 c2 :: L) w') := by
  refine Sp.enter Tryd.func26 rfl (by kernel_rfl) (by kernel_rfl) ?_
  refine WC.seq ?_
  refine WC.region ?_
  refine WL.r 1 rfl ?_
  refine WL.nil ?_
  refine WC.seq ?_
  refine WC.region ?_
  refine WL.r 2 rfl ?_
  refine WL.call rfl rfl (gensplit_spec (s := s) (hs := hs) (hS := hS)) rfl ?_
  clear hS; rintro _ w ⟨a1, c1, rfl, hS⟩
  replace hS : St g (Own 9 1 (strs (prt (sb s))) a1 c1 :: L) w := hS
  refine WL.r 1 rfl ?_
  refine WL.nil ?_
  refine WC.ret ?_
  refine ⟨[.slice a1 (List.length (strs (prt (sb s)))) c1], rfl, ?_⟩
  exact ⟨_, _, rfl, hS⟩
end Go.Proofs.YtenkmjbghbegfaaDoor
