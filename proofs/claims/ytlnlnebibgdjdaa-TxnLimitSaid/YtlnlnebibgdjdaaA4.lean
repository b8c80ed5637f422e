/-
  The graph: which versions are needed; the closure of Release; lists with elements taken out.
  Conditions: the graph is one.
-/
import Derived.Test.YtlnlnebibgdjdaaA3
import Derived.Test.YtlnlnebibgdjdaaAga
namespace Go.Proofs.Ytlnlnebibgdjdaa
open Go Go.V Go.RowKit Go.Sort Go.Shelf

theorem forgot_spec {g w : World} {L : List HP} (k : Int) (b m2 q2 : Nat) (ns : List (Int × Nat)) (hu : BUq ns) (hS : St g (cel b #[.map (some m2)] 179 :: blk m2 (.map (mE (List.map bK ns)) q2) :: L) w) :
    Sp Try.prog 102 [.int .i64 k, .pointer (some ⟨b, 0, none⟩)] w (fun v w' => v = .bool (! (inB ns k)) ∧ St g (cel b #[.map (some m2)] 179 :: blk m2 (.map (mE (List.map bK ns)) q2) :: L) w' ∧ (w' = w)) := by
  refine Sp.enter Try.func102 rfl (by kernel_rfl) (by kernel_rfl) ?_
  refine WC.seq ?_
  refine WC.region ?_
  refine WL.r 1 rfl ?_
  refine WL.nil ?_
  refine WC.seq ?_
  refine WC.region ?_
  refine WL.run 2 [.map (some m2)] rfl (by exact hS.ld 0 rfl rfl) ?_
  refine WL.lkB rfl rfl mt_179 1 hS rfl rfl rfl hu ?_
  refine WL.r 1 rfl ?_
  refine WL.r 1 rfl ?_
  refine WL.nil ?_
  refine WC.ret ?_
  refine ⟨[.bool (! (inB ns k))], rfl, ?_⟩
  exact ⟨rfl, hS, rfl⟩
theorem del_spec {g w : World} {L : List HP} (ls : List Int) (a : Option Addr) (c b m2 q2 : Nat) (ns : List (Int × Nat)) (hu : BUq ns) (hne : ls ≠ []) (hl : ls.length ≤ 1000000) (hS : St g (Own 3 1 (i64s ls) a c :: cel b #[.map (some m2)] 179 :: blk m2 (.map (mE (List.map bK ns)) q2) :: L) w) :
    Sp Try.prog 103 [.slice a (List.length (i64s ls)) c, .func (.func 102) #[] #[.pointer (some ⟨b, 0, none⟩)]] w (fun v w' => v = .slice a (List.length (i64s (List.filter (inB ns) ls))) c ∧ St g (Own 3 1 (i64s (List.filter (inB ns) ls)) a c :: cel b #[.map (some m2)] 179 :: blk m2 (.map (mE (List.map bK ns)) q2) :: L) w') := by
  obtain ⟨b0, rfl⟩ := hS.addrI 0 rfl hne
  obtain ⟨hH, hb, hcap⟩ := hS.holdsI 0 rfl
  have gv : ∀ (W : World) (x : Int), St g (cel b #[.map (some m2)] 179 :: blk m2 (.map (mE (List.map bK ns)) q2) :: L) W → Go.Proofs.FnGives Try.prog 102 #[.pointer (some ⟨b, 0, none⟩)] #[.int .i64 x] (.bool (!inB ns x)) W := fun W x hW => by
    have h := (forgot_spec x b m2 q2 ns hu hW).go
    exact h.mono fun e w' ⟨v, he, hv, _, hw⟩ => ⟨by rw [he, hv], 0, by rw [hw]; rfl⟩
  have hp : Go.Proofs.PredAt Try.prog 102 #[.pointer (some ⟨b, 0, none⟩)] (Value.int .i64) (fun x => !inB ns x) w := fun W x hB => gv W x (hS.under hB).tail
  have hpo : Go.Proofs.PredOver Try.prog 102 #[.pointer (some ⟨b, 0, none⟩)] (Value.int .i64) (fun x => !inB ns x) b0 0 ls.toArray.size w := fun n os dk x hd => gv _ x (by
    have h1 := (hS.putI dk.toList (by simpa using hd) n os).tail
    simpa [sortWorld] using h1)
  have h := Go.Proofs.AnyE.slices_DeleteFunc Try.delA (Value.int .i64) (fun _ => rfl) (fun x => !inB ns x) 102 #[.pointer (some ⟨b, 0, none⟩)] (Go.Proofs.enters_of Try.func102 (by kernel_rfl) rfl) 0 Try.zeroValue3 b0 0 c ls.toArray w hp hpo hH (by simp; omega) (by simpa using hcap)
  have hf : (ls.toArray.toList.filter fun x => !(fun x => !inB ns x) x) = ls.filter (inB ns) := by simp
  have hsz : ls.toArray.size = (i64s ls).length := by simp
  rw [hf, hsz] at h
  refine ⟨⟨_, _, Try.func103, by kernel_rfl, rfl⟩, h.mono fun e w' ⟨he, n, hw⟩ => ⟨_, he, by rw [i64s_len], ?_⟩⟩
  subst hw
  have hfl : (ls.filter (inB ns)).length ≤ ls.length := List.length_filter_le _ _
  have h2 := hS.putI (ls.filter (inB ns) ++ List.replicate (ls.length - (ls.filter (inB ns)).length) 0) (by simp; omega) n #[]
  rw [i64s_len]
  have h3 := h2.ownTake (ls.filter (inB ns)).length
  rw [i64s_take, List.take_left] at h3
  simpa using h3
set_option maxHeartbeats 2000000 in
set_option maxRecDepth 8192 in
theorem needed_spec {g w : World} {L : List HP} (p m : Nat) (cap last : Int) (xs : List VN) (q : Nat) (ss : List Int) (hG : GOk xs q) (hK : Keys xs ss) (hS : St g (cel p #[.int .i64 cap, .int .i64 last, .map (some m)] 161 :: blk m (.map (mE (List.map vK xs)) q) :: Shs vF xs :: L) w) :
    Sp Try.prog 101 [.pointer (some ⟨p, 0, none⟩)] w (fun v w' => ∃ (m2 q2 : Nat) (ns : List (Int × Nat)), v = .map (some m2) ∧ St g (blk m2 (.map (mE (List.map bK ns)) q2) :: cel p #[.int .i64 cap, .int .i64 last, .map (some m)] 161 :: blk m (.map (mE (List.map vK xs)) q) :: Shs vF xs :: L) w' ∧ (BUq ns) ∧ (∀ z, inB ns z = true ↔ needG xs z)) := by
  refine Sp.enter Try.func101 rfl (by kernel_rfl) (by kernel_rfl) ?_
  refine WC.seq ?_
  refine WC.region ?_
  have hu := hG.uniq; have ht := hG.toVOk; have hsl := i64s_len ss; have hssl : ss.length ≤ 4096 := by rw [hK.perm.length_eq, List.length_map]; exact hG.num
  refine WL.r 1 rfl ?_
  refine WL.nil ?_
  refine WC.seq ?_
  refine WC.region ?_
  refine WL.mkM rfl rfl hS (fun b1 w hS => ?_)
  refine WL.r 1 rfl ?_
  refine WL.nil ?_
  refine WC.seq ?_
  refine WC.region ?_
  refine WL.r 1 rfl ?_
  refine WL.nil ?_
  refine WC.seq ?_
  refine WC.seq ?_
  refine WC.region ?_
  refine WL.r 1 rfl ?_
  refine WL.call rfl rfl (vers_spec (p := p) (m := m) (cap := cap) (last := last) (xs := xs) (q := q) (ss := ss) (ht := (by first | assumption | exact (GI.ok (by assumption)).toVOk)) (hp := hK.perm) (hs := hK.le) (hS := (hS.sel 4 [1, 1, 1, 0] rfl))) rfl ?_
  clear hS; rintro _ w ⟨a1, c1, rfl, hS⟩
  replace hS : St g (Own 3 1 (i64s ss) a1 c1 :: cel p #[.int .i64 cap, .int .i64 last, .map (some m)] 161 :: blk m (.map (mE (List.map vK xs)) q) :: Shs vF xs :: blk b1 (.map (mE []) 0) :: L) w := hS
  refine WL.r 2 rfl ?_
  refine WL.nil ?_
  refine WC.block ?_
  replace hS := hS.nil_ 3 1
  refine WC.loop [0, 2, 3, 4, 12, 13, 14] (fun kM vs w => ∃ (k : Nat) (ns : List (Int × Nat)) (q2 : Nat) (lv : List Int) (u : Option Addr) (d : Nat), vs = [.pointer (some ⟨p, 0, none⟩), .map none, .map (some b1), .slice u (List.length (i64s lv)) d, .slice a1 (List.length (i64s ss)) c1, .int .i64 (List.length (i64s ss) : Int), .int .i64 (k : Int)] ∧ St g (Own 3 1 (i64s lv) u d :: Own 3 1 (i64s ss) a1 c1 :: cel p #[.int .i64 cap, .int .i64 last, .map (some m)] 161 :: blk m (.map (mE (List.map vK xs)) q) :: Shs vF xs :: blk b1 (.map (mE (List.map bK ns)) q2) :: L) w ∧ (k ≤ ss.length) ∧ (lv = (List.take k ss).filter (liveG xs)) ∧ (BUq ns) ∧ (∀ z, inB ns z = true ↔ z ∈ lv ∨ (0 < z ∧ ∃ x ∈ lv, ∃ y ∈ lv, x < y ∧ baseG xs x y = z)) ∧ (ss.length - k) = kM) ((List.length ss) - 0) ⟨0, [], 0, [], none, 0, rfl, hS, (Nat.zero_le _), (rfl), (List.Pairwise.nil), (fun z => by simp [inB]), rfl⟩ ?_
  clear hS; rintro _ _ w j ⟨k, ns, q2, lv, u, d, rfl, hS, hk, hlv, hns, hm, rfl⟩
  refine WC.seq ?_
  refine WC.region ?_
  refine WL.r 1 rfl ?_
  refine WL.nil ?_
  as_aux_lemma =>
    refine WC.seq ?_
    refine WC.ifP rfl (fun cd1 => ?_) (fun cd1 => ?_)
    · refine WC.skip ?_
      refine WC.seq ?_
      refine WC.block ?_
      refine WC.seq ?_
      refine WC.region ?_
      obtain ⟨n, hn⟩ : ∃ u, ss[k]? = some u := ⟨_, List.getElem?_eq_getElem (by omega)⟩; have hlvl : lv.length ≤ k := by rw [hlv]; exact Nat.le_trans (List.length_filter_le _ _) (by rw [List.length_take]; omega)
      refine WL.ix rfl rfl (i := (k : Int)) (k) el_33 rfl rfl (by omega) (by omega) (hS.rdO 1 rfl (i64s_at hn)).1 ?_
      refine WL.run 2 [.int .i64 n] rfl (by exact (hS.rdO 1 rfl (i64s_at hn)).2 0 _ rfl) ?_
      refine WL.nil ?_
      refine WC.seq ?_
      refine WC.seq ?_
      refine WC.region ?_
      refine WL.r 2 rfl ?_
      refine WL.call rfl rfl (live_spec (p := p) (m := m) (cap := cap) (last := last) (xs := xs) (q := q) (n := n) (hu := (by first | assumption | exact (GI.ok (by assumption)).uniq)) (hS := (hS.sel 5 [2, 2, 2, 0, 0] rfl))) rfl ?_
      clear hS; rintro _ w ⟨rfl, hS⟩
      replace hS : St g (cel p #[.int .i64 cap, .int .i64 last, .map (some m)] 161 :: blk m (.map (mE (List.map vK xs)) q) :: Shs vF xs :: Own 3 1 (i64s lv) u d :: Own 3 1 (i64s ss) a1 c1 :: blk b1 (.map (mE (List.map bK ns)) q2) :: L) w := hS
      refine WL.r 1 rfl ?_
      refine WL.nil ?_
      refine WC.if_ rfl (fun cd2 => ?_) (fun cd2 => ?_)
      · refine WC.exit ?_
        refine WC.region ?_
        refine WL.r 1 rfl ?_
        refine WL.nw 43 rfl (w64 (by omega)) ?_
        refine WL.r 1 rfl ?_
        refine WL.nil ?_
        exact ⟨_, by omega, k + 1, ns, q2, lv, u, d, rfl, (hS.sel 5 [3, 3, 0, 0, 0] rfl), (by omega), (by rw [hlv]; exact (fl_skip hn (by simpa using cd2)).symm), (hns), (hm), rfl⟩
      · refine WC.skip ?_
        refine WC.seq ?_
        refine WC.region ?_
        refine WL.r 2 rfl ?_
        refine WL.muB rfl rfl rfl mt_179 5 hS rfl rfl rfl rfl hns (fun ns1 qs1 w hns1 hmem1 hS => ?_)
        replace hS : St g (cel p #[.int .i64 cap, .int .i64 last, .map (some m)] 161 :: blk m (.map (mE (List.map vK xs)) q) :: Shs vF xs :: Own 3 1 (i64s lv) u d :: Own 3 1 (i64s ss) a1 c1 :: blk b1 (.map (mE (List.map bK ns1)) qs1) :: L) w := hS
        refine WL.nil ?_
        as_aux_lemma =>
          refine WC.seq ?_
          refine WC.seq ?_
          refine WC.region ?_
          have hll := i64s_len lv
          refine WL.r 3 rfl ?_
          refine WL.nil ?_
          refine WC.block ?_
          refine WC.loop [0, 2, 3, 4, 6, 12, 13, 14, 15, 16, 17, 18, 19, 20, 21, 22, 23, 24, 25, 26] (fun kM vs w => ∃ (k2 : Nat) (nsb : List (Int × Nat)) (qb : Nat), vs = [.pointer (some ⟨p, 0, none⟩), .map none, .map (some b1), .slice u (List.length (i64s lv)) d, .int .i64 n, .slice a1 (List.length (i64s ss)) c1, .int .i64 (List.length (i64s ss) : Int), .int .i64 (k : Int), .bool (decide ((k : Int) < (List.length (i64s ss) : Int))), .pointer (some ⟨bo a1, (oo a1) + (k * 1), none⟩), .int .i64 n, .pointer (some ⟨p, 0, none⟩), .int .i64 n, .bool (liveG xs n), .bool (! (liveG xs n)), .map (some b1), .int .i64 n, .slice u (List.length (i64s lv)) d, .int .i64 (List.length (i64s lv) : Int), .int .i64 (k2 : Int)] ∧ St g (cel p #[.int .i64 cap, .int .i64 last, .map (some m)] 161 :: blk m (.map (mE (List.map vK xs)) q) :: Shs vF xs :: Own 3 1 (i64s lv) u d :: Own 3 1 (i64s ss) a1 c1 :: blk b1 (.map (mE (List.map bK nsb)) qb) :: L) w ∧ (k2 ≤ lv.length) ∧ (BUq nsb) ∧ (∀ z, inB nsb z = true ↔ z = n ∨ inB ns z = true ∨ (0 < z ∧ ∃ x ∈ List.take k2 lv, baseG xs x n = z)) ∧ (lv.length - k2) = kM) ((List.length lv) - 0) ⟨0, ns1, qs1, rfl, hS, (Nat.zero_le _), (hns1), (fun z => by rw [hmem1]; simp), rfl⟩ ?_
          clear hS; rintro _ _ w j ⟨k2, nsb, qb, rfl, hS, hk2, hnb, hmb, rfl⟩
          refine WC.seq ?_
          refine WC.region ?_
          have hll := i64s_len lv
          refine WL.r 1 rfl ?_
          refine WL.nil ?_
          refine WC.seq ?_
          refine WC.ifP rfl (fun cd3 => ?_) (fun cd3 => ?_)
          · refine WC.skip ?_
            refine WC.seq ?_
            refine WC.block ?_
            refine WC.seq ?_
            refine WC.region ?_
            obtain ⟨x, hx⟩ : ∃ u, lv[k2]? = some u := ⟨_, List.getElem?_eq_getElem (by omega)⟩
            refine WL.ix rfl rfl (i := (k2 : Int)) (k2) el_33 rfl rfl (by omega) (by omega) (hS.rdO 3 rfl (i64s_at hx)).1 ?_
            refine WL.run 2 [.int .i64 x] rfl (by exact (hS.rdO 3 rfl (i64s_at hx)).2 0 _ rfl) ?_
            refine WL.nil ?_
            as_aux_lemma =>
              refine WC.seq ?_
              refine WC.region ?_
              refine WL.r 3 rfl ?_
              refine WL.call rfl rfl (base_spec (p := p) (m := m) (cap := cap) (last := last) (xs := xs) (q := q) (n1 := x) (n2 := n) (hG := (by first | assumption | exact GI.ok (by assumption))) (hS := hS)) rfl ?_
              clear hS; rintro _ w ⟨rfl, hS⟩
              replace hS : St g (cel p #[.int .i64 cap, .int .i64 last, .map (some m)] 161 :: blk m (.map (mE (List.map vK xs)) q) :: Shs vF xs :: Own 3 1 (i64s lv) u d :: Own 3 1 (i64s ss) a1 c1 :: blk b1 (.map (mE (List.map bK nsb)) qb) :: L) w := hS
              refine WL.r 1 rfl ?_
              refine WL.nil ?_
              refine WC.seq ?_
              refine WC.region ?_
              refine WL.r 2 rfl ?_
              refine WL.nil ?_
              refine WC.ifP rfl (fun cd4 => ?_) (fun cd4 => ?_)
              · refine WC.region ?_
                refine WL.r 2 rfl ?_
                refine WL.muB rfl rfl rfl mt_179 5 hS rfl rfl rfl rfl hnb (fun ns2 qs2 w hns2 hmem2 hS => ?_)
                replace hS : St g (cel p #[.int .i64 cap, .int .i64 last, .map (some m)] 161 :: blk m (.map (mE (List.map vK xs)) q) :: Shs vF xs :: Own 3 1 (i64s lv) u d :: Own 3 1 (i64s ss) a1 c1 :: blk b1 (.map (mE (List.map bK ns2)) qs2) :: L) w := hS
                refine WL.nil ?_
                refine WC.region ?_
                refine WL.r 1 rfl ?_
                refine WL.nw 38 rfl (w64 (by omega)) ?_
                refine WL.r 1 rfl ?_
                refine WL.nil ?_
                exact ⟨_, by omega, k2 + 1, ns2, qs2, rfl, hS, (by omega), (hns2), (need_in hmb hx cd4 hmem2), rfl⟩
              · refine WC.skip ?_
                refine WC.region ?_
                refine WL.r 1 rfl ?_
                refine WL.nw 38 rfl (w64 (by omega)) ?_
                refine WL.r 1 rfl ?_
                refine WL.nil ?_
                exact ⟨_, by omega, k2 + 1, nsb, qb, rfl, hS, (by omega), (hnb), (need_in0 hmb hx cd4), rfl⟩
          · refine WC.exit ?_
            refine WC.region ?_
            have hll2 := i64s_len lv
            refine WL.r 2 rfl ?_
            refine WL.lit rfl rfl (i64s [n]) el_33 hS (by exact ⟨rfl, rfl⟩) (i64s_ok _) rfl (by decide) (fun b2 w hS => ?_)
            refine WL.app rfl rfl 4 (i64s (lv ++ [n])) el_33 hS rfl (hS.srcO 0 rfl) (i64s_app _ _).symm (Rm.of (by first | omega | (simp <;> omega)) (by decide)) rfl rfl (fun a2 c2 w hS => ?_)
            replace hS : St g (Own 3 1 (i64s [n]) (some ⟨b2, 0, none⟩) (List.length (i64s [n])) :: cel p #[.int .i64 cap, .int .i64 last, .map (some m)] 161 :: blk m (.map (mE (List.map vK xs)) q) :: Shs vF xs :: Own 3 1 (i64s (lv ++ [n])) a2 c2 :: Own 3 1 (i64s ss) a1 c1 :: blk b1 (.map (mE (List.map bK nsb)) qb) :: L) w := hS
            refine WL.r 1 rfl ?_
            refine WL.nil ?_
            as_aux_lemma =>
              refine WC.region ?_
              refine WL.r 1 rfl ?_
              refine WL.nw 43 rfl (w64 (by omega)) ?_
              refine WL.r 1 rfl ?_
              refine WL.nil ?_
              exact ⟨_, by omega, k + 1, nsb, qb, lv ++ [n], a2, c2, rfl, (hS.sel 6 [4, 4, 1, 1, 1] rfl), (by omega), (by rw [hlv]; exact (fl_take hn (by simpa using cd2)).symm), (hnb), (need_next hm (fun z => by rw [hmb, List.take_of_length_le (by omega)]) (fun x hx => by rw [hlv] at hx; exact take_lt hK.asc hn x (List.mem_filter.1 hx).1)), rfl⟩
    · refine WC.exit ?_
      refine WC.seq ?_
      refine WC.region ?_
      refine WL.r 2 rfl ?_
      refine WL.nil ?_
      refine WC.ret ?_
      refine ⟨[.map (some b1)], rfl, ?_⟩
      replace hS := (hS.sel 6 [5, 2, 2, 2] rfl)
      exact ⟨_, _, _, rfl, hS, hns, need_end hK (by rw [hlv, List.take_of_length_le (by omega)] at hm; exact hm)⟩
end Go.Proofs.Ytlnlnebibgdjdaa
