/-
  The law AncestryForgets, walked.
  Conditions: the arguments lie in their kinds.
-/
import Derived.Test.YtjoilgpleaemcaaA7
namespace Go.Proofs.Ytjoilgpleaemcaa
open Go Go.V

theorem pre_rel {xs xs2 : List VN} {q : Nat} {n : Int} (hG : GOk xs q) (h : RelQ xs n xs2) : ∀ z, preG xs2 z = true → preG xs z = true ∨ z = 0 := fun z hz => by
  rcases h with ⟨_, h⟩ | ⟨_, rfl⟩
  · exact .inl ((h.facts hG).2.1 z hz)
  · exact .inl hz
theorem pre_add {xs xs2 : List VN} {cap la la2 : Int} {ps : List Int} (hl : ∀ x ∈ xs, x.n ≤ la) (h : AddP xs cap la ps xs2 la2) : ∀ z, preG xs2 z = true → preG xs z = true ∨ z = addV xs cap la ps := fun z hz => by
  rcases h.facts hl with ⟨_, rfl, _⟩ | ⟨h0, _, _, _, h5, _⟩
  · exact .inl hz
  · rw [h5] at hz
    simp only [Bool.or_eq_true, decide_eq_true_eq] at hz
    rcases hz with hz | hz
    · exact .inl hz
    · exact .inr (by rw [addV, if_pos h0]; exact hz)
theorem pre_add0 {xs xs2 : List VN} {cap la la2 : Int} {ps : List Int} (hl : ∀ x ∈ xs, x.n ≤ la) (h : AddP xs cap la ps xs2 la2) (h0 : addE xs cap ps ≠ 0) : (∀ z, preG xs2 z = true → preG xs z = true ∨ z = 0) ∧ la2 = la := by
  obtain ⟨_, rfl, e⟩ := (h.facts hl).resolve_right (fun k => h0 k.1)
  exact ⟨fun z hz => .inl hz, e⟩
set_option maxHeartbeats 2000000 in
set_option maxRecDepth 8192 in
theorem law_forgets {g w : World} {L : List HP} (cap : Int) (ls : List Cg) (a : Option Addr) (c : Nat) (ms : List Cg) (b : Option Addr) (d : Nat) (hc : Ir cap) (hls : ∀ z ∈ ls, CgOk z ∧ z.ps.length ≤ maxLen) (hms : ∀ z ∈ ms, CgOk z ∧ z.ps.length ≤ maxLen) (hS : St g (Sh 38 3 (enG ls) a c :: Shs cgF ls :: Sh 38 3 (enG ms) b d :: Shs cgF ms :: L) w) :
    Sp Try.prog 4 [.int .i64 cap, .slice a (List.length (enG ls)) c, .slice b (List.length (enG ms)) d] w (fun v w' => v = .bool true ∧ St g (L) w') := by
  refine Sp.enter Try.func4 rfl (by kernel_rfl) (by kernel_rfl) ?_
  refine WC.seq ?_
  refine WC.region ?_
  refine WL.r 1 rfl ?_
  refine WL.nil ?_
  refine WC.seq ?_
  refine WC.region ?_
  have hel := enG_len ms
  refine WL.r 1 rfl ?_
  refine WL.call rfl rfl (mod_spec (k := cap) (n := 40) (hk := hc) (hn := (by omega)) (hS := hS)) rfl ?_
  clear hS; rintro _ w ⟨rfl, hS⟩
  replace hS : St g (Sh 38 3 (enG ls) a c :: Shs cgF ls :: Sh 38 3 (enG ms) b d :: Shs cgF ms :: L) w := hS
  refine WL.r 1 rfl ?_
  refine WL.nw 21 rfl (w64 (by omega)) ?_
  refine WL.r 1 rfl ?_
  refine WL.call rfl rfl (play_spec (n := 2 + (cap % 40)) (ls := ls) (a := a) (c := c) (hn := (by omega)) (hls := hls) (hS := hS)) rfl ?_
  clear hS; rintro _ w ⟨p1, m1, xs1, q1, last1, rfl, hS, f1, f2, f3⟩
  replace hS : St g (cel p1 #[.int .i64 (2 + (cap % 40)), .int .i64 last1, .map (some m1)] 60 :: blk m1 (.map (mE (List.map vK xs1)) q1) :: Shs vF xs1 :: Sh 38 3 (enG ls) a c :: Shs cgF ls :: Sh 38 3 (enG ms) b d :: Shs cgF ms :: L) w := hS
  refine WL.r 5 rfl ?_
  refine WL.nil ?_
  refine WC.seq ?_
  refine WC.seq ?_
  refine WC.region ?_
  refine WL.call rfl rfl (awake_spec   (hS := hS)) rfl ?_
  clear hS; rintro _ w ⟨rfl, hS⟩
  replace hS : St g (cel p1 #[.int .i64 (2 + (cap % 40)), .int .i64 last1, .map (some m1)] 60 :: blk m1 (.map (mE (List.map vK xs1)) q1) :: Shs vF xs1 :: Sh 38 3 (enG ls) a c :: Shs cgF ls :: Sh 38 3 (enG ms) b d :: Shs cgF ms :: L) w := hS
  refine WL.r 2 rfl ?_
  refine WL.ung rfl rfl rfl ?_
  refine WL.r 1 rfl ?_
  refine WL.ung rfl rfl rfl ?_
  refine WL.r 2 rfl ?_
  refine WL.nil ?_
  as_aux_lemma =>
    refine WC.ifF rfl rfl ?_
    refine WC.skip ?_
    refine WC.seq ?_
    refine WC.seq ?_
    refine WC.region ?_
    refine WL.r 1 rfl ?_
    refine WL.nil ?_
    refine WC.block ?_
    replace hS := hS.sel 7 [0, 0, 0, 2, 2] rfl
    replace hS : St g (cel p1 #[.int .i64 (2 + cap % 40), .int .i64 last1, .map (some m1)] 60 :: blk m1 (.map (mE (List.map vK xs1)) q1) :: Shs vF xs1 :: Sh 38 3 (enG ms) b d :: Shs cgF ms :: L) w := hS
    refine WC.loop [2, 7, 8, 9] (fun kM vs w => ∃ (k : Nat) (xs : List VN) (q : Nat) (la ad : Int), vs = [.slice b (List.length (enG ms)) d, .pointer (some ⟨p1, 0, none⟩), .int .i64 ad, .int .i64 (k : Int)] ∧ St g (cel p1 #[.int .i64 (2 + cap % 40), .int .i64 la, .map (some m1)] 60 :: blk m1 (.map (mE (List.map vK xs)) q) :: Shs vF xs :: Sh 38 3 (enG ms) b d :: Shs cgF ms :: L) w ∧ (k ≤ ms.length ∧ k ≤ 12) ∧ (GI xs q (2 + cap % 40) la) ∧ (la ≤ 60 + k) ∧ (ad = la) ∧ (12 - k) = kM) (12 - 0) ⟨0, xs1, q1, last1, last1, rfl, hS, (by omega), (f1), (by omega), (rfl), rfl⟩ ?_
    clear hS; rintro _ _ w j ⟨k, xs, q, la, ad, rfl, hS, hk, hI, hla, had0, rfl⟩
    refine WC.seq ?_
    refine WC.seq ?_
    refine WC.region ?_
    refine WL.r 4 rfl ?_
    refine WL.rG 4 rfl (fun j => ?_)
    refine WL.prop 39 rfl (band (dd _) (dd _)) ?_
    refine WL.nil ?_
    refine WC.ifP rfl (fun cd1 => ?_) (fun cd1 => ?_)
    · refine WC.skip ?_
      refine WC.seq ?_
      refine WC.block ?_
      refine WC.seq ?_
      refine WC.region ?_
      obtain ⟨z, hz⟩ : ∃ z, ms[k]? = some z := ⟨_, List.getElem?_eq_getElem (by omega)⟩; obtain ⟨hz1, hz2⟩ := hms z (List.mem_of_getElem? hz); have hla0 := hI.la; obtain ⟨ss, hK⟩ := keys_ex hI.ok.uniq; have hnum := hI.ok.num; have hkl := keys_len hK.perm; have hsl := i64s_len ss
      refine WL.r 1 rfl ?_
      refine WL.call rfl rfl (vers_spec (p := p1) (m := m1) (cap := 2 + cap % 40) (last := la) (xs := xs) (q := q) (ss := ss) (ht := (by first | assumption | exact (GI.ok (by assumption)).toVOk)) (hp := hK.perm) (hs := hK.le) (hS := hS)) rfl ?_
      clear hS; rintro _ w ⟨a1, c1, rfl, hS⟩
      replace hS : St g (Own 3 1 (i64s ss) a1 c1 :: cel p1 #[.int .i64 (2 + cap % 40), .int .i64 la, .map (some m1)] 60 :: blk m1 (.map (mE (List.map vK xs)) q) :: Shs vF xs :: Sh 38 3 (enG ms) b d :: Shs cgF ms :: L) w := hS
      refine WL.r 1 rfl ?_
      refine WL.nil ?_
      as_aux_lemma =>
        refine WC.seq ?_
        refine WC.region ?_
        replace hS : St g (Sh 3 1 (i64s z.ps) z.a z.c :: Own 3 1 (i64s ss) a1 c1 :: cel p1 #[.int .i64 (2 + cap % 40), .int .i64 la, .map (some m1)] 60 :: blk m1 (.map (mE (List.map vK xs)) q) :: Shs vF xs :: Sh 38 3 (enG ms) b d :: Shs cgF ms :: L) w := hS.shsGet 5 rfl (List.mem_of_getElem? hz)
        refine WL.r 2 rfl ?_
        refine WL.ix rfl rfl (i := (k : Int)) (k) el_33 rfl rfl (by omega) (len_of (enG_at hz)) (hS.rdS 5 rfl (enG_at hz)).1 ?_
        refine WL.ldC rfl rfl [.bool z.rel, .int .i64 z.ver, .slice z.a (List.length (i64s z.ps)) z.c] ag_38 rfl (hS.rdS 5 rfl (enG_at hz)).2 ?_
        refine WL.r 1 rfl ?_
        refine WL.call rfl rfl (args_spec (z := z) (n := ad) (hz := (by assumption)) (hn := (by omega)) (hl := (by assumption)) (hS := hS)) rfl ?_
        clear hS; rintro _ w ⟨ver1, ps1, a2, c2, rfl, hS, f4, f5⟩
        replace hS : St g (Own 3 1 (i64s ps1) a2 c2 :: Sh 3 1 (i64s z.ps) z.a z.c :: Own 3 1 (i64s ss) a1 c1 :: cel p1 #[.int .i64 (2 + cap % 40), .int .i64 la, .map (some m1)] 60 :: blk m1 (.map (mE (List.map vK xs)) q) :: Shs vF xs :: Sh 38 3 (enG ms) b d :: Shs cgF ms :: L) w := hS
        refine WL.r 5 rfl ?_
        refine WL.nil ?_
        refine WC.seq ?_
        refine WC.region ?_
        refine WL.r 1 rfl ?_
        refine WL.nil ?_
        refine WC.seq ?_
        refine WC.seq ?_
        refine WC.region ?_
        refine WL.r 2 rfl ?_
        refine WL.ix rfl rfl (i := (k : Int)) (k) el_33 rfl rfl (by omega) (len_of (enG_at hz)) (hS.rdS 6 rfl (enG_at hz)).1 ?_
        refine WL.run 2 [.bool z.rel] rfl (by exact (hS.rdS 6 rfl (enG_at hz)).2 0 _ rfl) ?_
        refine WL.nil ?_
        refine WC.cut [2, 7, 8, 9, 10, 11, 12, 13, 32, 33, 34, 35, 36, 39, 42, 43, 44, 45, 46, 47, 48, 49, 50, 51, 52, 53, 54, 55, 56, 57] (fun vs w => ∃ (xj : List VN) (qj : Nat) (laj adj frj : Int), vs = [.slice b (List.length (enG ms)) d, .pointer (some ⟨p1, 0, none⟩), .int .i64 adj, .int .i64 (k : Int), .slice a1 (List.length (i64s ss)) c1, .int .i64 ver1, .slice a2 (List.length (i64s ps1)) c2, .int .i64 frj, .int .i64 (k : Int), .slice b (List.length (enG ms)) d, .int .i64 (List.length (enG ms) : Int), .bool (decide ((k : Int) < (List.length (enG ms) : Int))), .bool (decide ((k : Int) < (List.length (enG ms) : Int))), .bool (decide (((k : Int) < (List.length (enG ms) : Int)) ∧ ((k : Int) < 12))), .pointer (some ⟨p1, 0, none⟩), .slice a1 (List.length (i64s ss)) c1, .tuple #[.int .i64 ver1, .slice a2 (List.length (i64s ps1)) c2], .slice b (List.length (enG ms)) d, .int .i64 (k : Int), .pointer (some ⟨bo b, (oo b) + (k * 3), none⟩), .agg #[.bool z.rel, .int .i64 z.ver, .slice z.a (List.length (i64s z.ps)) z.c], .int .i64 ad, .tuple #[.int .i64 ver1, .slice a2 (List.length (i64s ps1)) c2], .int .i64 ver1, .slice a2 (List.length (i64s ps1)) c2, .slice b (List.length (enG ms)) d, .int .i64 (k : Int), .pointer (some ⟨bo b, (oo b) + (k * 3), none⟩), .pointer (some ⟨bo b, (oo b) + (k * 3), none⟩), .bool z.rel] ∧ St g (Own 3 1 (i64s ss) a1 c1 :: cel p1 #[.int .i64 (2 + cap % 40), .int .i64 laj, .map (some m1)] 60 :: blk m1 (.map (mE (List.map vK xj)) qj) :: Shs vF xj :: Sh 38 3 (enG ms) b d :: Shs cgF ms :: L) w ∧ (GI xj qj (2 + cap % 40) laj) ∧ (laj ≤ 61 + k) ∧ (adj = laj) ∧ (∀ z, preG xj z = true → preG xs z = true ∨ z = frj) ∧ (0 < frj → xj.length = xs.length + 1)) ?_ ?_
        · refine WC.if_ rfl (fun cd2 => ?_) (fun cd2 => ?_)
          · refine WC.region ?_
            refine WL.r 2 rfl ?_
            refine WL.call rfl rfl (rel_spec (p := p1) (m := m1) (cap := 2 + cap % 40) (last := la) (xs := xs) (q := q) (n := ver1) (hI := (by assumption)) (hS := (hS.sel 6 [3, 3, 3, 0, 0, 0] rfl))) rfl ?_
            clear hS; rintro _ w ⟨xs2, rfl, hS, f6, f7⟩
            replace hS : St g (cel p1 #[.int .i64 (2 + cap % 40), .int .i64 la, .map (some m1)] 60 :: blk m1 (.map (mE (List.map vK xs2)) q) :: Shs vF xs2 :: Own 3 1 (i64s ps1) a2 c2 :: Sh 3 1 (i64s z.ps) z.a z.c :: Own 3 1 (i64s ss) a1 c1 :: Sh 38 3 (enG ms) b d :: Shs cgF ms :: L) w := hS
            refine WL.nil ?_
            exact ⟨xs2, q, la, ad, 0, rfl, (hS.sel 6 [5, 0, 0, 0] rfl), (f6), (by omega), (had0), (pre_rel hI.ok f7), (fun h => absurd h (by decide))⟩
          · refine WC.seq ?_
            refine WC.region ?_
            refine WL.r 2 rfl ?_
            replace hS := (hS.at_ 0 rfl).share
            replace hS : St g (Sh 3 1 (i64s ps1) a2 c2 :: Sh 3 1 (i64s z.ps) z.a z.c :: Own 3 1 (i64s ss) a1 c1 :: cel p1 #[.int .i64 (2 + cap % 40), .int .i64 la, .map (some m1)] 60 :: blk m1 (.map (mE (List.map vK xs)) q) :: Shs vF xs :: Sh 38 3 (enG ms) b d :: Shs cgF ms :: L) w := hS
            refine WL.call rfl rfl (add_spec (p := p1) (m := m1) (cap := 2 + cap % 40) (last := la) (xs := xs) (q := q) (ps := ps1) (a := a2) (c := c2) (hI := (by assumption)) (hla := (by omega)) (hS := (hS.sel 6 [0, 2, 2, 2, 0, 0] rfl))) rfl ?_
            clear hS; rintro _ w ⟨xs2, q2, last2, rfl, hS, f6, f7⟩
            replace hS : St g (Sh 3 1 (i64s ps1) a2 c2 :: cel p1 #[.int .i64 (2 + cap % 40), .int .i64 last2, .map (some m1)] 60 :: blk m1 (.map (mE (List.map vK xs2)) q2) :: Shs vF xs2 :: Sh 3 1 (i64s z.ps) z.a z.c :: Own 3 1 (i64s ss) a1 c1 :: Sh 38 3 (enG ms) b d :: Shs cgF ms :: L) w := hS
            refine WL.r 5 rfl ?_
            refine WL.nil ?_
            as_aux_lemma =>
              refine WC.seq ?_
              refine WC.region ?_
              refine WL.r 2 rfl ?_
              refine WL.nil ?_
              refine WC.ifP rfl (fun cd3 => ?_) (fun cd3 => ?_)
              · refine WC.region ?_
                refine WL.r 4 rfl ?_
                refine WL.nil ?_
                exact ⟨xs2, q2, last2, addV xs (2 + cap % 40) la ps1, addV xs (2 + cap % 40) la ps1, rfl, (hS.sel 6 [5, 1, 1, 1] rfl), (f6), (by have := f7.bnd; omega), (by rw [addV, if_pos cd3, (f7.vw hI.le cd3).1]), (pre_add hI.le f7), (fun _ => (f7.vw hI.le cd3).2.1)⟩
              · refine WC.skip ?_
                exact ⟨xs2, q2, last2, ad, 0, rfl, (hS.sel 6 [5, 1, 1, 1] rfl), (f6), (by have := f7.bnd; omega), (had0.trans (pre_add0 hI.le f7 cd3).2.symm), (pre_add0 hI.le f7 cd3).1, (fun h => absurd h (by decide))⟩
        clear hS; rintro _ w j ⟨xj, qj, laj, adj, frj, rfl, hS, hIj, hlaj, had, hpj, hlj⟩
        as_aux_lemma =>
          refine WC.seq ?_
          refine WC.region ?_
          obtain ⟨ss2, hK2⟩ := keys_ex hIj.ok.uniq; have hkl2 := keys_len hK2.perm; have hsl2 := i64s_len ss2; have hnum2 := hIj.ok.num
          replace hS := (hS.at_ 0 rfl).share
          replace hS : St g (Sh 3 1 (i64s ss) a1 c1 :: cel p1 #[.int .i64 (2 + cap % 40), .int .i64 laj, .map (some m1)] 60 :: blk m1 (.map (mE (List.map vK xj)) qj) :: Shs vF xj :: Sh 38 3 (enG ms) b d :: Shs cgF ms :: L) w := hS
          refine WL.r 1 rfl ?_
          refine WL.call rfl rfl (vers_spec (p := p1) (m := m1) (cap := 2 + cap % 40) (last := laj) (xs := xj) (q := qj) (ss := ss2) (ht := (by first | assumption | exact (GI.ok (by assumption)).toVOk)) (hp := hK2.perm) (hs := hK2.le) (hS := (hS.sel 4 [1, 1, 1, 0] rfl))) rfl ?_
          clear hS; rintro _ w ⟨a3, c3, rfl, hS⟩
          replace hS : St g (Own 3 1 (i64s ss2) a3 c3 :: cel p1 #[.int .i64 (2 + cap % 40), .int .i64 laj, .map (some m1)] 60 :: blk m1 (.map (mE (List.map vK xj)) qj) :: Shs vF xj :: Sh 3 1 (i64s ss) a1 c1 :: Sh 38 3 (enG ms) b d :: Shs cgF ms :: L) w := hS
          refine WL.r 1 rfl ?_
          refine WL.nil ?_
          refine WC.seq ?_
          refine WC.seq ?_
          refine WC.region ?_
          refine WL.r 1 rfl ?_
          refine WL.nil ?_
          refine WC.block ?_
          refine WC.loop [2, 7, 8, 9, 10, 11, 12, 13, 16, 17, 32, 33, 34, 35, 36, 39, 42, 43, 44, 45, 46, 47, 48, 49, 50, 51, 52, 53, 54, 55, 56, 57, 71, 72] (fun kM vs w => ∃ (i : Nat), vs = [.slice b (List.length (enG ms)) d, .pointer (some ⟨p1, 0, none⟩), .int .i64 adj, .int .i64 (k : Int), .slice a1 (List.length (i64s ss)) c1, .int .i64 ver1, .slice a2 (List.length (i64s ps1)) c2, .int .i64 frj, .slice a3 (List.length (i64s ss2)) c3, .int .i64 (i : Int), .int .i64 (k : Int), .slice b (List.length (enG ms)) d, .int .i64 (List.length (enG ms) : Int), .bool (decide ((k : Int) < (List.length (enG ms) : Int))), .bool (decide ((k : Int) < (List.length (enG ms) : Int))), .bool (decide (((k : Int) < (List.length (enG ms) : Int)) ∧ ((k : Int) < 12))), .pointer (some ⟨p1, 0, none⟩), .slice a1 (List.length (i64s ss)) c1, .tuple #[.int .i64 ver1, .slice a2 (List.length (i64s ps1)) c2], .slice b (List.length (enG ms)) d, .int .i64 (k : Int), .pointer (some ⟨bo b, (oo b) + (k * 3), none⟩), .agg #[.bool z.rel, .int .i64 z.ver, .slice z.a (List.length (i64s z.ps)) z.c], .int .i64 ad, .tuple #[.int .i64 ver1, .slice a2 (List.length (i64s ps1)) c2], .int .i64 ver1, .slice a2 (List.length (i64s ps1)) c2, .slice b (List.length (enG ms)) d, .int .i64 (k : Int), .pointer (some ⟨bo b, (oo b) + (k * 3), none⟩), .pointer (some ⟨bo b, (oo b) + (k * 3), none⟩), .bool z.rel, .pointer (some ⟨p1, 0, none⟩), .slice a3 (List.length (i64s ss2)) c3] ∧ St g (Own 3 1 (i64s ss2) a3 c3 :: cel p1 #[.int .i64 (2 + cap % 40), .int .i64 laj, .map (some m1)] 60 :: blk m1 (.map (mE (List.map vK xj)) qj) :: Shs vF xj :: Sh 3 1 (i64s ss) a1 c1 :: Sh 38 3 (enG ms) b d :: Shs cgF ms :: L) w ∧ (i ≤ ss2.length) ∧ (ss2.length - i) = kM) ((List.length ss2) - 0) ⟨0, rfl, hS, (Nat.zero_le _), rfl⟩ ?_
          clear hS; rintro _ _ w j ⟨i, rfl, hS, hi, rfl⟩
          refine WC.seq ?_
          refine WC.seq ?_
          refine WC.region ?_
          refine WL.r 4 rfl ?_
          refine WL.nil ?_
          refine WC.ifP rfl (fun cd2 => ?_) (fun cd2 => ?_)
          · refine WC.skip ?_
            as_aux_lemma =>
              refine WC.seq ?_
              refine WC.block ?_
              refine WC.seq ?_
              refine WC.region ?_
              obtain ⟨x, hx⟩ : ∃ x, ss2[i]? = some x := ⟨_, List.getElem?_eq_getElem (by omega)⟩; have hxp := hpj x ((hK2.mem x).1 (List.mem_of_getElem? hx))
              refine WL.r 2 rfl ?_
              refine WL.ix rfl rfl (i := (i : Int)) (i) el_28 rfl rfl (by omega) (len_of (i64s_at hx)) (hS.rdO 0 rfl (i64s_at hx)).1 ?_
              refine WL.run 4 [.int .i64 x] rfl (by exact (hS.rdO 0 rfl (i64s_at hx)).2 0 _ rfl) ?_
              by_cases cg1 : x ≠ frj
              · refine WL.reb 85 (.bool true) (congrArg Value.bool (decide_eq_true cg1)) ?_
                refine WL.ung rfl rfl rfl ?_
                refine WL.r 1 rfl ?_
                refine WL.ung rfl rfl rfl ?_
                refine WL.r 1 rfl ?_
                refine WL.ung rfl rfl rfl ?_
                refine WL.r 1 rfl ?_
                refine WL.ung rfl rfl rfl ?_
                refine WL.ix rfl rfl (i := (i : Int)) (i) el_28 rfl rfl (by omega) (len_of (i64s_at hx)) (hS.rdO 0 rfl (i64s_at hx)).1 ?_
                refine WL.ung rfl rfl rfl ?_
                refine WL.run 1 [.int .i64 x] rfl (by exact (hS.rdO 0 rfl (i64s_at hx)).2 0 _ rfl) ?_
                refine WL.ung rfl rfl rfl ?_
                refine WL.call rfl rfl (in_spec (ls := ss) (a := a1) (c := c1) (n := x) (hl := (by omega)) (hS := (hS.sel 5 [4, 0, 0, 0, 0] rfl))) rfl ?_
                clear hS; rintro _ w ⟨rfl, hS⟩
                replace hS : St g (Sh 3 1 (i64s ss) a1 c1 :: Own 3 1 (i64s ss2) a3 c3 :: cel p1 #[.int .i64 (2 + cap % 40), .int .i64 laj, .map (some m1)] 60 :: blk m1 (.map (mE (List.map vK xj)) qj) :: Shs vF xj :: Sh 38 3 (enG ms) b d :: Shs cgF ms :: L) w := hS
                refine WL.ung rfl rfl rfl ?_
                refine WL.r 1 rfl ?_
                refine WL.prop 92 rfl (bnot (dd _)) ?_
                refine WL.r 1 rfl ?_
                refine WL.nil ?_
                as_aux_lemma =>
                  refine WC.ifF rfl (decide_eq_false ((fun h => h ((hK.mem x).2 (hxp.resolve_right cg1))))) ?_
                  refine WC.skip ?_
                  refine WC.region ?_
                  refine WL.r 2 rfl ?_
                  refine WL.nw 78 rfl (w64 (by omega)) ?_
                  refine WL.r 1 rfl ?_
                  refine WL.nil ?_
                  exact ⟨_, by omega, i + 1, rfl, (hS.sel 5 [1, 1, 1, 1, 0] rfl), (by omega), rfl⟩
              · refine WL.reb 85 (.bool false) (congrArg Value.bool (decide_eq_false cg1)) ?_
                refine WL.skp rfl rfl rfl rfl ?_
                refine WL.skp rfl rfl rfl rfl ?_
                refine WL.skp rfl rfl rfl rfl ?_
                refine WL.skp rfl rfl rfl rfl ?_
                refine WL.skp rfl rfl rfl rfl ?_
                refine WL.skp rfl rfl rfl rfl ?_
                refine WL.skp rfl rfl rfl rfl ?_
                refine WL.r 1 rfl ?_
                refine WL.nil ?_
                refine WC.ifF rfl rfl ?_
                refine WC.skip ?_
                refine WC.region ?_
                refine WL.r 2 rfl ?_
                refine WL.nw 78 rfl (w64 (by omega)) ?_
                refine WL.r 1 rfl ?_
                refine WL.nil ?_
                exact ⟨_, by omega, i + 1, rfl, hS, (by omega), rfl⟩
          · refine WC.exit ?_
            as_aux_lemma =>
              refine WC.seq ?_
              refine WC.region ?_
              refine WL.r 2 rfl ?_
              refine WL.rG 8 rfl (fun j => ?_)
              refine WL.prop 103 rfl (band (dd _) (dd _)) ?_
              refine WL.nil ?_
              refine WC.ifF rfl (decide_eq_false ((fun h => h.2 (by have h9 := hlj h.1; rw [w64 (by omega)]; omega)))) ?_
              refine WC.skip ?_
              refine WC.region ?_
              refine WL.r 2 rfl ?_
              refine WL.nw 41 rfl (w64 (by omega)) ?_
              refine WL.r 1 rfl ?_
              refine WL.nil ?_
              exact ⟨_, by omega, k + 1, xj, qj, laj, adj, rfl, (hS.sel 5 [1, 1, 1] rfl), (by omega), (hIj), (by omega), (had), rfl⟩
    · refine WC.exit ?_
      refine WC.seq ?_
      refine WC.region ?_
      refine WL.r 1 rfl ?_
      refine WL.nil ?_
      as_aux_lemma =>
        refine WC.ret ?_
        refine ⟨[.bool true], rfl, ?_⟩
        replace hS := (hS.sel 5 [] rfl)
        exact ⟨rfl, hS⟩
end Go.Proofs.Ytjoilgpleaemcaa
