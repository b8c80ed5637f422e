/-
  The law AncestryKeepsOnlyBases, walked.
  Conditions: the arguments lie in their kinds.
-/
import Derived.Test.YtjoilgpleaemcaaA7
import Derived.Test.YtjoilgpleaemcaaGx
namespace Go.Proofs.Ytjoilgpleaemcaa
open Go Go.V

/-- not met yet -/
def Unu (xs : List VN) (n x y : Int) : Prop := liveG xs n = false ∧ ∀ x' y', 1 ≤ y' → y' < x' → (x' < x ∨ x' = x ∧ y' < y) → baseG xs x' y' ≠ n
theorem ko_used {xs : List VN} {q : Nat} {n la : Int} (hG : GOk xs q) (hK : KO xs) (hle : ∀ x ∈ xs, x.n ≤ la) (hp : preG xs n = true) : ¬ Unu xs n (la + 1) 0 := fun ⟨h1, h2⟩ => by
  rcases hK n hp with h | ⟨_, x, y, hx, hy, hxy, he⟩
  · rw [h1] at h; cases h
  · have rg : ∀ z, liveG xs z = true → 1 ≤ z ∧ z ≤ la := fun z hz => by
      obtain ⟨u, hu, e⟩ := pre_iff.1 (live_pre hz)
      rw [← e]; exact ⟨(hG.rng u hu).1, hle u hu⟩
    have hx1 := rg x hx
    have hy1 := rg y hy
    exact h2 y x hx1.1 hxy (.inl (by omega)) (by rw [base_comm hG]; exact he)
theorem unu_next {xs : List VN} {n x y : Int} (h : Unu xs n x y) (hb : baseG xs x y ≠ n) : Unu xs n x (y + 1) := ⟨h.1, fun x' y' h1 h2 h3 => by
  by_cases he : x' = x ∧ y' = y
  · rw [he.1, he.2]; exact hb
  · exact h.2 x' y' h1 h2 (by omega)⟩
theorem unu_row {xs : List VN} {n x y : Int} (h : Unu xs n x y) (hb : ¬ y < x) : Unu xs n (x + 1) 1 := ⟨h.1, fun x' y' h1 h2 h3 => h.2 x' y' h1 h2 (by omega)⟩
theorem unu_one {xs : List VN} {n x : Int} (h : Unu xs n x 1) (z : Int) (hz : z ≤ 1) : Unu xs n x z := ⟨h.1, fun x' y' h1 h2 h3 => h.2 x' y' h1 h2 (by omega)⟩
theorem used_end {xs : List VN} {q : Nat} {n la x : Int} {ub : Bool} (hG : GOk xs q) (hK : KO xs) (hle : ∀ x ∈ xs, x.n ≤ la) (hp : preG xs n = true) (h : ub = false → Unu xs n x 1) (hx : 1 ≤ x ∧ x ≤ la + 1) (he : ¬ x ≤ la ∨ ub = true) : ub = true := by
  rcases he with he | he
  · cases hb : ub with
    | true => rfl
    | false =>
      have h1 := unu_one (h hb) 0 (by decide)
      rw [show x = la + 1 by omega] at h1
      exact absurd h1 (ko_used hG hK hle hp)
  · exact he
theorem ab_facts {xs : List VN} {q : Nat} (hG : GOk xs q) (n : Int) : (preG xs n = true → n ∈ abG xs n) ∧ (∀ z ∈ abG xs n, z ≤ n ∧ preG xs z = true) ∧ ∀ z ∈ abG xs n, ∀ u ∈ abG xs z, u ∈ abG xs n := by
  cases hf : vfind xs n with
  | none => refine ⟨fun h => ?_, fun z hz => ?_, fun z hz => ?_⟩
            · rw [(g_out hf).2.1] at h; cases h
            · rw [(g_out hf).2.2] at hz; cases hz
            · rw [(g_out hf).2.2] at hz; cases hz
  | some x =>
    obtain ⟨h1, h2⟩ := vfind_some hf
    rw [(g_in hf).2.2]
    subst h2
    exact ⟨fun _ => hG.self x h1, fun z hz => ⟨hG.le x h1 z hz, hG.pre x h1 z hz⟩, fun z hz u hu => hG.tr x h1 z hz u hu⟩
set_option maxHeartbeats 2000000 in
set_option maxRecDepth 8192 in
theorem law_keeps {g w : World} {L : List HP} (cap : Int) (ls : List Cg) (a : Option Addr) (c : Nat) (hc : Ir cap) (hls : ∀ z ∈ ls, CgOk z ∧ z.ps.length ≤ maxLen) (hS : St g (Sh 38 3 (enG ls) a c :: Shs cgF ls :: L) w) :
    Sp Try.prog 9 [.int .i64 cap, .slice a (List.length (enG ls)) c] w (fun v w' => v = .bool true ∧ St g (L) w') := by
  refine Sp.enter Try.func9 rfl (by kernel_rfl) (by kernel_rfl) ?_
  refine WC.seq ?_
  refine WC.region ?_
  refine WL.r 1 rfl ?_
  refine WL.nil ?_
  refine WC.seq ?_
  refine WC.region ?_
  refine WL.r 1 rfl ?_
  refine WL.call rfl rfl (mod_spec (k := cap) (n := 40) (hk := hc) (hn := (by omega)) (hS := hS)) rfl ?_
  clear hS; rintro _ w ⟨rfl, hS⟩
  replace hS : St g (Sh 38 3 (enG ls) a c :: Shs cgF ls :: L) w := hS
  refine WL.r 1 rfl ?_
  refine WL.nw 19 rfl (w64 (by omega)) ?_
  refine WL.r 1 rfl ?_
  refine WL.call rfl rfl (play_spec (n := 1 + (cap % 40)) (ls := ls) (a := a) (c := c) (hn := (by omega)) (hls := hls) (hS := hS)) rfl ?_
  clear hS; rintro _ w ⟨p1, m1, xs1, q1, last1, rfl, hS, f1, f2, f3⟩
  replace hS : St g (cel p1 #[.int .i64 (1 + (cap % 40)), .int .i64 last1, .map (some m1)] 60 :: blk m1 (.map (mE (List.map vK xs1)) q1) :: Shs vF xs1 :: Sh 38 3 (enG ls) a c :: Shs cgF ls :: L) w := hS
  refine WL.r 5 rfl ?_
  refine WL.nil ?_
  refine WC.seq ?_
  refine WC.seq ?_
  refine WC.region ?_
  refine WL.call rfl rfl (awake_spec   (hS := hS)) rfl ?_
  clear hS; rintro _ w ⟨rfl, hS⟩
  replace hS : St g (cel p1 #[.int .i64 (1 + (cap % 40)), .int .i64 last1, .map (some m1)] 60 :: blk m1 (.map (mE (List.map vK xs1)) q1) :: Shs vF xs1 :: Sh 38 3 (enG ls) a c :: Shs cgF ls :: L) w := hS
  refine WL.r 2 rfl ?_
  refine WL.ung rfl rfl rfl ?_
  refine WL.r 1 rfl ?_
  refine WL.ung rfl rfl rfl ?_
  refine WL.r 2 rfl ?_
  refine WL.nil ?_
  as_aux_lemma =>
    refine WC.ifF rfl rfl ?_
    refine WC.skip ?_
    refine WC.seq ?_
    refine WC.region ?_
    have hI := f1; have hG := f1.ok; have hla := f1.la; obtain ⟨ss, hK⟩ := keys_ex hG.uniq; have hsl := i64s_len ss; have hkl := keys_len hK.perm; have hnum := hG.num
    refine WL.r 1 rfl ?_
    refine WL.call rfl rfl (vers_spec (p := p1) (m := m1) (cap := 1 + (cap % 40)) (last := last1) (xs := xs1) (q := q1) (ss := ss) (ht := (by first | assumption | exact (GI.ok (by assumption)).toVOk)) (hp := hK.perm) (hs := hK.le) (hS := hS)) rfl ?_
    clear hS; rintro _ w ⟨a1, c1, rfl, hS⟩
    replace hS : St g (Own 3 1 (i64s ss) a1 c1 :: cel p1 #[.int .i64 (1 + (cap % 40)), .int .i64 last1, .map (some m1)] 60 :: blk m1 (.map (mE (List.map vK xs1)) q1) :: Shs vF xs1 :: Sh 38 3 (enG ls) a c :: Shs cgF ls :: L) w := hS
    refine WL.r 1 rfl ?_
    refine WL.nil ?_
    refine WC.seq ?_
    refine WC.seq ?_
    refine WC.region ?_
    replace hS := (hS.at_ 0 rfl).share
    replace hS : St g (Sh 3 1 (i64s ss) a1 c1 :: cel p1 #[.int .i64 (1 + (cap % 40)), .int .i64 last1, .map (some m1)] 60 :: blk m1 (.map (mE (List.map vK xs1)) q1) :: Shs vF xs1 :: Sh 38 3 (enG ls) a c :: Shs cgF ls :: L) w := hS
    refine WL.r 1 rfl ?_
    refine WL.nil ?_
    refine WC.block ?_
    refine WC.loop [5, 6, 7, 8] (fun kM vs w => ∃ (i : Nat), vs = [.pointer (some ⟨p1, 0, none⟩), .int .i64 last1, .slice a1 (List.length (i64s ss)) c1, .int .i64 (i : Int)] ∧ St g (Sh 3 1 (i64s ss) a1 c1 :: cel p1 #[.int .i64 (1 + (cap % 40)), .int .i64 last1, .map (some m1)] 60 :: blk m1 (.map (mE (List.map vK xs1)) q1) :: Shs vF xs1 :: Sh 38 3 (enG ls) a c :: Shs cgF ls :: L) w ∧ (i ≤ ss.length) ∧ (ss.length - i) = kM) ((List.length ss) - 0) ⟨0, rfl, hS, (Nat.zero_le _), rfl⟩ ?_
    clear hS; rintro _ _ w j ⟨i, rfl, hS, hi, rfl⟩
    refine WC.seq ?_
    refine WC.seq ?_
    refine WC.region ?_
    refine WL.r 4 rfl ?_
    refine WL.nil ?_
    as_aux_lemma =>
      refine WC.ifP rfl (fun cd1 => ?_) (fun cd1 => ?_)
      · refine WC.skip ?_
        refine WC.seq ?_
        refine WC.block ?_
        refine WC.seq ?_
        refine WC.region ?_
        obtain ⟨n, hn⟩ : ∃ u, ss[i]? = some u := ⟨_, List.getElem?_eq_getElem (by omega)⟩; have hnp := (hK.mem n).1 (List.mem_of_getElem? hn); have hbf := ab_facts hG n; have hal := hG.lenA n; have hal2 := i64s_len (abG xs1 n)
        refine WL.r 3 rfl ?_
        refine WL.ix rfl rfl (i := (i : Int)) (i) el_28 rfl rfl (by omega) (len_of (i64s_at hn)) (hS.rdS 0 rfl (i64s_at hn)).1 ?_
        refine WL.run 1 [.int .i64 n] rfl (by exact (hS.rdS 0 rfl (i64s_at hn)).2 0 _ rfl) ?_
        refine WL.call rfl rfl (live_spec (p := p1) (m := m1) (cap := 1 + (cap % 40)) (last := last1) (xs := xs1) (q := q1) (n := n) (hu := (by first | assumption | exact (GI.ok (by assumption)).uniq)) (hS := (hS.sel 4 [1, 1, 1, 0] rfl))) rfl ?_
        clear hS; rintro _ w ⟨rfl, hS⟩
        replace hS : St g (cel p1 #[.int .i64 (1 + (cap % 40)), .int .i64 last1, .map (some m1)] 60 :: blk m1 (.map (mE (List.map vK xs1)) q1) :: Shs vF xs1 :: Sh 3 1 (i64s ss) a1 c1 :: Sh 38 3 (enG ls) a c :: Shs cgF ls :: L) w := hS
        refine WL.r 1 rfl ?_
        refine WL.nil ?_
        refine WC.seq ?_
        refine WC.seq ?_
        refine WC.region ?_
        refine WL.r 1 rfl ?_
        refine WL.nil ?_
        refine WC.cut [5, 6, 7, 8, 9, 32, 33, 34, 35, 38, 39, 40, 41, 42, 43] (fun vs w => ∃ (us : Bool), vs = [.pointer (some ⟨p1, 0, none⟩), .int .i64 last1, .slice a1 (List.length (i64s ss)) c1, .int .i64 (i : Int), .bool us, .int .i64 (i : Int), .slice a1 (List.length (i64s ss)) c1, .int .i64 (List.length (i64s ss) : Int), .bool (decide ((i : Int) < (List.length (i64s ss) : Int))), .pointer (some ⟨p1, 0, none⟩), .slice a1 (List.length (i64s ss)) c1, .int .i64 (i : Int), .pointer (some ⟨bo a1, (oo a1) + (i * 1), none⟩), .int .i64 n, .bool (liveG xs1 n)] ∧ St g (cel p1 #[.int .i64 (1 + (cap % 40)), .int .i64 last1, .map (some m1)] 60 :: blk m1 (.map (mE (List.map vK xs1)) q1) :: Shs vF xs1 :: Sh 3 1 (i64s ss) a1 c1 :: Sh 38 3 (enG ls) a c :: Shs cgF ls :: L) w ∧ (us = true)) ?_ ?_
        · refine WC.block ?_
          refine WC.loop [5, 6, 7, 8, 9, 10, 32, 33, 34, 35, 38, 39, 40, 41, 42, 43] (fun kM vs w => ∃ (x : Int) (ub : Bool), vs = [.pointer (some ⟨p1, 0, none⟩), .int .i64 last1, .slice a1 (List.length (i64s ss)) c1, .int .i64 (i : Int), .bool ub, .int .i64 x, .int .i64 (i : Int), .slice a1 (List.length (i64s ss)) c1, .int .i64 (List.length (i64s ss) : Int), .bool (decide ((i : Int) < (List.length (i64s ss) : Int))), .pointer (some ⟨p1, 0, none⟩), .slice a1 (List.length (i64s ss)) c1, .int .i64 (i : Int), .pointer (some ⟨bo a1, (oo a1) + (i * 1), none⟩), .int .i64 n, .bool (liveG xs1 n)] ∧ St g (cel p1 #[.int .i64 (1 + (cap % 40)), .int .i64 last1, .map (some m1)] 60 :: blk m1 (.map (mE (List.map vK xs1)) q1) :: Shs vF xs1 :: Sh 3 1 (i64s ss) a1 c1 :: Sh 38 3 (enG ls) a c :: Shs cgF ls :: L) w ∧ (1 ≤ x ∧ x ≤ last1 + 1) ∧ (ub = false → Unu xs1 n x 1) ∧ ((last1 + 1 - x).toNat) = kM) ((last1 + 1 - 1).toNat) ⟨1, liveG xs1 n, rfl, hS, (by omega), (fun h => ⟨h, fun x' y' h1 h2 h3 => by omega⟩), rfl⟩ ?_
          clear hS; rintro _ _ w j ⟨x, ub, rfl, hS, hx, hub, rfl⟩
          refine WC.seq ?_
          refine WC.seq ?_
          refine WC.region ?_
          refine WL.r 3 rfl ?_
          refine WL.rG 4 rfl (fun j => ?_)
          refine WL.prop 50 rfl (band (dd _) (bnot (dv _))) ?_
          refine WL.nil ?_
          as_aux_lemma =>
            refine WC.ifP rfl (fun cd2 => ?_) (fun cd2 => ?_)
            · refine WC.skip ?_
              refine WC.seq ?_
              refine WC.block ?_
              refine WC.seq ?_
              refine WC.region ?_
              refine WL.r 1 rfl ?_
              refine WL.nil ?_
              refine WC.block ?_
              refine WC.loop [5, 6, 7, 8, 9, 10, 11, 32, 33, 34, 35, 38, 39, 40, 41, 42, 43, 44, 45, 46, 47, 50] (fun kM vs w => ∃ (y : Int) (uc : Bool), vs = [.pointer (some ⟨p1, 0, none⟩), .int .i64 last1, .slice a1 (List.length (i64s ss)) c1, .int .i64 (i : Int), .bool uc, .int .i64 x, .int .i64 y, .int .i64 (i : Int), .slice a1 (List.length (i64s ss)) c1, .int .i64 (List.length (i64s ss) : Int), .bool (decide ((i : Int) < (List.length (i64s ss) : Int))), .pointer (some ⟨p1, 0, none⟩), .slice a1 (List.length (i64s ss)) c1, .int .i64 (i : Int), .pointer (some ⟨bo a1, (oo a1) + (i * 1), none⟩), .int .i64 n, .bool (liveG xs1 n), .int .i64 x, .int .i64 last1, .bool (decide (x ≤ last1)), .bool (decide (x ≤ last1)), .bool (decide ((x ≤ last1) ∧ (¬ (ub = true))))] ∧ St g (cel p1 #[.int .i64 (1 + (cap % 40)), .int .i64 last1, .map (some m1)] 60 :: blk m1 (.map (mE (List.map vK xs1)) q1) :: Shs vF xs1 :: Sh 3 1 (i64s ss) a1 c1 :: Sh 38 3 (enG ls) a c :: Shs cgF ls :: L) w ∧ (1 ≤ y ∧ y ≤ x) ∧ (uc = false → Unu xs1 n x y) ∧ ((x - y).toNat) = kM) ((x - 1).toNat) ⟨1, ub, rfl, hS, (by omega), (hub), rfl⟩ ?_
              clear hS; rintro _ _ w j ⟨y, uc, rfl, hS, hy, huc, rfl⟩
              refine WC.seq ?_
              refine WC.seq ?_
              refine WC.region ?_
              refine WL.r 3 rfl ?_
              refine WL.nil ?_
              refine WC.ifP rfl (fun cd3 => ?_) (fun cd3 => ?_)
              · refine WC.skip ?_
                refine WC.seq ?_
                refine WC.block ?_
                refine WC.plan [([0, 1, 2, 3, 4, 6, 7, 8, 9], some (5, [6, 7, 8, 9])), ([10, 11, 12], none)] (by kernel_rfl) (by kernel_rfl) ?_
                refine WQ.r 2 rfl ?_
                by_cases cg1 : uc = true
                · refine WQ.reb 59 (.bool true) (congrArg Value.bool cg1) ?_
                  refine WQ.skp rfl rfl rfl rfl ?_
                  refine WQ.skp rfl rfl rfl rfl ?_
                  refine WQ.skp rfl rfl rfl rfl ?_
                  refine WQ.skp rfl rfl rfl rfl ?_
                  refine WQ.skp rfl rfl rfl rfl ?_
                  refine WQ.skp rfl rfl rfl rfl ?_
                  refine WQ.skp rfl rfl rfl rfl ?_
                  refine WQ.nil ?_
                  intro m2
                  replace hS := hS.drewN m2; generalize hwm2 : World.drewN _ _ = w at *; clear hwm2
                  refine WL.skp rfl rfl rfl rfl ?_
                  refine WL.nil ?_
                  refine ⟨by exact ⟨RQ.skp rfl rfl rfl rfl rfl rfl, RQ.skp rfl rfl rfl rfl rfl rfl, RQ.skp rfl rfl rfl rfl rfl rfl, RQ.skp rfl rfl rfl rfl rfl rfl⟩, ?_⟩
                  refine WQ.skp rfl rfl rfl rfl ?_
                  refine WQ.r 2 rfl ?_
                  refine WQ.nil ?_
                  intro m3
                  replace hS := hS.drewN m3; generalize hwm3 : World.drewN _ _ = w at *; clear hwm3
                  as_aux_lemma =>
                    refine WC.region ?_
                    refine WL.r 2 rfl ?_
                    refine WL.nw 57 rfl (w64 (by omega)) ?_
                    refine WL.r 1 rfl ?_
                    refine WL.nil ?_
                    exact ⟨_, by omega, y + 1, true, rfl, hS, (by omega), (fun h => by cases h), rfl⟩
                · refine WQ.reb 59 (.bool false) (congrArg Value.bool (Bool.eq_false_iff.2 cg1)) ?_
                  refine WQ.ung rfl rfl rfl ?_
                  refine WQ.r 1 rfl ?_
                  refine WQ.ung rfl rfl rfl ?_
                  refine WQ.r 1 rfl ?_
                  refine WQ.ung rfl rfl rfl ?_
                  refine WQ.r 1 rfl ?_
                  refine WQ.ung rfl rfl rfl ?_
                  refine WQ.r 1 rfl ?_
                  refine WQ.ung rfl rfl rfl ?_
                  refine WQ.r 1 rfl ?_
                  refine WQ.ung rfl rfl rfl ?_
                  refine WQ.ix rfl rfl (i := (i : Int)) (i) el_28 rfl rfl (by omega) (len_of (i64s_at hn)) (hS.rdS 3 rfl (i64s_at hn)).1 ?_
                  refine WQ.ung rfl rfl rfl ?_
                  refine WQ.run 1 [.int .i64 n] rfl (by exact (hS.rdS 3 rfl (i64s_at hn)).2 0 _ rfl) ?_
                  refine WQ.nil ?_
                  intro m2
                  replace hS := hS.drewN m2; generalize hwm2 : World.drewN _ _ = w at *; clear hwm2
                  refine WL.ung rfl rfl rfl ?_
                  refine WL.call rfl rfl (base_spec (p := p1) (m := m1) (cap := 1 + (cap % 40)) (last := last1) (xs := xs1) (q := q1) (n1 := x) (n2 := y) (hG := (by first | assumption | exact GI.ok (by assumption))) (hS := hS)) rfl ?_
                  clear hS; rintro _ w ⟨rfl, hS⟩
                  replace hS : St g (cel p1 #[.int .i64 (1 + (cap % 40)), .int .i64 last1, .map (some m1)] 60 :: blk m1 (.map (mE (List.map vK xs1)) q1) :: Shs vF xs1 :: Sh 3 1 (i64s ss) a1 c1 :: Sh 38 3 (enG ls) a c :: Shs cgF ls :: L) w := hS
                  refine WL.nil ?_
                  refine ⟨by exact ⟨RQ.ung rfl rfl rfl (RQ.pure rfl rfl rfl rfl), RQ.ung rfl rfl rfl (RQ.pure rfl rfl rfl rfl), RQ.ung rfl rfl rfl (RQ.ix rfl rfl (i := (i : Int)) (i) el_28 rfl rfl (by omega) (len_of (i64s_at hn)) (hS.rdS 3 rfl (i64s_at hn)).1 rfl rfl), RQ.ung rfl rfl rfl (RQ.load rfl rfl rfl rfl ((hS.rdS 3 rfl (i64s_at hn)).2 0 _ rfl))⟩, ?_⟩
                  refine WQ.ung rfl rfl rfl ?_
                  refine WQ.r 3 rfl ?_
                  refine WQ.nil ?_
                  intro m3
                  replace hS := hS.drewN m3; generalize hwm3 : World.drewN _ _ = w at *; clear hwm3
                  as_aux_lemma =>
                    refine WC.region ?_
                    refine WL.r 2 rfl ?_
                    refine WL.nw 57 rfl (w64 (by omega)) ?_
                    refine WL.r 1 rfl ?_
                    refine WL.nil ?_
                    exact ⟨_, by omega, y + 1, decide (baseG xs1 x y = n), rfl, hS, (by omega), (fun h => unu_next (huc (by simpa using cg1)) (of_decide_eq_false h)), rfl⟩
              · refine WC.exit ?_
                refine WC.region ?_
                refine WL.r 2 rfl ?_
                refine WL.nw 52 rfl (w64 (by omega)) ?_
                refine WL.r 1 rfl ?_
                refine WL.nil ?_
                exact ⟨_, by omega, x + 1, uc, rfl, hS, (by omega), (fun h => unu_row (huc h) (by omega)), rfl⟩
            · refine WC.exit ?_
              exact ⟨ub, rfl, hS, (used_end hG f2 hI.le hnp hub hx (Decidable.by_contra (fun h9 => h9 (.inl (fun h => cd2 ⟨h, fun h8 => h9 (.inr h8)⟩)))))⟩
        clear hS; rintro _ w j ⟨us, rfl, hS, hus⟩
        refine WC.seq ?_
        refine WC.region ?_
        refine WL.r 3 rfl ?_
        refine WL.ix rfl rfl (i := (i : Int)) (i) el_28 rfl rfl (by omega) (len_of (i64s_at hn)) (hS.rdS 3 rfl (i64s_at hn)).1 ?_
        refine WL.run 1 [.int .i64 n] rfl (by exact (hS.rdS 3 rfl (i64s_at hn)).2 0 _ rfl) ?_
        refine WL.call rfl rfl (anc_spec (p := p1) (m := m1) (cap := 1 + (cap % 40)) (last := last1) (xs := xs1) (q := q1) (n := n) (hu := (by first | assumption | exact (GI.ok (by assumption)).uniq)) (hl := (Nat.le_trans (hG.lenA _) (by decide))) (hS := hS)) rfl ?_
        clear hS; rintro _ w ⟨a2, c2, rfl, hS⟩
        replace hS : St g (Own 3 1 (i64s (abG xs1 n)) a2 c2 :: cel p1 #[.int .i64 (1 + (cap % 40)), .int .i64 last1, .map (some m1)] 60 :: blk m1 (.map (mE (List.map vK xs1)) q1) :: Shs vF xs1 :: Sh 3 1 (i64s ss) a1 c1 :: Sh 38 3 (enG ls) a c :: Shs cgF ls :: L) w := hS
        refine WL.r 1 rfl ?_
        refine WL.nil ?_
        as_aux_lemma =>
          refine WC.seq ?_
          refine WC.seq ?_
          refine WC.region ?_
          replace hS := (hS.at_ 0 rfl).share
          replace hS : St g (Sh 3 1 (i64s (abG xs1 n)) a2 c2 :: cel p1 #[.int .i64 (1 + (cap % 40)), .int .i64 last1, .map (some m1)] 60 :: blk m1 (.map (mE (List.map vK xs1)) q1) :: Shs vF xs1 :: Sh 3 1 (i64s ss) a1 c1 :: Sh 38 3 (enG ls) a c :: Shs cgF ls :: L) w := hS
          refine WL.r 2 rfl ?_
          refine WL.r 1 rfl ?_
          refine WL.reb 78 (.bool false) (congrArg Value.bool (Bool.eq_false_iff.2 ((by rw [hus]; simp)))) ?_
          refine WL.ung rfl rfl rfl ?_
          refine WL.r 1 rfl ?_
          refine WL.ung rfl rfl rfl ?_
          refine WL.r 1 rfl ?_
          refine WL.ung rfl rfl rfl ?_
          refine WL.r 1 rfl ?_
          refine WL.ung rfl rfl rfl ?_
          refine WL.ix rfl rfl (i := (i : Int)) (i) el_28 rfl rfl (by omega) (len_of (i64s_at hn)) (hS.rdS 4 rfl (i64s_at hn)).1 ?_
          refine WL.ung rfl rfl rfl ?_
          refine WL.run 1 [.int .i64 n] rfl (by exact (hS.rdS 4 rfl (i64s_at hn)).2 0 _ rfl) ?_
          refine WL.ung rfl rfl rfl ?_
          refine WL.call rfl rfl (pre_spec (p := p1) (m := m1) (cap := 1 + (cap % 40)) (last := last1) (xs := xs1) (q := q1) (n := n) (hu := (by first | assumption | exact (GI.ok (by assumption)).uniq)) (hS := (hS.sel 4 [1, 1, 1, 0] rfl))) rfl ?_
          clear hS; rintro _ w ⟨rfl, hS⟩
          replace hS : St g (cel p1 #[.int .i64 (1 + (cap % 40)), .int .i64 last1, .map (some m1)] 60 :: blk m1 (.map (mE (List.map vK xs1)) q1) :: Shs vF xs1 :: Sh 3 1 (i64s (abG xs1 n)) a2 c2 :: Sh 3 1 (i64s ss) a1 c1 :: Sh 38 3 (enG ls) a c :: Shs cgF ls :: L) w := hS
          refine WL.ung rfl rfl rfl ?_
          refine WL.r 1 rfl ?_
          refine WL.r 2 rfl ?_
          refine WL.reb 87 (.bool false) (congrArg Value.bool (Bool.eq_false_iff.2 ((by rw [hnp]; simp)))) ?_
          refine WL.ung rfl rfl rfl ?_
          refine WL.r 1 rfl ?_
          refine WL.ung rfl rfl rfl ?_
          refine WL.r 1 rfl ?_
          refine WL.ung rfl rfl rfl ?_
          refine WL.r 1 rfl ?_
          refine WL.ung rfl rfl rfl ?_
          refine WL.ix rfl rfl (i := (i : Int)) (i) el_28 rfl rfl (by omega) (len_of (i64s_at hn)) (hS.rdS 4 rfl (i64s_at hn)).1 ?_
          refine WL.ung rfl rfl rfl ?_
          refine WL.run 1 [.int .i64 n] rfl (by exact (hS.rdS 4 rfl (i64s_at hn)).2 0 _ rfl) ?_
          refine WL.ung rfl rfl rfl ?_
          refine WL.call rfl rfl (in_spec (ls := abG xs1 n) (a := a2) (c := c2) (n := n) (hl := (by omega)) (hS := (hS.sel 4 [3, 0, 0, 0] rfl))) rfl ?_
          clear hS; rintro _ w ⟨rfl, hS⟩
          replace hS : St g (Sh 3 1 (i64s (abG xs1 n)) a2 c2 :: cel p1 #[.int .i64 (1 + (cap % 40)), .int .i64 last1, .map (some m1)] 60 :: blk m1 (.map (mE (List.map vK xs1)) q1) :: Shs vF xs1 :: Sh 3 1 (i64s ss) a1 c1 :: Sh 38 3 (enG ls) a c :: Shs cgF ls :: L) w := hS
          refine WL.ung rfl rfl rfl ?_
          refine WL.r 1 rfl ?_
          refine WL.prop 94 rfl (bnot (dd _)) ?_
          refine WL.r 1 rfl ?_
          refine WL.nil ?_
          as_aux_lemma =>
            refine WC.ifF rfl (decide_eq_false ((by simpa using hbf.1 hnp))) ?_
            refine WC.skip ?_
            refine WC.seq ?_
            refine WC.region ?_
            refine WL.r 1 rfl ?_
            refine WL.nil ?_
            refine WC.block ?_
            refine WC.loop [5, 6, 7, 8, 9, 12, 13, 32, 33, 34, 35, 38, 39, 40, 41, 42, 43, 70, 71, 72, 73, 74, 75, 76, 77, 78, 79, 80, 81, 82, 83, 84, 85, 86, 87, 88, 89, 90, 91, 92, 93, 94, 95] (fun kM vs w => ∃ (k : Nat), vs = [.pointer (some ⟨p1, 0, none⟩), .int .i64 last1, .slice a1 (List.length (i64s ss)) c1, .int .i64 (i : Int), .bool us, .slice a2 (List.length (i64s (abG xs1 n))) c2, .int .i64 (k : Int), .int .i64 (i : Int), .slice a1 (List.length (i64s ss)) c1, .int .i64 (List.length (i64s ss) : Int), .bool (decide ((i : Int) < (List.length (i64s ss) : Int))), .pointer (some ⟨p1, 0, none⟩), .slice a1 (List.length (i64s ss)) c1, .int .i64 (i : Int), .pointer (some ⟨bo a1, (oo a1) + (i * 1), none⟩), .int .i64 n, .bool (liveG xs1 n), .pointer (some ⟨p1, 0, none⟩), .slice a1 (List.length (i64s ss)) c1, .int .i64 (i : Int), .pointer (some ⟨bo a1, (oo a1) + (i * 1), none⟩), .int .i64 n, .slice a2 (List.length (i64s (abG xs1 n))) c2, .bool us, .bool (! us), .bool false, .pointer (some ⟨p1, 0, none⟩), .slice a1 (List.length (i64s ss)) c1, .int .i64 (i : Int), .pointer (some ⟨bo a1, (oo a1) + (i * 1), none⟩), .int .i64 n, .bool (preG xs1 n), .bool (! (preG xs1 n)), .bool (! (preG xs1 n)), .bool false, .slice a2 (List.length (i64s (abG xs1 n))) c2, .slice a1 (List.length (i64s ss)) c1, .int .i64 (i : Int), .pointer (some ⟨bo a1, (oo a1) + (i * 1), none⟩), .int .i64 n, .bool (decide (n ∈ (abG xs1 n))), .bool (decide (¬ (n ∈ (abG xs1 n)))), .bool (decide (¬ (n ∈ (abG xs1 n))))] ∧ St g (Sh 3 1 (i64s (abG xs1 n)) a2 c2 :: cel p1 #[.int .i64 (1 + (cap % 40)), .int .i64 last1, .map (some m1)] 60 :: blk m1 (.map (mE (List.map vK xs1)) q1) :: Shs vF xs1 :: Sh 3 1 (i64s ss) a1 c1 :: Sh 38 3 (enG ls) a c :: Shs cgF ls :: L) w ∧ (k ≤ (abG xs1 n).length) ∧ ((abG xs1 n).length - k) = kM) ((List.length (abG xs1 n)) - 0) ⟨0, rfl, hS, (Nat.zero_le _), rfl⟩ ?_
            clear hS; rintro _ _ w j ⟨k, rfl, hS, hk, rfl⟩
            refine WC.seq ?_
            refine WC.seq ?_
            refine WC.region ?_
            refine WL.r 4 rfl ?_
            refine WL.nil ?_
            refine WC.ifP rfl (fun cd2 => ?_) (fun cd2 => ?_)
            · refine WC.skip ?_
              refine WC.seq ?_
              refine WC.block ?_
              refine WC.seq ?_
              refine WC.seq ?_
              refine WC.plan [([0, 1, 4, 5, 2, 6, 3, 7, 8, 9, 10, 11, 12, 13, 14], some (15, [])), ([16, 17], none)] (by kernel_rfl) (by kernel_rfl) ?_
              obtain ⟨u, hu⟩ : ∃ u, (abG xs1 n)[k]? = some u := ⟨_, List.getElem?_eq_getElem (by omega)⟩; have hum := List.mem_of_getElem? hu; have hbu := hG.lenA u; have hbu2 := i64s_len (abG xs1 u); have hu3 := hbf.2.1 u hum
              refine WQ.r 4 rfl ?_
              refine WQ.ix rfl rfl (i := (k : Int)) (k) el_28 rfl rfl (by omega) (len_of (i64s_at hu)) (hS.rdS 0 rfl (i64s_at hu)).1 ?_
              refine WQ.ix rfl rfl (i := (i : Int)) (i) el_28 rfl rfl (by omega) (len_of (i64s_at hn)) (hS.rdS 4 rfl (i64s_at hn)).1 ?_
              refine WQ.run 4 [.int .i64 u, .int .i64 n] rfl (by exact ⟨(hS.rdS 0 rfl (i64s_at hu)).2 0 _ rfl, (hS.rdS 4 rfl (i64s_at hn)).2 0 _ rfl⟩) ?_
              refine WQ.reb 111 (.bool false) (congrArg Value.bool (decide_eq_false ((by omega)))) ?_
              refine WQ.ung rfl rfl rfl ?_
              refine WQ.r 1 rfl ?_
              refine WQ.ung rfl rfl rfl ?_
              refine WQ.r 1 rfl ?_
              refine WQ.ung rfl rfl rfl ?_
              refine WQ.r 1 rfl ?_
              refine WQ.ung rfl rfl rfl ?_
              refine WQ.ix rfl rfl (i := (k : Int)) (k) el_28 rfl rfl (by omega) (len_of (i64s_at hu)) (hS.rdS 0 rfl (i64s_at hu)).1 ?_
              refine WQ.ung rfl rfl rfl ?_
              refine WQ.run 1 [.int .i64 u] rfl (by exact (hS.rdS 0 rfl (i64s_at hu)).2 0 _ rfl) ?_
              refine WQ.nil ?_
              intro m2
              replace hS := hS.drewN m2; generalize hwm2 : World.drewN _ _ = w at *; clear hwm2
              refine WL.ung rfl rfl rfl ?_
              refine WL.call rfl rfl (in_spec (ls := ss) (a := a1) (c := c1) (n := u) (hl := (by omega)) (hS := (hS.sel 5 [4, 0, 0, 0, 0] rfl))) rfl ?_
              clear hS; rintro _ w ⟨rfl, hS⟩
              replace hS : St g (Sh 3 1 (i64s ss) a1 c1 :: Sh 3 1 (i64s (abG xs1 n)) a2 c2 :: cel p1 #[.int .i64 (1 + (cap % 40)), .int .i64 last1, .map (some m1)] 60 :: blk m1 (.map (mE (List.map vK xs1)) q1) :: Shs vF xs1 :: Sh 38 3 (enG ls) a c :: Shs cgF ls :: L) w := hS
              refine WL.nil ?_
              refine ⟨by exact trivial, ?_⟩
              refine WQ.ung rfl rfl rfl ?_
              refine WQ.r 1 rfl ?_
              refine WQ.prop 118 rfl (bnot (dd _)) ?_
              refine WQ.r 1 rfl ?_
              refine WQ.nil ?_
              intro m3
              replace hS := hS.drewN m3; generalize hwm3 : World.drewN _ _ = w at *; clear hwm3
              as_aux_lemma =>
                refine WC.ifF rfl (decide_eq_false ((fun h => h ((hK.mem u).2 hu3.2)))) ?_
                refine WC.skip ?_
                refine WC.seq ?_
                refine WC.region ?_
                refine WL.r 3 rfl ?_
                refine WL.ix rfl rfl (i := (k : Int)) (k) el_28 rfl rfl (by omega) (len_of (i64s_at hu)) (hS.rdS 1 rfl (i64s_at hu)).1 ?_
                refine WL.run 1 [.int .i64 u] rfl (by exact (hS.rdS 1 rfl (i64s_at hu)).2 0 _ rfl) ?_
                refine WL.call rfl rfl (anc_spec (p := p1) (m := m1) (cap := 1 + (cap % 40)) (last := last1) (xs := xs1) (q := q1) (n := u) (hu := (by first | assumption | exact (GI.ok (by assumption)).uniq)) (hl := (Nat.le_trans (hG.lenA _) (by decide))) (hS := (hS.sel 5 [2, 2, 2, 0, 0] rfl))) rfl ?_
                clear hS; rintro _ w ⟨a3, c3, rfl, hS⟩
                replace hS : St g (Own 3 1 (i64s (abG xs1 u)) a3 c3 :: cel p1 #[.int .i64 (1 + (cap % 40)), .int .i64 last1, .map (some m1)] 60 :: blk m1 (.map (mE (List.map vK xs1)) q1) :: Shs vF xs1 :: Sh 3 1 (i64s ss) a1 c1 :: Sh 3 1 (i64s (abG xs1 n)) a2 c2 :: Sh 38 3 (enG ls) a c :: Shs cgF ls :: L) w := hS
                refine WL.r 1 rfl ?_
                refine WL.nil ?_
                refine WC.seq ?_
                refine WC.region ?_
                refine WL.r 1 rfl ?_
                refine WL.nil ?_
                refine WC.block ?_
                refine WC.loop [5, 6, 7, 8, 9, 12, 13, 14, 15, 32, 33, 34, 35, 38, 39, 40, 41, 42, 43, 70, 71, 72, 73, 74, 75, 76, 77, 78, 79, 80, 81, 82, 83, 84, 85, 86, 87, 88, 89, 90, 91, 92, 93, 94, 95, 96, 97, 98, 99, 102, 103, 104, 105, 106, 107, 108, 109, 110, 111, 112, 113, 114, 115, 116, 117, 118, 119, 120, 121, 122, 123, 124, 125] (fun kM vs w => ∃ (j : Nat), vs = [.pointer (some ⟨p1, 0, none⟩), .int .i64 last1, .slice a1 (List.length (i64s ss)) c1, .int .i64 (i : Int), .bool us, .slice a2 (List.length (i64s (abG xs1 n))) c2, .int .i64 (k : Int), .slice a3 (List.length (i64s (abG xs1 u))) c3, .int .i64 (j : Int), .int .i64 (i : Int), .slice a1 (List.length (i64s ss)) c1, .int .i64 (List.length (i64s ss) : Int), .bool (decide ((i : Int) < (List.length (i64s ss) : Int))), .pointer (some ⟨p1, 0, none⟩), .slice a1 (List.length (i64s ss)) c1, .int .i64 (i : Int), .pointer (some ⟨bo a1, (oo a1) + (i * 1), none⟩), .int .i64 n, .bool (liveG xs1 n), .pointer (some ⟨p1, 0, none⟩), .slice a1 (List.length (i64s ss)) c1, .int .i64 (i : Int), .pointer (some ⟨bo a1, (oo a1) + (i * 1), none⟩), .int .i64 n, .slice a2 (List.length (i64s (abG xs1 n))) c2, .bool us, .bool (! us), .bool false, .pointer (some ⟨p1, 0, none⟩), .slice a1 (List.length (i64s ss)) c1, .int .i64 (i : Int), .pointer (some ⟨bo a1, (oo a1) + (i * 1), none⟩), .int .i64 n, .bool (preG xs1 n), .bool (! (preG xs1 n)), .bool (! (preG xs1 n)), .bool false, .slice a2 (List.length (i64s (abG xs1 n))) c2, .slice a1 (List.length (i64s ss)) c1, .int .i64 (i : Int), .pointer (some ⟨bo a1, (oo a1) + (i * 1), none⟩), .int .i64 n, .bool (decide (n ∈ (abG xs1 n))), .bool (decide (¬ (n ∈ (abG xs1 n)))), .bool (decide (¬ (n ∈ (abG xs1 n)))), .int .i64 (k : Int), .slice a2 (List.length (i64s (abG xs1 n))) c2, .int .i64 (List.length (i64s (abG xs1 n)) : Int), .bool (decide ((k : Int) < (List.length (i64s (abG xs1 n)) : Int))), .slice a2 (List.length (i64s (abG xs1 n))) c2, .int .i64 (k : Int), .pointer (some ⟨bo a2, (oo a2) + (k * 1), none⟩), .int .i64 u, .slice a1 (List.length (i64s ss)) c1, .int .i64 (i : Int), .pointer (some ⟨bo a1, (oo a1) + (i * 1), none⟩), .int .i64 n, .bool (decide (n < u)), .bool false, .slice a1 (List.length (i64s ss)) c1, .slice a2 (List.length (i64s (abG xs1 n))) c2, .int .i64 (k : Int), .pointer (some ⟨bo a2, (oo a2) + (k * 1), none⟩), .int .i64 u, .bool (decide (u ∈ ss)), .bool (decide (¬ (u ∈ ss))), .bool (decide (¬ (u ∈ ss))), .pointer (some ⟨p1, 0, none⟩), .slice a2 (List.length (i64s (abG xs1 n))) c2, .int .i64 (k : Int), .pointer (some ⟨bo a2, (oo a2) + (k * 1), none⟩), .int .i64 u, .slice a3 (List.length (i64s (abG xs1 u))) c3] ∧ St g (Own 3 1 (i64s (abG xs1 u)) a3 c3 :: cel p1 #[.int .i64 (1 + (cap % 40)), .int .i64 last1, .map (some m1)] 60 :: blk m1 (.map (mE (List.map vK xs1)) q1) :: Shs vF xs1 :: Sh 3 1 (i64s ss) a1 c1 :: Sh 3 1 (i64s (abG xs1 n)) a2 c2 :: Sh 38 3 (enG ls) a c :: Shs cgF ls :: L) w ∧ (j ≤ (abG xs1 u).length) ∧ ((abG xs1 u).length - j) = kM) ((List.length (abG xs1 u)) - 0) ⟨0, rfl, hS, (Nat.zero_le _), rfl⟩ ?_
                clear hS; rintro _ _ w j ⟨j, rfl, hS, hj, rfl⟩
                refine WC.seq ?_
                refine WC.seq ?_
                refine WC.region ?_
                refine WL.r 4 rfl ?_
                refine WL.nil ?_
                refine WC.ifP rfl (fun cd3 => ?_) (fun cd3 => ?_)
                · refine WC.skip ?_
                  as_aux_lemma =>
                    refine WC.seq ?_
                    refine WC.block ?_
                    refine WC.seq ?_
                    refine WC.region ?_
                    obtain ⟨t, ht⟩ : ∃ u2, (abG xs1 u)[j]? = some u2 := ⟨_, List.getElem?_eq_getElem (by omega)⟩
                    refine WL.r 3 rfl ?_
                    refine WL.ix rfl rfl (i := (j : Int)) (j) el_28 rfl rfl (by omega) (len_of (i64s_at ht)) (hS.rdO 0 rfl (i64s_at ht)).1 ?_
                    refine WL.run 1 [.int .i64 t] rfl (by exact (hS.rdO 0 rfl (i64s_at ht)).2 0 _ rfl) ?_
                    refine WL.call rfl rfl (in_spec (ls := abG xs1 n) (a := a2) (c := c2) (n := t) (hl := (by omega)) (hS := (hS.sel 6 [5, 0, 0, 0, 0, 0] rfl))) rfl ?_
                    clear hS; rintro _ w ⟨rfl, hS⟩
                    replace hS : St g (Sh 3 1 (i64s (abG xs1 n)) a2 c2 :: Own 3 1 (i64s (abG xs1 u)) a3 c3 :: cel p1 #[.int .i64 (1 + (cap % 40)), .int .i64 last1, .map (some m1)] 60 :: blk m1 (.map (mE (List.map vK xs1)) q1) :: Shs vF xs1 :: Sh 3 1 (i64s ss) a1 c1 :: Sh 38 3 (enG ls) a c :: Shs cgF ls :: L) w := hS
                    refine WL.r 1 rfl ?_
                    refine WL.prop 138 rfl (bnot (dd _)) ?_
                    refine WL.nil ?_
                    refine WC.ifF rfl (decide_eq_false ((by simpa using hbf.2.2 u hum t (List.mem_of_getElem? ht)))) ?_
                    refine WC.skip ?_
                    refine WC.region ?_
                    refine WL.r 2 rfl ?_
                    refine WL.nw 131 rfl (w64 (by omega)) ?_
                    refine WL.r 1 rfl ?_
                    refine WL.nil ?_
                    exact ⟨_, by omega, j + 1, rfl, (hS.sel 6 [1, 1, 1, 1, 1, 0] rfl), (by omega), rfl⟩
                · refine WC.exit ?_
                  as_aux_lemma =>
                    refine WC.region ?_
                    refine WL.r 2 rfl ?_
                    refine WL.nw 101 rfl (w64 (by omega)) ?_
                    refine WL.r 1 rfl ?_
                    refine WL.nil ?_
                    exact ⟨_, by omega, k + 1, rfl, (hS.sel 6 [5, 1, 1, 1, 1] rfl), (by omega), rfl⟩
            · refine WC.exit ?_
              refine WC.region ?_
              refine WL.r 2 rfl ?_
              refine WL.nw 37 rfl (w64 (by omega)) ?_
              refine WL.r 1 rfl ?_
              refine WL.nil ?_
              exact ⟨_, by omega, i + 1, rfl, (hS.sel 5 [4, 1, 1, 1] rfl), (by omega), rfl⟩
      · refine WC.exit ?_
        refine WC.seq ?_
        refine WC.region ?_
        refine WL.r 1 rfl ?_
        refine WL.nil ?_
        refine WC.ret ?_
        refine ⟨[.bool true], rfl, ?_⟩
        replace hS := (hS.sel 6 [] rfl)
        exact ⟨rfl, hS⟩
end Go.Proofs.Ytjoilgpleaemcaa
