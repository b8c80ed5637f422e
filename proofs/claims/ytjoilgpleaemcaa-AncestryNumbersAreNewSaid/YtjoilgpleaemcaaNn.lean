/-
  The law AncestryNumbersAreNew, walked.
  Conditions: the arguments lie in their kinds.
-/
import Derived.Test.YtjoilgpleaemcaaA7
namespace Go.Proofs.Ytjoilgpleaemcaa
open Go Go.V

set_option maxHeartbeats 2000000 in
set_option maxRecDepth 8192 in
theorem law_nums {g w : World} {L : List HP} (cap : Int) (ls : List Cg) (a : Option Addr) (c : Nat) (hc : Ir cap) (hls : ∀ z ∈ ls, CgOk z ∧ z.ps.length ≤ maxLen) (hS : St g (Sh 38 3 (enG ls) a c :: Shs cgF ls :: L) w) :
    Sp Try.prog 6 [.int .i64 cap, .slice a (List.length (enG ls)) c] w (fun v w' => v = .bool true ∧ St g (L) w') := by
  refine Sp.enter Try.func6 rfl (by kernel_rfl) (by kernel_rfl) ?_
  refine WC.seq ?_
  refine WC.region ?_
  refine WL.r 1 rfl ?_
  refine WL.nil ?_
  refine WC.seq ?_
  refine WC.region ?_
  have hel := enG_len ls
  refine WL.r 1 rfl ?_
  refine WL.call rfl rfl (mod_spec (k := cap) (n := 40) (hk := hc) (hn := (by omega)) (hS := hS)) rfl ?_
  clear hS; rintro _ w ⟨rfl, hS⟩
  replace hS : St g (Sh 38 3 (enG ls) a c :: Shs cgF ls :: L) w := hS
  refine WL.r 1 rfl ?_
  refine WL.nw 18 rfl (w64 (by omega)) ?_
  refine WL.call rfl rfl (new_ok (cap := 1 + (cap % 40)) (hc := (by omega)) (hS := hS)) rfl ?_
  clear hS; rintro _ w ⟨p1, m1, rfl, hS⟩
  replace hS : St g (cel p1 #[.int .i64 (1 + (cap % 40)), .int .i64 0, .map (some m1)] 60 :: blk m1 (.map (mE (List.map vK [])) 0) :: Shs vF [] :: Sh 38 3 (enG ls) a c :: Shs cgF ls :: L) w := hS
  refine WL.r 5 rfl ?_
  refine WL.nil ?_
  refine WC.seq ?_
  refine WC.seq ?_
  refine WC.region ?_
  refine WL.call rfl rfl (awake_spec   (hS := hS)) rfl ?_
  clear hS; rintro _ w ⟨rfl, hS⟩
  replace hS : St g (cel p1 #[.int .i64 (1 + (cap % 40)), .int .i64 0, .map (some m1)] 60 :: blk m1 (.map (mE (List.map vK [])) 0) :: Shs vF [] :: Sh 38 3 (enG ls) a c :: Shs cgF ls :: L) w := hS
  refine WL.r 2 rfl ?_
  refine WL.ung rfl rfl rfl ?_
  refine WL.r 1 rfl ?_
  refine WL.ung rfl rfl rfl ?_
  refine WL.r 2 rfl ?_
  refine WL.rG 4 rfl (fun j => ?_)
  refine WL.nil ?_
  as_aux_lemma =>
    refine WC.ifF rfl (by simp) ?_
    refine WC.skip ?_
    refine WC.seq ?_
    refine WC.region ?_
    refine WL.r 1 rfl ?_
    refine WL.nil ?_
    refine WC.seq ?_
    refine WC.region ?_
    refine WL.r 1 rfl ?_
    refine WL.nil ?_
    refine WC.seq ?_
    refine WC.seq ?_
    refine WC.region ?_
    refine WL.r 1 rfl ?_
    refine WL.nil ?_
    refine WC.block ?_
    replace hS := hS.nil_ 3 1
    refine WC.loop [1, 5, 7, 8, 9] (fun kM vs w => ∃ (k : Nat) (xs : List VN) (q : Nat) (la nx : Int) (gn : List Int) (u : Option Addr) (d : Nat), vs = [.slice a (List.length (enG ls)) c, .pointer (some ⟨p1, 0, none⟩), .int .i64 nx, .slice u (List.length (i64s gn)) d, .int .i64 (k : Int)] ∧ St g (Own 3 1 (i64s gn) u d :: cel p1 #[.int .i64 (1 + cap % 40), .int .i64 la, .map (some m1)] 60 :: blk m1 (.map (mE (List.map vK xs)) q) :: Shs vF xs :: Sh 38 3 (enG ls) a c :: Shs cgF ls :: L) w ∧ (k ≤ ls.length ∧ k ≤ 50) ∧ (GI xs q (1 + cap % 40) la) ∧ (la ≤ k) ∧ (nx = la + 1) ∧ (Gon xs la gn) ∧ (gn.length ≤ k) ∧ (50 - k) = kM) (50 - 0) ⟨0, [], 0, 0, 1, [], none, 0, rfl, hS, (by omega), (⟨GOk.nil, fun _ h => (by cases h), by decide, by omega⟩), (by decide), (rfl), (fun _ h => by cases h), (Nat.le_refl _), rfl⟩ ?_
    clear hS; rintro _ _ w j ⟨k, xs, q, la, nx, gn, u, d, rfl, hS, hk, hI, hla, hnx, hg, hgl, rfl⟩
    refine WC.seq ?_
    refine WC.seq ?_
    refine WC.region ?_
    refine WL.r 4 rfl ?_
    refine WL.rG 4 rfl (fun j => ?_)
    refine WL.prop 39 rfl (band (dd _) (dd _)) ?_
    refine WL.nil ?_
    as_aux_lemma =>
      refine WC.ifP rfl (fun cd1 => ?_) (fun cd1 => ?_)
      · refine WC.skip ?_
        refine WC.seq ?_
        refine WC.block ?_
        refine WC.seq ?_
        refine WC.region ?_
        obtain ⟨z, hz⟩ : ∃ z, ls[k]? = some z := ⟨_, List.getElem?_eq_getElem (by omega)⟩; obtain ⟨hz1, hz2⟩ := hls z (List.mem_of_getElem? hz); have hla0 := hI.la
        replace hS : St g (Sh 3 1 (i64s z.ps) z.a z.c :: Own 3 1 (i64s gn) u d :: cel p1 #[.int .i64 (1 + cap % 40), .int .i64 la, .map (some m1)] 60 :: blk m1 (.map (mE (List.map vK xs)) q) :: Shs vF xs :: Sh 38 3 (enG ls) a c :: Shs cgF ls :: L) w := hS.shsGet 5 rfl (List.mem_of_getElem? hz)
        refine WL.r 2 rfl ?_
        refine WL.ix rfl rfl (i := (k : Int)) (k) el_33 rfl rfl (by omega) (len_of (enG_at hz)) (hS.rdS 5 rfl (enG_at hz)).1 ?_
        refine WL.ldC rfl rfl [.bool z.rel, .int .i64 z.ver, .slice z.a (List.length (i64s z.ps)) z.c] ag_38 rfl (hS.rdS 5 rfl (enG_at hz)).2 ?_
        refine WL.r 2 rfl ?_
        refine WL.reb 48 (.int .i64 la) (congrArg (Value.int .i64) (by rw [w64 (by omega)]; omega)) ?_
        refine WL.call rfl rfl (args_spec (z := z) (n := la) (hz := (by assumption)) (hn := (by omega)) (hl := (by assumption)) (hS := hS)) rfl ?_
        clear hS; rintro _ w ⟨ver1, ps1, a1, c1, rfl, hS, f1, f2⟩
        replace hS : St g (Own 3 1 (i64s ps1) a1 c1 :: Sh 3 1 (i64s z.ps) z.a z.c :: Own 3 1 (i64s gn) u d :: cel p1 #[.int .i64 (1 + cap % 40), .int .i64 la, .map (some m1)] 60 :: blk m1 (.map (mE (List.map vK xs)) q) :: Shs vF xs :: Sh 38 3 (enG ls) a c :: Shs cgF ls :: L) w := hS
        refine WL.r 5 rfl ?_
        refine WL.nil ?_
        refine WC.seq ?_
        refine WC.seq ?_
        refine WC.region ?_
        refine WL.r 2 rfl ?_
        refine WL.ix rfl rfl (i := (k : Int)) (k) el_33 rfl rfl (by omega) (len_of (enG_at hz)) (hS.rdS 6 rfl (enG_at hz)).1 ?_
        refine WL.run 2 [.bool z.rel] rfl (by exact (hS.rdS 6 rfl (enG_at hz)).2 0 _ rfl) ?_
        refine WL.nil ?_
        as_aux_lemma =>
          refine WC.cut [1, 5, 7, 8, 9, 10, 11, 32, 33, 34, 35, 36, 39, 42, 43, 44, 45, 46, 47, 48, 49, 50, 51, 52, 53, 54, 55, 56] (fun vs w => ∃ (xj : List VN) (qj : Nat) (la1 nx1 : Int) (gn1 : List Int) (u1 : Option Addr) (d1 : Nat), vs = [.slice a (List.length (enG ls)) c, .pointer (some ⟨p1, 0, none⟩), .int .i64 nx1, .slice u1 (List.length (i64s gn1)) d1, .int .i64 (k : Int), .int .i64 ver1, .slice a1 (List.length (i64s ps1)) c1, .int .i64 (k : Int), .slice a (List.length (enG ls)) c, .int .i64 (List.length (enG ls) : Int), .bool (decide ((k : Int) < (List.length (enG ls) : Int))), .bool (decide ((k : Int) < (List.length (enG ls) : Int))), .bool (decide (((k : Int) < (List.length (enG ls) : Int)) ∧ ((k : Int) < 50))), .tuple #[.int .i64 ver1, .slice a1 (List.length (i64s ps1)) c1], .slice a (List.length (enG ls)) c, .int .i64 (k : Int), .pointer (some ⟨bo a, (oo a) + (k * 3), none⟩), .agg #[.bool z.rel, .int .i64 z.ver, .slice z.a (List.length (i64s z.ps)) z.c], .int .i64 nx, .int .i64 la, .tuple #[.int .i64 ver1, .slice a1 (List.length (i64s ps1)) c1], .int .i64 ver1, .slice a1 (List.length (i64s ps1)) c1, .slice a (List.length (enG ls)) c, .int .i64 (k : Int), .pointer (some ⟨bo a, (oo a) + (k * 3), none⟩), .pointer (some ⟨bo a, (oo a) + (k * 3), none⟩), .bool z.rel] ∧ St g (Own 3 1 (i64s gn1) u1 d1 :: cel p1 #[.int .i64 (1 + cap % 40), .int .i64 la1, .map (some m1)] 60 :: blk m1 (.map (mE (List.map vK xj)) qj) :: Shs vF xj :: Sh 38 3 (enG ls) a c :: Shs cgF ls :: L) w ∧ (GI xj qj (1 + cap % 40) la1) ∧ (la1 ≤ k + 1) ∧ (nx1 = la1 + 1) ∧ (Gon xj la1 gn1) ∧ (gn1.length ≤ k + 1)) ?_ ?_
          · refine WC.if_ rfl (fun cd2 => ?_) (fun cd2 => ?_)
            · refine WC.seq ?_
              refine WC.region ?_
              have hgle := i64s_len gn
              refine WL.r 2 rfl ?_
              refine WL.call rfl rfl (rel_spec (p := p1) (m := m1) (cap := 1 + cap % 40) (last := la) (xs := xs) (q := q) (n := ver1) (hI := (by assumption)) (hS := (hS.sel 6 [3, 3, 3, 0, 0, 0] rfl))) rfl ?_
              clear hS; rintro _ w ⟨xs1, rfl, hS, f3, f4⟩
              replace hS : St g (cel p1 #[.int .i64 (1 + cap % 40), .int .i64 la, .map (some m1)] 60 :: blk m1 (.map (mE (List.map vK xs1)) q) :: Shs vF xs1 :: Own 3 1 (i64s ps1) a1 c1 :: Sh 3 1 (i64s z.ps) z.a z.c :: Own 3 1 (i64s gn) u d :: Sh 38 3 (enG ls) a c :: Shs cgF ls :: L) w := hS
              refine WL.r 1 rfl ?_
              refine WL.nil ?_
              refine WC.ifP rfl (fun cd3 => ?_) (fun cd3 => ?_)
              · refine WC.region ?_
                refine WL.r 2 rfl ?_
                refine WL.lit rfl rfl (i64s [ver1]) el_28 hS (by exact ⟨rfl, rfl⟩) (i64s_ok _) rfl (by decide) (fun b1 w hS => ?_)
                refine WL.app rfl rfl 6 (i64s (gn ++ [ver1])) el_28 hS rfl (hS.srcO 0 rfl) (i64s_app _ _).symm (Rm.of (by first | omega | (simp <;> omega)) (by decide)) rfl rfl (fun a2 c2 w hS => ?_)
                replace hS : St g (Own 3 1 (i64s [ver1]) (some ⟨b1, 0, none⟩) (List.length (i64s [ver1])) :: cel p1 #[.int .i64 (1 + cap % 40), .int .i64 la, .map (some m1)] 60 :: blk m1 (.map (mE (List.map vK xs1)) q) :: Shs vF xs1 :: Own 3 1 (i64s ps1) a1 c1 :: Sh 3 1 (i64s z.ps) z.a z.c :: Own 3 1 (i64s (gn ++ [ver1])) a2 c2 :: Sh 38 3 (enG ls) a c :: Shs cgF ls :: L) w := hS
                refine WL.r 1 rfl ?_
                refine WL.nil ?_
                exact ⟨xs1, q, la, nx, gn ++ [ver1], a2, c2, rfl, (hS.sel 7 [6, 1, 1, 1] rfl), (f3), (by omega), (hnx), (hg.snoc hI f4 cd3), (by simp; omega)⟩
              · refine WC.skip ?_
                exact ⟨xs1, q, la, nx, gn, u, d, rfl, (hS.sel 6 [5, 0, 0, 0] rfl), (f3), (by omega), (hnx), (hg.rel hI.ok f4), (by omega)⟩
            · refine WC.seq ?_
              refine WC.region ?_
              refine WL.r 2 rfl ?_
              replace hS := (hS.at_ 0 rfl).share
              replace hS : St g (Sh 3 1 (i64s ps1) a1 c1 :: Sh 3 1 (i64s z.ps) z.a z.c :: Own 3 1 (i64s gn) u d :: cel p1 #[.int .i64 (1 + cap % 40), .int .i64 la, .map (some m1)] 60 :: blk m1 (.map (mE (List.map vK xs)) q) :: Shs vF xs :: Sh 38 3 (enG ls) a c :: Shs cgF ls :: L) w := hS
              refine WL.call rfl rfl (add_spec (p := p1) (m := m1) (cap := 1 + cap % 40) (last := la) (xs := xs) (q := q) (ps := ps1) (a := a1) (c := c1) (hI := (by assumption)) (hla := (by omega)) (hS := (hS.sel 6 [0, 2, 2, 2, 0, 0] rfl))) rfl ?_
              clear hS; rintro _ w ⟨xs1, q1, last1, rfl, hS, f3, f4⟩
              replace hS : St g (Sh 3 1 (i64s ps1) a1 c1 :: cel p1 #[.int .i64 (1 + cap % 40), .int .i64 last1, .map (some m1)] 60 :: blk m1 (.map (mE (List.map vK xs1)) q1) :: Shs vF xs1 :: Sh 3 1 (i64s z.ps) z.a z.c :: Own 3 1 (i64s gn) u d :: Sh 38 3 (enG ls) a c :: Shs cgF ls :: L) w := hS
              refine WL.r 5 rfl ?_
              refine WL.nil ?_
              refine WC.seq ?_
              refine WC.region ?_
              refine WL.r 2 rfl ?_
              refine WL.nil ?_
              refine WC.ifP rfl (fun cd3 => ?_) (fun cd3 => ?_)
              · refine WC.seq ?_
                refine WC.seq ?_
                refine WC.region ?_
                refine WL.r 3 rfl ?_
                refine WL.nil ?_
                refine WC.ifF rfl (decide_eq_false ((fun h => h (by rw [addV, if_pos cd3, hnx])))) ?_
                refine WC.skip ?_
                refine WC.region ?_
                refine WL.r 2 rfl ?_
                refine WL.nw 77 rfl (w64 (by omega)) ?_
                refine WL.r 1 rfl ?_
                refine WL.nil ?_
                exact ⟨xs1, q1, last1, nx + 1, gn, u, d, rfl, (hS.sel 6 [5, 1, 1, 1] rfl), (f3), (by have := f4.bnd; omega), (by have h9 := (f4.vw hI.le cd3).1; omega), (hg.add hI f4), (by omega)⟩
              · refine WC.skip ?_
                exact ⟨xs1, q1, last1, nx, gn, u, d, rfl, (hS.sel 6 [5, 1, 1, 1] rfl), (f3), (by have := f4.bnd; omega), (by have h9 := ((f4.facts hI.le).resolve_right (fun h => cd3 h.1)).2.2; omega), (hg.add hI f4), (by omega)⟩
          clear hS; rintro _ w j ⟨xj, qj, la1, nx1, gn1, u1, d1, rfl, hS, hI1, hla1, hnx1, hg1, hgl1⟩
          refine WC.seq ?_
          refine WC.region ?_
          have hgl2 := i64s_len gn1
          refine WL.r 1 rfl ?_
          refine WL.nil ?_
          refine WC.block ?_
          refine WC.loop [1, 5, 7, 8, 9, 10, 11, 14, 32, 33, 34, 35, 36, 39, 42, 43, 44, 45, 46, 47, 48, 49, 50, 51, 52, 53, 54, 55, 56] (fun kM vs w => ∃ (i : Nat), vs = [.slice a (List.length (enG ls)) c, .pointer (some ⟨p1, 0, none⟩), .int .i64 nx1, .slice u1 (List.length (i64s gn1)) d1, .int .i64 (k : Int), .int .i64 ver1, .slice a1 (List.length (i64s ps1)) c1, .int .i64 (i : Int), .int .i64 (k : Int), .slice a (List.length (enG ls)) c, .int .i64 (List.length (enG ls) : Int), .bool (decide ((k : Int) < (List.length (enG ls) : Int))), .bool (decide ((k : Int) < (List.length (enG ls) : Int))), .bool (decide (((k : Int) < (List.length (enG ls) : Int)) ∧ ((k : Int) < 50))), .tuple #[.int .i64 ver1, .slice a1 (List.length (i64s ps1)) c1], .slice a (List.length (enG ls)) c, .int .i64 (k : Int), .pointer (some ⟨bo a, (oo a) + (k * 3), none⟩), .agg #[.bool z.rel, .int .i64 z.ver, .slice z.a (List.length (i64s z.ps)) z.c], .int .i64 nx, .int .i64 la, .tuple #[.int .i64 ver1, .slice a1 (List.length (i64s ps1)) c1], .int .i64 ver1, .slice a1 (List.length (i64s ps1)) c1, .slice a (List.length (enG ls)) c, .int .i64 (k : Int), .pointer (some ⟨bo a, (oo a) + (k * 3), none⟩), .pointer (some ⟨bo a, (oo a) + (k * 3), none⟩), .bool z.rel] ∧ St g (Own 3 1 (i64s gn1) u1 d1 :: cel p1 #[.int .i64 (1 + cap % 40), .int .i64 la1, .map (some m1)] 60 :: blk m1 (.map (mE (List.map vK xj)) qj) :: Shs vF xj :: Sh 38 3 (enG ls) a c :: Shs cgF ls :: L) w ∧ (i ≤ gn1.length) ∧ (gn1.length - i) = kM) ((List.length gn1) - 0) ⟨0, rfl, hS, (Nat.zero_le _), rfl⟩ ?_
          clear hS; rintro _ _ w j ⟨i, rfl, hS, hi, rfl⟩
          refine WC.seq ?_
          refine WC.seq ?_
          refine WC.region ?_
          have hgl2 := i64s_len gn1
          refine WL.r 4 rfl ?_
          refine WL.nil ?_
          refine WC.ifP rfl (fun cd2 => ?_) (fun cd2 => ?_)
          · refine WC.skip ?_
            refine WC.seq ?_
            refine WC.block ?_
            refine WC.seq ?_
            refine WC.region ?_
            obtain ⟨x, hx⟩ : ∃ x, gn1[i]? = some x := ⟨_, List.getElem?_eq_getElem (by omega)⟩; have hgx := hg1 x (List.mem_of_getElem? hx)
            refine WL.r 3 rfl ?_
            refine WL.ix rfl rfl (i := (i : Int)) (i) el_28 rfl rfl (by omega) (len_of (i64s_at hx)) (hS.rdO 0 rfl (i64s_at hx)).1 ?_
            refine WL.run 1 [.int .i64 x] rfl (by exact (hS.rdO 0 rfl (i64s_at hx)).2 0 _ rfl) ?_
            refine WL.call rfl rfl (live_spec (p := p1) (m := m1) (cap := 1 + cap % 40) (last := la1) (xs := xj) (q := qj) (n := x) (hu := (by first | assumption | exact (GI.ok (by assumption)).uniq)) (hS := (hS.sel 4 [1, 1, 1, 0] rfl))) rfl ?_
            clear hS; rintro _ w ⟨rfl, hS⟩
            replace hS : St g (cel p1 #[.int .i64 (1 + cap % 40), .int .i64 la1, .map (some m1)] 60 :: blk m1 (.map (mE (List.map vK xj)) qj) :: Shs vF xj :: Own 3 1 (i64s gn1) u1 d1 :: Sh 38 3 (enG ls) a c :: Shs cgF ls :: L) w := hS
            refine WL.r 1 rfl ?_
            refine WL.reb 90 (.bool false) (congrArg Value.bool (Bool.eq_false_iff.2 ((by rw [hgx.1]; decide)))) ?_
            refine WL.ung rfl rfl rfl ?_
            refine WL.r 1 rfl ?_
            refine WL.ung rfl rfl rfl ?_
            refine WL.r 1 rfl ?_
            refine WL.ung rfl rfl rfl ?_
            refine WL.r 1 rfl ?_
            refine WL.ung rfl rfl rfl ?_
            refine WL.ix rfl rfl (i := (i : Int)) (i) el_28 rfl rfl (by omega) (len_of (i64s_at hx)) (hS.rdO 3 rfl (i64s_at hx)).1 ?_
            refine WL.ung rfl rfl rfl ?_
            refine WL.run 1 [.int .i64 x] rfl (by exact (hS.rdO 3 rfl (i64s_at hx)).2 0 _ rfl) ?_
            refine WL.ung rfl rfl rfl ?_
            refine WL.call rfl rfl (rel_spec (p := p1) (m := m1) (cap := 1 + cap % 40) (last := la1) (xs := xj) (q := qj) (n := x) (hI := (by assumption)) (hS := hS)) rfl ?_
            clear hS; rintro _ w ⟨xs1, rfl, hS, f3, f4⟩
            replace hS : St g (cel p1 #[.int .i64 (1 + cap % 40), .int .i64 la1, .map (some m1)] 60 :: blk m1 (.map (mE (List.map vK xs1)) qj) :: Shs vF xs1 :: Own 3 1 (i64s gn1) u1 d1 :: Sh 38 3 (enG ls) a c :: Shs cgF ls :: L) w := hS
            refine WL.ung rfl rfl rfl ?_
            refine WL.r 2 rfl ?_
            refine WL.nil ?_
            as_aux_lemma =>
              refine WC.ifF rfl (decide_eq_false ((fun h => h (relE_no hgx.1)))) ?_
              refine WC.skip ?_
              refine WC.region ?_
              refine WL.r 2 rfl ?_
              refine WL.nw 83 rfl (w64 (by omega)) ?_
              refine WL.r 1 rfl ?_
              refine WL.nil ?_
              have e9 := f4.same hgx.1
              rw [e9] at hS
              replace hS : St g (cel p1 #[.int .i64 (1 + cap % 40), .int .i64 la1, .map (some m1)] 60 :: blk m1 (.map (mE (List.map vK xj)) qj) :: Shs vF xj :: Own 3 1 (i64s gn1) u1 d1 :: Sh 38 3 (enG ls) a c :: Shs cgF ls :: L) w := hS
              exact ⟨_, by omega, i + 1, rfl, (hS.sel 4 [3, 0, 0, 0] rfl), (by omega), rfl⟩
          · refine WC.exit ?_
            refine WC.region ?_
            refine WL.r 2 rfl ?_
            refine WL.nw 41 rfl (w64 (by omega)) ?_
            refine WL.r 1 rfl ?_
            refine WL.nil ?_
            exact ⟨_, by omega, k + 1, xj, qj, la1, nx1, gn1, u1, d1, rfl, hS, (by omega), (hI1), (by omega), (hnx1), (hg1), (hgl1), rfl⟩
      · refine WC.exit ?_
        refine WC.seq ?_
        refine WC.region ?_
        refine WL.r 1 rfl ?_
        refine WL.nil ?_
        refine WC.ret ?_
        refine ⟨[.bool true], rfl, ?_⟩
        replace hS := (hS.sel 6 [] rfl)
        exact ⟨rfl, hS⟩
end Go.Proofs.Ytjoilgpleaemcaa
