/-
  Calls of the laws: their arguments; a history played.
  Conditions: the arguments lie in their kinds.
-/
import Derived.Test.YtjoilgpleaemcaaA6
import Derived.Test.YtjoilgpleaemcaaGk
namespace Go.Proofs.Ytjoilgpleaemcaa
open Go Go.V Go.RowKit

set_option maxHeartbeats 1000000 in
set_option maxRecDepth 8192 in
theorem args_spec {g w : World} {L : List HP} (z : Cg) (n : Int) (hz : CgOk z) (hn : 0 ≤ n ∧ n ≤ 1000000) (hl : z.ps.length ≤ maxLen) (hS : St g (Sh 3 1 (i64s z.ps) z.a z.c :: L) w) :
    Sp Try.prog 16 [.agg #[.bool z.rel, .int .i64 z.ver, .slice z.a (List.length (i64s z.ps)) z.c], .int .i64 n] w (fun v w' => ∃ (ver : Int) (ps : List Int) (a2 : Option Addr) (c2 : Nat), v = .tuple #[.int .i64 ver, .slice a2 (List.length (i64s ps)) c2] ∧ St g (Own 3 1 (i64s ps) a2 c2 :: Sh 3 1 (i64s z.ps) z.a z.c :: L) w' ∧ (Ir ver) ∧ (ps.length ≤ 3)) := by
  refine Sp.enter Try.func16 rfl (by kernel_rfl) (by kernel_rfl) ?_
  have _ := hl
  have _ := hn
  refine WC.seq ?_
  refine WC.region ?_
  refine WL.box rfl rfl #[.bool z.rel, .int .i64 z.ver, .slice z.a (List.length (i64s z.ps)) z.c] hS rfl rfl (fun b1 w hS => ?_)
  refine WL.r 2 rfl ?_
  refine WL.nil ?_
  refine WC.seq ?_
  refine WC.region ?_
  have hv := hz.ver; have hpl := i64s_len z.ps; have hml : maxLen = 9223372036854775807 := rfl
  have e1 := Int.emod_nonneg z.ver (show n + 2 ≠ 0 by omega); have e2 := Int.emod_lt_of_pos z.ver (show 0 < n + 2 by omega)
  refine WL.run 4 [.int .i64 z.ver] rfl (by exact hS.ld 0 rfl rfl) ?_
  refine WL.nw 13 rfl (w64 (by omega)) ?_
  refine WL.call rfl rfl (mod_spec (k := z.ver) (n := n + 2) (hk := hv) (hn := (by omega)) (hS := hS)) rfl ?_
  clear hS; rintro _ w ⟨rfl, hS⟩
  replace hS : St g (cel b1 #[.bool z.rel, .int .i64 z.ver, .slice z.a (List.length (i64s z.ps)) z.c] 38 :: Sh 3 1 (i64s z.ps) z.a z.c :: L) w := hS
  refine WL.r 1 rfl ?_
  refine WL.nil ?_
  refine WC.seq ?_
  refine WC.seq ?_
  refine WC.region ?_
  refine WL.run 3 [.int .i64 z.ver] rfl (by exact hS.ld 0 rfl rfl) ?_
  refine WL.r 1 rfl ?_
  refine WL.nil ?_
  refine WC.cut [1, 2, 4, 5, 6] (fun vs w => ∃ (v : Int), vs = [.int .i64 n, .pointer (some ⟨b1, 0, none⟩), .int .i64 0, .slice none 0 0, .int .i64 v] ∧ St g (cel b1 #[.bool z.rel, .int .i64 z.ver, .slice z.a (List.length (i64s z.ps)) z.c] 38 :: Sh 3 1 (i64s z.ps) z.a z.c :: L) w ∧ (Ir v)) ?_ ?_
  · refine WC.ifP rfl (fun cd1 => ?_) (fun cd1 => ?_)
    · refine WC.region ?_
      refine WL.run 3 [.int .i64 z.ver] rfl (by exact hS.ld 0 rfl rfl) ?_
      refine WL.nil ?_
      exact ⟨z.ver, rfl, hS, (hv)⟩
    · refine WC.skip ?_
      exact ⟨z.ver % (n + 2), rfl, hS, (⟨by omega, by omega⟩)⟩
  clear hS; rintro _ w j ⟨v, rfl, hS, hv6⟩
  as_aux_lemma =>
    refine WC.seq ?_
    refine WC.region ?_
    refine WL.r 1 rfl ?_
    refine WL.nil ?_
    refine WC.seq ?_
    refine WC.seq ?_
    refine WC.region ?_
    refine WL.r 1 rfl ?_
    refine WL.nil ?_
    refine WC.block ?_
    replace hS := hS.nil_ 3 1
    refine WC.loop [1, 2, 4, 5, 6, 7, 8] (fun kM vs w => ∃ (k : Nat) (out : List Int) (u : Option Addr) (d : Nat), vs = [.int .i64 n, .pointer (some ⟨b1, 0, none⟩), .int .i64 0, .slice none 0 0, .int .i64 v, .slice u (List.length (i64s out)) d, .int .i64 (k : Int)] ∧ St g (Own 3 1 (i64s out) u d :: cel b1 #[.bool z.rel, .int .i64 z.ver, .slice z.a (List.length (i64s z.ps)) z.c] 38 :: Sh 3 1 (i64s z.ps) z.a z.c :: L) w ∧ (k ≤ z.ps.length ∧ k ≤ 3) ∧ (out.length ≤ k) ∧ (3 - k) = kM) (3 - 0) ⟨0, [], none, 0, rfl, hS, (by omega), (Nat.le_refl _), rfl⟩ ?_
    clear hS; rintro _ _ w j ⟨k, out, u, d, rfl, hS, hk, ho, rfl⟩
    refine WC.seq ?_
    refine WC.seq ?_
    refine WC.region ?_
    refine WL.run 5 [.slice z.a (List.length (i64s z.ps)) z.c] rfl (by exact hS.ld 1 rfl rfl) ?_
    refine WL.rG 4 rfl (fun j => ?_)
    refine WL.prop 29 rfl (band (dd _) (dd _)) ?_
    refine WL.nil ?_
    refine WC.ifP rfl (fun cd1 => ?_) (fun cd1 => ?_)
    · refine WC.skip ?_
      refine WC.seq ?_
      refine WC.block ?_
      refine WC.seq ?_
      refine WC.region ?_
      have hol := i64s_len out
      refine WL.run 4 [.slice z.a (List.length (i64s z.ps)) z.c] rfl (by exact hS.ld 1 rfl rfl) ?_
      obtain ⟨x, hx⟩ : ∃ x, z.ps[k]? = some x := ⟨_, List.getElem?_eq_getElem (by omega)⟩; have hxr := hz.ps x (List.mem_of_getElem? hx)
      refine WL.ix rfl rfl (i := (k : Int)) (k) el_28 rfl rfl (by omega) (len_of (i64s_at hx)) (hS.rdS 2 rfl (i64s_at hx)).1 ?_
      refine WL.run 1 [.int .i64 x] rfl (by exact (hS.rdS 2 rfl (i64s_at hx)).2 0 _ rfl) ?_
      refine WL.call rfl rfl (mod_spec (k := x) (n := 6) (hk := hxr) (hn := (by omega)) (hS := hS)) rfl ?_
      clear hS; rintro _ w ⟨rfl, hS⟩
      replace hS : St g (Own 3 1 (i64s out) u d :: cel b1 #[.bool z.rel, .int .i64 z.ver, .slice z.a (List.length (i64s z.ps)) z.c] 38 :: Sh 3 1 (i64s z.ps) z.a z.c :: L) w := hS
      refine WL.r 1 rfl ?_
      refine WL.nw 39 rfl (w64 (by omega)) ?_
      refine WL.r 1 rfl ?_
      refine WL.nil ?_
      as_aux_lemma =>
        refine WC.seq ?_
        refine WC.seq ?_
        refine WC.region ?_
        refine WL.run 3 [.slice z.a (List.length (i64s z.ps)) z.c] rfl (by exact hS.ld 1 rfl rfl) ?_
        refine WL.ix rfl rfl (i := (k : Int)) (k) el_28 rfl rfl (by omega) (len_of (i64s_at hx)) (hS.rdS 2 rfl (i64s_at hx)).1 ?_
        refine WL.run 2 [.int .i64 x] rfl (by exact (hS.rdS 2 rfl (i64s_at hx)).2 0 _ rfl) ?_
        refine WL.r 1 rfl ?_
        refine WL.nil ?_
        refine WC.cut [1, 2, 4, 5, 6, 7, 8, 9, 21, 22, 23, 24, 25, 26, 29, 32, 33, 34, 35, 36, 37, 38, 39, 40, 41, 42, 43, 44, 45, 46] (fun vs w => ∃ (y : Int), vs = [.int .i64 n, .pointer (some ⟨b1, 0, none⟩), .int .i64 0, .slice none 0 0, .int .i64 v, .slice u (List.length (i64s out)) d, .int .i64 (k : Int), .int .i64 y, .int .i64 (k : Int), .pointer (some ⟨b1, 2, none⟩), .slice z.a (List.length (i64s z.ps)) z.c, .int .i64 (List.length (i64s z.ps) : Int), .bool (decide ((k : Int) < (List.length (i64s z.ps) : Int))), .bool (decide ((k : Int) < (List.length (i64s z.ps) : Int))), .bool (decide (((k : Int) < (List.length (i64s z.ps) : Int)) ∧ ((k : Int) < 3))), .int .i64 n, .pointer (some ⟨b1, 2, none⟩), .slice z.a (List.length (i64s z.ps)) z.c, .int .i64 (k : Int), .pointer (some ⟨bo z.a, (oo z.a) + (k * 1), none⟩), .int .i64 x, .int .i64 (x % 6), .int .i64 (n - (x % 6)), .pointer (some ⟨b1, 2, none⟩), .slice z.a (List.length (i64s z.ps)) z.c, .int .i64 (k : Int), .pointer (some ⟨bo z.a, (oo z.a) + (k * 1), none⟩), .int .i64 x, .int .i64 (x.tmod 17), .bool (decide ((x.tmod 17) = 16))] ∧ St g (Own 3 1 (i64s out) u d :: cel b1 #[.bool z.rel, .int .i64 z.ver, .slice z.a (List.length (i64s z.ps)) z.c] 38 :: Sh 3 1 (i64s z.ps) z.a z.c :: L) w) ?_ ?_
        · refine WC.ifP rfl (fun cd2 => ?_) (fun cd2 => ?_)
          · refine WC.region ?_
            refine WL.run 3 [.slice z.a (List.length (i64s z.ps)) z.c] rfl (by exact hS.ld 1 rfl rfl) ?_
            refine WL.ix rfl rfl (i := (k : Int)) (k) el_28 rfl rfl (by omega) (len_of (i64s_at hx)) (hS.rdS 2 rfl (i64s_at hx)).1 ?_
            refine WL.run 2 [.int .i64 x] rfl (by exact (hS.rdS 2 rfl (i64s_at hx)).2 0 _ rfl) ?_
            refine WL.nil ?_
            exact ⟨x, rfl, hS⟩
          · refine WC.skip ?_
            exact ⟨n - x % 6, rfl, hS⟩
        clear hS; rintro _ w j ⟨y, rfl, hS⟩
        refine WC.seq ?_
        refine WC.region ?_
        refine WL.r 2 rfl ?_
        refine WL.runG 6 [.int .i64 z.ver] rfl (by exact (fun _ => hS.ld 1 rfl rfl)) (fun j => ?_)
        refine WL.prop 59 rfl (bor (dd _) (dd _)) ?_
        refine WL.nil ?_
        refine WC.ifP rfl (fun cd2 => ?_) (fun cd2 => ?_)
        · refine WC.region ?_
          refine WL.r 2 rfl ?_
          refine WL.lit rfl rfl (i64s [y]) el_28 hS (by exact ⟨rfl, rfl⟩) (i64s_ok _) rfl (by decide) (fun b2 w hS => ?_)
          refine WL.app rfl rfl 1 (i64s (out ++ [y])) el_28 hS rfl (hS.srcO 0 rfl) (i64s_app _ _).symm (Rm.of (by first | omega | (simp <;> omega)) (by decide)) rfl rfl (fun a1 c1 w hS => ?_)
          replace hS : St g (Own 3 1 (i64s [y]) (some ⟨b2, 0, none⟩) (List.length (i64s [y])) :: Own 3 1 (i64s (out ++ [y])) a1 c1 :: cel b1 #[.bool z.rel, .int .i64 z.ver, .slice z.a (List.length (i64s z.ps)) z.c] 38 :: Sh 3 1 (i64s z.ps) z.a z.c :: L) w := hS
          refine WL.r 1 rfl ?_
          refine WL.nil ?_
          refine WC.region ?_
          refine WL.r 2 rfl ?_
          refine WL.nw 31 rfl (w64 (by omega)) ?_
          refine WL.r 1 rfl ?_
          refine WL.nil ?_
          exact ⟨_, by omega, k + 1, out ++ [y], a1, c1, rfl, (hS.sel 1 [] rfl), (by omega), (by simp; omega), rfl⟩
        · refine WC.skip ?_
          refine WC.region ?_
          refine WL.r 2 rfl ?_
          refine WL.nw 31 rfl (w64 (by omega)) ?_
          refine WL.r 1 rfl ?_
          refine WL.nil ?_
          exact ⟨_, by omega, k + 1, out, u, d, rfl, hS, (by omega), (by omega), rfl⟩
    · refine WC.exit ?_
      refine WC.seq ?_
      refine WC.region ?_
      refine WL.r 4 rfl ?_
      refine WL.nil ?_
      as_aux_lemma =>
        refine WC.ret ?_
        refine ⟨[.int .i64 v, .slice u (List.length (i64s out)) d], ⟨rfl, rfl⟩, ?_⟩
        replace hS := (hS.sel 2 [0] rfl)
        exact ⟨_, _, _, _, rfl, hS, hv6, by omega⟩
set_option maxHeartbeats 1000000 in
set_option maxRecDepth 8192 in
theorem play_spec {g w : World} {L : List HP} (n : Int) (ls : List Cg) (a : Option Addr) (c : Nat) (hn : 1 ≤ n ∧ n ≤ 4096) (hls : ∀ z ∈ ls, CgOk z ∧ z.ps.length ≤ maxLen) (hS : St g (Sh 38 3 (enG ls) a c :: Shs cgF ls :: L) w) :
    Sp Try.prog 15 [.int .i64 n, .slice a (List.length (enG ls)) c] w (fun v w' => ∃ (p m : Nat) (xs : List VN) (q : Nat) (last : Int), v = .tuple #[.pointer (some ⟨p, 0, none⟩), .int .i64 last] ∧ St g (cel p #[.int .i64 n, .int .i64 last, .map (some m)] 60 :: blk m (.map (mE (List.map vK xs)) q) :: Shs vF xs :: Sh 38 3 (enG ls) a c :: Shs cgF ls :: L) w' ∧ (GI xs q n last) ∧ (KO xs) ∧ (last ≤ 60)) := by
  refine Sp.enter Try.func15 rfl (by kernel_rfl) (by kernel_rfl) ?_
  refine WC.seq ?_
  refine WC.region ?_
  refine WL.r 2 rfl ?_
  refine WL.nil ?_
  refine WC.seq ?_
  refine WC.region ?_
  have hel := enG_len ls
  refine WL.r 1 rfl ?_
  refine WL.call rfl rfl (new_ok (cap := n) (hc := hn) (hS := hS)) rfl ?_
  clear hS; rintro _ w ⟨p1, m1, rfl, hS⟩
  replace hS : St g (cel p1 #[.int .i64 n, .int .i64 0, .map (some m1)] 60 :: blk m1 (.map (mE (List.map vK [])) 0) :: Shs vF [] :: Sh 38 3 (enG ls) a c :: Shs cgF ls :: L) w := hS
  refine WL.r 5 rfl ?_
  refine WL.nil ?_
  refine WC.seq ?_
  refine WC.seq ?_
  refine WC.region ?_
  refine WL.r 2 rfl ?_
  refine WL.rG 4 rfl (fun j => ?_)
  refine WL.nil ?_
  refine WC.ifF rfl (by simp) ?_
  refine WC.skip ?_
  refine WC.seq ?_
  refine WC.region ?_
  refine WL.r 1 rfl ?_
  refine WL.nil ?_
  as_aux_lemma =>
    refine WC.seq ?_
    refine WC.seq ?_
    refine WC.region ?_
    refine WL.r 1 rfl ?_
    refine WL.nil ?_
    refine WC.block ?_
    refine WC.loop [1, 4, 5, 6, 8, 9] (fun kM vs w => ∃ (k : Nat) (xs : List VN) (q : Nat) (la : Int), vs = [.slice a (List.length (enG ls)) c, .pointer none, .int .i64 0, .pointer (some ⟨p1, 0, none⟩), .int .i64 la, .int .i64 (k : Int)] ∧ St g (cel p1 #[.int .i64 n, .int .i64 la, .map (some m1)] 60 :: blk m1 (.map (mE (List.map vK xs)) q) :: Shs vF xs :: Sh 38 3 (enG ls) a c :: Shs cgF ls :: L) w ∧ (k ≤ ls.length ∧ k ≤ 60) ∧ (GI xs q n la) ∧ (KO xs) ∧ (la ≤ k) ∧ (60 - k) = kM) (60 - 0) ⟨0, [], 0, 0, rfl, hS, (by omega), (⟨GOk.nil, fun _ h => (by cases h), by decide, hn⟩), (KO.nil), (by decide), rfl⟩ ?_
    clear hS; rintro _ _ w j ⟨k, xs, q, la, rfl, hS, hk, hI, hK, hla, rfl⟩
    refine WC.seq ?_
    refine WC.seq ?_
    refine WC.region ?_
    refine WL.r 4 rfl ?_
    refine WL.rG 4 rfl (fun j => ?_)
    refine WL.prop 32 rfl (band (dd _) (dd _)) ?_
    refine WL.nil ?_
    refine WC.ifP rfl (fun cd1 => ?_) (fun cd1 => ?_)
    · refine WC.skip ?_
      refine WC.seq ?_
      refine WC.block ?_
      refine WC.seq ?_
      refine WC.region ?_
      obtain ⟨z, hz⟩ : ∃ z, ls[k]? = some z := ⟨_, List.getElem?_eq_getElem (by omega)⟩; obtain ⟨hz1, hz2⟩ := hls z (List.mem_of_getElem? hz); have hla0 := hI.la
      replace hS : St g (Sh 3 1 (i64s z.ps) z.a z.c :: cel p1 #[.int .i64 n, .int .i64 la, .map (some m1)] 60 :: blk m1 (.map (mE (List.map vK xs)) q) :: Shs vF xs :: Sh 38 3 (enG ls) a c :: Shs cgF ls :: L) w := hS.shsGet 4 rfl (List.mem_of_getElem? hz)
      refine WL.r 2 rfl ?_
      refine WL.ix rfl rfl (i := (k : Int)) (k) el_33 rfl rfl (by omega) (len_of (enG_at hz)) (hS.rdS 4 rfl (enG_at hz)).1 ?_
      refine WL.ldC rfl rfl [.bool z.rel, .int .i64 z.ver, .slice z.a (List.length (i64s z.ps)) z.c] ag_38 rfl (hS.rdS 4 rfl (enG_at hz)).2 ?_
      refine WL.r 1 rfl ?_
      refine WL.call rfl rfl (args_spec (z := z) (n := la) (hz := (by assumption)) (hn := (by omega)) (hl := (by assumption)) (hS := hS)) rfl ?_
      clear hS; rintro _ w ⟨ver1, ps1, a1, c1, rfl, hS, f1, f2⟩
      replace hS : St g (Own 3 1 (i64s ps1) a1 c1 :: Sh 3 1 (i64s z.ps) z.a z.c :: cel p1 #[.int .i64 n, .int .i64 la, .map (some m1)] 60 :: blk m1 (.map (mE (List.map vK xs)) q) :: Shs vF xs :: Sh 38 3 (enG ls) a c :: Shs cgF ls :: L) w := hS
      refine WL.r 5 rfl ?_
      refine WL.nil ?_
      as_aux_lemma =>
        refine WC.seq ?_
        refine WC.region ?_
        refine WL.r 2 rfl ?_
        refine WL.ix rfl rfl (i := (k : Int)) (k) el_33 rfl rfl (by omega) (len_of (enG_at hz)) (hS.rdS 5 rfl (enG_at hz)).1 ?_
        refine WL.run 2 [.bool z.rel] rfl (by exact (hS.rdS 5 rfl (enG_at hz)).2 0 _ rfl) ?_
        refine WL.nil ?_
        refine WC.if_ rfl (fun cd2 => ?_) (fun cd2 => ?_)
        · refine WC.region ?_
          refine WL.r 2 rfl ?_
          refine WL.call rfl rfl (rel_spec (p := p1) (m := m1) (cap := n) (last := la) (xs := xs) (q := q) (n := ver1) (hI := (by assumption)) (hS := (hS.sel 5 [2, 2, 2, 0, 0] rfl))) rfl ?_
          clear hS; rintro _ w ⟨xs1, rfl, hS, f3, f4⟩
          replace hS : St g (cel p1 #[.int .i64 n, .int .i64 la, .map (some m1)] 60 :: blk m1 (.map (mE (List.map vK xs1)) q) :: Shs vF xs1 :: Own 3 1 (i64s ps1) a1 c1 :: Sh 3 1 (i64s z.ps) z.a z.c :: Sh 38 3 (enG ls) a c :: Shs cgF ls :: L) w := hS
          refine WL.nil ?_
          refine WC.region ?_
          refine WL.r 2 rfl ?_
          refine WL.nw 34 rfl (w64 (by omega)) ?_
          refine WL.r 1 rfl ?_
          refine WL.nil ?_
          exact ⟨_, by omega, k + 1, xs1, q, la, rfl, (hS.sel 5 [0, 0, 0] rfl), (by omega), (f3), (hK.rel hI.ok f4), (by omega), rfl⟩
        · refine WC.seq ?_
          refine WC.region ?_
          refine WL.r 2 rfl ?_
          replace hS := (hS.at_ 0 rfl).share
          replace hS : St g (Sh 3 1 (i64s ps1) a1 c1 :: Sh 3 1 (i64s z.ps) z.a z.c :: cel p1 #[.int .i64 n, .int .i64 la, .map (some m1)] 60 :: blk m1 (.map (mE (List.map vK xs)) q) :: Shs vF xs :: Sh 38 3 (enG ls) a c :: Shs cgF ls :: L) w := hS
          refine WL.call rfl rfl (add_spec (p := p1) (m := m1) (cap := n) (last := la) (xs := xs) (q := q) (ps := ps1) (a := a1) (c := c1) (hI := (by assumption)) (hla := (by omega)) (hS := (hS.sel 5 [0, 1, 1, 1, 0] rfl))) rfl ?_
          clear hS; rintro _ w ⟨xs1, q1, last1, rfl, hS, f3, f4⟩
          replace hS : St g (Sh 3 1 (i64s ps1) a1 c1 :: cel p1 #[.int .i64 n, .int .i64 last1, .map (some m1)] 60 :: blk m1 (.map (mE (List.map vK xs1)) q1) :: Shs vF xs1 :: Sh 3 1 (i64s z.ps) z.a z.c :: Sh 38 3 (enG ls) a c :: Shs cgF ls :: L) w := hS
          refine WL.r 5 rfl ?_
          refine WL.nil ?_
          refine WC.seq ?_
          refine WC.region ?_
          refine WL.r 2 rfl ?_
          refine WL.nil ?_
          refine WC.ifP rfl (fun cd3 => ?_) (fun cd3 => ?_)
          · refine WC.region ?_
            refine WL.reb 12 (.int .i64 last1) (congrArg (Value.int .i64) (by obtain ⟨e9, _, _⟩ := f4.vw hI.le cd3; rw [addV, if_pos cd3, e9])) ?_
            refine WL.r 2 rfl ?_
            refine WL.nil ?_
            as_aux_lemma =>
              refine WC.region ?_
              refine WL.r 2 rfl ?_
              refine WL.nw 34 rfl (w64 (by omega)) ?_
              refine WL.r 1 rfl ?_
              refine WL.nil ?_
              exact ⟨_, by omega, k + 1, xs1, q1, last1, rfl, (hS.sel 5 [1, 1, 1] rfl), (by omega), (f3), (hK.add hI.le f4), (by have := f4.bnd; omega), rfl⟩
          · refine WC.skip ?_
            refine WC.region ?_
            refine WL.r 2 rfl ?_
            refine WL.nw 34 rfl (w64 (by omega)) ?_
            refine WL.r 1 rfl ?_
            refine WL.nil ?_
            obtain ⟨_, _, e9⟩ := (f4.facts hI.le).resolve_right (fun h => cd3 h.1)
            rw [e9] at hS f3
            replace hS : St g (Sh 3 1 (i64s ps1) a1 c1 :: cel p1 #[.int .i64 n, .int .i64 la, .map (some m1)] 60 :: blk m1 (.map (mE (List.map vK xs1)) q1) :: Shs vF xs1 :: Sh 3 1 (i64s z.ps) z.a z.c :: Sh 38 3 (enG ls) a c :: Shs cgF ls :: L) w := hS
            exact ⟨_, by omega, k + 1, xs1, q1, la, rfl, (hS.sel 5 [1, 1, 1] rfl), (by omega), (f3), (hK.add hI.le f4), (by omega), rfl⟩
    · refine WC.exit ?_
      refine WC.seq ?_
      refine WC.region ?_
      refine WL.r 4 rfl ?_
      refine WL.nil ?_
      refine WC.ret ?_
      refine ⟨[.pointer (some ⟨p1, 0, none⟩), .int .i64 la], ⟨rfl, rfl⟩, ?_⟩
      exact ⟨_, _, _, _, _, rfl, hS, hI, hK, by omega⟩
end Go.Proofs.Ytjoilgpleaemcaa
