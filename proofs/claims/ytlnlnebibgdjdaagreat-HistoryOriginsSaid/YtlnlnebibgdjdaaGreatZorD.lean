/-
  What the proof of Jhor stands on, part 4.
  Conditions: none.
-/
import Derived.Test.YtlnlnebibgdjdaaGreatZorC
/-! ## H7 -/
namespace Go.Proofs.YtlnlnebibgdjdaaGreat
open Go Go.V Go.RowKit
theorem mkL_R {raw : Kvs} (h : kvR raw) : ∀ k, kvR (mkL raw k)
  | 0 => fun x hx => by cases hx
  | k + 1 => by
    cases he : raw[k]? with
    | none =>
      have : mkL raw (k + 1) = mkL raw k := by unfold mkL; rw [List.take_add_one, he]; simp
      rw [this]; exact mkL_R h k
    | some e =>
      rw [mkL_succ he]
      exact kvR_lins (mkL_R h k) (h e (List.mem_of_getElem? he))
theorem get_in {t : Tr} {l : Kvs} {x : Int × Int} (h : t.ls = l) (hs : Srt l) (hx : x ∈ l) : (Tr.get x.1 t).isSome = true := by
  rw [Tr.get_ls x.1 t (by rw [h]; exact hs), h, (lget_some hs).2 hx]; rfl
def i6 (z : Int) : Prop := -9223372036854775808 ≤ z ∧ z ≤ 9223372036854775807
def stR (S : List Chg) : Prop := ∀ s ∈ S, i6 s.1 ∧ i6 s.2.1 ∧ i6 s.2.2.2
theorem snoc_le {α : Type} {xs : List α} {x z : α} (h : z ∈ xs ++ [x]) : z ∈ x :: xs := by
  rcases List.mem_append.1 h with h | h
  · exact List.mem_cons_of_mem _ h
  · rw [List.mem_singleton.1 h]; exact List.mem_cons_self ..
set_option maxRecDepth 8192 in
theorem refS_del {g w : World} {L : List HP} (l : Kvs) (u : Option Addr) (d : Nat) (k : Int) (hl : l.length ≤ 1000000) (hS : St g (Sh 77 2 (en2 l) u d :: L) w) :
    Sp Tryz.prog 93 [.slice u (List.length (en2 l)) d, .int .i64 k] w (fun v w' => ∃ (a2 : Option Addr) (c2 : Nat), v = .slice a2 (List.length (en2 (ldel k l))) c2 ∧ St g (Sh 77 2 (en2 (ldel k l)) a2 c2 :: Sh 77 2 (en2 l) u d :: L) w') := by
  exact (ref_del l u d k hl hS).mono fun v w' ⟨a2, c2, hv, hS'⟩ => ⟨a2, c2, hv, hS'.share⟩
set_option maxRecDepth 8192 in
theorem refS_ins {g w : World} {L : List HP} (l : Kvs) (u : Option Addr) (d : Nat) (k z : Int) (hs : Srt l) (hl : l.length ≤ 1000000) (hS : St g (Sh 77 2 (en2 l) u d :: L) w) :
    Sp Tryz.prog 66 [.slice u (List.length (en2 l)) d, .agg #[.int .i64 k, .int .i64 z]] w (fun v w' => ∃ (a2 : Option Addr) (c2 : Nat), v = .slice a2 (List.length (en2 (lins k z l))) c2 ∧ St g (Sh 77 2 (en2 (lins k z l)) a2 c2 :: Sh 77 2 (en2 l) u d :: L) w') := by
  exact (ref_ins l u d k z hs hl hS).mono fun v w' ⟨a2, c2, hv, hS'⟩ => ⟨a2, c2, hv, hS'.share⟩
set_option maxHeartbeats 4000000 in
set_option maxRecDepth 8192 in
theorem kt_chain {g w : World} {L : List HP} (raw : Kvs) (u : Option Addr) (d : Nat) (q : Int) (S : List Chg) (us : Option Addr) (ds : Nat) (hq : 0 ≤ q ∧ q ≤ 18446744073709551615) (hraw : kvR raw) (hS0 : stR S) (hSl : S.length ≤ 9223372036854775807) (hS : St g (Sh 77 2 (en2 raw) u d :: Sh 79 4 (ch4 S) us ds :: L) w) :
    Sp Tryz.prog 26 [.slice u (List.length (en2 raw)) d, .int .u64 q, .slice us (List.length (ch4 S)) ds] w (fun v w' => ∃ (a : Nat) (A : AM) (R rs : List Int) (ru : Option Addr) (rc : Nat) (LL : List LsE) (lu : Option Addr) (lc : Nat), v = .tuple #[.pointer (some ⟨a, 0, none⟩), .slice ru (List.length (u32s rs)) rc, .slice lu (List.length (enL LL)) lc, .bool true] ∧ St g (Arn a A :: Own 64 1 (u32s rs) ru rc :: Own 49 1 (enL LL) lu lc :: Shs leF LL :: L) w' ∧ (ARf A R) ∧ (RTs A (LL.map LsE.es) rs) ∧ (LOk (LL.map LsE.es)) ∧ (1 ≤ rs.length ∧ rs.length ≤ 15)) := by
  refine Sp.enter Tryz.func26 rfl (by kernel_rfl) (by kernel_rfl) ?_
  have _ := hSl
  have _ := hq
  refine WC.seq ?_
  refine WC.region ?_
  refine WL.r 4 rfl ?_
  refine WL.nil ?_
  refine WC.seq ?_
  refine WC.region ?_
  have hml := mkL_srt raw 40; have hmr := mkL_R hraw 40; have hcl := ch4_len S; have hel : (en2 (mkL raw (Int.toNat 40))).length = (mkL raw 40).length := en2_len (mkL raw 40)
  refine WL.r 1 rfl ?_
  refine WL.call rfl rfl (kt_list (raw := raw) (u := u) (d := d) (most := 40) (hm := (by omega)) (hS := hS)) rfl ?_
  clear hS; rintro _ w ⟨a1, c1, rfl, hS⟩
  replace hS : St g (Own 77 2 (en2 (mkL raw 40)) a1 c1 :: Sh 77 2 (en2 raw) u d :: Sh 79 4 (ch4 S) us ds :: L) w := hS
  refine WL.r 1 rfl ?_
  refine WL.nil ?_
  refine WC.seq ?_
  refine WC.region ?_
  obtain ⟨n, hn⟩ : ∃ n : Nat, min (List.length (ch4 S) : Int) 14 = (n : Int) := ⟨min (ch4 S).length 14, by omega⟩; have hn2 : n ≤ 14 ∧ n ≤ S.length := (by omega)
  refine WL.r 4 rfl ?_
  refine WL.nil ?_
  refine WC.seq ?_
  refine WC.region ?_
  obtain ⟨c, hc⟩ : ∃ c : Nat, c = 4 * (Tr.mxH ((mkL raw 40).length + n + 1) + 2) := ⟨_, rfl⟩; have hcb : c ≤ 328 := (by have := Tr.mxH_le ((mkL raw 40).length + n + 1); omega); have hmb : (n + 1) * c ≤ 15 * 328 := Nat.mul_le_mul (by omega) hcb; have hme : ((n : Int) + 1) * (4 * ((Tr.mxH ((mkL raw 40).length + n + 1) : Int) + 2)) = (((n + 1) * c : Nat) : Int) := (by rw [hc]; rfl)
  refine WL.reb 11 (.int .i64 (n : Int)) (congrArg (Value.int .i64) hn) ?_
  refine WL.r 4 rfl ?_
  refine WL.nw 33 rfl (w64 (by omega)) ?_
  refine WL.r 4 rfl ?_
  refine WL.reb 37 (.int .i64 (((List.length (mkL raw 40)) + n : Nat) : Int)) (congrArg (Value.int .i64) (by rw [hel, w64 (by omega)]; rfl)) ?_
  refine WL.call rfl rfl (r8_ins (n := ((List.length (mkL raw 40)) + n : Nat)) (hn := (by omega)) (hS := hS)) rfl ?_
  clear hS; rintro _ w ⟨rfl, hS⟩
  replace hS : St g (Own 77 2 (en2 (mkL raw 40)) a1 c1 :: Sh 77 2 (en2 raw) u d :: Sh 79 4 (ch4 S) us ds :: L) w := hS
  refine WL.r 1 rfl ?_
  refine WL.reb 39 (.int .i64 (((n + 1) * c : Nat) : Int)) (congrArg (Value.int .i64) (by exact (congrArg _ hme).trans (w64 (by omega)))) ?_
  refine WL.r 1 rfl ?_
  refine WL.reb 40 (.int .i64 ((1 + (n + 1) * c : Nat) : Int)) (congrArg (Value.int .i64) (by rw [w64 (by omega)]; rfl)) ?_
  replace hS := (hS.at_ 0 rfl).share
  replace hS : St g (Sh 77 2 (en2 (mkL raw 40)) a1 c1 :: Sh 77 2 (en2 raw) u d :: Sh 79 4 (ch4 S) us ds :: L) w := hS
  refine WL.call rfl rfl (kt_grow (l := mkL raw 40) (u := a1) (d := c1) (q := q) (sp := ((1 + (n + 1) * c : Nat) : Int)) (hl := (by omega)) (hs := (by omega)) (hq := (by omega)) (hS := hS)) rfl ?_
  clear hS; rintro _ w ⟨a2, A1, i1, t1, rfl, hS, f1, f2, f3, f4, f5⟩
  replace hS : St g (Arn a2 A1 :: Sh 77 2 (en2 (mkL raw 40)) a1 c1 :: Sh 77 2 (en2 raw) u d :: Sh 79 4 (ch4 S) us ds :: L) w := hS
  refine WL.r 7 rfl ?_
  refine WL.nil ?_
  as_aux_lemma =>
    refine WC.seq ?_
    refine WC.seq ?_
    refine WC.region ?_
    refine WL.r 2 rfl ?_
    refine WL.nil ?_
    refine WC.ifF rfl rfl ?_
    refine WC.skip ?_
    refine WC.seq ?_
    refine WC.region ?_
    replace hS : St g (Shs leF [LsE.mk (mkL raw 40) a1 c1] :: Arn a2 A1 :: Sh 77 2 (en2 (mkL raw 40)) a1 c1 :: Sh 77 2 (en2 raw) u d :: Sh 79 4 (ch4 S) us ds :: L) w := St.shsCons (hS.shsNil leF) (leF_sh _) [1] rfl
    refine WL.r 1 rfl ?_
    refine WL.lit rfl rfl (u32s [i1]) el_32 hS (by exact ⟨rfl, rfl⟩) (u32s_ok _) rfl (by decide) (fun b1 w hS => ?_)
    refine WL.r 1 rfl ?_
    refine WL.lit rfl rfl (enL [LsE.mk (mkL raw 40) a1 c1]) el_41 hS (by exact ⟨rfl, rfl⟩) (enL_ok _) rfl (by decide) (fun b2 w hS => ?_)
    refine WL.r 2 rfl ?_
    refine WL.nil ?_
    refine WC.seq ?_
    refine WC.seq ?_
    refine WC.region ?_
    refine WL.r 1 rfl ?_
    refine WL.nil ?_
    refine WC.block ?_
    refine WC.loop [2, 11, 12, 15, 16, 17] (fun kM vs w => ∃ (k : Nat) (B : AM) (R rs : List Int) (ru : Option Addr) (rc : Nat) (LL : List LsE) (lu : Option Addr) (lc : Nat), vs = [.slice us (List.length (ch4 S)) ds, .int .i64 (n : Int), .pointer (some ⟨a2, 0, none⟩), .slice ru (List.length (u32s rs)) rc, .slice lu (List.length (enL LL)) lc, .int .i64 (k : Int)] ∧ St g (Own 49 1 (enL LL) lu lc :: Own 64 1 (u32s rs) ru rc :: Shs leF LL :: Arn a2 B :: Sh 77 2 (en2 (mkL raw 40)) a1 c1 :: Sh 77 2 (en2 raw) u d :: Sh 79 4 (ch4 S) us ds :: L) w ∧ (k ≤ n) ∧ (ChI B R rs LL (mkL raw 40).length k n c) ∧ (n - k) = kM) (n - 0) ⟨0, A1, [i1], [i1], (some ⟨b1, 0, none⟩), (u32s [i1]).length, [LsE.mk (mkL raw 40) a1 c1], (some ⟨b2, 0, none⟩), (enL [LsE.mk (mkL raw 40) a1 c1]).length, rfl, hS, (Nat.zero_le _), (ChI.init f1 f2 f3 f4 ⟨hml.1, hmr⟩ f5 a1 c1), rfl⟩ ?_
    clear hS; rintro _ _ w j ⟨k, B, R, rs, ru, rc, LL, lu, lc, rfl, hS, hk, hI, rfl⟩
    refine WC.seq ?_
    refine WC.seq ?_
    refine WC.region ?_
    refine WL.r 3 rfl ?_
    refine WL.nil ?_
    as_aux_lemma =>
      refine WC.ifP rfl (fun cd1 => ?_) (fun cd1 => ?_)
      · refine WC.skip ?_
        refine WC.seq ?_
        refine WC.block ?_
        refine WC.seq ?_
        refine WC.plan [([0, 1, 4, 5, 2, 6, 3, 7, 8, 9], none)] (by kernel_rfl) (by kernel_rfl) ?_
        obtain ⟨r, hr⟩ : ∃ r, rs[k]? = some r := ⟨_, List.getElem?_eq_getElem (by have := hI.rsl; omega)⟩; have hLl : LL.length = rs.length := (by have := hI.trs.len; rw [List.length_map] at this; exact this); obtain ⟨z, hz⟩ : ∃ z, LL[k]? = some z := ⟨_, List.getElem?_eq_getElem (by have := hI.rsl; omega)⟩; obtain ⟨s, hs⟩ : ∃ s, S[k]? = some s := ⟨_, List.getElem?_eq_getElem (by omega)⟩; have hsr := hS0 s (List.mem_of_getElem? hs); have hroom := hI.room (by omega); have hul := u32s_len rs; have hnl := enL_len LL; have hrsl := hI.rsl; obtain ⟨hrR, t, ht1, ht2, ht3⟩ := hI.at hr hz; have hzo := hI.lok z (List.mem_of_getElem? hz); have htn : t.n = z.es.length := (by rw [← Tr.ls_len, ht3]); have hRl := hI.rl; have hze := en2_len z.es; have hmx1 := Tr.mxH_mono (a := t.n + 1) (b := (mkL raw 40).length + n + 1) (by omega); have hmx2 := Tr.mxH_mono (a := t.n) (b := (mkL raw 40).length + n + 1) (by omega)
        refine WQ.r 4 rfl ?_
        refine WQ.ix rfl rfl (i := (k : Int)) (k) el_32 rfl rfl (by omega) (by omega) (hS.rdO 1 rfl (u32s_at hr)).1 ?_
        refine WQ.ix rfl rfl (i := (k : Int)) (k) el_41 rfl rfl (by omega) (by omega) (hS.rdO 0 rfl (enL_at hz)).1 ?_
        refine WQ.run 4 [.int .u32 r, .slice z.a (List.length (en2 z.es)) z.c] rfl (by exact ⟨(hS.rdO 1 rfl (u32s_at hr)).2 0 _ rfl, (hS.rdO 0 rfl (enL_at hz)).2 0 _ rfl⟩) ?_
        refine WQ.nil ?_
        intro m1
        replace hS := hS.drewN m1; generalize hwm1 : World.drewN _ _ = w at *; clear hwm1
        refine WC.seq ?_
        refine WC.region ?_
        refine WL.r 2 rfl ?_
        refine WL.nil ?_
        refine WC.seq ?_
        refine WC.seq ?_
        refine WC.region ?_
        refine WL.r 2 rfl ?_
        refine WL.ix rfl rfl (i := (k : Int)) (k) el_73 rfl rfl (by omega) (by omega) (hS.rdS 6 rfl (ch4_at hs)).1 ?_
        refine WL.run 2 [.int .i64 s.1] rfl (by exact (hS.rdS 6 rfl (ch4_at hs)).2 0 _ rfl) ?_
        refine WL.call rfl rfl (md_spec (k := s.1) (n := 4) (hk := hsr.1) (hn := (by omega)) (hS := hS)) rfl ?_
        clear hS; rintro _ w ⟨rfl, hS⟩
        replace hS : St g (Own 49 1 (enL LL) lu lc :: Own 64 1 (u32s rs) ru rc :: Shs leF LL :: Arn a2 B :: Sh 77 2 (en2 (mkL raw 40)) a1 c1 :: Sh 77 2 (en2 raw) u d :: Sh 79 4 (ch4 S) us ds :: L) w := hS
        refine WL.nil ?_
        as_aux_lemma =>
          refine WC.cut [2, 11, 12, 15, 16, 17, 18, 19, 20, 21, 51, 52, 53, 56, 57, 58, 59, 60, 61, 62, 63, 64, 65, 66, 67, 68, 69] (fun vs w => ∃ (B2 : AM) (R2 : List Int) (o : Int) (ns : Kvs) (na : Option Addr) (nc : Nat), vs = [.slice us (List.length (ch4 S)) ds, .int .i64 (n : Int), .pointer (some ⟨a2, 0, none⟩), .slice ru (List.length (u32s rs)) rc, .slice lu (List.length (enL LL)) lc, .int .i64 (k : Int), .int .u32 r, .slice na (List.length (en2 ns)) nc, .int .u32 o, .int .i64 0, .int .i64 (k : Int), .int .i64 (n : Int), .bool (decide ((k : Int) < (n : Int))), .slice ru (List.length (u32s rs)) rc, .int .i64 (k : Int), .pointer (some ⟨bo ru, (oo ru) + (k * 1), none⟩), .int .u32 r, .slice lu (List.length (enL LL)) lc, .int .i64 (k : Int), .pointer (some ⟨bo lu, (oo lu) + (k * 1), none⟩), .slice z.a (List.length (en2 z.es)) z.c, .slice us (List.length (ch4 S)) ds, .int .i64 (k : Int), .pointer (some ⟨bo us, (oo us) + (k * 4), none⟩), .pointer (some ⟨bo us, (oo us) + (k * 4), none⟩), .int .i64 s.1, .int .i64 (s.1 % 4)] ∧ St g (Arn a2 B2 :: Sh 77 2 (en2 ns) na nc :: Own 49 1 (enL LL) lu lc :: Own 64 1 (u32s rs) ru rc :: Shs leF LL :: Sh 77 2 (en2 (mkL raw 40)) a1 c1 :: Sh 77 2 (en2 raw) u d :: Sh 79 4 (ch4 S) us ds :: L) w ∧ (ChJ B B2 R R2 o ns (mkL raw 40).length k c)) ?_ ?_
          · refine WC.block ?_
            refine WC.seq ?_
            refine WC.region ?_
            refine WL.r 2 rfl ?_
            refine WL.nil ?_
            refine WC.ifP rfl (fun cd2 => ?_) (fun cd2 => ?_)
            · refine WC.seq ?_
              refine WC.seq ?_
              refine WC.region ?_
              replace hS : St g (Sh 77 2 (en2 z.es) z.a z.c :: Own 49 1 (enL LL) lu lc :: Own 64 1 (u32s rs) ru rc :: Shs leF LL :: Arn a2 B :: Sh 77 2 (en2 (mkL raw 40)) a1 c1 :: Sh 77 2 (en2 raw) u d :: Sh 79 4 (ch4 S) us ds :: L) w := hS.shsGet 2 rfl (List.mem_of_getElem? hz)
              refine WL.r 3 rfl ?_
              refine WL.nil ?_
              refine WC.ifP rfl (fun cd3 => ?_) (fun cd3 => ?_)
              · refine WC.seq ?_
                refine WC.region ?_
                refine WL.r 2 rfl ?_
                refine WL.nil ?_
                refine WC.exit ?_
                exact ⟨B, R, r, z.es, z.a, z.c, rfl, (hS.sel 5 [4, 0, 0, 0, 0] rfl), (hI.same hr hz)⟩
              · refine WC.skip ?_
                refine WC.seq ?_
                refine WC.region ?_
                have hb1 := Int.emod_nonneg s.2.2.2 (b := ((en2 z.es).length : Int)) (by omega); have hb2 := Int.emod_lt_of_pos s.2.2.2 (b := ((en2 z.es).length : Int)) (by omega); obtain ⟨y, hy⟩ : ∃ y, z.es[(s.2.2.2 % ((en2 z.es).length : Int)).toNat]? = some y := ⟨_, List.getElem?_eq_getElem (by omega)⟩
                refine WL.r 3 rfl ?_
                refine WL.ix rfl rfl (i := (k : Int)) (k) el_73 rfl rfl (by omega) (by omega) (hS.rdS 7 rfl (ch4_at hs)).1 ?_
                refine WL.run 4 [.int .i64 s.2.2.2] rfl (by exact (hS.rdS 7 rfl (ch4_at hs)).2 3 _ rfl) ?_
                refine WL.call rfl rfl (md_spec (k := s.2.2.2) (n := (List.length (en2 z.es) : Int)) (hk := hsr.2.2) (hn := (by omega)) (hS := hS)) rfl ?_
                clear hS; rintro _ w ⟨rfl, hS⟩
                replace hS : St g (Sh 77 2 (en2 z.es) z.a z.c :: Own 49 1 (enL LL) lu lc :: Own 64 1 (u32s rs) ru rc :: Shs leF LL :: Arn a2 B :: Sh 77 2 (en2 (mkL raw 40)) a1 c1 :: Sh 77 2 (en2 raw) u d :: Sh 79 4 (ch4 S) us ds :: L) w := hS
                refine WL.ix rfl rfl (i := s.2.2.2 % (List.length (en2 z.es) : Int)) ((s.2.2.2 % ((en2 z.es).length : Int)).toNat) el_49 rfl rfl (by omega) (by omega) (hS.rdS 0 rfl (en2_at hy)).1 ?_
                refine WL.run 3 [.int .i64 y.1] rfl (by exact (hS.rdS 0 rfl (en2_at hy)).2 0 _ rfl) ?_
                refine WL.nil ?_
                as_aux_lemma =>
                  refine WC.seq ?_
                  refine WC.region ?_
                  refine WL.r 3 rfl ?_
                  refine WL.call rfl rfl (up_del (a := a2) (A := B) (R := R) (i := r) (k := y.1) (t := t) (hA := hI.ref) (hi := ht1) (hb := ht2) (hg := (get_in ht3 hzo.1 (List.mem_of_getElem? hy))) (hn := (by omega)) (hf := (by omega)) (hz := (by omega)) (hS := (hS.sel 5 [4, 0, 0, 0, 0] rfl))) rfl ?_
                  clear hS; rintro _ w ⟨A2, j1, rfl, hS, f6⟩
                  replace hS : St g (Arn a2 A2 :: Sh 77 2 (en2 z.es) z.a z.c :: Own 49 1 (enL LL) lu lc :: Own 64 1 (u32s rs) ru rc :: Shs leF LL :: Sh 77 2 (en2 (mkL raw 40)) a1 c1 :: Sh 77 2 (en2 raw) u d :: Sh 79 4 (ch4 S) us ds :: L) w := hS
                  refine WL.r 6 rfl ?_
                  refine WL.nil ?_
                  refine WC.region ?_
                  refine WL.r 2 rfl ?_
                  refine WL.call rfl rfl (refS_del (l := z.es) (u := z.a) (d := z.c) (k := y.1) (hl := (by omega)) (hS := (hS.sel 2 [1, 0] rfl))) rfl ?_
                  clear hS; rintro _ w ⟨a3, c2, rfl, hS⟩
                  replace hS : St g (Sh 77 2 (en2 (ldel y.1 z.es)) a3 c2 :: Sh 77 2 (en2 z.es) z.a z.c :: Arn a2 A2 :: Own 49 1 (enL LL) lu lc :: Own 64 1 (u32s rs) ru rc :: Shs leF LL :: Sh 77 2 (en2 (mkL raw 40)) a1 c1 :: Sh 77 2 (en2 raw) u d :: Sh 79 4 (ch4 S) us ds :: L) w := hS
                  refine WL.r 1 rfl ?_
                  refine WL.nil ?_
                  exact ⟨A2, j1 :: R, j1, ldel y.1 z.es, a3, c2, rfl, (hS.sel 3 [2, 0] rfl), (hI.del hz ht2 ht3 f6 (by rw [hc]; omega))⟩
            · refine WC.seq ?_
              refine WC.region ?_
              refine WL.r 2 rfl ?_
              refine WL.nil ?_
              refine WC.ifP rfl (fun cd3 => ?_) (fun cd3 => ?_)
              · refine WC.seq ?_
                refine WC.region ?_
                refine WL.r 2 rfl ?_
                refine WL.ix rfl rfl (i := (k : Int)) (k) el_73 rfl rfl (by omega) (by omega) (hS.rdS 6 rfl (ch4_at hs)).1 ?_
                refine WL.run 4 [.int .i64 s.2.2.2] rfl (by exact (hS.rdS 6 rfl (ch4_at hs)).2 3 _ rfl) ?_
                refine WL.call rfl rfl (md_spec (k := s.2.2.2) (n := (List.length (u32s rs) : Int)) (hk := hsr.2.2) (hn := (by omega)) (hS := hS)) rfl ?_
                clear hS; rintro _ w ⟨rfl, hS⟩
                replace hS : St g (Own 49 1 (enL LL) lu lc :: Own 64 1 (u32s rs) ru rc :: Shs leF LL :: Arn a2 B :: Sh 77 2 (en2 (mkL raw 40)) a1 c1 :: Sh 77 2 (en2 raw) u d :: Sh 79 4 (ch4 S) us ds :: L) w := hS
                refine WL.r 1 rfl ?_
                refine WL.nil ?_
                refine WC.plan [([0, 1, 4, 5, 2, 6, 3, 7, 8, 9], none)] (by kernel_rfl) (by kernel_rfl) ?_
                have hb1 := Int.emod_nonneg s.2.2.2 (b := ((u32s rs).length : Int)) (by omega); have hb2 := Int.emod_lt_of_pos s.2.2.2 (b := ((u32s rs).length : Int)) (by omega); obtain ⟨r2, hr2⟩ : ∃ y, rs[(s.2.2.2 % ((u32s rs).length : Int)).toNat]? = some y := ⟨_, List.getElem?_eq_getElem (by omega)⟩; obtain ⟨z2, hz2⟩ : ∃ y, LL[(s.2.2.2 % ((u32s rs).length : Int)).toNat]? = some y := ⟨_, List.getElem?_eq_getElem (by omega)⟩
                replace hS : St g (Sh 77 2 (en2 z2.es) z2.a z2.c :: Own 49 1 (enL LL) lu lc :: Own 64 1 (u32s rs) ru rc :: Shs leF LL :: Arn a2 B :: Sh 77 2 (en2 (mkL raw 40)) a1 c1 :: Sh 77 2 (en2 raw) u d :: Sh 79 4 (ch4 S) us ds :: L) w := hS.shsGet 2 rfl (List.mem_of_getElem? hz2)
                refine WQ.r 4 rfl ?_
                refine WQ.ix rfl rfl (i := s.2.2.2 % (List.length (u32s rs) : Int)) ((s.2.2.2 % ((u32s rs).length : Int)).toNat) el_32 rfl rfl (by omega) (by omega) (hS.rdO 2 rfl (u32s_at hr2)).1 ?_
                refine WQ.ix rfl rfl (i := s.2.2.2 % (List.length (u32s rs) : Int)) ((s.2.2.2 % ((u32s rs).length : Int)).toNat) el_41 rfl rfl (by omega) (by omega) (hS.rdO 1 rfl (enL_at hz2)).1 ?_
                refine WQ.run 4 [.int .u32 r2, .slice z2.a (List.length (en2 z2.es)) z2.c] rfl (by exact ⟨(hS.rdO 2 rfl (u32s_at hr2)).2 0 _ rfl, (hS.rdO 1 rfl (enL_at hz2)).2 0 _ rfl⟩) ?_
                refine WQ.nil ?_
                intro m2
                replace hS := hS.drewN m2; generalize hwm2 : World.drewN _ _ = w at *; clear hwm2
                exact ⟨B, R, r2, z2.es, z2.a, z2.c, rfl, (hS.sel 5 [4, 0, 0, 0, 0] rfl), (hI.same hr2 hz2)⟩
              · refine WC.seq ?_
                refine WC.region ?_
                replace hS : St g (Sh 77 2 (en2 z.es) z.a z.c :: Own 49 1 (enL LL) lu lc :: Own 64 1 (u32s rs) ru rc :: Shs leF LL :: Arn a2 B :: Sh 77 2 (en2 (mkL raw 40)) a1 c1 :: Sh 77 2 (en2 raw) u d :: Sh 79 4 (ch4 S) us ds :: L) w := hS.shsGet 2 rfl (List.mem_of_getElem? hz)
                refine WL.r 4 rfl ?_
                refine WL.ix rfl rfl (i := (k : Int)) (k) el_73 rfl rfl (by omega) (by omega) (hS.rdS 7 rfl (ch4_at hs)).1 ?_
                refine WL.r 1 rfl ?_
                refine WL.ldC rfl rfl [.int .i64 s.2.1, .int .i64 s.2.2.1] ag_77 rfl (RdE.sub (hS.rdS 7 rfl (ch4_at hs)).2 1 [.int .i64 s.2.1, .int .i64 s.2.2.1] rfl) ?_
                refine WL.call rfl rfl (up_ins (a := a2) (A := B) (R := R) (i := r) (k := s.2.1) (z := s.2.2.1) (t := t) (hA := hI.ref) (hi := ht1) (hb := ht2) (hn := (by omega)) (hf := (by omega)) (hz := (by omega)) (hS := (hS.sel 5 [4, 0, 0, 0, 0] rfl))) rfl ?_
                clear hS; rintro _ w ⟨A2, j1, rfl, hS, f6⟩
                replace hS : St g (Arn a2 A2 :: Sh 77 2 (en2 z.es) z.a z.c :: Own 49 1 (enL LL) lu lc :: Own 64 1 (u32s rs) ru rc :: Shs leF LL :: Sh 77 2 (en2 (mkL raw 40)) a1 c1 :: Sh 77 2 (en2 raw) u d :: Sh 79 4 (ch4 S) us ds :: L) w := hS
                refine WL.r 7 rfl ?_
                refine WL.nil ?_
                refine WC.region ?_
                refine WL.r 3 rfl ?_
                refine WL.ix rfl rfl (i := (k : Int)) (k) el_73 rfl rfl (by omega) (by omega) (hS.rdS 7 rfl (ch4_at hs)).1 ?_
                refine WL.r 1 rfl ?_
                refine WL.ldC rfl rfl [.int .i64 s.2.1, .int .i64 s.2.2.1] ag_77 rfl (RdE.sub (hS.rdS 7 rfl (ch4_at hs)).2 1 [.int .i64 s.2.1, .int .i64 s.2.2.1] rfl) ?_
                refine WL.call rfl rfl (refS_ins (l := z.es) (u := z.a) (d := z.c) (k := s.2.1) (z := s.2.2.1) (hs := hzo.1) (hl := (by omega)) (hS := (hS.sel 2 [1, 0] rfl))) rfl ?_
                clear hS; rintro _ w ⟨a3, c2, rfl, hS⟩
                replace hS : St g (Sh 77 2 (en2 (lins s.2.1 s.2.2.1 z.es)) a3 c2 :: Sh 77 2 (en2 z.es) z.a z.c :: Arn a2 A2 :: Own 49 1 (enL LL) lu lc :: Own 64 1 (u32s rs) ru rc :: Shs leF LL :: Sh 77 2 (en2 (mkL raw 40)) a1 c1 :: Sh 77 2 (en2 raw) u d :: Sh 79 4 (ch4 S) us ds :: L) w := hS
                refine WL.r 1 rfl ?_
                refine WL.nil ?_
                exact ⟨A2, j1 :: R, j1, lins s.2.1 s.2.2.1 z.es, a3, c2, rfl, (hS.sel 3 [2, 0] rfl), (hI.ins hz ht2 ht3 hsr.2.1 f6 (by rw [hc]; omega))⟩
          clear hS; rintro _ w j ⟨B2, R2, o, ns, na, nc, rfl, hS, hJ⟩
          refine WC.seq ?_
          refine WC.seq ?_
          refine WC.region ?_
          refine WL.r 2 rfl ?_
          refine WL.nil ?_
          refine WC.ifF rfl (decide_eq_false ((by decide))) ?_
          refine WC.skip ?_
          refine WC.region ?_
          replace hS : St g (Shs leF (LL ++ [LsE.mk ns na nc]) :: Arn a2 B2 :: Sh 77 2 (en2 ns) na nc :: Own 49 1 (enL LL) lu lc :: Own 64 1 (u32s rs) ru rc :: Shs leF LL :: Sh 77 2 (en2 (mkL raw 40)) a1 c1 :: Sh 77 2 (en2 raw) u d :: Sh 79 4 (ch4 S) us ds :: L) w := St.shsSub (zs' := LL ++ [LsE.mk ns na nc]) (St.shsCons (hS.shsDup 4 rfl) (z := LsE.mk ns na nc) (leF_sh _) [1] rfl) (fun z hz => snoc_le hz)
          refine WL.r 2 rfl ?_
          refine WL.lit rfl rfl (u32s [o]) el_32 hS (by exact ⟨rfl, rfl⟩) (u32s_ok _) rfl (by decide) (fun b3 w hS => ?_)
          refine WL.app rfl rfl 5 (u32s (rs ++ [o])) el_32 hS rfl (hS.srcO 0 rfl) (u32s_app _ _).symm (Rm.of (by first | omega | (simp <;> omega)) (by decide)) rfl rfl (fun a3 c2 w hS => ?_)
          replace hS : St g (Own 64 1 (u32s [o]) (some ⟨b3, 0, none⟩) (List.length (u32s [o])) :: Shs leF (LL ++ [LsE.mk ns na nc]) :: Arn a2 B2 :: Sh 77 2 (en2 ns) na nc :: Own 49 1 (enL LL) lu lc :: Own 64 1 (u32s (rs ++ [o])) a3 c2 :: Shs leF LL :: Sh 77 2 (en2 (mkL raw 40)) a1 c1 :: Sh 77 2 (en2 raw) u d :: Sh 79 4 (ch4 S) us ds :: L) w := hS
          refine WL.r 2 rfl ?_
          refine WL.lit rfl rfl (enL [LsE.mk ns na nc]) el_41 hS (by exact ⟨rfl, rfl⟩) (enL_ok _) rfl (by decide) (fun b4 w hS => ?_)
          refine WL.app rfl rfl 5 (enL (LL ++ [LsE.mk ns na nc])) el_41 hS rfl (hS.srcO 0 rfl) (enL_app _ _).symm (Rm.of (by first | omega | (simp <;> omega)) (by decide)) rfl rfl (fun a4 c3 w hS => ?_)
          replace hS : St g (Own 49 1 (enL [LsE.mk ns na nc]) (some ⟨b4, 0, none⟩) (List.length (enL [LsE.mk ns na nc])) :: Own 64 1 (u32s [o]) (some ⟨b3, 0, none⟩) (List.length (u32s [o])) :: Shs leF (LL ++ [LsE.mk ns na nc]) :: Arn a2 B2 :: Sh 77 2 (en2 ns) na nc :: Own 49 1 (enL (LL ++ [LsE.mk ns na nc])) a4 c3 :: Own 64 1 (u32s (rs ++ [o])) a3 c2 :: Shs leF LL :: Sh 77 2 (en2 (mkL raw 40)) a1 c1 :: Sh 77 2 (en2 raw) u d :: Sh 79 4 (ch4 S) us ds :: L) w := hS
          refine WL.r 2 rfl ?_
          refine WL.nil ?_
          refine WC.region ?_
          refine WL.r 2 rfl ?_
          refine WL.nw 55 rfl (w64 (by omega)) ?_
          refine WL.r 1 rfl ?_
          refine WL.nil ?_
          exact ⟨_, by omega, k + 1, B2, R2, rs ++ [o], a3, c2, LL ++ [LsE.mk ns na nc], a4, c3, rfl, (hS.sel 8 [5, 5, 2, 2] rfl), (by omega), (hI.step hJ na nc), rfl⟩
      · refine WC.exit ?_
        refine WC.seq ?_
        refine WC.region ?_
        refine WL.r 7 rfl ?_
        refine WL.nil ?_
        refine WC.ret ?_
        refine ⟨[.pointer (some ⟨a2, 0, none⟩), .slice ru (List.length (u32s rs)) rc, .slice lu (List.length (enL LL)) lc, .bool true], ⟨rfl, rfl, rfl, rfl⟩, ?_⟩
        replace hS := (hS.sel 7 [3, 1, 0, 0] rfl)
        have hke : k = n := (by omega); subst hke; have hrsl := hI.rsl; exact ⟨_, _, _, _, _, _, _, _, _, rfl, hS, hI.ref, hI.trs, hI.fin (by omega), by omega⟩
end Go.Proofs.YtlnlnebibgdjdaaGreat
/-! ## Pb -/
namespace Go.V
open Go Go.RowKit
structure SiA where
  u : Option Addr
  c : Nat
def sidF (s : Nat) (P : List Pt) (x : SiA) : List HP := [cel s #[.slice x.u (pts P).length x.c] 332, Own 335 5 (pts P) x.u x.c]
def Sid (s : Nat) (P : List Pt) : HP := ExB (sidF s P)
structure DfA where
  lb : Nat
  hb : Nat
  u : Option Addr
  c : Nat
def dfsF (b ob : Nat) (lo hi : Int) (out : List Chg) (x : DfA) : List HP := [cel b #[.func (.func 163) #[] #[.pointer (some ⟨x.lb, 0, none⟩), .pointer (some ⟨x.hb, 0, none⟩), .pointer (some ⟨ob, 0, none⟩)]] 258, cel x.lb #[.int .i64 lo] 2, cel x.hb #[.int .i64 hi] 2, cel ob #[.slice x.u (ch4 out).length x.c] 179, Own 82 4 (ch4 out) x.u x.c]
def Dfs (b ob : Nat) (lo hi : Int) (out : List Chg) : HP := ExB (dfsF b ob lo hi out)
end Go.V
/-! ## P1 -/
namespace Go.Proofs.YtlnlnebibgdjdaaGreat
open Go Go.V
set_option maxRecDepth 8192 in
theorem sd_push {g w : World} {L : List HP} (s a : Nat) (P : List Pt) (A : AM) (R : List Int) (i : Int) (t : Tr) (hA : ARf A R) (hi : Is A t i) (hl : P.length ≤ 900000000) (hS : St g (Sid s P :: Arn a A :: L) w) :
    Sp Tryz.prog 239 [.pointer (some ⟨s, 0, none⟩), .pointer (some ⟨a, 0, none⟩), .int .u32 i] w (fun v w' => v = .tuple #[] ∧ St g (Sid s (pushP P i t) :: Arn a A :: L) w') := by
  refine Sp.enter Tryz.func239 rfl (by kernel_rfl) (by kernel_rfl) ?_
  have _ := hl
  refine WC.seq ?_
  refine WC.region ?_
  refine WL.r 2 rfl ?_
  refine WL.nil ?_
  refine WC.ifP rfl (fun hne => ?_) (fun hne => ?_)
  · refine WC.plan [([0, 1, 5, 6, 7, 2, 3, 4], some (8, [0, 1, 2, 3, 4, 5])), ([], some (9, [0, 1, 2, 3, 4])), ([], some (10, [0, 1, 2, 3, 4])), ([], some (11, [0])), ([12, 13], some (14, []))] (by kernel_rfl) (by kernel_rfl) ?_
    obtain ⟨⟨su, sc⟩, hS⟩ := St.exOpen (f := sidF s P) hS
    replace hS : St g (cel s #[.slice su (List.length (pts P)) sc] 332 :: Own 335 5 (pts P) su sc :: Arn a A :: L) w := hS
    have hpl := pts_len P
    refine WQ.run 8 [.slice su (List.length (pts P)) sc] rfl (by exact hS.ld 0 rfl rfl) ?_
    refine WQ.nil ?_
    intro m1
    replace hS := hS.drewN m1; generalize hwm1 : World.drewN _ _ = w at *; clear hwm1
    refine WL.call rfl rfl (tr_size (a := a) (A := A) (R := R) (i := i) (t := t) (hA := hA) (hi := hi) (hS := (hS.sel 3 [2, 0, 0] rfl))) rfl ?_
    clear hS; rintro _ w ⟨rfl, hS⟩
    replace hS : St g (Arn a A :: cel s #[.slice su (List.length (pts P)) sc] 332 :: Own 335 5 (pts P) su sc :: L) w := hS
    refine WL.nil ?_
    refine ⟨by exact ⟨RQ.pure rfl rfl rfl rfl, RQ.pure rfl rfl rfl rfl, RQ.pure rfl rfl rfl rfl, RQ.pure rfl rfl rfl rfl, RQ.load rfl rfl rfl rfl (hS.ld 1 rfl rfl), RQ.pure rfl rfl rfl rfl⟩, ?_⟩
    refine WQ.nil ?_
    intro m2
    replace hS := hS.drewN m2; generalize hwm2 : World.drewN _ _ = w at *; clear hwm2
    refine WL.build rfl rfl (cs := [.int .u32 i, .int .i64 (t.n : Int), .int .i64 0, .int .i64 0, .bool false]) zv_335 rfl rfl ?_
    refine WL.nil ?_
    refine ⟨by exact ⟨RQ.pure rfl rfl rfl rfl, RQ.pure rfl rfl rfl rfl, RQ.pure rfl rfl rfl rfl, RQ.pure rfl rfl rfl rfl, RQ.load rfl rfl rfl rfl (hS.ld 1 rfl rfl)⟩, ?_⟩
    refine WQ.nil ?_
    intro m3
    replace hS := hS.drewN m3; generalize hwm3 : World.drewN _ _ = w at *; clear hwm3
    refine WL.lit rfl rfl (pts [Pt.sub i t]) el_330 hS (by exact ⟨rfl, rfl⟩) (pts_ok _) rfl (by decide) (fun b1 w hS => ?_)
    refine WL.nil ?_
    refine ⟨by exact ⟨RQ.pure rfl rfl rfl rfl, RQ.pure rfl rfl rfl rfl, RQ.pure rfl rfl rfl rfl, RQ.pure rfl rfl rfl rfl, RQ.load rfl rfl rfl rfl (hS.ld 2 rfl rfl)⟩, ?_⟩
    refine WQ.nil ?_
    intro m4
    replace hS := hS.drewN m4; generalize hwm4 : World.drewN _ _ = w at *; clear hwm4
    refine WL.app rfl rfl 3 (pts (P ++ [Pt.sub i t])) el_330 hS rfl (hS.srcO 0 rfl) (pts_app _ _).symm (Rm.of (by first | omega | (simp <;> omega)) (by decide)) rfl rfl (fun a1 c1 w hS => ?_)
    replace hS : St g (Own 335 5 (pts [Pt.sub i t]) (some ⟨b1, 0, none⟩) (List.length (pts [Pt.sub i t])) :: Arn a A :: cel s #[.slice su (List.length (pts P)) sc] 332 :: Own 335 5 (pts (P ++ [Pt.sub i t])) a1 c1 :: L) w := hS
    refine WL.nil ?_
    refine ⟨by exact RQ.pure rfl rfl rfl rfl, ?_⟩
    refine WQ.r 2 rfl ?_
    refine WQ.nil ?_
    intro m5
    replace hS := hS.drewN m5; generalize hwm5 : World.drewN _ _ = w at *; clear hwm5
    refine WL.st rfl rfl rfl 2 hS rfl rfl rfl rfl rfl rfl (fun w hS => ?_)
    replace hS : St g (Own 335 5 (pts [Pt.sub i t]) (some ⟨b1, 0, none⟩) (List.length (pts [Pt.sub i t])) :: Arn a A :: cel s #[.slice a1 (List.length (pts (P ++ [Pt.sub i t]))) c1] 332 :: Own 335 5 (pts (P ++ [Pt.sub i t])) a1 c1 :: L) w := hS
    refine WL.nil ?_
    refine ⟨by exact trivial, ?_⟩
    intro m6
    replace hS := hS.drewN m6; generalize hwm6 : World.drewN _ _ = w at *; clear hwm6
    replace hS := St.exClose (f := sidF s (P ++ [Pt.sub i t])) (L := Own 335 5 (pts [Pt.sub i t]) (some ⟨b1, 0, none⟩) (List.length (pts [Pt.sub i t])) :: Arn a A :: L) ⟨a1, c1⟩ ((hS.sel 4 [2, 2, 0, 0] rfl))
    replace hS : St g (Sid s (P ++ [Pt.sub i t]) :: Own 335 5 (pts [Pt.sub i t]) (some ⟨b1, 0, none⟩) (List.length (pts [Pt.sub i t])) :: Arn a A :: L) w := hS
    refine ⟨[], trivial, ?_⟩
    replace hS := (hS.sel 2 [0] rfl)
    exact ⟨rfl, by unfold pushP; first | (rw [if_neg hne]; exact hS) | (rw [if_pos (by omega)]; exact hS)⟩
  · refine WC.skip ?_
    refine ⟨[], trivial, ?_⟩
    exact ⟨rfl, by unfold pushP; first | (rw [if_neg hne]; exact hS) | (rw [if_pos (by omega)]; exact hS)⟩
set_option maxRecDepth 8192 in
theorem sd_top {g w : World} {L : List HP} (s : Nat) (P : List Pt) (hl : P.length ≤ 900000000) (hS : St g (Sid s P :: L) w) :
    Sp Tryz.prog 240 [.pointer (some ⟨s, 0, none⟩)] w (fun v w' => v = .tuple #[.agg #[.int .u32 (pI (topP P)), .int .i64 (pN (topP P)), .int .i64 (pK (topP P)), .int .i64 (pV (topP P)), .bool (pS (topP P))], .bool (topP P).isSome] ∧ St g (Sid s P :: L) w') := by
  refine Sp.enter Tryz.func240 rfl (by kernel_rfl) (by kernel_rfl) ?_
  have _ := hl
  refine WC.seq ?_
  refine WC.region ?_
  obtain ⟨⟨su, sc⟩, hS⟩ := St.exOpen (f := sidF s P) hS
  replace hS : St g (cel s #[.slice su (List.length (pts P)) sc] 332 :: Own 335 5 (pts P) su sc :: L) w := hS
  have hpl := pts_len P
  refine WL.new rfl rfl zv_335 hS (fun b1 w hS => ?_)
  refine WL.r 1 rfl ?_
  refine WL.nil ?_
  refine WC.seq ?_
  refine WC.seq ?_
  refine WC.region ?_
  refine WL.run 6 [.slice su (List.length (pts P)) sc] rfl (by exact hS.ld 1 rfl rfl) ?_
  refine WL.nil ?_
  refine WC.ifP rfl (fun he => ?_) (fun he => ?_)
  · refine WC.seq ?_
    refine WC.region ?_
    refine WL.build rfl rfl (cs := [.int .u32 0, .int .i64 0, .int .i64 0, .int .i64 0, .bool false]) zv_335 rfl rfl ?_
    refine WL.stF rfl rfl rfl 0 hS rfl rfl rfl rfl rfl ag_335 (fun w hS => ?_)
    replace hS : St g (cel b1 #[.int .u32 0, .int .i64 0, .int .i64 0, .int .i64 0, .bool false] 335 :: cel s #[.slice su (List.length (pts P)) sc] 332 :: Own 335 5 (pts P) su sc :: L) w := hS
    refine WL.r 1 rfl ?_
    refine WL.nil ?_
    refine WC.ret ?_
    replace hS := St.exClose (f := sidF s P) (L := cel b1 #[.int .u32 0, .int .i64 0, .int .i64 0, .int .i64 0, .bool false] 335 :: L) ⟨su, sc⟩ ((hS.sel 3 [1, 1, 0] rfl))
    replace hS : St g (Sid s P :: cel b1 #[.int .u32 0, .int .i64 0, .int .i64 0, .int .i64 0, .bool false] 335 :: L) w := hS
    refine ⟨[.agg #[.int .u32 0, .int .i64 0, .int .i64 0, .int .i64 0, .bool false], .bool false], ⟨⟨_, rfl, hS.lvF 1 rfl ag_335⟩, rfl⟩, ?_⟩
    replace hS := (hS.sel 2 [0] rfl)
    have hn : P = [] := List.length_eq_zero_iff.1 (by omega); subst hn; exact ⟨rfl, hS⟩
  · refine WC.skip ?_
    refine WC.seq ?_
    refine WC.plan [([0, 4, 1, 5, 2, 6, 3, 7, 8, 9], some (10, [])), ([], some (11, [])), ([], some (12, [])), ([13], none)] (by kernel_rfl) (by kernel_rfl) ?_
    refine WQ.run 10 [.slice su (List.length (pts P)) sc, .slice su (List.length (pts P)) sc] rfl (by exact ⟨hS.ld 1 rfl rfl, hS.ld 1 rfl rfl⟩) ?_
    refine WQ.nw 20 rfl (w64 (by omega)) ?_
    refine WQ.nil ?_
    intro m1
    replace hS := hS.drewN m1; generalize hwm1 : World.drewN _ _ = w at *; clear hwm1
    obtain ⟨x, hx⟩ : ∃ x, P[P.length - 1]? = some x := ⟨_, List.getElem?_eq_getElem (by omega)⟩; have hgl : topP P = some x := (by unfold topP; rw [List.getLast?_eq_getElem?]; exact hx)
    refine WL.ix rfl rfl (i := (List.length (pts P) : Int) - 1) (P.length - 1) el_330 rfl rfl (by omega) (by omega) (hS.rdO 2 rfl (pts_at hx)).1 ?_
    refine WL.nil ?_
    refine ⟨by exact trivial, ?_⟩
    refine WQ.nil ?_
    intro m2
    replace hS := hS.drewN m2; generalize hwm2 : World.drewN _ _ = w at *; clear hwm2
    refine WL.ldC rfl rfl [.int .u32 (pI (some x)), .int .i64 (pN (some x)), .int .i64 (pK (some x)), .int .i64 (pV (some x)), .bool (pS (some x))] ag_335 rfl (hS.rdO 2 rfl (pts_at hx)).2 ?_
    refine WL.nil ?_
    refine ⟨by exact trivial, ?_⟩
    refine WQ.nil ?_
    intro m3
    replace hS := hS.drewN m3; generalize hwm3 : World.drewN _ _ = w at *; clear hwm3
    refine WL.stF rfl rfl rfl 0 hS rfl rfl rfl rfl rfl ag_335 (fun w hS => ?_)
    replace hS : St g (cel b1 #[.int .u32 (pI (some x)), .int .i64 (pN (some x)), .int .i64 (pK (some x)), .int .i64 (pV (some x)), .bool (pS (some x))] 335 :: cel s #[.slice su (List.length (pts P)) sc] 332 :: Own 335 5 (pts P) su sc :: L) w := hS
    refine WL.nil ?_
    refine ⟨by exact trivial, ?_⟩
    refine WQ.r 1 rfl ?_
    refine WQ.nil ?_
    intro m4
    replace hS := hS.drewN m4; generalize hwm4 : World.drewN _ _ = w at *; clear hwm4
    as_aux_lemma =>
      refine WC.ret ?_
      replace hS := St.exClose (f := sidF s P) (L := cel b1 #[.int .u32 (pI (some x)), .int .i64 (pN (some x)), .int .i64 (pK (some x)), .int .i64 (pV (some x)), .bool (pS (some x))] 335 :: L) ⟨su, sc⟩ ((hS.sel 3 [1, 1, 0] rfl))
      replace hS : St g (Sid s P :: cel b1 #[.int .u32 (pI (some x)), .int .i64 (pN (some x)), .int .i64 (pK (some x)), .int .i64 (pV (some x)), .bool (pS (some x))] 335 :: L) w := hS
      refine ⟨[.agg #[.int .u32 (pI (some x)), .int .i64 (pN (some x)), .int .i64 (pK (some x)), .int .i64 (pV (some x)), .bool (pS (some x))], .bool true], ⟨⟨_, rfl, hS.lvF 1 rfl ag_335⟩, rfl⟩, ?_⟩
      replace hS := (hS.sel 2 [0] rfl)
      exact ⟨by rw [hgl]; rfl, hS⟩
set_option maxRecDepth 8192 in
theorem sd_pop {g w : World} {L : List HP} (s : Nat) (P : List Pt) (hl : P.length ≤ 900000000) (hne : P ≠ []) (hS : St g (Sid s P :: L) w) :
    Sp Tryz.prog 241 [.pointer (some ⟨s, 0, none⟩)] w (fun v w' => v = .tuple #[] ∧ St g (Sid s P.dropLast :: L) w') := by
  refine Sp.enter Tryz.func241 rfl (by kernel_rfl) (by kernel_rfl) ?_
  have _ := hl
  refine WC.plan [([0, 1, 5, 2, 6, 3, 7, 4, 8, 9, 10], some (11, [0])), ([12, 13], some (14, []))] (by kernel_rfl) (by kernel_rfl) ?_
  obtain ⟨⟨su, sc⟩, hS⟩ := St.exOpen (f := sidF s P) hS
  replace hS : St g (cel s #[.slice su (List.length (pts P)) sc] 332 :: Own 335 5 (pts P) su sc :: L) w := hS
  have hpl := pts_len P; have hpos := List.length_pos_iff.2 hne
  refine WQ.run 11 [.slice su (List.length (pts P)) sc, .slice su (List.length (pts P)) sc] rfl (by exact ⟨hS.ld 0 rfl rfl, hS.ld 0 rfl rfl⟩) ?_
  refine WQ.nw 12 rfl (w64 (by omega)) ?_
  refine WQ.nil ?_
  intro m1
  replace hS := hS.drewN m1; generalize hwm1 : World.drewN _ _ = w at *; clear hwm1
  refine WL.slOwn rfl rfl (v := (List.length (pts P) : Int) - 1) 1 (P.length - 1) (pts P.dropLast) el_330 hS rfl rfl rfl (by omega) (by omega) (by rw [List.dropLast_eq_take, pts_take]) (fun hS => ?_)
  replace hS : St g (cel s #[.slice su (List.length (pts P)) sc] 332 :: Own 335 5 (pts P.dropLast) su sc :: L) w := hS
  refine WL.nil ?_
  refine ⟨by exact RQ.pure rfl rfl rfl rfl, ?_⟩
  refine WQ.r 2 rfl ?_
  refine WQ.nil ?_
  intro m2
  replace hS := hS.drewN m2; generalize hwm2 : World.drewN _ _ = w at *; clear hwm2
  refine WL.st rfl rfl rfl 0 hS rfl rfl rfl rfl rfl rfl (fun w hS => ?_)
  replace hS : St g (cel s #[.slice su (List.length (pts P.dropLast)) sc] 332 :: Own 335 5 (pts P.dropLast) su sc :: L) w := hS
  refine WL.nil ?_
  refine ⟨by exact trivial, ?_⟩
  intro m3
  replace hS := hS.drewN m3; generalize hwm3 : World.drewN _ _ = w at *; clear hwm3
  replace hS := St.exClose (f := sidF s P.dropLast) (L := L) ⟨su, sc⟩ (hS)
  replace hS : St g (Sid s P.dropLast :: L) w := hS
  refine ⟨[], trivial, ?_⟩
  exact ⟨rfl, hS⟩
set_option maxHeartbeats 1000000 in
set_option maxRecDepth 8192 in
theorem sd_exp {g w : World} {L : List HP} (s a : Nat) (P : List Pt) (A : AM) (R : List Int) (i k z : Int) (tl tr : Tr) (hA : ARf A R) (hP : (topP P) = some (.sub i (.node tl k z tr))) (hi : Is A (.node tl k z tr) i) (hl : P.length ≤ 800000000) (hS : St g (Sid s P :: Arn a A :: L) w) :
    Sp Tryz.prog 242 [.pointer (some ⟨s, 0, none⟩), .pointer (some ⟨a, 0, none⟩)] w (fun v w' => v = .tuple #[] ∧ St g (Sid s (expP P.dropLast A i k z tl tr) :: Arn a A :: L) w') := by
  refine Sp.enter Tryz.func242 rfl (by kernel_rfl) (by kernel_rfl) ?_
  have _ := hl
  refine WC.seq ?_
  refine WC.region ?_
  have hne : P ≠ [] := (fun e => by subst e; cases hP); have hri := hA.okrng hi.ref; have hpI : pI (topP P) = i := (by rw [hP]; rfl); have hdl : P.dropLast.length ≤ P.length := (by rw [List.length_dropLast]; omega)
  refine WL.r 1 rfl ?_
  refine WL.call rfl rfl (sd_top (s := s) (P := P) (hl := (by omega)) (hS := hS)) rfl ?_
  clear hS; rintro _ w ⟨rfl, hS⟩
  replace hS : St g (Sid s P :: Arn a A :: L) w := hS
  refine WL.r 3 rfl ?_
  refine WL.new rfl rfl zv_335 hS (fun b1 w hS => ?_)
  refine WL.stF rfl rfl rfl 0 hS rfl rfl rfl rfl rfl ag_335 (fun w hS => ?_)
  replace hS : St g (cel b1 #[.int .u32 (pI (topP P)), .int .i64 (pN (topP P)), .int .i64 (pK (topP P)), .int .i64 (pV (topP P)), .bool (pS (topP P))] 335 :: Sid s P :: Arn a A :: L) w := hS
  refine WL.r 1 rfl ?_
  refine WL.nil ?_
  refine WC.seq ?_
  refine WC.region ?_
  refine WL.r 1 rfl ?_
  refine WL.call rfl rfl (sd_pop (s := s) (P := P) (hl := (by omega)) (hne := hne) (hS := (hS.sel 2 [1, 0] rfl))) rfl ?_
  clear hS; rintro _ w ⟨rfl, hS⟩
  replace hS : St g (Sid s P.dropLast :: cel b1 #[.int .u32 (pI (topP P)), .int .i64 (pN (topP P)), .int .i64 (pK (topP P)), .int .i64 (pV (topP P)), .bool (pS (topP P))] 335 :: Arn a A :: L) w := hS
  refine WL.nil ?_
  refine WC.seq ?_
  refine WC.region ?_
  refine WL.run 3 [.int .u32 (pI (topP P))] rfl (by exact hS.ld 1 rfl rfl) ?_
  refine WL.call rfl rfl (ar_node (a := a) (A := A) (i := pI (topP P)) (hA := hA.toAWf) (hi := (by omega)) (hio := (by rw [hpI]; exact hi.2.1)) (hS := (hS.sel 3 [2, 0, 0] rfl))) rfl ?_
  clear hS; rintro _ w ⟨rfl, hS⟩
  replace hS : St g (Arn a A :: Sid s P.dropLast :: cel b1 #[.int .u32 (pI (topP P)), .int .i64 (pN (topP P)), .int .i64 (pK (topP P)), .int .i64 (pV (topP P)), .bool (pS (topP P))] 335 :: L) w := hS
  refine WL.r 3 rfl ?_
  refine WL.new rfl rfl zv_165 hS (fun b2 w hS => ?_)
  refine WL.stF rfl rfl rfl 0 hS rfl rfl rfl rfl rfl ag_165 (fun w hS => ?_)
  replace hS : St g (cel b2 #[.int .i64 (A.nd (pI (topP P))).key, .int .i64 (A.nd (pI (topP P))).val, .int .u32 (A.nd (pI (topP P))).lf, .int .u32 (A.nd (pI (topP P))).rg, .int .i64 (A.nd (pI (topP P))).size, .int .i64 (A.nd (pI (topP P))).sum, .int .i64 (A.nd (pI (topP P))).mn, .int .i64 (A.nd (pI (topP P))).mx] 165 :: Arn a A :: Sid s P.dropLast :: cel b1 #[.int .u32 (pI (topP P)), .int .i64 (pN (topP P)), .int .i64 (pK (topP P)), .int .i64 (pV (topP P)), .bool (pS (topP P))] 335 :: L) w := hS
  refine WL.r 1 rfl ?_
  refine WL.nil ?_
  as_aux_lemma =>
    refine WC.seq ?_
    refine WC.seq ?_
    refine WC.region ?_
    refine WL.r 2 rfl ?_
    refine WL.nil ?_
    refine WC.ifF rfl rfl ?_
    refine WC.skip ?_
    refine WC.seq ?_
    refine WC.region ?_
    have hir : Is A tr (A.nd (pI (topP P))).rg := (by rw [hpI]; exact hi.2.2.2.2.2); have hil : Is A tl (A.nd (pI (topP P))).lf := (by rw [hpI]; exact hi.2.2.2.2.1); have hpl2 := pushP_len P.dropLast (A.nd (pI (topP P))).rg tr
    refine WL.run 4 [.int .u32 (A.nd (pI (topP P))).rg] rfl (by exact hS.ld 0 rfl rfl) ?_
    refine WL.call rfl rfl (sd_push (s := s) (a := a) (P := P.dropLast) (A := A) (R := R) (i := (A.nd (pI (topP P))).rg) (t := tr) (hA := hA) (hi := hir) (hl := (by omega)) (hS := (hS.sel 3 [2, 1, 0] rfl))) rfl ?_
    clear hS; rintro _ w ⟨rfl, hS⟩
    replace hS : St g (Sid s (pushP P.dropLast (A.nd (pI (topP P))).rg tr) :: Arn a A :: cel b2 #[.int .i64 (A.nd (pI (topP P))).key, .int .i64 (A.nd (pI (topP P))).val, .int .u32 (A.nd (pI (topP P))).lf, .int .u32 (A.nd (pI (topP P))).rg, .int .i64 (A.nd (pI (topP P))).size, .int .i64 (A.nd (pI (topP P))).sum, .int .i64 (A.nd (pI (topP P))).mn, .int .i64 (A.nd (pI (topP P))).mx] 165 :: cel b1 #[.int .u32 (pI (topP P)), .int .i64 (pN (topP P)), .int .i64 (pK (topP P)), .int .i64 (pV (topP P)), .bool (pS (topP P))] 335 :: L) w := hS
    refine WL.nil ?_
    refine WC.seq ?_
    refine WC.plan [([0, 1, 5, 7, 2, 6, 8, 3, 4], some (9, [0, 1, 2, 3, 4])), ([], some (10, [0, 1, 2, 3, 4])), ([], some (11, [0, 1, 2, 3, 4])), ([], some (12, [0])), ([13, 14], some (15, []))] (by kernel_rfl) (by kernel_rfl) ?_
    obtain ⟨⟨su, sc⟩, hS⟩ := St.exOpen (f := sidF s (pushP P.dropLast (A.nd (pI (topP P))).rg tr)) hS
    replace hS : St g (cel s #[.slice su (List.length (pts (pushP P.dropLast (A.nd (pI (topP P))).rg tr))) sc] 332 :: Own 335 5 (pts (pushP P.dropLast (A.nd (pI (topP P))).rg tr)) su sc :: Arn a A :: cel b2 #[.int .i64 (A.nd (pI (topP P))).key, .int .i64 (A.nd (pI (topP P))).val, .int .u32 (A.nd (pI (topP P))).lf, .int .u32 (A.nd (pI (topP P))).rg, .int .i64 (A.nd (pI (topP P))).size, .int .i64 (A.nd (pI (topP P))).sum, .int .i64 (A.nd (pI (topP P))).mn, .int .i64 (A.nd (pI (topP P))).mx] 165 :: cel b1 #[.int .u32 (pI (topP P)), .int .i64 (pN (topP P)), .int .i64 (pK (topP P)), .int .i64 (pV (topP P)), .bool (pS (topP P))] 335 :: L) w := hS
    have hpl3 := pts_len (pushP P.dropLast (A.nd (pI (topP P))).rg tr)
    refine WQ.run 9 [.int .i64 (A.nd (pI (topP P))).key, .int .i64 (A.nd (pI (topP P))).val, .slice su (List.length (pts (pushP P.dropLast (A.nd (pI (topP P))).rg tr))) sc] rfl (by exact ⟨hS.ld 3 rfl rfl, hS.ld 3 rfl rfl, hS.ld 0 rfl rfl⟩) ?_
    refine WQ.nil ?_
    intro m1
    replace hS := hS.drewN m1; generalize hwm1 : World.drewN _ _ = w at *; clear hwm1
    refine WL.build rfl rfl (cs := [.int .i64 (A.nd (pI (topP P))).key, .int .i64 (A.nd (pI (topP P))).val]) zv_77 rfl rfl ?_
    refine WL.nil ?_
    refine ⟨by exact ⟨RQ.pure rfl rfl rfl rfl, RQ.pure rfl rfl rfl rfl, RQ.pure rfl rfl rfl rfl, RQ.pure rfl rfl rfl rfl, RQ.load rfl rfl rfl rfl (hS.ld 0 rfl rfl)⟩, ?_⟩
    refine WQ.nil ?_
    intro m2
    replace hS := hS.drewN m2; generalize hwm2 : World.drewN _ _ = w at *; clear hwm2
    refine WL.build rfl rfl (cs := [.int .u32 0, .int .i64 0, .int .i64 (A.nd (pI (topP P))).key, .int .i64 (A.nd (pI (topP P))).val, .bool true]) zv_335 rfl rfl ?_
    refine WL.nil ?_
    refine ⟨by exact ⟨RQ.pure rfl rfl rfl rfl, RQ.pure rfl rfl rfl rfl, RQ.pure rfl rfl rfl rfl, RQ.pure rfl rfl rfl rfl, RQ.load rfl rfl rfl rfl (hS.ld 0 rfl rfl)⟩, ?_⟩
    refine WQ.nil ?_
    intro m3
    replace hS := hS.drewN m3; generalize hwm3 : World.drewN _ _ = w at *; clear hwm3
    refine WL.lit rfl rfl (pts [Pt.one (A.nd (pI (topP P))).key (A.nd (pI (topP P))).val]) el_330 hS (by exact ⟨rfl, rfl⟩) (pts_ok _) rfl (by decide) (fun b3 w hS => ?_)
    refine WL.nil ?_
    refine ⟨by exact ⟨RQ.pure rfl rfl rfl rfl, RQ.pure rfl rfl rfl rfl, RQ.pure rfl rfl rfl rfl, RQ.pure rfl rfl rfl rfl, RQ.load rfl rfl rfl rfl (hS.ld 1 rfl rfl)⟩, ?_⟩
    refine WQ.nil ?_
    intro m4
    replace hS := hS.drewN m4; generalize hwm4 : World.drewN _ _ = w at *; clear hwm4
    refine WL.app rfl rfl 2 (pts ((pushP P.dropLast (A.nd (pI (topP P))).rg tr) ++ [Pt.one (A.nd (pI (topP P))).key (A.nd (pI (topP P))).val])) el_330 hS rfl (hS.srcO 0 rfl) (pts_app _ _).symm (Rm.of (by first | omega | (simp <;> omega)) (by decide)) rfl rfl (fun a1 c1 w hS => ?_)
    replace hS : St g (Own 335 5 (pts [Pt.one (A.nd (pI (topP P))).key (A.nd (pI (topP P))).val]) (some ⟨b3, 0, none⟩) (List.length (pts [Pt.one (A.nd (pI (topP P))).key (A.nd (pI (topP P))).val])) :: cel s #[.slice su (List.length (pts (pushP P.dropLast (A.nd (pI (topP P))).rg tr))) sc] 332 :: Own 335 5 (pts ((pushP P.dropLast (A.nd (pI (topP P))).rg tr) ++ [Pt.one (A.nd (pI (topP P))).key (A.nd (pI (topP P))).val])) a1 c1 :: Arn a A :: cel b2 #[.int .i64 (A.nd (pI (topP P))).key, .int .i64 (A.nd (pI (topP P))).val, .int .u32 (A.nd (pI (topP P))).lf, .int .u32 (A.nd (pI (topP P))).rg, .int .i64 (A.nd (pI (topP P))).size, .int .i64 (A.nd (pI (topP P))).sum, .int .i64 (A.nd (pI (topP P))).mn, .int .i64 (A.nd (pI (topP P))).mx] 165 :: cel b1 #[.int .u32 (pI (topP P)), .int .i64 (pN (topP P)), .int .i64 (pK (topP P)), .int .i64 (pV (topP P)), .bool (pS (topP P))] 335 :: L) w := hS
    refine WL.nil ?_
    refine ⟨by exact RQ.pure rfl rfl rfl rfl, ?_⟩
    refine WQ.r 2 rfl ?_
    refine WQ.nil ?_
    intro m5
    replace hS := hS.drewN m5; generalize hwm5 : World.drewN _ _ = w at *; clear hwm5
    refine WL.st rfl rfl rfl 1 hS rfl rfl rfl rfl rfl rfl (fun w hS => ?_)
    replace hS : St g (Own 335 5 (pts [Pt.one (A.nd (pI (topP P))).key (A.nd (pI (topP P))).val]) (some ⟨b3, 0, none⟩) (List.length (pts [Pt.one (A.nd (pI (topP P))).key (A.nd (pI (topP P))).val])) :: cel s #[.slice a1 (List.length (pts ((pushP P.dropLast (A.nd (pI (topP P))).rg tr) ++ [Pt.one (A.nd (pI (topP P))).key (A.nd (pI (topP P))).val]))) c1] 332 :: Own 335 5 (pts ((pushP P.dropLast (A.nd (pI (topP P))).rg tr) ++ [Pt.one (A.nd (pI (topP P))).key (A.nd (pI (topP P))).val])) a1 c1 :: Arn a A :: cel b2 #[.int .i64 (A.nd (pI (topP P))).key, .int .i64 (A.nd (pI (topP P))).val, .int .u32 (A.nd (pI (topP P))).lf, .int .u32 (A.nd (pI (topP P))).rg, .int .i64 (A.nd (pI (topP P))).size, .int .i64 (A.nd (pI (topP P))).sum, .int .i64 (A.nd (pI (topP P))).mn, .int .i64 (A.nd (pI (topP P))).mx] 165 :: cel b1 #[.int .u32 (pI (topP P)), .int .i64 (pN (topP P)), .int .i64 (pK (topP P)), .int .i64 (pV (topP P)), .bool (pS (topP P))] 335 :: L) w := hS
    refine WL.nil ?_
    refine ⟨by exact trivial, ?_⟩
    intro m6
    replace hS := hS.drewN m6; generalize hwm6 : World.drewN _ _ = w at *; clear hwm6
    as_aux_lemma =>
      refine WC.region ?_
      replace hS := St.exClose (f := sidF s (pushP P.dropLast (A.nd (pI (topP P))).rg tr ++ [Pt.one (A.nd (pI (topP P))).key (A.nd (pI (topP P))).val])) (L := Own 335 5 (pts [Pt.one (A.nd (pI (topP P))).key (A.nd (pI (topP P))).val]) (some ⟨b3, 0, none⟩) (List.length (pts [Pt.one (A.nd (pI (topP P))).key (A.nd (pI (topP P))).val])) :: Arn a A :: cel b2 #[.int .i64 (A.nd (pI (topP P))).key, .int .i64 (A.nd (pI (topP P))).val, .int .u32 (A.nd (pI (topP P))).lf, .int .u32 (A.nd (pI (topP P))).rg, .int .i64 (A.nd (pI (topP P))).size, .int .i64 (A.nd (pI (topP P))).sum, .int .i64 (A.nd (pI (topP P))).mn, .int .i64 (A.nd (pI (topP P))).mx] 165 :: cel b1 #[.int .u32 (pI (topP P)), .int .i64 (pN (topP P)), .int .i64 (pK (topP P)), .int .i64 (pV (topP P)), .bool (pS (topP P))] 335 :: L) ⟨a1, c1⟩ ((hS.sel 3 [1, 1, 0] rfl))
      replace hS : St g (Sid s (pushP P.dropLast (A.nd (pI (topP P))).rg tr ++ [Pt.one (A.nd (pI (topP P))).key (A.nd (pI (topP P))).val]) :: Own 335 5 (pts [Pt.one (A.nd (pI (topP P))).key (A.nd (pI (topP P))).val]) (some ⟨b3, 0, none⟩) (List.length (pts [Pt.one (A.nd (pI (topP P))).key (A.nd (pI (topP P))).val])) :: Arn a A :: cel b2 #[.int .i64 (A.nd (pI (topP P))).key, .int .i64 (A.nd (pI (topP P))).val, .int .u32 (A.nd (pI (topP P))).lf, .int .u32 (A.nd (pI (topP P))).rg, .int .i64 (A.nd (pI (topP P))).size, .int .i64 (A.nd (pI (topP P))).sum, .int .i64 (A.nd (pI (topP P))).mn, .int .i64 (A.nd (pI (topP P))).mx] 165 :: cel b1 #[.int .u32 (pI (topP P)), .int .i64 (pN (topP P)), .int .i64 (pK (topP P)), .int .i64 (pV (topP P)), .bool (pS (topP P))] 335 :: L) w := hS
      refine WL.run 4 [.int .u32 (A.nd (pI (topP P))).lf] rfl (by exact hS.ld 3 rfl rfl) ?_
      refine WL.call rfl rfl (sd_push (s := s) (a := a) (P := pushP P.dropLast (A.nd (pI (topP P))).rg tr ++ [Pt.one (A.nd (pI (topP P))).key (A.nd (pI (topP P))).val]) (A := A) (R := R) (i := (A.nd (pI (topP P))).lf) (t := tl) (hA := hA) (hi := hil) (hl := (by simp; omega)) (hS := (hS.sel 3 [0, 1, 0] rfl))) rfl ?_
      clear hS; rintro _ w ⟨rfl, hS⟩
      replace hS : St g (Sid s (pushP (pushP P.dropLast (A.nd (pI (topP P))).rg tr ++ [Pt.one (A.nd (pI (topP P))).key (A.nd (pI (topP P))).val]) (A.nd (pI (topP P))).lf tl) :: Arn a A :: Own 335 5 (pts [Pt.one (A.nd (pI (topP P))).key (A.nd (pI (topP P))).val]) (some ⟨b3, 0, none⟩) (List.length (pts [Pt.one (A.nd (pI (topP P))).key (A.nd (pI (topP P))).val])) :: cel b2 #[.int .i64 (A.nd (pI (topP P))).key, .int .i64 (A.nd (pI (topP P))).val, .int .u32 (A.nd (pI (topP P))).lf, .int .u32 (A.nd (pI (topP P))).rg, .int .i64 (A.nd (pI (topP P))).size, .int .i64 (A.nd (pI (topP P))).sum, .int .i64 (A.nd (pI (topP P))).mn, .int .i64 (A.nd (pI (topP P))).mx] 165 :: cel b1 #[.int .u32 (pI (topP P)), .int .i64 (pN (topP P)), .int .i64 (pK (topP P)), .int .i64 (pV (topP P)), .bool (pS (topP P))] 335 :: L) w := hS
      refine WL.nil ?_
      refine ⟨[], trivial, ?_⟩
      replace hS := (hS.sel 5 [0, 0] rfl)
      exact ⟨rfl, by unfold expP; rw [hpI, hi.2.2.1, hi.2.2.2.1] at hS; exact hS⟩
end Go.Proofs.YtlnlnebibgdjdaaGreat
/-! ## P2 -/
namespace Go.Proofs.YtlnlnebibgdjdaaGreat
open Go Go.V
set_option maxRecDepth 8192 in
theorem df_visit {g w : World} {L : List HP} (lb hb ob : Nat) (lo hi x y z q : Int) (out : List Chg) (u : Option Addr) (d : Nat) (hl : out.length ≤ 900000000) (hS : St g (cel lb #[.int .i64 lo] 2 :: cel hb #[.int .i64 hi] 2 :: cel ob #[.slice u (List.length (ch4 out)) d] 179 :: Own 82 4 (ch4 out) u d :: L) w) :
    Sp Tryz.prog 163 [.agg #[.int .i64 x, .int .i64 y, .int .i64 z, .int .i64 q], .pointer (some ⟨lb, 0, none⟩), .pointer (some ⟨hb, 0, none⟩), .pointer (some ⟨ob, 0, none⟩)] w (fun v w' => ∃ (a2 : Option Addr) (c2 : Nat), v = .bool (decide (y < hi)) ∧ St g (cel lb #[.int .i64 lo] 2 :: cel hb #[.int .i64 hi] 2 :: cel ob #[.slice a2 (List.length (ch4 (out ++ oneR lo hi (some (x, y, z, q))))) c2] 179 :: Own 82 4 (ch4 (out ++ oneR lo hi (some (x, y, z, q)))) a2 c2 :: L) w') := by
  refine Sp.enter Tryz.func163 rfl (by kernel_rfl) (by kernel_rfl) ?_
  have _ := hl
  refine WC.seq ?_
  refine WC.region ?_
  have hol := ch4_len out
  refine WL.box rfl rfl #[.int .i64 x, .int .i64 y, .int .i64 z, .int .i64 q] hS rfl rfl (fun b1 w hS => ?_)
  refine WL.r 1 rfl ?_
  refine WL.nil ?_
  refine WC.seq ?_
  refine WC.seq ?_
  refine WC.region ?_
  refine WL.run 4 [.int .i64 y, .int .i64 lo] rfl (by exact ⟨hS.ld 0 rfl rfl, hS.ld 1 rfl rfl⟩) ?_
  refine WL.runG 6 [.int .i64 y, .int .i64 hi] rfl (by exact ⟨fun _ => hS.ld 0 rfl rfl, fun _ => hS.ld 2 rfl rfl⟩) (fun j => ?_)
  refine WL.prop 15 rfl (band (dd _) (dd _)) ?_
  refine WL.nil ?_
  refine WC.ifP rfl (fun hc => ?_) (fun hc => ?_)
  · refine WC.region ?_
    refine WL.run 1 [.slice u (List.length (ch4 out)) d] rfl (by exact hS.ld 3 rfl rfl) ?_
    refine WL.ldF rfl rfl 0 hS rfl rfl ag_82 ?_
    refine WL.lit rfl rfl (ch4 [(x, y, z, q)]) el_179 hS (by exact ⟨rfl, rfl⟩) (ch4_ok _) rfl (by decide) (fun b2 w hS => ?_)
    refine WL.app rfl rfl 5 (ch4 (out ++ [(x, y, z, q)])) el_179 hS rfl (hS.srcO 0 rfl) (ch4_app _ _).symm (Rm.of (by first | omega | (simp <;> omega)) (by decide)) rfl rfl (fun a1 c1 w hS => ?_)
    replace hS : St g (Own 82 4 (ch4 [(x, y, z, q)]) (some ⟨b2, 0, none⟩) (List.length (ch4 [(x, y, z, q)])) :: cel b1 #[.int .i64 x, .int .i64 y, .int .i64 z, .int .i64 q] 82 :: cel lb #[.int .i64 lo] 2 :: cel hb #[.int .i64 hi] 2 :: cel ob #[.slice u (List.length (ch4 out)) d] 179 :: Own 82 4 (ch4 (out ++ [(x, y, z, q)])) a1 c1 :: L) w := hS
    refine WL.st rfl rfl rfl 4 hS rfl rfl rfl rfl rfl rfl (fun w hS => ?_)
    replace hS : St g (Own 82 4 (ch4 [(x, y, z, q)]) (some ⟨b2, 0, none⟩) (List.length (ch4 [(x, y, z, q)])) :: cel b1 #[.int .i64 x, .int .i64 y, .int .i64 z, .int .i64 q] 82 :: cel lb #[.int .i64 lo] 2 :: cel hb #[.int .i64 hi] 2 :: cel ob #[.slice a1 (List.length (ch4 (out ++ [(x, y, z, q)]))) c1] 179 :: Own 82 4 (ch4 (out ++ [(x, y, z, q)])) a1 c1 :: L) w := hS
    refine WL.nil ?_
    refine WC.seq ?_
    refine WC.region ?_
    refine WL.run 5 [.int .i64 y, .int .i64 hi] rfl (by exact ⟨hS.ld 1 rfl rfl, hS.ld 3 rfl rfl⟩) ?_
    refine WL.nil ?_
    as_aux_lemma =>
      refine WC.ret ?_
      refine ⟨[.bool (decide (y < hi))], rfl, ?_⟩
      replace hS := (hS.sel 2 [] rfl)
      have e9 : oneR lo hi (some (x, y, z, q)) = [(x, y, z, q)] := if_pos hc; rw [e9]; exact ⟨_, _, rfl, hS⟩
  · refine WC.skip ?_
    refine WC.seq ?_
    refine WC.region ?_
    refine WL.run 5 [.int .i64 y, .int .i64 hi] rfl (by exact ⟨hS.ld 0 rfl rfl, hS.ld 2 rfl rfl⟩) ?_
    refine WL.nil ?_
    refine WC.ret ?_
    refine ⟨[.bool (decide (y < hi))], rfl, ?_⟩
    replace hS := (hS.sel 1 [] rfl)
    have e9 : oneR lo hi (some (x, y, z, q)) = [] := if_neg hc; rw [e9, List.append_nil]; exact ⟨_, _, rfl, hS⟩
set_option maxRecDepth 8192 in
theorem df_each2 {g w : World} {L : List HP} (vb ob : Nat) (lo hi k z q : Int) (out : List Chg) (il ir ml mr : Bool) (hl : out.length ≤ 900000000) (hS : St g (Dfs vb ob lo hi out :: L) w) :
    Sp Tryz.prog 203 [.agg #[.int .i64 k, .int .i64 z, .int .i64 q, .bool il, .bool ir, .bool ml, .bool mr], .pointer (some ⟨vb, 0, none⟩)] w (fun v w' => v = .bool (goOn hi (pChg k z q il ir)) ∧ St g (Dfs vb ob lo hi (out ++ oneR lo hi (pChg k z q il ir)) :: L) w') := by
  refine Sp.enter Tryz.func203 rfl (by kernel_rfl) (by kernel_rfl) ?_
  have _ := hl
  refine WC.seq ?_
  refine WC.region ?_
  obtain ⟨⟨xl, xh, xu, xc⟩, hS⟩ := St.exOpen (f := dfsF vb ob lo hi out) hS
  replace hS : St g (cel vb #[.func (.func 163) #[] #[.pointer (some ⟨xl, 0, none⟩), .pointer (some ⟨xh, 0, none⟩), .pointer (some ⟨ob, 0, none⟩)]] 258 :: cel xl #[.int .i64 lo] 2 :: cel xh #[.int .i64 hi] 2 :: cel ob #[.slice xu (List.length (ch4 out)) xc] 179 :: Own 82 4 (ch4 out) xu xc :: L) w := hS
  refine WL.box rfl rfl #[.int .i64 k, .int .i64 z, .int .i64 q, .bool il, .bool ir, .bool ml, .bool mr] hS rfl rfl (fun b1 w hS => ?_)
  refine WL.r 1 rfl ?_
  refine WL.nil ?_
  refine WC.seq ?_
  refine WC.block ?_
  refine WC.seq ?_
  refine WC.region ?_
  refine WL.run 3 [.bool il] rfl (by exact hS.ld 0 rfl rfl) ?_
  refine WL.r 1 rfl ?_
  refine WL.nil ?_
  refine WC.if_ rfl (fun hil => ?_) (fun hil => ?_)
  · refine WC.seq ?_
    refine WC.region ?_
    have hch : pChg k z q il ir = some (1, k, 0, q) := if_pos (by simpa using hil)
    refine WL.run 5 [.func (.func 163) #[] #[.pointer (some ⟨xl, 0, none⟩), .pointer (some ⟨xh, 0, none⟩), .pointer (some ⟨ob, 0, none⟩)], .int .i64 k, .int .i64 q] rfl (by exact ⟨hS.ld 1 rfl rfl, hS.ld 0 rfl rfl, hS.ld 0 rfl rfl⟩) ?_
    refine WL.build rfl rfl (cs := [.int .i64 1, .int .i64 k, .int .i64 0, .int .i64 q]) zv_82 rfl rfl ?_
    refine WL.callV (bs := [.pointer (some ⟨xl, 0, none⟩), .pointer (some ⟨xh, 0, none⟩), .pointer (some ⟨ob, 0, none⟩)]) rfl rfl rfl (df_visit (lb := xl) (hb := xh) (ob := ob) (lo := lo) (hi := hi) (x := 1) (y := k) (z := 0) (q := q) (out := out) (u := xu) (d := xc) (hl := (by omega)) (hS := (hS.sel 6 [2, 2, 2, 2, 0, 0] rfl))) rfl ?_
    clear hS; rintro _ w ⟨a1, c1, rfl, hS⟩
    replace hS : St g (cel xl #[.int .i64 lo] 2 :: cel xh #[.int .i64 hi] 2 :: cel ob #[.slice a1 (List.length (ch4 (out ++ oneR lo hi (some (1, k, 0, q))))) c1] 179 :: Own 82 4 (ch4 (out ++ oneR lo hi (some (1, k, 0, q)))) a1 c1 :: cel b1 #[.int .i64 k, .int .i64 z, .int .i64 q, .bool il, .bool ir, .bool ml, .bool mr] 301 :: cel vb #[.func (.func 163) #[] #[.pointer (some ⟨xl, 0, none⟩), .pointer (some ⟨xh, 0, none⟩), .pointer (some ⟨ob, 0, none⟩)]] 258 :: L) w := hS
    refine WL.r 1 rfl ?_
    refine WL.nil ?_
    as_aux_lemma =>
      refine WC.ret ?_
      replace hS := St.exClose (f := dfsF vb ob lo hi (out ++ oneR lo hi (some (1, k, 0, q)))) (L := cel b1 #[.int .i64 k, .int .i64 z, .int .i64 q, .bool il, .bool ir, .bool ml, .bool mr] 301 :: L) ⟨xl, xh, a1, c1⟩ ((hS.sel 6 [5, 0, 0, 0, 0, 0] rfl))
      replace hS : St g (Dfs vb ob lo hi (out ++ oneR lo hi (some (1, k, 0, q))) :: cel b1 #[.int .i64 k, .int .i64 z, .int .i64 q, .bool il, .bool ir, .bool ml, .bool mr] 301 :: L) w := hS
      refine ⟨[.bool (decide (k < hi))], rfl, ?_⟩
      replace hS := (hS.sel 2 [0] rfl)
      exact ⟨by rw [hch]; rfl, by rw [hch]; exact hS⟩
  · refine WC.seq ?_
    refine WC.region ?_
    refine WL.run 3 [.bool ir] rfl (by exact hS.ld 0 rfl rfl) ?_
    refine WL.r 1 rfl ?_
    refine WL.nil ?_
    refine WC.if_ rfl (fun hir => ?_) (fun hir => ?_)
    · refine WC.seq ?_
      refine WC.region ?_
      have hch : pChg k z q il ir = some (2, k, z, 0) := (by unfold pChg; rw [if_neg (by simpa using hil), if_pos (by simpa using hir)])
      refine WL.run 5 [.func (.func 163) #[] #[.pointer (some ⟨xl, 0, none⟩), .pointer (some ⟨xh, 0, none⟩), .pointer (some ⟨ob, 0, none⟩)], .int .i64 k, .int .i64 z] rfl (by exact ⟨hS.ld 1 rfl rfl, hS.ld 0 rfl rfl, hS.ld 0 rfl rfl⟩) ?_
      refine WL.build rfl rfl (cs := [.int .i64 2, .int .i64 k, .int .i64 z, .int .i64 0]) zv_82 rfl rfl ?_
      refine WL.callV (bs := [.pointer (some ⟨xl, 0, none⟩), .pointer (some ⟨xh, 0, none⟩), .pointer (some ⟨ob, 0, none⟩)]) rfl rfl rfl (df_visit (lb := xl) (hb := xh) (ob := ob) (lo := lo) (hi := hi) (x := 2) (y := k) (z := z) (q := 0) (out := out) (u := xu) (d := xc) (hl := (by omega)) (hS := (hS.sel 6 [2, 2, 2, 2, 0, 0] rfl))) rfl ?_
      clear hS; rintro _ w ⟨a1, c1, rfl, hS⟩
      replace hS : St g (cel xl #[.int .i64 lo] 2 :: cel xh #[.int .i64 hi] 2 :: cel ob #[.slice a1 (List.length (ch4 (out ++ oneR lo hi (some (2, k, z, 0))))) c1] 179 :: Own 82 4 (ch4 (out ++ oneR lo hi (some (2, k, z, 0)))) a1 c1 :: cel b1 #[.int .i64 k, .int .i64 z, .int .i64 q, .bool il, .bool ir, .bool ml, .bool mr] 301 :: cel vb #[.func (.func 163) #[] #[.pointer (some ⟨xl, 0, none⟩), .pointer (some ⟨xh, 0, none⟩), .pointer (some ⟨ob, 0, none⟩)]] 258 :: L) w := hS
      refine WL.r 1 rfl ?_
      refine WL.nil ?_
      as_aux_lemma =>
        refine WC.ret ?_
        replace hS := St.exClose (f := dfsF vb ob lo hi (out ++ oneR lo hi (some (2, k, z, 0)))) (L := cel b1 #[.int .i64 k, .int .i64 z, .int .i64 q, .bool il, .bool ir, .bool ml, .bool mr] 301 :: L) ⟨xl, xh, a1, c1⟩ ((hS.sel 6 [5, 0, 0, 0, 0, 0] rfl))
        replace hS : St g (Dfs vb ob lo hi (out ++ oneR lo hi (some (2, k, z, 0))) :: cel b1 #[.int .i64 k, .int .i64 z, .int .i64 q, .bool il, .bool ir, .bool ml, .bool mr] 301 :: L) w := hS
        refine ⟨[.bool (decide (k < hi))], rfl, ?_⟩
        replace hS := (hS.sel 2 [0] rfl)
        exact ⟨by rw [hch]; rfl, by rw [hch]; exact hS⟩
    · refine WC.seq ?_
      refine WC.region ?_
      refine WL.run 6 [.int .i64 z, .int .i64 q] rfl (by exact ⟨hS.ld 0 rfl rfl, hS.ld 0 rfl rfl⟩) ?_
      refine WL.nil ?_
      as_aux_lemma =>
        refine WC.ifP rfl (fun hvw => ?_) (fun hvw => ?_)
        · refine WC.seq ?_
          refine WC.region ?_
          have hch : pChg k z q il ir = some (3, k, z, q) := (by unfold pChg; rw [if_neg (by simpa using hil), if_neg (by simpa using hir), if_pos hvw])
          refine WL.run 7 [.func (.func 163) #[] #[.pointer (some ⟨xl, 0, none⟩), .pointer (some ⟨xh, 0, none⟩), .pointer (some ⟨ob, 0, none⟩)], .int .i64 k, .int .i64 z, .int .i64 q] rfl (by exact ⟨hS.ld 1 rfl rfl, hS.ld 0 rfl rfl, hS.ld 0 rfl rfl, hS.ld 0 rfl rfl⟩) ?_
          refine WL.build rfl rfl (cs := [.int .i64 3, .int .i64 k, .int .i64 z, .int .i64 q]) zv_82 rfl rfl ?_
          refine WL.callV (bs := [.pointer (some ⟨xl, 0, none⟩), .pointer (some ⟨xh, 0, none⟩), .pointer (some ⟨ob, 0, none⟩)]) rfl rfl rfl (df_visit (lb := xl) (hb := xh) (ob := ob) (lo := lo) (hi := hi) (x := 3) (y := k) (z := z) (q := q) (out := out) (u := xu) (d := xc) (hl := (by omega)) (hS := (hS.sel 6 [2, 2, 2, 2, 0, 0] rfl))) rfl ?_
          clear hS; rintro _ w ⟨a1, c1, rfl, hS⟩
          replace hS : St g (cel xl #[.int .i64 lo] 2 :: cel xh #[.int .i64 hi] 2 :: cel ob #[.slice a1 (List.length (ch4 (out ++ oneR lo hi (some (3, k, z, q))))) c1] 179 :: Own 82 4 (ch4 (out ++ oneR lo hi (some (3, k, z, q)))) a1 c1 :: cel b1 #[.int .i64 k, .int .i64 z, .int .i64 q, .bool il, .bool ir, .bool ml, .bool mr] 301 :: cel vb #[.func (.func 163) #[] #[.pointer (some ⟨xl, 0, none⟩), .pointer (some ⟨xh, 0, none⟩), .pointer (some ⟨ob, 0, none⟩)]] 258 :: L) w := hS
          refine WL.r 1 rfl ?_
          refine WL.nil ?_
          refine WC.ret ?_
          replace hS := St.exClose (f := dfsF vb ob lo hi (out ++ oneR lo hi (some (3, k, z, q)))) (L := cel b1 #[.int .i64 k, .int .i64 z, .int .i64 q, .bool il, .bool ir, .bool ml, .bool mr] 301 :: L) ⟨xl, xh, a1, c1⟩ ((hS.sel 6 [5, 0, 0, 0, 0, 0] rfl))
          replace hS : St g (Dfs vb ob lo hi (out ++ oneR lo hi (some (3, k, z, q))) :: cel b1 #[.int .i64 k, .int .i64 z, .int .i64 q, .bool il, .bool ir, .bool ml, .bool mr] 301 :: L) w := hS
          refine ⟨[.bool (decide (k < hi))], rfl, ?_⟩
          replace hS := (hS.sel 2 [0] rfl)
          exact ⟨by rw [hch]; rfl, by rw [hch]; exact hS⟩
        · refine WC.skip ?_
          refine WC.seq ?_
          refine WC.region ?_
          have hch : pChg k z q il ir = none := (by unfold pChg; rw [if_neg (by simpa using hil), if_neg (by simpa using hir), if_neg hvw])
          refine WL.r 1 rfl ?_
          refine WL.nil ?_
          refine WC.ret ?_
          replace hS := St.exClose (f := dfsF vb ob lo hi out) (L := cel b1 #[.int .i64 k, .int .i64 z, .int .i64 q, .bool il, .bool ir, .bool ml, .bool mr] 301 :: L) ⟨xl, xh, xu, xc⟩ ((hS.sel 6 [1, 1, 1, 1, 1, 0] rfl))
          replace hS : St g (Dfs vb ob lo hi out :: cel b1 #[.int .i64 k, .int .i64 z, .int .i64 q, .bool il, .bool ir, .bool ml, .bool mr] 301 :: L) w := hS
          refine ⟨[.bool true], rfl, ?_⟩
          replace hS := (hS.sel 2 [0] rfl)
          exact ⟨by rw [hch]; rfl, by rw [hch]; exact (by simpa [oneR] using hS)⟩
theorem kEq {a b : Prop} {x y : Int} (h : a ∧ (¬ b ∨ x ≤ y)) (k : b ∧ (¬ a ∨ y ≤ x)) : x = y := by
  have h1 := h.2.resolve_left (fun n => n k.1)
  have h2 := k.2.resolve_left (fun n => n h.1)
  omega
theorem kR {a b : Prop} {x y : Int} (k : ¬ (b ∧ (¬ a ∨ y ≤ x))) (hb : b) : x < y := Int.not_le.1 fun h => k ⟨hb, .inr h⟩
theorem kL {a b : Prop} {x y : Int} (h : ¬ (a ∧ (¬ b ∨ x ≤ y))) (ha : a) : y < x := Int.not_le.1 fun k => h ⟨ha, .inr k⟩
theorem kNo {a b : Bool} {x y : Int} (h : ¬ (a = true ∧ (¬ b = true ∨ x ≤ y))) (k : ¬ (b = true ∧ (¬ a = true ∨ y ≤ x))) (o : a = false → b = true) : False := by
  cases ha : a with
  | false => exact k ⟨o ha, .inl (by rw [ha]; decide)⟩
  | true =>
    cases hb : b with
    | false => exact h ⟨ha, .inl (by rw [hb]; decide)⟩
    | true =>
      have := kL h ha
      exact k ⟨hb, .inr (Int.le_of_lt this)⟩
theorem b_none {a b : Bool} (h : (bif (!a) then (!b) else false) = true) : a = false ∧ b = false := by
  cases a <;> cases b <;> simp_all
set_option maxRecDepth 8192 in
theorem df_skip {g w : World} {L : List HP} (hS : St g (L) w) :
    Sp Tryz.prog 201 [] w (fun v w' => v = .bool true ∧ St g (L) w') := by
  refine Sp.enter Tryz.func201 rfl (by kernel_rfl) (by kernel_rfl) ?_
  refine WC.seq ?_
  refine WC.region ?_
  refine WL.r 1 rfl ?_
  refine WL.nil ?_
  refine WC.seq ?_
  refine WC.region ?_
  refine WL.r 1 rfl ?_
  refine WL.nil ?_
  refine WC.ret ?_
  refine ⟨[.bool true], rfl, ?_⟩
  exact ⟨rfl, hS⟩
set_option maxHeartbeats 2000000 in
set_option maxRecDepth 8192 in
theorem tw_pairs {g w : World} {L : List HP} (a : Nat) (A : AM) (R : List Int) (x y lo hi : Int) (vb ob : Nat) (tx ty : Tr) (hA : ARf A R) (hx : Is A tx x) (hy : Is A ty y) (hsx : Srt tx.ls) (hsy : Srt ty.ls) (hl : tx.n + ty.n ≤ 100000000) (hS : St g (Arn a A :: Dfs vb ob lo hi [] :: L) w) :
    Sp Tryz.prog 202 [.pointer (some ⟨a, 0, none⟩), .int .u32 x, .int .u32 y, .func (.func 201) #[] #[], .func (.func 203) #[] #[.pointer (some ⟨vb, 0, none⟩)]] w (fun v w' => v = .tuple #[] ∧ St g (Arn a A :: Dfs vb ob lo hi (inR lo hi (dif tx.ls ty.ls)) :: L) w') := by
  refine Sp.enter Tryz.func202 rfl (by kernel_rfl) (by kernel_rfl) ?_
  have _ := hl
  refine WC.seq ?_
  refine WC.region ?_
  replace hS : St g (Own 335 5 (pts []) none 0 :: Own 335 5 (pts []) none 0 :: Arn a A :: Dfs vb ob lo hi [] :: L) w := (hS.nil_ 335 5).nil_ 335 5
  refine WL.new rfl rfl zv_332 hS (fun b1 w hS => ?_)
  refine WL.new rfl rfl zv_332 hS (fun b2 w hS => ?_)
  refine WL.nil ?_
  refine WC.seq ?_
  refine WC.region ?_
  replace hS := St.exClose (f := sidF b1 []) (L := cel b2 #[.slice none 0 0] 332 :: Own 335 5 (pts []) none 0 :: Arn a A :: Dfs vb ob lo hi [] :: L) ⟨none, 0⟩ ((hS.sel 3 [1, 1, 0] rfl))
  replace hS : St g (Sid b1 [] :: cel b2 #[.slice none 0 0] 332 :: Own 335 5 (pts []) none 0 :: Arn a A :: Dfs vb ob lo hi [] :: L) w := hS
  replace hS := St.exClose (f := sidF b2 []) (L := Sid b1 [] :: Arn a A :: Dfs vb ob lo hi [] :: L) ⟨none, 0⟩ ((hS.sel 3 [1, 1, 0] rfl))
  replace hS : St g (Sid b2 [] :: Sid b1 [] :: Arn a A :: Dfs vb ob lo hi [] :: L) w := hS
  refine WL.r 2 rfl ?_
  refine WL.call rfl rfl (sd_push (s := b1) (a := a) (P := []) (A := A) (R := R) (i := x) (t := tx) (hA := hA) (hi := hx) (hl := (by simp)) (hS := (hS.sel 3 [1, 1, 0] rfl))) rfl ?_
  clear hS; rintro _ w ⟨rfl, hS⟩
  replace hS : St g (Sid b1 (pushP [] x tx) :: Arn a A :: Sid b2 [] :: Dfs vb ob lo hi [] :: L) w := hS
  refine WL.nil ?_
  refine WC.seq ?_
  refine WC.region ?_
  refine WL.r 2 rfl ?_
  refine WL.call rfl rfl (sd_push (s := b2) (a := a) (P := []) (A := A) (R := R) (i := y) (t := ty) (hA := hA) (hi := hy) (hl := (by simp)) (hS := (hS.sel 3 [2, 1, 0] rfl))) rfl ?_
  clear hS; rintro _ w ⟨rfl, hS⟩
  replace hS : St g (Sid b2 (pushP [] y ty) :: Arn a A :: Sid b1 (pushP [] x tx) :: Dfs vb ob lo hi [] :: L) w := hS
  refine WL.nil ?_
  as_aux_lemma =>
    refine WC.block ?_
    refine WC.loop [0, 3, 4, 10, 11] (fun kM vs w => ∃ (PL PR : List Pt) (out : List Chg), vs = [.pointer (some ⟨a, 0, none⟩), .func (.func 201) #[] #[], .func (.func 203) #[] #[.pointer (some ⟨vb, 0, none⟩)], .pointer (some ⟨b1, 0, none⟩), .pointer (some ⟨b2, 0, none⟩)] ∧ St g (Sid b2 PR :: Arn a A :: Sid b1 PL :: Dfs vb ob lo hi out :: L) w ∧ (Pv A lo hi (inR lo hi (dif tx.ls ty.ls)) (3 * (tx.n + ty.n)) PL PR out) ∧ (wgt PL + wgt PR) = kM) (wgt (pushP [] x tx) + wgt (pushP [] y ty)) ⟨pushP [] x tx, pushP [] y ty, [], rfl, hS, (⟨pushP_ok ⟨fun _ h => by cases h⟩ hx, pushP_ok ⟨fun _ h => by cases h⟩ hy, by rw [pushP_rem hx]; simpa [rem] using hsx, by rw [pushP_rem hy]; simpa [rem] using hsy, by rw [pushP_rem hx, pushP_rem hy]; simp [rem], by rw [pushP_wgt hx, pushP_wgt hy]; simp [wgt]; omega⟩), rfl⟩ ?_
    clear hS; rintro _ _ w j ⟨PL, PR, out, rfl, hS, hP, rfl⟩
    refine WC.block ?_
    refine WC.seq ?_
    refine WC.region ?_
    have hlL := wgt_len hP.oL; have hlR := wgt_len hP.oR; have hpw := hP.w
    refine WL.call rfl rfl (sd_top (s := b1) (P := PL) (hl := (by omega)) (hS := (hS.sel 3 [2, 0, 0] rfl))) rfl ?_
    clear hS; rintro _ w ⟨rfl, hS⟩
    replace hS : St g (Sid b1 PL :: Sid b2 PR :: Arn a A :: Dfs vb ob lo hi out :: L) w := hS
    refine WL.r 3 rfl ?_
    refine WL.new rfl rfl zv_335 hS (fun b3 w hS => ?_)
    refine WL.stF rfl rfl rfl 0 hS rfl rfl rfl rfl rfl ag_335 (fun w hS => ?_)
    replace hS : St g (cel b3 #[.int .u32 (pI (topP PL)), .int .i64 (pN (topP PL)), .int .i64 (pK (topP PL)), .int .i64 (pV (topP PL)), .bool (pS (topP PL))] 335 :: Sid b1 PL :: Sid b2 PR :: Arn a A :: Dfs vb ob lo hi out :: L) w := hS
    refine WL.r 1 rfl ?_
    refine WL.nil ?_
    refine WC.seq ?_
    refine WC.region ?_
    refine WL.call rfl rfl (sd_top (s := b2) (P := PR) (hl := (by omega)) (hS := (hS.sel 3 [2, 0, 0] rfl))) rfl ?_
    clear hS; rintro _ w ⟨rfl, hS⟩
    replace hS : St g (Sid b2 PR :: cel b3 #[.int .u32 (pI (topP PL)), .int .i64 (pN (topP PL)), .int .i64 (pK (topP PL)), .int .i64 (pV (topP PL)), .bool (pS (topP PL))] 335 :: Sid b1 PL :: Arn a A :: Dfs vb ob lo hi out :: L) w := hS
    refine WL.r 3 rfl ?_
    refine WL.new rfl rfl zv_335 hS (fun b4 w hS => ?_)
    refine WL.stF rfl rfl rfl 0 hS rfl rfl rfl rfl rfl ag_335 (fun w hS => ?_)
    replace hS : St g (cel b4 #[.int .u32 (pI (topP PR)), .int .i64 (pN (topP PR)), .int .i64 (pK (topP PR)), .int .i64 (pV (topP PR)), .bool (pS (topP PR))] 335 :: Sid b2 PR :: cel b3 #[.int .u32 (pI (topP PL)), .int .i64 (pN (topP PL)), .int .i64 (pK (topP PL)), .int .i64 (pV (topP PL)), .bool (pS (topP PL))] 335 :: Sid b1 PL :: Arn a A :: Dfs vb ob lo hi out :: L) w := hS
    refine WL.r 1 rfl ?_
    refine WL.nil ?_
    as_aux_lemma =>
      refine WC.block ?_
      refine WC.seq ?_
      refine WC.region ?_
      refine WL.r 2 rfl ?_
      refine WL.rG 5 rfl (fun j => ?_)
      refine WL.prop 96 rfl (band (bnot (dv _)) (bnot (dv _))) ?_
      refine WL.nil ?_
      refine WC.if_ rfl (fun cd1 => ?_) (fun cd1 => ?_)
      · refine WC.ret ?_
        refine ⟨[], trivial, ?_⟩
        replace hS := (hS.sel 4 [] rfl)
        obtain ⟨n1, n2⟩ := b_none cd1; have m1 := top_none n1; have m2 := top_none n2; subst m1; subst m2; rw [hP.done] at hS; exact ⟨rfl, hS⟩
      · refine WC.seq ?_
        refine WC.region ?_
        refine WL.r 1 rfl ?_
        refine WL.runG 21 [.bool (pS (topP PL)), .bool (pS (topP PR)), .int .u32 (pI (topP PL)), .int .u32 (pI (topP PR))] rfl (by exact ⟨fun _ => hS.ld 2 rfl rfl, fun _ => hS.ld 0 rfl rfl, fun _ => hS.ld 2 rfl rfl, fun _ => hS.ld 0 rfl rfl⟩) (fun j => ?_)
        refine WL.prop 118 rfl (band (band (band (band (dv _) (dv _)) (bnot (dv _))) (bnot (dv _))) (dd _)) ?_
        refine WL.nil ?_
        refine WC.if_ rfl (fun cd2 => ?_) (fun cd2 => ?_)
        · refine WC.seq ?_
          refine WC.region ?_
          obtain ⟨q1, q2, q3, q4, q5⟩ := b_both cd2; obtain ⟨i0, t0, ht⟩ := top_sub q1 q3; obtain ⟨j0, u0, hu⟩ := top_sub q2 q4; have hij : i0 = j0 := (by rw [ht, hu] at q5; exact q5); subst hij; obtain ⟨hb1, hb2⟩ := hP.both ht hu
          refine WL.call rfl rfl (sd_pop (s := b1) (P := PL) (hl := (by omega)) (hne := top_ne q1) (hS := (hS.sel 4 [3, 0, 0, 0] rfl))) rfl ?_
          clear hS; rintro _ w ⟨rfl, hS⟩
          replace hS : St g (Sid b1 PL.dropLast :: cel b4 #[.int .u32 (pI (topP PR)), .int .i64 (pN (topP PR)), .int .i64 (pK (topP PR)), .int .i64 (pV (topP PR)), .bool (pS (topP PR))] 335 :: Sid b2 PR :: cel b3 #[.int .u32 (pI (topP PL)), .int .i64 (pN (topP PL)), .int .i64 (pK (topP PL)), .int .i64 (pV (topP PL)), .bool (pS (topP PL))] 335 :: Arn a A :: Dfs vb ob lo hi out :: L) w := hS
          refine WL.nil ?_
          refine WC.seq ?_
          refine WC.region ?_
          refine WL.call rfl rfl (sd_pop (s := b2) (P := PR) (hl := (by omega)) (hne := top_ne q2) (hS := (hS.sel 3 [2, 0, 0] rfl))) rfl ?_
          clear hS; rintro _ w ⟨rfl, hS⟩
          replace hS : St g (Sid b2 PR.dropLast :: Sid b1 PL.dropLast :: cel b4 #[.int .u32 (pI (topP PR)), .int .i64 (pN (topP PR)), .int .i64 (pK (topP PR)), .int .i64 (pV (topP PR)), .bool (pS (topP PR))] 335 :: cel b3 #[.int .u32 (pI (topP PL)), .int .i64 (pN (topP PL)), .int .i64 (pK (topP PL)), .int .i64 (pV (topP PL)), .bool (pS (topP PL))] 335 :: Arn a A :: Dfs vb ob lo hi out :: L) w := hS
          refine WL.nil ?_
          as_aux_lemma =>
            refine WC.seq ?_
            refine WC.region ?_
            refine WL.r 1 rfl ?_
            refine WL.callV (bs := []) rfl rfl rfl (df_skip   (hS := hS)) rfl ?_
            clear hS; rintro _ w ⟨rfl, hS⟩
            replace hS : St g (Sid b2 PR.dropLast :: Sid b1 PL.dropLast :: cel b4 #[.int .u32 (pI (topP PR)), .int .i64 (pN (topP PR)), .int .i64 (pK (topP PR)), .int .i64 (pV (topP PR)), .bool (pS (topP PR))] 335 :: cel b3 #[.int .u32 (pI (topP PL)), .int .i64 (pN (topP PL)), .int .i64 (pK (topP PL)), .int .i64 (pV (topP PL)), .bool (pS (topP PL))] 335 :: Arn a A :: Dfs vb ob lo hi out :: L) w := hS
            refine WL.r 1 rfl ?_
            refine WL.nil ?_
            refine WC.ifF rfl rfl ?_
            refine WC.skip ?_
            exact ⟨_, (by first | omega | exact (hP.vLR cd5.1 (o1 cd5.1) cd6.1 (o2 cd6.1) (kEq cd5 cd6) rfl rfl rfl).2.1 | exact (hP.vL (w := 0) cd5.1 (o1 cd5.1) (fun hb => ⟨o2 hb, kR cd6 hb⟩) rfl rfl).2.1 | exact (hP.vR (v := 0) cd6.1 (o2 cd6.1) (fun ha => ⟨o1 ha, kL cd5 ha⟩) rfl rfl).2.1 | exact (kNo cd5 cd6 o3).elim), PL.dropLast, PR.dropLast, out, rfl, (hS.sel 5 [0, 3, 0] rfl), (hb1), rfl⟩
        · refine WC.seq ?_
          refine WC.region ?_
          refine WL.r 1 rfl ?_
          refine WL.runG 21 [.bool (pS (topP PL)), .bool (pS (topP PR)), .int .i64 (pN (topP PL)), .int .i64 (pN (topP PR))] rfl (by exact ⟨fun _ => hS.ld 2 rfl rfl, fun _ => hS.ld 0 rfl rfl, fun _ => hS.ld 2 rfl rfl, fun _ => hS.ld 0 rfl rfl⟩) (fun j => ?_)
          refine WL.prop 145 rfl (band (band (dv _) (bnot (dv _))) (bor (bor (bnot (dv _)) (dv _)) (dd _))) ?_
          refine WL.nil ?_
          refine WC.if_ rfl (fun cd3 => ?_) (fun cd3 => ?_)
          · refine WC.region ?_
            obtain ⟨q1, q2⟩ := b_left cd3; obtain ⟨i0, t0, ht⟩ := top_sub q1 q2; obtain ⟨k0, z0, tl0, tr0, ht2, hi0, hp2, hw2⟩ := hP.expL ht
            refine WL.r 1 rfl ?_
            refine WL.call rfl rfl (sd_exp (s := b1) (a := a) (P := PL) (A := A) (R := R) (i := i0) (k := k0) (z := z0) (tl := tl0) (tr := tr0) (hA := hA) (hP := ht2) (hi := hi0) (hl := (by omega)) (hS := (hS.sel 5 [3, 3, 0, 0, 0] rfl))) rfl ?_
            clear hS; rintro _ w ⟨rfl, hS⟩
            replace hS : St g (Sid b1 (expP PL.dropLast A i0 k0 z0 tl0 tr0) :: Arn a A :: cel b4 #[.int .u32 (pI (topP PR)), .int .i64 (pN (topP PR)), .int .i64 (pK (topP PR)), .int .i64 (pV (topP PR)), .bool (pS (topP PR))] 335 :: Sid b2 PR :: cel b3 #[.int .u32 (pI (topP PL)), .int .i64 (pN (topP PL)), .int .i64 (pK (topP PL)), .int .i64 (pV (topP PL)), .bool (pS (topP PL))] 335 :: Dfs vb ob lo hi out :: L) w := hS
            refine WL.nil ?_
            exact ⟨_, (by first | omega | exact (hP.vLR cd5.1 (o1 cd5.1) cd6.1 (o2 cd6.1) (kEq cd5 cd6) rfl rfl rfl).2.1 | exact (hP.vL (w := 0) cd5.1 (o1 cd5.1) (fun hb => ⟨o2 hb, kR cd6 hb⟩) rfl rfl).2.1 | exact (hP.vR (v := 0) cd6.1 (o2 cd6.1) (fun ha => ⟨o1 ha, kL cd5 ha⟩) rfl rfl).2.1 | exact (kNo cd5 cd6 o3).elim), expP PL.dropLast A i0 k0 z0 tl0 tr0, PR, out, rfl, (hS.sel 5 [3, 1, 0] rfl), (hp2), rfl⟩
          · refine WC.seq ?_
            refine WC.region ?_
            refine WL.r 1 rfl ?_
            refine WL.runG 6 [.bool (pS (topP PR))] rfl (by exact (fun _ => hS.ld 0 rfl rfl)) (fun j => ?_)
            refine WL.prop 154 rfl (band (dv _) (bnot (dv _))) ?_
            refine WL.nil ?_
            as_aux_lemma =>
              refine WC.if_ rfl (fun cd4 => ?_) (fun cd4 => ?_)
              · refine WC.region ?_
                obtain ⟨q1, q2⟩ := b_right cd4; obtain ⟨i0, t0, ht⟩ := top_sub q1 q2; obtain ⟨k0, z0, tl0, tr0, ht2, hi0, hp2, hw2⟩ := hP.expR ht
                refine WL.r 1 rfl ?_
                refine WL.call rfl rfl (sd_exp (s := b2) (a := a) (P := PR) (A := A) (R := R) (i := i0) (k := k0) (z := z0) (tl := tl0) (tr := tr0) (hA := hA) (hP := ht2) (hi := hi0) (hl := (by omega)) (hS := (hS.sel 5 [1, 3, 0, 0, 0] rfl))) rfl ?_
                clear hS; rintro _ w ⟨rfl, hS⟩
                replace hS : St g (Sid b2 (expP PR.dropLast A i0 k0 z0 tl0 tr0) :: Arn a A :: cel b4 #[.int .u32 (pI (topP PR)), .int .i64 (pN (topP PR)), .int .i64 (pK (topP PR)), .int .i64 (pV (topP PR)), .bool (pS (topP PR))] 335 :: cel b3 #[.int .u32 (pI (topP PL)), .int .i64 (pN (topP PL)), .int .i64 (pK (topP PL)), .int .i64 (pV (topP PL)), .bool (pS (topP PL))] 335 :: Sid b1 PL :: Dfs vb ob lo hi out :: L) w := hS
                refine WL.nil ?_
                exact ⟨_, (by first | omega | exact (hP.vLR cd5.1 (o1 cd5.1) cd6.1 (o2 cd6.1) (kEq cd5 cd6) rfl rfl rfl).2.1 | exact (hP.vL (w := 0) cd5.1 (o1 cd5.1) (fun hb => ⟨o2 hb, kR cd6 hb⟩) rfl rfl).2.1 | exact (hP.vR (v := 0) cd6.1 (o2 cd6.1) (fun ha => ⟨o1 ha, kL cd5 ha⟩) rfl rfl).2.1 | exact (kNo cd5 cd6 o3).elim), PL, expP PR.dropLast A i0 k0 z0 tl0 tr0, out, rfl, (hS.sel 4 [0, 0] rfl), (hp2), rfl⟩
              · refine WC.seq ?_
                refine WC.region ?_
                obtain ⟨o1, o2, o3⟩ := b_ones cd1 cd3 cd4
                refine WL.r 2 rfl ?_
                refine WL.build rfl rfl (cs := [.int .i64 0, .int .i64 0, .int .i64 0, .bool false, .bool false, .bool (topP PL).isSome, .bool (topP PR).isSome]) zv_301 rfl rfl ?_
                refine WL.new rfl rfl zv_301 hS (fun b5 w hS => ?_)
                refine WL.stF rfl rfl rfl 0 hS rfl rfl rfl rfl rfl ag_301 (fun w hS => ?_)
                replace hS : St g (cel b5 #[.int .i64 0, .int .i64 0, .int .i64 0, .bool false, .bool false, .bool (topP PL).isSome, .bool (topP PR).isSome] 301 :: cel b4 #[.int .u32 (pI (topP PR)), .int .i64 (pN (topP PR)), .int .i64 (pK (topP PR)), .int .i64 (pV (topP PR)), .bool (pS (topP PR))] 335 :: Sid b2 PR :: cel b3 #[.int .u32 (pI (topP PL)), .int .i64 (pN (topP PL)), .int .i64 (pK (topP PL)), .int .i64 (pV (topP PL)), .bool (pS (topP PL))] 335 :: Sid b1 PL :: Arn a A :: Dfs vb ob lo hi out :: L) w := hS
                refine WL.nil ?_
                refine WC.seq ?_
                refine WC.region ?_
                refine WL.r 1 rfl ?_
                refine WL.runG 14 [.int .i64 (pK (topP PL)), .int .i64 (pK (topP PR))] rfl (by exact ⟨fun _ => hS.ld 3 rfl rfl, fun _ => hS.ld 1 rfl rfl⟩) (fun j => ?_)
                refine WL.prop 47 rfl (band (dv _) (bor (bnot (dv _)) (dd _))) ?_
                refine WL.st rfl rfl rfl 0 hS rfl rfl rfl rfl rfl rfl (fun w hS => ?_)
                replace hS : St g (cel b5 #[.int .i64 0, .int .i64 0, .int .i64 0, .bool (decide (((topP PL).isSome = true) ∧ ((¬ ((topP PR).isSome = true)) ∨ ((pK (topP PL)) ≤ (pK (topP PR)))))), .bool false, .bool (topP PL).isSome, .bool (topP PR).isSome] 301 :: cel b4 #[.int .u32 (pI (topP PR)), .int .i64 (pN (topP PR)), .int .i64 (pK (topP PR)), .int .i64 (pV (topP PR)), .bool (pS (topP PR))] 335 :: Sid b2 PR :: cel b3 #[.int .u32 (pI (topP PL)), .int .i64 (pN (topP PL)), .int .i64 (pK (topP PL)), .int .i64 (pV (topP PL)), .bool (pS (topP PL))] 335 :: Sid b1 PL :: Arn a A :: Dfs vb ob lo hi out :: L) w := hS
                refine WL.nil ?_
                refine WC.seq ?_
                refine WC.region ?_
                refine WL.r 1 rfl ?_
                refine WL.runG 14 [.int .i64 (pK (topP PR)), .int .i64 (pK (topP PL))] rfl (by exact ⟨fun _ => hS.ld 1 rfl rfl, fun _ => hS.ld 3 rfl rfl⟩) (fun j => ?_)
                refine WL.prop 62 rfl (band (dv _) (bor (bnot (dv _)) (dd _))) ?_
                refine WL.st rfl rfl rfl 0 hS rfl rfl rfl rfl rfl rfl (fun w hS => ?_)
                replace hS : St g (cel b5 #[.int .i64 0, .int .i64 0, .int .i64 0, .bool (decide (((topP PL).isSome = true) ∧ ((¬ ((topP PR).isSome = true)) ∨ ((pK (topP PL)) ≤ (pK (topP PR)))))), .bool (decide (((topP PR).isSome = true) ∧ ((¬ ((topP PL).isSome = true)) ∨ ((pK (topP PR)) ≤ (pK (topP PL)))))), .bool (topP PL).isSome, .bool (topP PR).isSome] 301 :: cel b4 #[.int .u32 (pI (topP PR)), .int .i64 (pN (topP PR)), .int .i64 (pK (topP PR)), .int .i64 (pV (topP PR)), .bool (pS (topP PR))] 335 :: Sid b2 PR :: cel b3 #[.int .u32 (pI (topP PL)), .int .i64 (pN (topP PL)), .int .i64 (pK (topP PL)), .int .i64 (pV (topP PL)), .bool (pS (topP PL))] 335 :: Sid b1 PL :: Arn a A :: Dfs vb ob lo hi out :: L) w := hS
                refine WL.nil ?_
                as_aux_lemma =>
                  refine WC.seq ?_
                  refine WC.seq ?_
                  refine WC.region ?_
                  refine WL.run 2 [.bool (decide (((topP PL).isSome = true) ∧ ((¬ ((topP PR).isSome = true)) ∨ ((pK (topP PL)) ≤ (pK (topP PR))))))] rfl (by exact hS.ld 0 rfl rfl) ?_
                  refine WL.nil ?_
                  refine WC.ifP rfl (fun cd5 => ?_) (fun cd5 => ?_)
                  · refine WC.seq ?_
                    refine WC.plan [([0, 3, 1, 4, 2, 5, 6], some (7, [3, 4, 5])), ([8], some (9, []))] (by kernel_rfl) (by kernel_rfl) ?_
                    refine WQ.run 7 [.int .i64 (pK (topP PL)), .int .i64 (pV (topP PL))] rfl (by exact ⟨hS.ld 3 rfl rfl, hS.ld 3 rfl rfl⟩) ?_
                    refine WQ.nil ?_
                    intro m1
                    replace hS := hS.drewN m1; generalize hwm1 : World.drewN _ _ = w at *; clear hwm1
                    refine WL.st rfl rfl rfl 0 hS rfl rfl rfl rfl rfl rfl (fun w hS => ?_)
                    replace hS : St g (cel b5 #[.int .i64 (pK (topP PL)), .int .i64 0, .int .i64 0, .bool (decide (((topP PL).isSome = true) ∧ ((¬ ((topP PR).isSome = true)) ∨ ((pK (topP PL)) ≤ (pK (topP PR)))))), .bool (decide (((topP PR).isSome = true) ∧ ((¬ ((topP PL).isSome = true)) ∨ ((pK (topP PR)) ≤ (pK (topP PL)))))), .bool (topP PL).isSome, .bool (topP PR).isSome] 301 :: cel b4 #[.int .u32 (pI (topP PR)), .int .i64 (pN (topP PR)), .int .i64 (pK (topP PR)), .int .i64 (pV (topP PR)), .bool (pS (topP PR))] 335 :: Sid b2 PR :: cel b3 #[.int .u32 (pI (topP PL)), .int .i64 (pN (topP PL)), .int .i64 (pK (topP PL)), .int .i64 (pV (topP PL)), .bool (pS (topP PL))] 335 :: Sid b1 PL :: Arn a A :: Dfs vb ob lo hi out :: L) w := hS
                    refine WL.nil ?_
                    refine ⟨by exact ⟨RQ.pure rfl rfl rfl rfl, RQ.pure rfl rfl rfl rfl, RQ.load rfl rfl rfl rfl (hS.ld 3 rfl rfl)⟩, ?_⟩
                    refine WQ.r 1 rfl ?_
                    refine WQ.nil ?_
                    intro m2
                    replace hS := hS.drewN m2; generalize hwm2 : World.drewN _ _ = w at *; clear hwm2
                    refine WL.st rfl rfl rfl 0 hS rfl rfl rfl rfl rfl rfl (fun w hS => ?_)
                    replace hS : St g (cel b5 #[.int .i64 (pK (topP PL)), .int .i64 (pV (topP PL)), .int .i64 0, .bool (decide (((topP PL).isSome = true) ∧ ((¬ ((topP PR).isSome = true)) ∨ ((pK (topP PL)) ≤ (pK (topP PR)))))), .bool (decide (((topP PR).isSome = true) ∧ ((¬ ((topP PL).isSome = true)) ∨ ((pK (topP PR)) ≤ (pK (topP PL)))))), .bool (topP PL).isSome, .bool (topP PR).isSome] 301 :: cel b4 #[.int .u32 (pI (topP PR)), .int .i64 (pN (topP PR)), .int .i64 (pK (topP PR)), .int .i64 (pV (topP PR)), .bool (pS (topP PR))] 335 :: Sid b2 PR :: cel b3 #[.int .u32 (pI (topP PL)), .int .i64 (pN (topP PL)), .int .i64 (pK (topP PL)), .int .i64 (pV (topP PL)), .bool (pS (topP PL))] 335 :: Sid b1 PL :: Arn a A :: Dfs vb ob lo hi out :: L) w := hS
                    refine WL.nil ?_
                    refine ⟨by exact trivial, ?_⟩
                    intro m3
                    replace hS := hS.drewN m3; generalize hwm3 : World.drewN _ _ = w at *; clear hwm3
                    as_aux_lemma =>
                      refine WC.region ?_
                      refine WL.call rfl rfl (sd_pop (s := b1) (P := PL) (hl := (by omega)) (hne := top_ne cd5.1) (hS := (hS.sel 5 [4, 0, 0, 0, 0] rfl))) rfl ?_
                      clear hS; rintro _ w ⟨rfl, hS⟩
                      replace hS : St g (Sid b1 PL.dropLast :: cel b5 #[.int .i64 (pK (topP PL)), .int .i64 (pV (topP PL)), .int .i64 0, .bool (decide (((topP PL).isSome = true) ∧ ((¬ ((topP PR).isSome = true)) ∨ ((pK (topP PL)) ≤ (pK (topP PR)))))), .bool (decide (((topP PR).isSome = true) ∧ ((¬ ((topP PL).isSome = true)) ∨ ((pK (topP PR)) ≤ (pK (topP PL)))))), .bool (topP PL).isSome, .bool (topP PR).isSome] 301 :: cel b4 #[.int .u32 (pI (topP PR)), .int .i64 (pN (topP PR)), .int .i64 (pK (topP PR)), .int .i64 (pV (topP PR)), .bool (pS (topP PR))] 335 :: Sid b2 PR :: cel b3 #[.int .u32 (pI (topP PL)), .int .i64 (pN (topP PL)), .int .i64 (pK (topP PL)), .int .i64 (pV (topP PL)), .bool (pS (topP PL))] 335 :: Arn a A :: Dfs vb ob lo hi out :: L) w := hS
                      refine WL.nil ?_
                      refine WC.seq ?_
                      refine WC.seq ?_
                      refine WC.region ?_
                      refine WL.run 2 [.bool (decide (((topP PR).isSome = true) ∧ ((¬ ((topP PL).isSome = true)) ∨ ((pK (topP PR)) ≤ (pK (topP PL))))))] rfl (by exact hS.ld 1 rfl rfl) ?_
                      refine WL.nil ?_
                      refine WC.ifP rfl (fun cd6 => ?_) (fun cd6 => ?_)
                      · refine WC.seq ?_
                        refine WC.plan [([0, 3, 1, 4, 2, 5, 6], some (7, [3, 4, 5])), ([8], some (9, []))] (by kernel_rfl) (by kernel_rfl) ?_
                        refine WQ.run 7 [.int .i64 (pK (topP PR)), .int .i64 (pV (topP PR))] rfl (by exact ⟨hS.ld 2 rfl rfl, hS.ld 2 rfl rfl⟩) ?_
                        refine WQ.nil ?_
                        intro m4
                        replace hS := hS.drewN m4; generalize hwm4 : World.drewN _ _ = w at *; clear hwm4
                        refine WL.st rfl rfl rfl 1 hS rfl rfl rfl rfl rfl rfl (fun w hS => ?_)
                        replace hS : St g (Sid b1 PL.dropLast :: cel b5 #[.int .i64 (pK (topP PR)), .int .i64 (pV (topP PL)), .int .i64 0, .bool (decide (((topP PL).isSome = true) ∧ ((¬ ((topP PR).isSome = true)) ∨ ((pK (topP PL)) ≤ (pK (topP PR)))))), .bool (decide (((topP PR).isSome = true) ∧ ((¬ ((topP PL).isSome = true)) ∨ ((pK (topP PR)) ≤ (pK (topP PL)))))), .bool (topP PL).isSome, .bool (topP PR).isSome] 301 :: cel b4 #[.int .u32 (pI (topP PR)), .int .i64 (pN (topP PR)), .int .i64 (pK (topP PR)), .int .i64 (pV (topP PR)), .bool (pS (topP PR))] 335 :: Sid b2 PR :: cel b3 #[.int .u32 (pI (topP PL)), .int .i64 (pN (topP PL)), .int .i64 (pK (topP PL)), .int .i64 (pV (topP PL)), .bool (pS (topP PL))] 335 :: Arn a A :: Dfs vb ob lo hi out :: L) w := hS
                        refine WL.nil ?_
                        refine ⟨by exact ⟨RQ.pure rfl rfl rfl rfl, RQ.pure rfl rfl rfl rfl, RQ.load rfl rfl rfl rfl (hS.ld 2 rfl rfl)⟩, ?_⟩
                        refine WQ.r 1 rfl ?_
                        refine WQ.nil ?_
                        intro m5
                        replace hS := hS.drewN m5; generalize hwm5 : World.drewN _ _ = w at *; clear hwm5
                        refine WL.st rfl rfl rfl 1 hS rfl rfl rfl rfl rfl rfl (fun w hS => ?_)
                        replace hS : St g (Sid b1 PL.dropLast :: cel b5 #[.int .i64 (pK (topP PR)), .int .i64 (pV (topP PL)), .int .i64 (pV (topP PR)), .bool (decide (((topP PL).isSome = true) ∧ ((¬ ((topP PR).isSome = true)) ∨ ((pK (topP PL)) ≤ (pK (topP PR)))))), .bool (decide (((topP PR).isSome = true) ∧ ((¬ ((topP PL).isSome = true)) ∨ ((pK (topP PR)) ≤ (pK (topP PL)))))), .bool (topP PL).isSome, .bool (topP PR).isSome] 301 :: cel b4 #[.int .u32 (pI (topP PR)), .int .i64 (pN (topP PR)), .int .i64 (pK (topP PR)), .int .i64 (pV (topP PR)), .bool (pS (topP PR))] 335 :: Sid b2 PR :: cel b3 #[.int .u32 (pI (topP PL)), .int .i64 (pN (topP PL)), .int .i64 (pK (topP PL)), .int .i64 (pV (topP PL)), .bool (pS (topP PL))] 335 :: Arn a A :: Dfs vb ob lo hi out :: L) w := hS
                        refine WL.nil ?_
                        refine ⟨by exact trivial, ?_⟩
                        intro m6
                        replace hS := hS.drewN m6; generalize hwm6 : World.drewN _ _ = w at *; clear hwm6
                        as_aux_lemma =>
                          refine WC.region ?_
                          refine WL.call rfl rfl (sd_pop (s := b2) (P := PR) (hl := (by omega)) (hne := top_ne cd6.1) (hS := (hS.sel 4 [3, 0, 0, 0] rfl))) rfl ?_
                          clear hS; rintro _ w ⟨rfl, hS⟩
                          replace hS : St g (Sid b2 PR.dropLast :: Sid b1 PL.dropLast :: cel b5 #[.int .i64 (pK (topP PR)), .int .i64 (pV (topP PL)), .int .i64 (pV (topP PR)), .bool (decide (((topP PL).isSome = true) ∧ ((¬ ((topP PR).isSome = true)) ∨ ((pK (topP PL)) ≤ (pK (topP PR)))))), .bool (decide (((topP PR).isSome = true) ∧ ((¬ ((topP PL).isSome = true)) ∨ ((pK (topP PR)) ≤ (pK (topP PL)))))), .bool (topP PL).isSome, .bool (topP PR).isSome] 301 :: cel b4 #[.int .u32 (pI (topP PR)), .int .i64 (pN (topP PR)), .int .i64 (pK (topP PR)), .int .i64 (pV (topP PR)), .bool (pS (topP PR))] 335 :: cel b3 #[.int .u32 (pI (topP PL)), .int .i64 (pN (topP PL)), .int .i64 (pK (topP PL)), .int .i64 (pV (topP PL)), .bool (pS (topP PL))] 335 :: Arn a A :: Dfs vb ob lo hi out :: L) w := hS
                          refine WL.nil ?_
                          refine WC.seq ?_
                          refine WC.region ?_
                          refine WL.r 1 rfl ?_
                          refine WL.ldF rfl rfl 2 hS rfl rfl ag_301 ?_
                          refine WL.callV (bs := [.pointer (some ⟨vb, 0, none⟩)]) rfl rfl rfl (df_each2 (vb := vb) (ob := ob) (lo := lo) (hi := hi) (k := pK (topP PR)) (z := pV (topP PL)) (q := pV (topP PR)) (out := out) (il := decide (((topP PL).isSome = true) ∧ ((¬ ((topP PR).isSome = true)) ∨ ((pK (topP PL)) ≤ (pK (topP PR)))))) (ir := decide (((topP PR).isSome = true) ∧ ((¬ ((topP PL).isSome = true)) ∨ ((pK (topP PR)) ≤ (pK (topP PL)))))) (ml := (topP PL).isSome) (mr := (topP PR).isSome) (hl := (by omega)) (hS := (hS.sel 7 [6, 0, 0, 0, 0, 0, 0] rfl))) rfl ?_
                          clear hS; rintro _ w ⟨rfl, hS⟩
                          replace hS : St g (Dfs vb ob lo hi (out ++ oneR lo hi (pChg (pK (topP PR)) (pV (topP PL)) (pV (topP PR)) (decide (((topP PL).isSome = true) ∧ ((¬ ((topP PR).isSome = true)) ∨ ((pK (topP PL)) ≤ (pK (topP PR)))))) (decide (((topP PR).isSome = true) ∧ ((¬ ((topP PL).isSome = true)) ∨ ((pK (topP PR)) ≤ (pK (topP PL)))))))) :: Sid b2 PR.dropLast :: Sid b1 PL.dropLast :: cel b5 #[.int .i64 (pK (topP PR)), .int .i64 (pV (topP PL)), .int .i64 (pV (topP PR)), .bool (decide (((topP PL).isSome = true) ∧ ((¬ ((topP PR).isSome = true)) ∨ ((pK (topP PL)) ≤ (pK (topP PR)))))), .bool (decide (((topP PR).isSome = true) ∧ ((¬ ((topP PL).isSome = true)) ∨ ((pK (topP PR)) ≤ (pK (topP PL)))))), .bool (topP PL).isSome, .bool (topP PR).isSome] 301 :: cel b4 #[.int .u32 (pI (topP PR)), .int .i64 (pN (topP PR)), .int .i64 (pK (topP PR)), .int .i64 (pV (topP PR)), .bool (pS (topP PR))] 335 :: cel b3 #[.int .u32 (pI (topP PL)), .int .i64 (pN (topP PL)), .int .i64 (pK (topP PL)), .int .i64 (pV (topP PL)), .bool (pS (topP PL))] 335 :: Arn a A :: L) w := hS
                          refine WL.r 1 rfl ?_
                          refine WL.nil ?_
                          refine WC.if_ rfl (fun cd7 => ?_) (fun cd7 => ?_)
                          · refine WC.ret ?_
                            refine ⟨[], trivial, ?_⟩
                            replace hS := (hS.sel 7 [6, 0] rfl)
                            rw [decide_eq_true cd5, decide_eq_true cd6] at cd7 hS; rw [(hP.vLR cd5.1 (o1 cd5.1) cd6.1 (o2 cd6.1) (kEq cd5 cd6) rfl rfl rfl).2.2 (by simpa using cd7)] at hS; exact ⟨rfl, hS⟩
                          · refine WC.skip ?_
                            exact ⟨_, (by first | omega | exact (hP.vLR cd5.1 (o1 cd5.1) cd6.1 (o2 cd6.1) (kEq cd5 cd6) rfl rfl rfl).2.1 | exact (hP.vL (w := 0) cd5.1 (o1 cd5.1) (fun hb => ⟨o2 hb, kR cd6 hb⟩) rfl rfl).2.1 | exact (hP.vR (v := 0) cd6.1 (o2 cd6.1) (fun ha => ⟨o1 ha, kL cd5 ha⟩) rfl rfl).2.1 | exact (kNo cd5 cd6 o3).elim), PL.dropLast, PR.dropLast, _, rfl, (hS.sel 7 [1, 5, 1, 0] rfl), (by rw [decide_eq_true cd5, decide_eq_true cd6] at cd7 ⊢; exact (hP.vLR cd5.1 (o1 cd5.1) cd6.1 (o2 cd6.1) (kEq cd5 cd6) rfl rfl rfl).1 (by simpa using cd7)), rfl⟩
                      · refine WC.skip ?_
                        refine WC.seq ?_
                        refine WC.region ?_
                        refine WL.r 1 rfl ?_
                        refine WL.ldF rfl rfl 1 hS rfl rfl ag_301 ?_
                        refine WL.callV (bs := [.pointer (some ⟨vb, 0, none⟩)]) rfl rfl rfl (df_each2 (vb := vb) (ob := ob) (lo := lo) (hi := hi) (k := pK (topP PL)) (z := pV (topP PL)) (q := 0) (out := out) (il := decide (((topP PL).isSome = true) ∧ ((¬ ((topP PR).isSome = true)) ∨ ((pK (topP PL)) ≤ (pK (topP PR)))))) (ir := decide (((topP PR).isSome = true) ∧ ((¬ ((topP PL).isSome = true)) ∨ ((pK (topP PR)) ≤ (pK (topP PL)))))) (ml := (topP PL).isSome) (mr := (topP PR).isSome) (hl := (by omega)) (hS := (hS.sel 7 [6, 0, 0, 0, 0, 0, 0] rfl))) rfl ?_
                        clear hS; rintro _ w ⟨rfl, hS⟩
                        replace hS : St g (Dfs vb ob lo hi (out ++ oneR lo hi (pChg (pK (topP PL)) (pV (topP PL)) 0 (decide (((topP PL).isSome = true) ∧ ((¬ ((topP PR).isSome = true)) ∨ ((pK (topP PL)) ≤ (pK (topP PR)))))) (decide (((topP PR).isSome = true) ∧ ((¬ ((topP PL).isSome = true)) ∨ ((pK (topP PR)) ≤ (pK (topP PL)))))))) :: Sid b1 PL.dropLast :: cel b5 #[.int .i64 (pK (topP PL)), .int .i64 (pV (topP PL)), .int .i64 0, .bool (decide (((topP PL).isSome = true) ∧ ((¬ ((topP PR).isSome = true)) ∨ ((pK (topP PL)) ≤ (pK (topP PR)))))), .bool (decide (((topP PR).isSome = true) ∧ ((¬ ((topP PL).isSome = true)) ∨ ((pK (topP PR)) ≤ (pK (topP PL)))))), .bool (topP PL).isSome, .bool (topP PR).isSome] 301 :: cel b4 #[.int .u32 (pI (topP PR)), .int .i64 (pN (topP PR)), .int .i64 (pK (topP PR)), .int .i64 (pV (topP PR)), .bool (pS (topP PR))] 335 :: Sid b2 PR :: cel b3 #[.int .u32 (pI (topP PL)), .int .i64 (pN (topP PL)), .int .i64 (pK (topP PL)), .int .i64 (pV (topP PL)), .bool (pS (topP PL))] 335 :: Arn a A :: L) w := hS
                        refine WL.r 1 rfl ?_
                        refine WL.nil ?_
                        refine WC.if_ rfl (fun cd7 => ?_) (fun cd7 => ?_)
                        · refine WC.ret ?_
                          refine ⟨[], trivial, ?_⟩
                          replace hS := (hS.sel 7 [6, 0] rfl)
                          rw [decide_eq_true cd5, decide_eq_false cd6] at cd7 hS; rw [(hP.vL (w := 0) cd5.1 (o1 cd5.1) (fun hb => ⟨o2 hb, kR cd6 hb⟩) rfl rfl).2.2 (by simpa using cd7)] at hS; exact ⟨rfl, hS⟩
                        · refine WC.skip ?_
                          exact ⟨_, (by first | omega | exact (hP.vLR cd5.1 (o1 cd5.1) cd6.1 (o2 cd6.1) (kEq cd5 cd6) rfl rfl rfl).2.1 | exact (hP.vL (w := 0) cd5.1 (o1 cd5.1) (fun hb => ⟨o2 hb, kR cd6 hb⟩) rfl rfl).2.1 | exact (hP.vR (v := 0) cd6.1 (o2 cd6.1) (fun ha => ⟨o1 ha, kL cd5 ha⟩) rfl rfl).2.1 | exact (kNo cd5 cd6 o3).elim), PL.dropLast, PR, _, rfl, (hS.sel 7 [4, 5, 1, 0] rfl), (by rw [decide_eq_true cd5, decide_eq_false cd6] at cd7 ⊢; exact (hP.vL (w := 0) cd5.1 (o1 cd5.1) (fun hb => ⟨o2 hb, kR cd6 hb⟩) rfl rfl).1 (by simpa using cd7)), rfl⟩
                  · refine WC.skip ?_
                    refine WC.seq ?_
                    refine WC.seq ?_
                    refine WC.region ?_
                    refine WL.run 2 [.bool (decide (((topP PR).isSome = true) ∧ ((¬ ((topP PL).isSome = true)) ∨ ((pK (topP PR)) ≤ (pK (topP PL))))))] rfl (by exact hS.ld 0 rfl rfl) ?_
                    refine WL.nil ?_
                    refine WC.ifP rfl (fun cd6 => ?_) (fun cd6 => ?_)
                    · refine WC.seq ?_
                      refine WC.plan [([0, 3, 1, 4, 2, 5, 6], some (7, [3, 4, 5])), ([8], some (9, []))] (by kernel_rfl) (by kernel_rfl) ?_
                      refine WQ.run 7 [.int .i64 (pK (topP PR)), .int .i64 (pV (topP PR))] rfl (by exact ⟨hS.ld 1 rfl rfl, hS.ld 1 rfl rfl⟩) ?_
                      refine WQ.nil ?_
                      intro m1
                      replace hS := hS.drewN m1; generalize hwm1 : World.drewN _ _ = w at *; clear hwm1
                      refine WL.st rfl rfl rfl 0 hS rfl rfl rfl rfl rfl rfl (fun w hS => ?_)
                      replace hS : St g (cel b5 #[.int .i64 (pK (topP PR)), .int .i64 0, .int .i64 0, .bool (decide (((topP PL).isSome = true) ∧ ((¬ ((topP PR).isSome = true)) ∨ ((pK (topP PL)) ≤ (pK (topP PR)))))), .bool (decide (((topP PR).isSome = true) ∧ ((¬ ((topP PL).isSome = true)) ∨ ((pK (topP PR)) ≤ (pK (topP PL)))))), .bool (topP PL).isSome, .bool (topP PR).isSome] 301 :: cel b4 #[.int .u32 (pI (topP PR)), .int .i64 (pN (topP PR)), .int .i64 (pK (topP PR)), .int .i64 (pV (topP PR)), .bool (pS (topP PR))] 335 :: Sid b2 PR :: cel b3 #[.int .u32 (pI (topP PL)), .int .i64 (pN (topP PL)), .int .i64 (pK (topP PL)), .int .i64 (pV (topP PL)), .bool (pS (topP PL))] 335 :: Sid b1 PL :: Arn a A :: Dfs vb ob lo hi out :: L) w := hS
                      refine WL.nil ?_
                      refine ⟨by exact ⟨RQ.pure rfl rfl rfl rfl, RQ.pure rfl rfl rfl rfl, RQ.load rfl rfl rfl rfl (hS.ld 1 rfl rfl)⟩, ?_⟩
                      refine WQ.r 1 rfl ?_
                      refine WQ.nil ?_
                      intro m2
                      replace hS := hS.drewN m2; generalize hwm2 : World.drewN _ _ = w at *; clear hwm2
                      refine WL.st rfl rfl rfl 0 hS rfl rfl rfl rfl rfl rfl (fun w hS => ?_)
                      replace hS : St g (cel b5 #[.int .i64 (pK (topP PR)), .int .i64 0, .int .i64 (pV (topP PR)), .bool (decide (((topP PL).isSome = true) ∧ ((¬ ((topP PR).isSome = true)) ∨ ((pK (topP PL)) ≤ (pK (topP PR)))))), .bool (decide (((topP PR).isSome = true) ∧ ((¬ ((topP PL).isSome = true)) ∨ ((pK (topP PR)) ≤ (pK (topP PL)))))), .bool (topP PL).isSome, .bool (topP PR).isSome] 301 :: cel b4 #[.int .u32 (pI (topP PR)), .int .i64 (pN (topP PR)), .int .i64 (pK (topP PR)), .int .i64 (pV (topP PR)), .bool (pS (topP PR))] 335 :: Sid b2 PR :: cel b3 #[.int .u32 (pI (topP PL)), .int .i64 (pN (topP PL)), .int .i64 (pK (topP PL)), .int .i64 (pV (topP PL)), .bool (pS (topP PL))] 335 :: Sid b1 PL :: Arn a A :: Dfs vb ob lo hi out :: L) w := hS
                      refine WL.nil ?_
                      refine ⟨by exact trivial, ?_⟩
                      intro m3
                      replace hS := hS.drewN m3; generalize hwm3 : World.drewN _ _ = w at *; clear hwm3
                      as_aux_lemma =>
                        refine WC.region ?_
                        refine WL.call rfl rfl (sd_pop (s := b2) (P := PR) (hl := (by omega)) (hne := top_ne cd6.1) (hS := (hS.sel 3 [2, 0, 0] rfl))) rfl ?_
                        clear hS; rintro _ w ⟨rfl, hS⟩
                        replace hS : St g (Sid b2 PR.dropLast :: cel b5 #[.int .i64 (pK (topP PR)), .int .i64 0, .int .i64 (pV (topP PR)), .bool (decide (((topP PL).isSome = true) ∧ ((¬ ((topP PR).isSome = true)) ∨ ((pK (topP PL)) ≤ (pK (topP PR)))))), .bool (decide (((topP PR).isSome = true) ∧ ((¬ ((topP PL).isSome = true)) ∨ ((pK (topP PR)) ≤ (pK (topP PL)))))), .bool (topP PL).isSome, .bool (topP PR).isSome] 301 :: cel b4 #[.int .u32 (pI (topP PR)), .int .i64 (pN (topP PR)), .int .i64 (pK (topP PR)), .int .i64 (pV (topP PR)), .bool (pS (topP PR))] 335 :: cel b3 #[.int .u32 (pI (topP PL)), .int .i64 (pN (topP PL)), .int .i64 (pK (topP PL)), .int .i64 (pV (topP PL)), .bool (pS (topP PL))] 335 :: Sid b1 PL :: Arn a A :: Dfs vb ob lo hi out :: L) w := hS
                        refine WL.nil ?_
                        refine WC.seq ?_
                        refine WC.region ?_
                        refine WL.r 1 rfl ?_
                        refine WL.ldF rfl rfl 1 hS rfl rfl ag_301 ?_
                        refine WL.callV (bs := [.pointer (some ⟨vb, 0, none⟩)]) rfl rfl rfl (df_each2 (vb := vb) (ob := ob) (lo := lo) (hi := hi) (k := pK (topP PR)) (z := 0) (q := pV (topP PR)) (out := out) (il := decide (((topP PL).isSome = true) ∧ ((¬ ((topP PR).isSome = true)) ∨ ((pK (topP PL)) ≤ (pK (topP PR)))))) (ir := decide (((topP PR).isSome = true) ∧ ((¬ ((topP PL).isSome = true)) ∨ ((pK (topP PR)) ≤ (pK (topP PL)))))) (ml := (topP PL).isSome) (mr := (topP PR).isSome) (hl := (by omega)) (hS := (hS.sel 7 [6, 0, 0, 0, 0, 0, 0] rfl))) rfl ?_
                        clear hS; rintro _ w ⟨rfl, hS⟩
                        replace hS : St g (Dfs vb ob lo hi (out ++ oneR lo hi (pChg (pK (topP PR)) 0 (pV (topP PR)) (decide (((topP PL).isSome = true) ∧ ((¬ ((topP PR).isSome = true)) ∨ ((pK (topP PL)) ≤ (pK (topP PR)))))) (decide (((topP PR).isSome = true) ∧ ((¬ ((topP PL).isSome = true)) ∨ ((pK (topP PR)) ≤ (pK (topP PL)))))))) :: Sid b2 PR.dropLast :: cel b5 #[.int .i64 (pK (topP PR)), .int .i64 0, .int .i64 (pV (topP PR)), .bool (decide (((topP PL).isSome = true) ∧ ((¬ ((topP PR).isSome = true)) ∨ ((pK (topP PL)) ≤ (pK (topP PR)))))), .bool (decide (((topP PR).isSome = true) ∧ ((¬ ((topP PL).isSome = true)) ∨ ((pK (topP PR)) ≤ (pK (topP PL)))))), .bool (topP PL).isSome, .bool (topP PR).isSome] 301 :: cel b4 #[.int .u32 (pI (topP PR)), .int .i64 (pN (topP PR)), .int .i64 (pK (topP PR)), .int .i64 (pV (topP PR)), .bool (pS (topP PR))] 335 :: cel b3 #[.int .u32 (pI (topP PL)), .int .i64 (pN (topP PL)), .int .i64 (pK (topP PL)), .int .i64 (pV (topP PL)), .bool (pS (topP PL))] 335 :: Sid b1 PL :: Arn a A :: L) w := hS
                        refine WL.r 1 rfl ?_
                        refine WL.nil ?_
                        refine WC.if_ rfl (fun cd7 => ?_) (fun cd7 => ?_)
                        · refine WC.ret ?_
                          refine ⟨[], trivial, ?_⟩
                          replace hS := (hS.sel 7 [6, 0] rfl)
                          rw [decide_eq_false cd5, decide_eq_true cd6] at cd7 hS; rw [(hP.vR (v := 0) cd6.1 (o2 cd6.1) (fun ha => ⟨o1 ha, kL cd5 ha⟩) rfl rfl).2.2 (by simpa using cd7)] at hS; exact ⟨rfl, hS⟩
                        · refine WC.skip ?_
                          exact ⟨_, (by first | omega | exact (hP.vLR cd5.1 (o1 cd5.1) cd6.1 (o2 cd6.1) (kEq cd5 cd6) rfl rfl rfl).2.1 | exact (hP.vL (w := 0) cd5.1 (o1 cd5.1) (fun hb => ⟨o2 hb, kR cd6 hb⟩) rfl rfl).2.1 | exact (hP.vR (v := 0) cd6.1 (o2 cd6.1) (fun ha => ⟨o1 ha, kL cd5 ha⟩) rfl rfl).2.1 | exact (kNo cd5 cd6 o3).elim), PL, PR.dropLast, _, rfl, (hS.sel 7 [1, 5, 4, 0] rfl), (by rw [decide_eq_false cd5, decide_eq_true cd6] at cd7 ⊢; exact (hP.vR (v := 0) cd6.1 (o2 cd6.1) (fun ha => ⟨o1 ha, kL cd5 ha⟩) rfl rfl).1 (by simpa using cd7)), rfl⟩
                    · refine WC.skip ?_
                      refine WC.seq ?_
                      refine WC.region ?_
                      refine WL.r 1 rfl ?_
                      refine WL.ldF rfl rfl 0 hS rfl rfl ag_301 ?_
                      refine WL.callV (bs := [.pointer (some ⟨vb, 0, none⟩)]) rfl rfl rfl (df_each2 (vb := vb) (ob := ob) (lo := lo) (hi := hi) (k := 0) (z := 0) (q := 0) (out := out) (il := decide (((topP PL).isSome = true) ∧ ((¬ ((topP PR).isSome = true)) ∨ ((pK (topP PL)) ≤ (pK (topP PR)))))) (ir := decide (((topP PR).isSome = true) ∧ ((¬ ((topP PL).isSome = true)) ∨ ((pK (topP PR)) ≤ (pK (topP PL)))))) (ml := (topP PL).isSome) (mr := (topP PR).isSome) (hl := (by omega)) (hS := (hS.sel 7 [6, 0, 0, 0, 0, 0, 0] rfl))) rfl ?_
                      clear hS; rintro _ w ⟨rfl, hS⟩
                      replace hS : St g (Dfs vb ob lo hi (out ++ oneR lo hi (pChg 0 0 0 (decide (((topP PL).isSome = true) ∧ ((¬ ((topP PR).isSome = true)) ∨ ((pK (topP PL)) ≤ (pK (topP PR)))))) (decide (((topP PR).isSome = true) ∧ ((¬ ((topP PL).isSome = true)) ∨ ((pK (topP PR)) ≤ (pK (topP PL)))))))) :: cel b5 #[.int .i64 0, .int .i64 0, .int .i64 0, .bool (decide (((topP PL).isSome = true) ∧ ((¬ ((topP PR).isSome = true)) ∨ ((pK (topP PL)) ≤ (pK (topP PR)))))), .bool (decide (((topP PR).isSome = true) ∧ ((¬ ((topP PL).isSome = true)) ∨ ((pK (topP PR)) ≤ (pK (topP PL)))))), .bool (topP PL).isSome, .bool (topP PR).isSome] 301 :: cel b4 #[.int .u32 (pI (topP PR)), .int .i64 (pN (topP PR)), .int .i64 (pK (topP PR)), .int .i64 (pV (topP PR)), .bool (pS (topP PR))] 335 :: Sid b2 PR :: cel b3 #[.int .u32 (pI (topP PL)), .int .i64 (pN (topP PL)), .int .i64 (pK (topP PL)), .int .i64 (pV (topP PL)), .bool (pS (topP PL))] 335 :: Sid b1 PL :: Arn a A :: L) w := hS
                      refine WL.r 1 rfl ?_
                      refine WL.nil ?_
                      refine WC.if_ rfl (fun cd7 => ?_) (fun cd7 => ?_)
                      · refine WC.ret ?_
                        refine ⟨[], trivial, ?_⟩
                        replace hS := (hS.sel 7 [6, 0] rfl)
                        exact (kNo cd5 cd6 o3).elim
                      · refine WC.skip ?_
                        exact ⟨_, (by first | omega | exact (hP.vLR cd5.1 (o1 cd5.1) cd6.1 (o2 cd6.1) (kEq cd5 cd6) rfl rfl rfl).2.1 | exact (hP.vL (w := 0) cd5.1 (o1 cd5.1) (fun hb => ⟨o2 hb, kR cd6 hb⟩) rfl rfl).2.1 | exact (hP.vR (v := 0) cd6.1 (o2 cd6.1) (fun ha => ⟨o1 ha, kL cd5 ha⟩) rfl rfl).2.1 | exact (kNo cd5 cd6 o3).elim), PL, PR, _, rfl, (hS.sel 7 [3, 5, 4, 0] rfl), (kNo cd5 cd6 o3).elim, rfl⟩
end Go.Proofs.YtlnlnebibgdjdaaGreat
/-! ## P3 -/
namespace Go.Proofs.YtlnlnebibgdjdaaGreat
open Go Go.V
theorem dif_self (l : Kvs) : dif l l = [] := by
  have h := dif_common [] [] l
  rw [List.append_nil, dif] at h
  exact h
set_option maxRecDepth 8192 in
theorem df_each {g w : World} {L : List HP} (a : Nat) (A : AM) (R : List Int) (x y lo hi : Int) (lb hb ob : Nat) (tx ty : Tr) (hA : ARf A R) (hx : Is A tx x) (hy : Is A ty y) (hsx : Srt tx.ls) (hsy : Srt ty.ls) (hl : tx.n + ty.n ≤ 100000000) (hS : St g (Arn a A :: cel lb #[.int .i64 lo] 2 :: cel hb #[.int .i64 hi] 2 :: cel ob #[.slice none 0 0] 179 :: L) w) :
    Sp Tryz.prog 162 [.pointer (some ⟨a, 0, none⟩), .int .u32 x, .int .u32 y, .func (.func 163) #[] #[.pointer (some ⟨lb, 0, none⟩), .pointer (some ⟨hb, 0, none⟩), .pointer (some ⟨ob, 0, none⟩)]] w (fun v w' => ∃ (vb : Nat), v = .tuple #[] ∧ St g (Arn a A :: Dfs vb ob lo hi (inR lo hi (dif tx.ls ty.ls)) :: L) w') := by
  refine Sp.enter Tryz.func162 rfl (by kernel_rfl) (by kernel_rfl) ?_
  refine WC.seq ?_
  refine WC.region ?_
  replace hS : St g (Own 82 4 (ch4 []) none 0 :: Arn a A :: cel lb #[.int .i64 lo] 2 :: cel hb #[.int .i64 hi] 2 :: cel ob #[.slice none 0 0] 179 :: L) w := hS.nil_ 82 4
  refine WL.box rfl rfl #[.func (.func 163) #[] #[.pointer (some ⟨lb, 0, none⟩), .pointer (some ⟨hb, 0, none⟩), .pointer (some ⟨ob, 0, none⟩)]] hS rfl rfl (fun b1 w hS => ?_)
  refine WL.nil ?_
  refine WC.seq ?_
  refine WC.seq ?_
  refine WC.region ?_
  replace hS := St.exClose (f := dfsF b1 ob lo hi []) (L := Arn a A :: L) ⟨lb, hb, none, 0⟩ ((hS.sel 6 [0, 2, 2, 2, 0, 0] rfl))
  replace hS : St g (Dfs b1 ob lo hi [] :: Arn a A :: L) w := hS
  refine WL.r 3 rfl ?_
  refine WL.nil ?_
  refine WC.ifP rfl (fun he => ?_) (fun he => ?_)
  · refine WC.ret ?_
    refine ⟨[], trivial, ?_⟩
    replace hS := (hS.sel 2 [1, 0] rfl)
    subst he; have e9 := Is.fn hx hy; subst e9; rw [dif_self]; exact ⟨_, rfl, hS⟩
  · refine WC.skip ?_
    refine WC.seq ?_
    refine WC.region ?_
    refine WL.r 1 rfl ?_
    refine WL.nil ?_
    refine WC.region ?_
    refine WL.r 4 rfl ?_
    refine WL.mkF rfl rfl (vs := [.pointer (some ⟨b1, 0, none⟩)]) rfl ?_
    refine WL.call rfl rfl (tw_pairs (a := a) (A := A) (R := R) (x := x) (y := y) (lo := lo) (hi := hi) (vb := b1) (ob := ob) (tx := tx) (ty := ty) (hA := hA) (hx := hx) (hy := hy) (hsx := hsx) (hsy := hsy) (hl := hl) (hS := (hS.sel 2 [1, 0] rfl))) rfl ?_
    clear hS; rintro _ w ⟨rfl, hS⟩
    replace hS : St g (Arn a A :: Dfs b1 ob lo hi (inR lo hi (dif tx.ls ty.ls)) :: L) w := hS
    refine WL.nil ?_
    refine ⟨[], trivial, ?_⟩
    exact ⟨_, rfl, hS⟩
set_option maxRecDepth 8192 in
theorem df_range {g w : World} {L : List HP} (a : Nat) (A : AM) (R : List Int) (x y lo hi : Int) (tx ty : Tr) (hA : ARf A R) (hx : Is A tx x) (hy : Is A ty y) (hsx : Srt tx.ls) (hsy : Srt ty.ls) (hl : tx.n + ty.n ≤ 100000000) (hS : St g (Arn a A :: L) w) :
    Sp Tryz.prog 95 [.pointer (some ⟨a, 0, none⟩), .int .u32 x, .int .u32 y, .int .i64 lo, .int .i64 hi] w (fun v w' => ∃ (a2 : Option Addr) (c2 : Nat), v = .slice a2 (List.length (ch4 (inR lo hi (dif tx.ls ty.ls)))) c2 ∧ St g (Own 82 4 (ch4 (inR lo hi (dif tx.ls ty.ls))) a2 c2 :: Arn a A :: L) w') := by
  refine Sp.enter Tryz.func95 rfl (by kernel_rfl) (by kernel_rfl) ?_
  refine WC.seq ?_
  refine WC.region ?_
  refine WL.box rfl rfl #[.int .i64 lo] hS rfl rfl (fun b1 w hS => ?_)
  refine WL.box rfl rfl #[.int .i64 hi] hS rfl rfl (fun b2 w hS => ?_)
  refine WL.r 1 rfl ?_
  refine WL.nil ?_
  refine WC.seq ?_
  refine WC.region ?_
  refine WL.new rfl rfl zv_179 hS (fun b3 w hS => ?_)
  refine WL.nil ?_
  refine WC.seq ?_
  refine WC.region ?_
  refine WL.r 3 rfl ?_
  refine WL.mkF rfl rfl (vs := [.pointer (some ⟨b1, 0, none⟩), .pointer (some ⟨b2, 0, none⟩), .pointer (some ⟨b3, 0, none⟩)]) rfl ?_
  refine WL.call rfl rfl (df_each (a := a) (A := A) (R := R) (x := x) (y := y) (lo := lo) (hi := hi) (lb := b1) (hb := b2) (ob := b3) (tx := tx) (ty := ty) (hA := hA) (hx := hx) (hy := hy) (hsx := hsx) (hsy := hsy) (hl := hl) (hS := (hS.sel 4 [3, 2, 1, 0] rfl))) rfl ?_
  clear hS; rintro _ w ⟨vb1, rfl, hS⟩
  replace hS : St g (Arn a A :: Dfs vb1 b3 lo hi (inR lo hi (dif tx.ls ty.ls)) :: L) w := hS
  refine WL.nil ?_
  refine WC.seq ?_
  refine WC.region ?_
  obtain ⟨⟨xl, xh, xu, xc⟩, hS⟩ := St.exOpen (f := dfsF vb1 b3 lo hi (inR lo hi (dif tx.ls ty.ls))) (hS.at_ 1 rfl)
  replace hS : St g (cel vb1 #[.func (.func 163) #[] #[.pointer (some ⟨xl, 0, none⟩), .pointer (some ⟨xh, 0, none⟩), .pointer (some ⟨b3, 0, none⟩)]] 258 :: cel xl #[.int .i64 lo] 2 :: cel xh #[.int .i64 hi] 2 :: cel b3 #[.slice xu (List.length (ch4 (inR lo hi (dif tx.ls ty.ls)))) xc] 179 :: Own 82 4 (ch4 (inR lo hi (dif tx.ls ty.ls))) xu xc :: Arn a A :: L) w := hS
  refine WL.run 2 [.slice xu (List.length (ch4 (inR lo hi (dif tx.ls ty.ls)))) xc] rfl (by exact hS.ld 3 rfl rfl) ?_
  refine WL.nil ?_
  as_aux_lemma =>
    refine WC.ret ?_
    refine ⟨[.slice xu (List.length (ch4 (inR lo hi (dif tx.ls ty.ls)))) xc], rfl, ?_⟩
    replace hS := (hS.sel 4 [] rfl)
    exact ⟨_, _, rfl, hS⟩
end Go.Proofs.YtlnlnebibgdjdaaGreat
/-! ## H3 -/
namespace Go.Proofs.YtlnlnebibgdjdaaGreat
open Go Go.V Go.RowKit
theorem rsB_next {rs : List Int} {k : Nat} {r : Int} (h : rs[k]? = some r) : rsB rs (k + 1) = r := by
  unfold rsB; rw [if_neg (by omega), List.getD_eq_getElem?_getD]
  show (rs[k]?).getD 0 = r
  rw [h]; rfl
theorem tn_of {t : Tr} {l : Kvs} (h : t.ls = l) (hl : l.length ≤ 100) : t.n ≤ 100 := by rw [← Tr.ls_len, h]; exact hl
set_option maxRecDepth 8192 in
theorem hi_events {g w : World} {L : List HP} (a : Nat) (A : AM) (R : List Int) (Ls : List Kvs) (rs : List Int) (u : Option Addr) (d : Nat) (lo hi : Int) (hA : ARf A R) (hT : RTs A Ls rs) (hL : LOk Ls) (hn : rs.length ≤ 100) (hS : St g (Arn a A :: Sh 64 1 (u32s rs) u d :: L) w) :
    Sp Tryz.prog 29 [.pointer (some ⟨a, 0, none⟩), .slice u (List.length (u32s rs)) d, .int .i64 lo, .int .i64 hi] w (fun v w' => ∃ (a2 : Option Addr) (c2 : Nat), v = .slice a2 (List.length (ev5 (hev lo hi Ls (List.length rs)))) c2 ∧ St g (Own 84 5 (ev5 (hev lo hi Ls (List.length rs))) a2 c2 :: Arn a A :: Sh 64 1 (u32s rs) u d :: L) w') := by
  refine Sp.enter Tryz.func29 rfl (by kernel_rfl) (by kernel_rfl) ?_
  have _ := hn
  refine WC.seq ?_
  refine WC.region ?_
  have hul := u32s_len rs
  refine WL.r 1 rfl ?_
  refine WL.nil ?_
  refine WC.seq ?_
  refine WC.region ?_
  refine WL.r 1 rfl ?_
  refine WL.nil ?_
  refine WC.seq ?_
  refine WC.region ?_
  refine WL.r 1 rfl ?_
  refine WL.nil ?_
  refine WC.seq ?_
  refine WC.seq ?_
  refine WC.region ?_
  refine WL.r 3 rfl ?_
  refine WL.nil ?_
  refine WC.block ?_
  replace hS := hS.nil_ 84 5
  refine WC.loop [0, 2, 3, 8, 9, 10, 15, 16, 17] (fun kM vs w => ∃ (k : Nat) (out : List Ev) (ua : Option Addr) (uc : Nat), vs = [.pointer (some ⟨a, 0, none⟩), .int .i64 lo, .int .i64 hi, .slice none 0 0, .slice ua (List.length (ev5 out)) uc, .int .u32 (rsB rs k), .slice u (List.length (u32s rs)) d, .int .i64 (List.length (u32s rs) : Int), .int .i64 (k : Int)] ∧ St g (Own 84 5 (ev5 out) ua uc :: Arn a A :: Sh 64 1 (u32s rs) u d :: L) w ∧ (k ≤ rs.length) ∧ (out = hev lo hi Ls k) ∧ (rs.length - k) = kM) ((List.length rs) - 0) ⟨0, [], none, 0, rfl, hS, (Nat.zero_le _), (rfl), rfl⟩ ?_
  clear hS; rintro _ _ w j ⟨k, out, ua, uc, rfl, hS, hk, ho, rfl⟩
  refine WC.seq ?_
  refine WC.region ?_
  refine WL.r 1 rfl ?_
  refine WL.nil ?_
  as_aux_lemma =>
    refine WC.seq ?_
    refine WC.ifP rfl (fun cd1 => ?_) (fun cd1 => ?_)
    · refine WC.skip ?_
      refine WC.seq ?_
      refine WC.block ?_
      refine WC.seq ?_
      refine WC.region ?_
      refine WL.r 1 rfl ?_
      obtain ⟨r, hr⟩ : ∃ r, rs[k]? = some r := ⟨_, List.getElem?_eq_getElem (by omega)⟩; obtain ⟨tx, hx1, _, hx3⟩ := hT.bef hk; obtain ⟨ty, hy1, _, hy3⟩ := hT.get k r hr; have ha := hL.a k; have hb := hL.b k; have htx := tn_of hx3 hb.2.1; have hty := tn_of hy3 ha.2.1; have hel := hev_len (lo := lo) (hi := hi) hL k; rw [← ho] at hel; have hdl := dA_len (lo := lo) (hi := hi) hL k; have hde : inR lo hi (dif tx.ls ty.ls) = dA lo hi Ls k := (by unfold dA; rw [hx3, hy3]); have hil : (inR lo hi (dif tx.ls ty.ls)).length ≤ 200 := (by rw [hde]; exact hdl); have hcl := ch4_len (inR lo hi (dif tx.ls ty.ls))
      refine WL.ix rfl rfl (i := (k : Int)) (k) el_32 rfl rfl (by omega) (by omega) (hS.rdS 2 rfl (u32s_at hr)).1 ?_
      refine WL.run 3 [.int .u32 r] rfl (by exact (hS.rdS 2 rfl (u32s_at hr)).2 0 _ rfl) ?_
      refine WL.nil ?_
      refine WC.seq ?_
      refine WC.seq ?_
      refine WC.region ?_
      refine WL.r 5 rfl ?_
      refine WL.call rfl rfl (df_range (a := a) (A := A) (R := R) (x := rsB rs k) (y := r) (lo := lo) (hi := hi) (tx := tx) (ty := ty) (hA := hA) (hx := hx1) (hy := hy1) (hsx := (by rw [hx3]; exact hb.1)) (hsy := (by rw [hy3]; exact ha.1)) (hl := (by omega)) (hS := (hS.sel 2 [1, 0] rfl))) rfl ?_
      clear hS; rintro _ w ⟨a1, c1, rfl, hS⟩
      replace hS : St g (Own 82 4 (ch4 (inR lo hi (dif tx.ls ty.ls))) a1 c1 :: Arn a A :: Own 84 5 (ev5 out) ua uc :: Sh 64 1 (u32s rs) u d :: L) w := hS
      refine WL.r 2 rfl ?_
      refine WL.nil ?_
      refine WC.block ?_
      refine WC.loop [0, 2, 3, 8, 9, 10, 11, 12, 15, 16, 17, 18, 19, 20, 21, 22, 23, 24, 25, 26, 27, 28, 29] (fun kM vs w => ∃ (m : Nat) (acc : List Ev) (ub : Option Addr) (ud : Nat), vs = [.pointer (some ⟨a, 0, none⟩), .int .i64 lo, .int .i64 hi, .slice none 0 0, .slice ub (List.length (ev5 acc)) ud, .int .u32 (rsB rs k), .int .i64 (k : Int), .int .u32 r, .slice u (List.length (u32s rs)) d, .int .i64 (List.length (u32s rs) : Int), .int .i64 (k : Int), .bool (decide ((k : Int) < (List.length (u32s rs) : Int))), .int .i64 (k : Int), .pointer (some ⟨bo u, (oo u) + (k * 1), none⟩), .int .u32 r, .pointer (some ⟨a, 0, none⟩), .int .u32 (rsB rs k), .int .u32 r, .int .i64 lo, .int .i64 hi, .slice a1 (List.length (ch4 (inR lo hi (dif tx.ls ty.ls)))) c1, .int .i64 (List.length (ch4 (inR lo hi (dif tx.ls ty.ls))) : Int), .int .i64 (m : Int)] ∧ St g (Own 82 4 (ch4 (inR lo hi (dif tx.ls ty.ls))) a1 c1 :: Arn a A :: Own 84 5 (ev5 acc) ub ud :: Sh 64 1 (u32s rs) u d :: L) w ∧ (m ≤ (inR lo hi (dif tx.ls ty.ls)).length) ∧ (acc = hev lo hi Ls k ++ evA k ((inR lo hi (dif tx.ls ty.ls)).take m)) ∧ ((inR lo hi (dif tx.ls ty.ls)).length - m) = kM) ((List.length (inR lo hi (dif tx.ls ty.ls))) - 0) ⟨0, out, ua, uc, rfl, hS, (Nat.zero_le _), (by rw [ho]; simp [evA]), rfl⟩ ?_
      clear hS; rintro _ _ w j ⟨m, acc, ub, ud, rfl, hS, hm, hc, rfl⟩
      refine WC.seq ?_
      refine WC.region ?_
      refine WL.r 1 rfl ?_
      refine WL.nil ?_
      as_aux_lemma =>
        refine WC.seq ?_
        refine WC.ifP rfl (fun cd2 => ?_) (fun cd2 => ?_)
        · refine WC.skip ?_
          refine WC.seq ?_
          refine WC.block ?_
          refine WC.seq ?_
          refine WC.region ?_
          obtain ⟨e, he⟩ : ∃ e, (inR lo hi (dif tx.ls ty.ls))[m]? = some e := ⟨_, List.getElem?_eq_getElem (by omega)⟩; have hacl : acc.length ≤ 40000 := (by rw [hc, List.length_append, evA_len, ← ho]; have := List.length_take_le m (inR lo hi (dif tx.ls ty.ls)); rw [hde] at this hm ⊢; omega); have hael := ev5_len acc
          refine WL.ix rfl rfl (i := (m : Int)) (m) el_179 rfl rfl (by omega) (by omega) (hS.rdO 0 rfl (ch4_at he)).1 ?_
          refine WL.ldC rfl rfl [.int .i64 e.1, .int .i64 e.2.1, .int .i64 e.2.2.1, .int .i64 e.2.2.2] ag_82 rfl (hS.rdO 0 rfl (ch4_at he)).2 ?_
          refine WL.new rfl rfl zv_82 hS (fun b1 w hS => ?_)
          refine WL.stF rfl rfl rfl 0 hS rfl rfl rfl rfl rfl ag_82 (fun w hS => ?_)
          replace hS : St g (cel b1 #[.int .i64 e.1, .int .i64 e.2.1, .int .i64 e.2.2.1, .int .i64 e.2.2.2] 82 :: Own 82 4 (ch4 (inR lo hi (dif tx.ls ty.ls))) a1 c1 :: Arn a A :: Own 84 5 (ev5 acc) ub ud :: Sh 64 1 (u32s rs) u d :: L) w := hS
          refine WL.nil ?_
          refine WC.region ?_
          refine WL.r 2 rfl ?_
          refine WL.ldF rfl rfl 0 hS rfl rfl ag_82 ?_
          refine WL.build rfl rfl (cs := [.int .i64 (k : Int), .int .i64 e.1, .int .i64 e.2.1, .int .i64 e.2.2.1, .int .i64 e.2.2.2]) zv_84 rfl rfl ?_
          refine WL.lit rfl rfl (ev5 [((k : Int), e.1, e.2.1, e.2.2.1, e.2.2.2)]) el_85 hS (by exact ⟨rfl, rfl⟩) (ev5_ok _) rfl (by decide) (fun b2 w hS => ?_)
          refine WL.app rfl rfl 4 (ev5 (acc ++ [((k : Int), e.1, e.2.1, e.2.2.1, e.2.2.2)])) el_85 hS rfl (hS.srcO 0 rfl) (ev5_app _ _).symm (Rm.of (by first | omega | (simp <;> omega)) (by decide)) rfl rfl (fun a2 c2 w hS => ?_)
          replace hS : St g (Own 84 5 (ev5 [((k : Int), e.1, e.2.1, e.2.2.1, e.2.2.2)]) (some ⟨b2, 0, none⟩) (List.length (ev5 [((k : Int), e.1, e.2.1, e.2.2.1, e.2.2.2)])) :: cel b1 #[.int .i64 e.1, .int .i64 e.2.1, .int .i64 e.2.2.1, .int .i64 e.2.2.2] 82 :: Own 82 4 (ch4 (inR lo hi (dif tx.ls ty.ls))) a1 c1 :: Arn a A :: Own 84 5 (ev5 (acc ++ [((k : Int), e.1, e.2.1, e.2.2.1, e.2.2.2)])) a2 c2 :: Sh 64 1 (u32s rs) u d :: L) w := hS
          refine WL.r 1 rfl ?_
          refine WL.nil ?_
          refine WC.region ?_
          refine WL.r 1 rfl ?_
          refine WL.nw 39 rfl (w64 (by omega)) ?_
          refine WL.r 1 rfl ?_
          refine WL.nil ?_
          exact ⟨_, by omega, m + 1, acc ++ [((k : Int), e.1, e.2.1, e.2.2.1, e.2.2.2)], a2, c2, rfl, (hS.sel 2 [] rfl), (by omega), (by rw [evA_snoc he, ← List.append_assoc, ← hc]), rfl⟩
        · refine WC.exit ?_
          refine WC.region ?_
          refine WL.reb 12 (.int .u32 (rsB rs (k + 1))) (congrArg (Value.int .u32) (rsB_next hr).symm) ?_
          refine WL.r 2 rfl ?_
          refine WL.nil ?_
          refine WC.region ?_
          refine WL.r 1 rfl ?_
          refine WL.nw 41 rfl (w64 (by omega)) ?_
          refine WL.r 1 rfl ?_
          refine WL.nil ?_
          exact ⟨_, by omega, k + 1, acc, ub, ud, rfl, (hS.sel 3 [2, 1] rfl), (by omega), (by rw [hc, List.take_of_length_le (by omega), hde, hev_succ]), rfl⟩
    · refine WC.exit ?_
      refine WC.seq ?_
      refine WC.region ?_
      refine WL.r 2 rfl ?_
      refine WL.nil ?_
      refine WC.ret ?_
      refine ⟨[.slice ua (List.length (ev5 out)) uc], rfl, ?_⟩
      have hk9 : k = rs.length := (by omega); subst hk9; subst ho; exact ⟨_, _, rfl, hS⟩
end Go.Proofs.YtlnlnebibgdjdaaGreat
/-! ## Mp -/
namespace Go.V
open Go Go.RowKit Go.Maps
section
variable {P : Program} {T : Tab} [hT : TabOk P T] {n : Nat} {os l : List Oper} {K : Kt} {F : Fm} {w g : World} {L : List HP} {b c : Nat} {t kt et : TypeId} {z : Value}
variable {α β : Type} {f : α → Value × Value × Nat} {nm : α → Int} {pay : α → β} {xs : List α} {M : List (Int × β)}
theorem WL.muP {o : Oper} {x y qq : Operand} {k : Int} {v : Value} (hg : o.guard = none) (hd : o.dst = none) (ho : o.op = .mapUpdate t x y qq) (hM : MapT P t kt (.int .i64) et z) (i : Nat) (hS : St g L w) (hi : L[i]? = some (blk b (.map (mE (xs.map f)) c))) (hx : ev F x = .map (some b)) (hy : ev F y = .int .i64 k) (hq : ev F qq = v)
    (hP : POk f nm pay xs c M) (mk : Nat → α) (h1 : ∀ j, f (mk j) = (.int .i64 k, v, j)) (h2 : ∀ j, nm (mk j) = k) (u : β) (h3 : ∀ j, pay (mk j) = u) (hr : -9223372036854775808 ≤ k ∧ k ≤ 9223372036854775807) (hl : M.length < 4096)
    (hk : ∀ xs' c' w', POk f nm pay xs' c' (pput k u M) → St g (L.set i (blk b (.map (mE (List.map f xs')) c'))) w' → WL P n os l K F w') : WL P n os (o :: l) K F w := by
  rcases ki_cases nm xs k with ⟨j, y, hj, hy2⟩ | hn
  · have hf : mfind (.int .i64) (.int .i64 k) (xs.map f) = some (some (j, (f y).2.1)) := hy2 ▸ ki_in hP.k.key hP.k.uniq hj
    have hky := hP.k.key y (List.mem_of_getElem? hj)
    rw [hy2] at hky
    have hjj : (xs.map f)[j]? = some (.int .i64 k, (f y).2.1, (f y).2.2) := by rw [List.getElem?_map, hj, ← hky]; rfl
    refine WL.muE hg hd ho hM i hS hi hx hy hq rfl hf hjj fun w' hS' => ?_
    have he : (xs.map f).set j (.int .i64 k, v, (f y).2.2) = (xs.set j (mk (f y).2.2)).map f := by rw [List.map_set, h1]
    rw [he] at hS'
    have h4 := hP.set hj (y := mk (f y).2.2) (by rw [h2, hy2]) (by rw [h1, hky]) (by rw [h1])
    rw [hy2, h3] at h4
    exact hk _ _ w' h4 hS'
  · refine WL.muN hg hd ho hM i hS hi hx hy hq rfl (ki_out hP.k.key hn) fun w' hS' => ?_
    have he : xs.map f ++ [(.int .i64 k, v, c)] = (xs ++ [mk c]).map f := by rw [List.map_append, List.map_singleton, h1]
    rw [he] at hS'
    have h4 := hP.snoc (y := mk c) (by rw [h1, h2]) (fun x hx => by rw [h2]; exact hn x hx) (by rw [h1]) (by rw [h2]; exact hr) (by have := hP.len; omega)
    rw [h2, h3] at h4
    exact hk _ _ w' h4 hS'
end
end Go.V
/-! ## Oe -/
namespace Go.V
open Go Go.RowKit
structure OE where
  k : Int
  v : Int
  t : Int
  b : Nat
def oK (x : OE) : Value × Value × Nat := (.int .i64 x.k, .agg #[.int .i64 x.k, .int .i64 x.v, .int .i64 x.t], x.b)
def OE.p (x : OE) : Int × Int := (x.v, x.t)
theorem POk.pick {α β : Type} {f : α → Value × Value × Nat} {n : α → Int} {g : α → β} {xs : List α} {q : Nat} {M : List (Int × β)} (h : POk f n g xs q M) {k : Int} (hs : (pget k M).isSome = true) : ∃ (j : Nat) (x : α), xs[j]? = some x ∧ n x = k := by
  rcases ki_cases n xs k with ⟨j, x, hj, hx⟩ | hn
  · exact ⟨j, x, hj, hx⟩
  · rw [h.no hn] at hs; cases hs
theorem POk.nth {α β : Type} {f : α → Value × Value × Nat} {n : α → Int} {g : α → β} {xs : List α} {q : Nat} {M : List (Int × β)} (h : POk f n g xs q M) {m : Nat} {e : Int × β} (he : M[m]? = some e) : ∃ (j : Nat) (x : α), xs[j]? = some x ∧ n x = e.1 ∧ g x = e.2 := by
  obtain ⟨x, hx, rfl⟩ := (h.mem e).1 (List.mem_of_getElem? he)
  obtain ⟨j, hj⟩ := List.mem_iff_getElem?.1 hx
  exact ⟨j, x, hj, rfl, rfl⟩
theorem lget_map (k : Int) (M : List (Int × Int × Int)) : lget k (M.map fun x => (x.1, x.2.1)) = (pget k M).map (·.1) := by
  unfold lget pget
  rw [List.find?_map, Option.map_map, Option.map_map]; rfl
section
variable {L : List Kvs}
theorem ev_rm (h : LOk L) {n p : Nat} {e : Ev} (he : (hev minI maxI L n)[p]? = some e) (hk : e.2.1 = 2) : (pget e.2.2.1 (oAll ((hev minI maxI L n).take p))).isSome = true := by
  have h1 := rpE_pos h he hk
  rw [← oAll_list, lget_map, Option.isSome_map] at h1
  exact h1
theorem ev_rng {n p : Nat} {e : Ev} (he : (hev minI maxI L n)[p]? = some e) : -9223372036854775808 ≤ e.2.2.1 ∧ e.2.2.1 ≤ 9223372036854775807 := by
  obtain ⟨i, m, c, _, h2, rfl, _, _⟩ := hev_pos he
  unfold dA inR at h2
  have h3 := (List.mem_filter.1 (List.mem_of_getElem? h2)).2
  have h4 : minI ≤ c.2.1 ∧ c.2.1 ≤ maxI := by simpa using h3
  exact h4
theorem oAll_step {E : List Ev} {p : Nat} {e : Ev} (he : E[p]? = some e) : oAll (E.take (p + 1)) = oStep (oAll (E.take p)) e := by
  rw [List.take_add_one, he]; exact oAll_snoc _ _
end
end Go.V
/-! ## Sky -/
namespace Go.Proofs
open Go.Shelf
def Tryz.keysO_ren : Go.Shelf.Ren := ⟨fun | 7 => 103 | 10 => 168 | n => n, fun | 23 => 187 | 26 => 2 | 3 => 93 | 28 => 191 | 0 => 0 | 27 => 190 | 33 => 263 | 4 => 4 | n => n, fun | n => n⟩
theorem Tryz.keysO : Go.Proofs.SlLaysZI.n7 Tryz.prog Tryz.keysO_ren := {
  mixed := by kernel_rfl
  f7 := ⟨Tryz.f103.name, by decide, Tryz.func103.trans (congrArg some (by kernel_rfl))⟩
  f10 := ⟨Tryz.f168.name, by decide, Tryz.func168.trans (congrArg some (by kernel_rfl))⟩
  t0 := Tryz.underlying0
  a0 := Tryz.isAgg0
  z0 := Tryz.sizeOf0
  v0 := Tryz.zeroValue0
  t4 := Tryz.underlying4
  a4 := Tryz.isAgg4
  z4 := Tryz.sizeOf4
  v4 := Tryz.zeroValue4
  t23 := Tryz.underlying187
  a23 := Tryz.isAgg187
  z23 := Tryz.sizeOf187
  v23 := Tryz.zeroValue187
  t26 := Tryz.underlying2
  a26 := Tryz.isAgg2
  z26 := Tryz.sizeOf2
  v26 := Tryz.zeroValue2
  t27 := Tryz.underlying190
  a27 := Tryz.isAgg190
  z27 := Tryz.sizeOf190
  v27 := Tryz.zeroValue190
  t28 := Tryz.underlying191
  a28 := Tryz.isAgg191
  z28 := Tryz.sizeOf191
  v28 := Tryz.zeroValue191
  t33 := Tryz.underlying263
  a33 := Tryz.isAgg263
  z33 := Tryz.sizeOf263
  v33 := Tryz.zeroValue263 }
def Tryz.sortedL_ren : Go.Shelf.Ren := ⟨fun | 6 => 102 | 8 => 166 | 9 => 167 | 11 => 204 | 13 => 176 | 12 => 205 | 23 => 216 | 24 => 217 | 14 => 243 | 15 => 244 | 16 => 245 | 17 => 246 | 18 => 247 | 19 => 248 | 20 => 249 | 21 => 250 | 22 => 251 | 25 => 264 | 26 => 254 | 27 => 255 | 28 => 265 | 29 => 266 | 30 => 267 | 31 => 270 | n => n, fun | 26 => 2 | 28 => 191 | 24 => 109 | 0 => 0 | 3 => 3 | 37 => 272 | 48 => 64 | 50 => 23 | 4 => 4 | 40 => 308 | 39 => 307 | 45 => 312 | 5 => 5 | 9 => 9 | 51 => 345 | 55 => 349 | 57 => 357 | 58 => 358 | 33 => 263 | n => n, fun | n => n⟩
theorem Tryz.sortedL : Go.Proofs.SlLaysZI.n6 Tryz.prog Tryz.sortedL_ren := {
  mixed := by kernel_rfl
  f6 := ⟨Tryz.f102.name, by decide, Tryz.func102.trans (congrArg some (by kernel_rfl))⟩
  f8 := ⟨Tryz.f166.name, by decide, Tryz.func166.trans (congrArg some (by kernel_rfl))⟩
  f11 := ⟨Tryz.f204.name, by decide, Tryz.func204.trans (congrArg some (by kernel_rfl))⟩
  t0 := Tryz.underlying0
  a0 := Tryz.isAgg0
  z0 := Tryz.sizeOf0
  v0 := Tryz.zeroValue0
  t24 := Tryz.underlying109
  a24 := Tryz.isAgg109
  z24 := Tryz.sizeOf109
  v24 := Tryz.zeroValue109
  t26 := Tryz.underlying2
  a26 := Tryz.isAgg2
  z26 := Tryz.sizeOf2
  v26 := Tryz.zeroValue2
  t28 := Tryz.underlying191
  a28 := Tryz.isAgg191
  z28 := Tryz.sizeOf191
  v28 := Tryz.zeroValue191
  i26 := by kernel_rfl }
def Tryz.sortL_ren : Go.Shelf.Ren := ⟨fun | 5 => 167 | 8 => 176 | 7 => 205 | 19 => 216 | 20 => 217 | 10 => 243 | 11 => 244 | 12 => 245 | 13 => 246 | 14 => 247 | 15 => 248 | 16 => 249 | 17 => 250 | 18 => 251 | 30 => 264 | 31 => 254 | 32 => 255 | 33 => 265 | 34 => 266 | 35 => 267 | 40 => 270 | n => n, fun | 23 => 109 | 25 => 2 | 3 => 3 | 32 => 272 | 22 => 109 | 0 => 0 | 44 => 64 | 46 => 23 | 4 => 4 | 36 => 308 | 35 => 307 | 41 => 312 | 5 => 5 | 9 => 9 | 53 => 345 | 57 => 349 | 63 => 357 | 64 => 358 | n => n, fun | n => n⟩
theorem Tryz.sortL : Go.Proofs.SlLaysM.n5 Tryz.prog Tryz.sortL_ren := {
  mixed := by kernel_rfl
  f5 := ⟨Tryz.f167.name, by decide, Tryz.func167.trans (congrArg some (by kernel_rfl))⟩
  f7 := ⟨Tryz.f205.name, by decide, Tryz.func205.trans (congrArg some (by kernel_rfl))⟩
  f8 := Tryz.func176.trans (congrArg some (by kernel_rfl))
  f10 := ⟨Tryz.f243.name, by decide, Tryz.func243.trans (congrArg some (by kernel_rfl))⟩
  f11 := ⟨Tryz.f244.name, by decide, Tryz.func244.trans (congrArg some (by kernel_rfl))⟩
  f12 := ⟨Tryz.f245.name, by decide, Tryz.func245.trans (congrArg some (by kernel_rfl))⟩
  f13 := ⟨Tryz.f246.name, by decide, Tryz.func246.trans (congrArg some (by kernel_rfl))⟩
  f14 := ⟨Tryz.f247.name, by decide, Tryz.func247.trans (congrArg some (by kernel_rfl))⟩
  f15 := ⟨Tryz.f248.name, by decide, Tryz.func248.trans (congrArg some (by kernel_rfl))⟩
  f16 := ⟨Tryz.f249.name, by decide, Tryz.func249.trans (congrArg some (by kernel_rfl))⟩
  f17 := ⟨Tryz.f250.name, by decide, Tryz.func250.trans (congrArg some (by kernel_rfl))⟩
  f18 := ⟨Tryz.f251.name, by decide, Tryz.func251.trans (congrArg some (by kernel_rfl))⟩
  f19 := Tryz.func216.trans (congrArg some (by kernel_rfl))
  f20 := Tryz.func217.trans (congrArg some (by kernel_rfl))
  f30 := ⟨Tryz.f264.name, by decide, Tryz.func264.trans (congrArg some (by kernel_rfl))⟩
  f31 := Tryz.func254.trans (congrArg some (by kernel_rfl))
  f32 := Tryz.func255.trans (congrArg some (by kernel_rfl))
  f33 := ⟨Tryz.f265.name, by decide, Tryz.func265.trans (congrArg some (by kernel_rfl))⟩
  f34 := ⟨Tryz.f266.name, by decide, Tryz.func266.trans (congrArg some (by kernel_rfl))⟩
  f35 := ⟨Tryz.f267.name, by decide, Tryz.func267.trans (congrArg some (by kernel_rfl))⟩
  f40 := ⟨Tryz.f270.name, by decide, Tryz.func270.trans (congrArg some (by kernel_rfl))⟩
  t0 := Tryz.underlying0
  a0 := Tryz.isAgg0
  z0 := Tryz.sizeOf0
  v0 := Tryz.zeroValue0
  t3 := Tryz.underlying3
  a3 := Tryz.isAgg3
  z3 := Tryz.sizeOf3
  v3 := Tryz.zeroValue3
  t4 := Tryz.underlying4
  a4 := Tryz.isAgg4
  z4 := Tryz.sizeOf4
  v4 := Tryz.zeroValue4
  t5 := Tryz.underlying5
  a5 := Tryz.isAgg5
  z5 := Tryz.sizeOf5
  v5 := Tryz.zeroValue5
  t9 := Tryz.underlying9
  a9 := Tryz.isAgg9
  z9 := Tryz.sizeOf9
  v9 := Tryz.zeroValue9
  t22 := Tryz.underlying109
  a22 := Tryz.isAgg109
  z22 := Tryz.sizeOf109
  v22 := Tryz.zeroValue109
  t23 := Tryz.underlying109
  a23 := Tryz.isAgg109
  z23 := Tryz.sizeOf109
  v23 := Tryz.zeroValue109
  t25 := Tryz.underlying2
  a25 := Tryz.isAgg2
  z25 := Tryz.sizeOf2
  v25 := Tryz.zeroValue2
  t32 := Tryz.underlying272
  a32 := Tryz.isAgg272
  z32 := Tryz.sizeOf272
  v32 := Tryz.zeroValue272
  t35 := Tryz.underlying307
  a35 := Tryz.isAgg307
  z35 := Tryz.sizeOf307
  v35 := Tryz.zeroValue307
  t36 := Tryz.underlying308
  a36 := Tryz.isAgg308
  z36 := Tryz.sizeOf308
  v36 := Tryz.zeroValue308
  t41 := Tryz.underlying312
  a41 := Tryz.isAgg312
  z41 := Tryz.sizeOf312
  v41 := Tryz.zeroValue312
  t44 := Tryz.underlying64
  a44 := Tryz.isAgg64
  z44 := Tryz.sizeOf64
  v44 := Tryz.zeroValue64
  t46 := Tryz.underlying23
  a46 := Tryz.isAgg23
  z46 := Tryz.sizeOf23
  v46 := Tryz.zeroValue23
  t53 := Tryz.underlying345
  a53 := Tryz.isAgg345
  z53 := Tryz.sizeOf345
  v53 := Tryz.zeroValue345
  t57 := Tryz.underlying349
  a57 := Tryz.isAgg349
  z57 := Tryz.sizeOf349
  v57 := Tryz.zeroValue349
  t63 := Tryz.underlying357
  a63 := Tryz.isAgg357
  z63 := Tryz.sizeOf357
  v63 := Tryz.zeroValue357
  t64 := Tryz.underlying358
  a64 := Tryz.isAgg358
  z64 := Tryz.sizeOf358
  v64 := Tryz.zeroValue358 }
def Tryz.keysC_ren : Go.Shelf.Ren := ⟨fun | 7 => 106 | 10 => 169 | n => n, fun | 23 => 194 | 26 => 2 | 3 => 2 | 28 => 191 | 0 => 0 | 27 => 190 | 33 => 263 | 4 => 4 | n => n, fun | n => n⟩
theorem Tryz.keysC : Go.Proofs.SlLaysZI.n7 Tryz.prog Tryz.keysC_ren := {
  mixed := by kernel_rfl
  f7 := ⟨Tryz.f106.name, by decide, Tryz.func106.trans (congrArg some (by kernel_rfl))⟩
  f10 := ⟨Tryz.f169.name, by decide, Tryz.func169.trans (congrArg some (by kernel_rfl))⟩
  t0 := Tryz.underlying0
  a0 := Tryz.isAgg0
  z0 := Tryz.sizeOf0
  v0 := Tryz.zeroValue0
  t4 := Tryz.underlying4
  a4 := Tryz.isAgg4
  z4 := Tryz.sizeOf4
  v4 := Tryz.zeroValue4
  t23 := Tryz.underlying194
  a23 := Tryz.isAgg194
  z23 := Tryz.sizeOf194
  v23 := Tryz.zeroValue194
  t26 := Tryz.underlying2
  a26 := Tryz.isAgg2
  z26 := Tryz.sizeOf2
  v26 := Tryz.zeroValue2
  t27 := Tryz.underlying190
  a27 := Tryz.isAgg190
  z27 := Tryz.sizeOf190
  v27 := Tryz.zeroValue190
  t28 := Tryz.underlying191
  a28 := Tryz.isAgg191
  z28 := Tryz.sizeOf191
  v28 := Tryz.zeroValue191
  t33 := Tryz.underlying263
  a33 := Tryz.isAgg263
  z33 := Tryz.sizeOf263
  v33 := Tryz.zeroValue263 }
end Go.Proofs
/-! ## H5 -/
namespace Go.Proofs
open Go.RowKit Go.Maps Go.Sort Go.Shelf
theorem Tryz.sortsH (m : Nat) : AnyZI.SortsIn Tryz.prog Tryz.sortedL_ren Fence.wide m :=
  ⟨fun blk off cap ss W hH hblk hsz => callsIn_wide.2 (AnyM.slices_Sort_int Tryz.sortL blk off cap ss W hH hblk hsz),
   fun p cap W => callsIn_wide.2 (AnyM.slices_Sort_int_none Tryz.sortL p cap W)⟩
end Go.Proofs
namespace Go.Proofs.YtlnlnebibgdjdaaGreat
open Go Go.V Go.RowKit Go.Maps Go.Sort Go.Shelf
set_option maxRecDepth 8192 in
theorem hi_all {g w : World} {L : List HP} (a : Nat) (A : AM) (R : List Int) (Ls : List Kvs) (rs : List Int) (u : Option Addr) (d : Nat) (hA : ARf A R) (hT : RTs A Ls rs) (hL : LOk Ls) (hn : rs.length ≤ 100) (hS : St g (Arn a A :: Sh 64 1 (u32s rs) u d :: L) w) :
    Sp Tryz.prog 101 [.pointer (some ⟨a, 0, none⟩), .slice u (List.length (u32s rs)) d] w (fun v w' => ∃ (a2 : Option Addr) (c2 : Nat), v = .slice a2 (List.length (ev5 (hev minI maxI Ls (List.length rs)))) c2 ∧ St g (Own 84 5 (ev5 (hev minI maxI Ls (List.length rs))) a2 c2 :: Arn a A :: Sh 64 1 (u32s rs) u d :: L) w') := by
  refine Sp.enter Tryz.func101 rfl (by kernel_rfl) (by kernel_rfl) ?_
  refine WC.seq ?_
  refine WC.region ?_
  refine WL.r 1 rfl ?_
  refine WL.nil ?_
  refine WC.seq ?_
  refine WC.region ?_
  refine WL.r 2 rfl ?_
  refine WL.call rfl rfl (hi_events (a := a) (A := A) (R := R) (Ls := Ls) (rs := rs) (u := u) (d := d) (lo := -9223372036854775808) (hi := 9223372036854775807) (hA := hA) (hT := hT) (hL := hL) (hn := hn) (hS := hS)) rfl ?_
  clear hS; rintro _ w ⟨a1, c1, rfl, hS⟩
  replace hS : St g (Own 84 5 (ev5 (hev (-9223372036854775808) 9223372036854775807 Ls (List.length rs))) a1 c1 :: Arn a A :: Sh 64 1 (u32s rs) u d :: L) w := hS
  refine WL.r 1 rfl ?_
  refine WL.nil ?_
  refine WC.ret ?_
  refine ⟨[.slice a1 (List.length (ev5 (hev (-9223372036854775808) 9223372036854775807 Ls (List.length rs)))) c1], rfl, ?_⟩
  exact ⟨_, _, rfl, hS⟩
set_option maxRecDepth 8192 in
theorem keysO_spec {g w : World} {L : List HP} (m : Nat) (hS : St g (L) w) :
    Sp Tryz.prog 103 [.map (some m)] w (fun v w' => ∃ (c : Nat), v = .func (.func 168) #[] #[.pointer (some ⟨c, 0, none⟩)] ∧ St g (cel c #[.map (some m)] 187 :: L) w') := by
  have h := callsIn_wide.1 (AnyZI.keys_in Tryz.keysO Fence.wide 5 trivial rfl (some m) w)
  refine ⟨⟨_, _, Tryz.func103, by kernel_rfl, rfl⟩, h.mono fun e w' ⟨he, hw⟩ => ⟨_, he, ?_⟩⟩
  subst hw
  exact ⟨_, rfl, hS.new _⟩
set_option maxRecDepth 8192 in
theorem sortedO_spec {g w : World} {L : List HP} (m c q : Nat) (rs : List OE) (ss : List Int) (ht : KOk oK OE.k rs q) (hp : ss.Perm (rs.map OE.k)) (hs : ss.Pairwise (· ≤ ·)) (hS : St g (cel c #[.map (some m)] 187 :: blk m (.map (mE (List.map oK rs)) q) :: L) w) :
    Sp Tryz.prog 102 [.func (.func 168) #[] #[.pointer (some ⟨c, 0, none⟩)]] w (fun v w' => ∃ (a2 : Option Addr) (c2 : Nat), v = .slice a2 (List.length (i64s ss)) c2 ∧ St g (Own 2 1 (i64s ss) a2 c2 :: cel c #[.map (some m)] 187 :: blk m (.map (mE (List.map oK rs)) q) :: L) w') := by
  have hc : w.cell? ⟨c, 0, none⟩ = some (.map (some m)) := hS.ld 0 rfl rfl
  have hcl : c < w.heap.size := by
    have h1 := hS.heap 0 rfl
    exact (Array.getElem?_eq_some_iff.1 h1).1
  have hm := hS.heap 1 rfl
  obtain ⟨D, hD, hsz, hk⟩ := keys_of (P := Tryz.prog) (k := 2) rs q ht Tryz.underlying2 hm
  have hseq := AnyZI.keys_gives (ρ := Tryz.keysO_ren) { Tryz.keysO with } Fence.wide 2 trivial rfl (by omega) c m 4096 D w hcl hc hD
  have h := callsIn_wide.1 (AnyZI.sorted_in Tryz.sortedL Fence.wide 5 trivial trivial trivial trivial rfl (by omega) (Tryz.sortsH _) (enters_of Tryz.func167 (by kernel_rfl) rfl) 168 #[.pointer (some ⟨c, 0, none⟩)] trivial (enters_of Tryz.func168 (by kernel_rfl) rfl) _ _ (by rw [hsz]; exact Nat.le_trans ht.num (by decide)) (by rw [hsz]; have := ht.num; omega) w hseq)
  refine ⟨⟨_, _, Tryz.func102, by kernel_rfl, rfl⟩, h.mono fun e w' ⟨v, ys, he, hys, hrow, _, hb⟩ => ⟨v, he, ?_⟩⟩
  have hpp : ss.Perm ys := hp.trans (hys.trans hk).symm
  obtain ⟨a, c2, rfl, hS2⟩ := St.of_row (i64s ss) hS hb hrow (by rw [sort_eqI hpp hs, i64s_flat]) (by simpa using hpp.length_eq) (i64s_ok ss)
  exact ⟨a, c2, rfl, hS2⟩
theorem er_map {α β : Type} (f : α → β) : ∀ (l : List α) (k : Nat), (l.map f).eraseIdx k = (l.eraseIdx k).map f
  | [], _ => rfl
  | _ :: _, 0 => rfl
  | x :: l, k + 1 => by
    show f x :: (l.map f).eraseIdx k = f x :: (l.eraseIdx k).map f
    rw [er_map f l k]
def oks (M : List (Int × Int × Int)) : List Int := M.map fun x => x.1
theorem oStep_2 {M : List (Int × Int × Int)} {e : Ev} (h : e.2.1 = 2) : oStep M e = pdel e.2.2.1 M := if_pos h
theorem oStep_n {M : List (Int × Int × Int)} {e : Ev} (h : ¬ e.2.1 = 2) : oStep M e = pput e.2.2.1 (e.2.2.2.2, e.1) M := if_neg h
set_option maxHeartbeats 1000000 in
set_option maxRecDepth 8192 in
theorem hi_orig {g w : World} {L : List HP} (a : Nat) (A : AM) (R : List Int) (Ls : List Kvs) (rs : List Int) (u : Option Addr) (d : Nat) (hA : ARf A R) (hT : RTs A Ls rs) (hL : LOk Ls) (hn : rs.length ≤ 20) (hS : St g (Arn a A :: Sh 64 1 (u32s rs) u d :: L) w) :
    Sp Tryz.prog 34 [.pointer (some ⟨a, 0, none⟩), .slice u (List.length (u32s rs)) d] w (fun v w' => ∃ (a2 : Option Addr) (c2 : Nat), v = .slice a2 (List.length (or3 (oAll (hev minI maxI Ls (List.length rs))))) c2 ∧ St g (Own 93 3 (or3 (oAll (hev minI maxI Ls (List.length rs)))) a2 c2 :: Arn a A :: Sh 64 1 (u32s rs) u d :: L) w') := by
  refine Sp.enter Tryz.func34 rfl (by kernel_rfl) (by kernel_rfl) ?_
  have _ := hn
  refine WC.seq ?_
  refine WC.region ?_
  refine WL.r 1 rfl ?_
  refine WL.nil ?_
  refine WC.seq ?_
  refine WC.region ?_
  refine WL.mkM rfl rfl hS (fun b1 w hS => ?_)
  refine WL.r 1 rfl ?_
  refine WL.nil ?_
  refine WC.seq ?_
  refine WC.seq ?_
  refine WC.region ?_
  have hel := hev_len (lo := minI) (hi := maxI) hL rs.length; have he5 := ev5_len (hev minI maxI Ls rs.length)
  refine WL.r 2 rfl ?_
  refine WL.call rfl rfl (hi_all (a := a) (A := A) (R := R) (Ls := Ls) (rs := rs) (u := u) (d := d) (hA := hA) (hT := hT) (hL := hL) (hn := (by omega)) (hS := (hS.sel 3 [1, 1, 0] rfl))) rfl ?_
  clear hS; rintro _ w ⟨a1, c1, rfl, hS⟩
  replace hS : St g (Own 84 5 (ev5 (hev minI maxI Ls (List.length rs))) a1 c1 :: Arn a A :: Sh 64 1 (u32s rs) u d :: blk b1 (.map (mE []) 0) :: L) w := hS
  refine WL.r 2 rfl ?_
  refine WL.nil ?_
  refine WC.block ?_
  refine WC.loop [4, 5, 15, 16, 17] (fun kM vs w => ∃ (p : Nat) (xs : List OE) (q : Nat), vs = [.slice none 0 0, .map (some b1), .slice a1 (List.length (ev5 (hev minI maxI Ls (List.length rs)))) c1, .int .i64 (List.length (ev5 (hev minI maxI Ls (List.length rs))) : Int), .int .i64 (p : Int)] ∧ St g (Own 84 5 (ev5 (hev minI maxI Ls (List.length rs))) a1 c1 :: Arn a A :: Sh 64 1 (u32s rs) u d :: blk b1 (.map (mE (List.map oK xs)) q) :: L) w ∧ (p ≤ (hev minI maxI Ls rs.length).length) ∧ (POk oK OE.k OE.p xs q (oAll ((hev minI maxI Ls rs.length).take p))) ∧ ((hev minI maxI Ls rs.length).length - p) = kM) ((List.length (hev minI maxI Ls (List.length rs))) - 0) ⟨0, [], 0, rfl, hS, (Nat.zero_le _), (POk.nil), rfl⟩ ?_
  clear hS; rintro _ _ w j ⟨p, xs, q, rfl, hS, hp, hP, rfl⟩
  refine WC.seq ?_
  refine WC.region ?_
  refine WL.r 1 rfl ?_
  refine WL.nil ?_
  as_aux_lemma =>
    refine WC.seq ?_
    refine WC.ifP rfl (fun cd1 => ?_) (fun cd1 => ?_)
    · refine WC.skip ?_
      refine WC.seq ?_
      refine WC.block ?_
      refine WC.seq ?_
      refine WC.region ?_
      obtain ⟨e, he⟩ : ∃ e, (hev minI maxI Ls rs.length)[p]? = some e := ⟨_, List.getElem?_eq_getElem (by omega)⟩; have hrg := ev_rng he; have hol := oAll_len hL rs.length p
      refine WL.ix rfl rfl (i := (p : Int)) (p) el_85 rfl rfl (by omega) (by omega) (hS.rdO 0 rfl (ev5_at he)).1 ?_
      refine WL.ldC rfl rfl [.int .i64 e.1, .int .i64 e.2.1, .int .i64 e.2.2.1, .int .i64 e.2.2.2.1, .int .i64 e.2.2.2.2] ag_84 rfl (hS.rdO 0 rfl (ev5_at he)).2 ?_
      refine WL.new rfl rfl zv_84 hS (fun b2 w hS => ?_)
      refine WL.stF rfl rfl rfl 0 hS rfl rfl rfl rfl rfl ag_84 (fun w hS => ?_)
      replace hS : St g (cel b2 #[.int .i64 e.1, .int .i64 e.2.1, .int .i64 e.2.2.1, .int .i64 e.2.2.2.1, .int .i64 e.2.2.2.2] 84 :: Own 84 5 (ev5 (hev minI maxI Ls (List.length rs))) a1 c1 :: Arn a A :: Sh 64 1 (u32s rs) u d :: blk b1 (.map (mE (List.map oK xs)) q) :: L) w := hS
      refine WL.nil ?_
      refine WC.seq ?_
      refine WC.region ?_
      refine WL.r 1 rfl ?_
      refine WL.ldC rfl rfl [.int .i64 e.2.1, .int .i64 e.2.2.1, .int .i64 e.2.2.2.1, .int .i64 e.2.2.2.2] ag_82 rfl (hS.part 0 rfl rfl) ?_
      refine WL.new rfl rfl zv_82 hS (fun b3 w hS => ?_)
      refine WL.stF rfl rfl rfl 0 hS rfl rfl rfl rfl rfl ag_82 (fun w hS => ?_)
      replace hS : St g (cel b3 #[.int .i64 e.2.1, .int .i64 e.2.2.1, .int .i64 e.2.2.2.1, .int .i64 e.2.2.2.2] 82 :: cel b2 #[.int .i64 e.1, .int .i64 e.2.1, .int .i64 e.2.2.1, .int .i64 e.2.2.2.1, .int .i64 e.2.2.2.2] 84 :: Own 84 5 (ev5 (hev minI maxI Ls (List.length rs))) a1 c1 :: Arn a A :: Sh 64 1 (u32s rs) u d :: blk b1 (.map (mE (List.map oK xs)) q) :: L) w := hS
      refine WL.nil ?_
      refine WC.seq ?_
      refine WC.region ?_
      refine WL.run 3 [.int .i64 e.2.1] rfl (by exact hS.ld 0 rfl rfl) ?_
      refine WL.nil ?_
      as_aux_lemma =>
        refine WC.ifP rfl (fun hk2 => ?_) (fun hk2 => ?_)
        · refine WC.region ?_
          obtain ⟨jx, x, hj, hx⟩ := hP.pick (ev_rm hL he hk2)
          refine WL.run 3 [.int .i64 e.2.2.1] rfl (by exact hS.ld 0 rfl rfl) ?_
          refine WL.del rfl rfl mt_187 5 hS rfl rfl rfl (by first | trivial | rfl) (j := jx) (v := (.agg #[.int .i64 x.k, .int .i64 x.v, .int .i64 x.t])) (hx ▸ ki_in (f := oK) (n := OE.k) hP.k.key hP.k.uniq hj) (by rw [List.length_map]; exact (List.getElem?_eq_some_iff.1 hj).1) (fun w hS => ?_)
          replace hS : St g (cel b3 #[.int .i64 e.2.1, .int .i64 e.2.2.1, .int .i64 e.2.2.2.1, .int .i64 e.2.2.2.2] 82 :: cel b2 #[.int .i64 e.1, .int .i64 e.2.1, .int .i64 e.2.2.1, .int .i64 e.2.2.2.1, .int .i64 e.2.2.2.2] 84 :: Own 84 5 (ev5 (hev minI maxI Ls (List.length rs))) a1 c1 :: Arn a A :: Sh 64 1 (u32s rs) u d :: blk b1 (.map (mE (List.eraseIdx (List.map oK xs) jx)) q) :: L) w := hS
          refine WL.nil ?_
          refine WC.region ?_
          refine WL.r 1 rfl ?_
          refine WL.nw 40 rfl (w64 (by omega)) ?_
          refine WL.r 1 rfl ?_
          refine WL.nil ?_
          rw [er_map] at hS
          exact ⟨_, by omega, p + 1, xs.eraseIdx jx, q, rfl, (hS.sel 2 [] rfl), (by omega), (by rw [oAll_step he, oStep_2 hk2, ← hx]; exact hP.erase hj), rfl⟩
        · refine WC.region ?_
          refine WL.run 7 [.int .i64 e.2.2.1, .int .i64 e.2.2.1, .int .i64 e.2.2.2.2] rfl (by exact ⟨hS.ld 0 rfl rfl, hS.ld 0 rfl rfl, hS.ld 0 rfl rfl⟩) ?_
          refine WL.build rfl rfl (cs := [.int .i64 e.2.2.1, .int .i64 e.2.2.2.2]) zv_77 rfl rfl ?_
          refine WL.run 2 [.int .i64 e.1] rfl (by exact hS.ld 1 rfl rfl) ?_
          refine WL.build rfl rfl (cs := [.int .i64 e.2.2.1, .int .i64 e.2.2.2.2, .int .i64 e.1]) zv_93 rfl rfl ?_
          refine WL.muP rfl rfl rfl mt_187 5 hS rfl rfl rfl rfl (hP) ((fun b => OE.mk e.2.2.1 e.2.2.2.2 e.1 b)) (fun _ => rfl) (fun _ => rfl) ((e.2.2.2.2, e.1)) (fun _ => rfl) hrg (by omega) (fun xs1 q1 w hP1 hS => ?_)
          replace hS : St g (cel b3 #[.int .i64 e.2.1, .int .i64 e.2.2.1, .int .i64 e.2.2.2.1, .int .i64 e.2.2.2.2] 82 :: cel b2 #[.int .i64 e.1, .int .i64 e.2.1, .int .i64 e.2.2.1, .int .i64 e.2.2.2.1, .int .i64 e.2.2.2.2] 84 :: Own 84 5 (ev5 (hev minI maxI Ls (List.length rs))) a1 c1 :: Arn a A :: Sh 64 1 (u32s rs) u d :: blk b1 (.map (mE (List.map oK xs1)) q1) :: L) w := hS
          refine WL.nil ?_
          refine WC.region ?_
          refine WL.r 1 rfl ?_
          refine WL.nw 40 rfl (w64 (by omega)) ?_
          refine WL.r 1 rfl ?_
          refine WL.nil ?_
          exact ⟨_, by omega, p + 1, xs1, q1, rfl, (hS.sel 2 [] rfl), (by omega), (by rw [oAll_step he, oStep_n hk2]; exact hP1), rfl⟩
    · refine WC.exit ?_
      refine WC.seq ?_
      refine WC.region ?_
      have hpe : p = (hev minI maxI Ls rs.length).length := (by omega); have hP9 := hP; rw [hpe, List.take_length] at hP9; obtain ⟨hk1, hk3⟩ := hP9.keys; have hlen9 := hP9.len; have hnum9 := hP9.k.num
      refine WL.r 1 rfl ?_
      refine WL.nil ?_
      refine WC.seq ?_
      refine WC.seq ?_
      refine WC.region ?_
      have hsl := i64s_len (oks (oAll (hev minI maxI Ls rs.length))); have hwl : (oks (oAll (hev minI maxI Ls rs.length))).length = (oAll (hev minI maxI Ls rs.length)).length := List.length_map ..
      refine WL.r 1 rfl ?_
      refine WL.call rfl rfl (keysO_spec (m := b1)  (hS := hS)) rfl ?_
      clear hS; rintro _ w ⟨c2, rfl, hS⟩
      replace hS : St g (cel c2 #[.map (some b1)] 187 :: Own 84 5 (ev5 (hev minI maxI Ls (List.length rs))) a1 c1 :: Arn a A :: Sh 64 1 (u32s rs) u d :: blk b1 (.map (mE (List.map oK xs)) q) :: L) w := hS
      refine WL.call rfl rfl (sortedO_spec (m := b1) (c := c2) (q := q) (rs := xs) (ss := oks (oAll (hev minI maxI Ls (List.length rs)))) (ht := hP.k) (hp := hk1) (hs := hk3) (hS := (hS.sel 5 [0, 3, 0, 0, 0] rfl))) rfl ?_
      clear hS; rintro _ w ⟨a2, c3, rfl, hS⟩
      replace hS : St g (Own 2 1 (i64s (oks (oAll (hev minI maxI Ls (List.length rs))))) a2 c3 :: cel c2 #[.map (some b1)] 187 :: blk b1 (.map (mE (List.map oK xs)) q) :: Own 84 5 (ev5 (hev minI maxI Ls (List.length rs))) a1 c1 :: Arn a A :: Sh 64 1 (u32s rs) u d :: L) w := hS
      refine WL.r 2 rfl ?_
      refine WL.nil ?_
      refine WC.block ?_
      replace hS := hS.nil_ 93 3
      refine WC.loop [4, 5, 9, 43, 44, 45] (fun kM vs w => ∃ (k : Nat) (acc : List Or) (ub : Option Addr) (ud : Nat), vs = [.slice none 0 0, .map (some b1), .slice ub (List.length (or3 acc)) ud, .slice a2 (List.length (i64s (oks (oAll (hev minI maxI Ls (List.length rs)))))) c3, .int .i64 (List.length (i64s (oks (oAll (hev minI maxI Ls (List.length rs))))) : Int), .int .i64 (k : Int)] ∧ St g (Own 93 3 (or3 acc) ub ud :: Own 2 1 (i64s (oks (oAll (hev minI maxI Ls (List.length rs))))) a2 c3 :: cel c2 #[.map (some b1)] 187 :: blk b1 (.map (mE (List.map oK xs)) q) :: Own 84 5 (ev5 (hev minI maxI Ls (List.length rs))) a1 c1 :: Arn a A :: Sh 64 1 (u32s rs) u d :: L) w ∧ (k ≤ (oAll (hev minI maxI Ls rs.length)).length) ∧ (acc = (oAll (hev minI maxI Ls rs.length)).take k) ∧ ((oAll (hev minI maxI Ls rs.length)).length - k) = kM) ((List.length (oAll (hev minI maxI Ls (List.length rs)))) - 0) ⟨0, [], none, 0, rfl, hS, (Nat.zero_le _), (rfl), rfl⟩ ?_
      clear hS; rintro _ _ w j ⟨k, acc, ub, ud, rfl, hS, hk, ha, rfl⟩
      refine WC.seq ?_
      refine WC.region ?_
      refine WL.r 1 rfl ?_
      refine WL.nil ?_
      as_aux_lemma =>
        refine WC.seq ?_
        refine WC.ifP rfl (fun cd2 => ?_) (fun cd2 => ?_)
        · refine WC.skip ?_
          refine WC.seq ?_
          refine WC.block ?_
          refine WC.seq ?_
          refine WC.region ?_
          obtain ⟨y, hy⟩ : ∃ y, (oAll (hev minI maxI Ls rs.length))[k]? = some y := ⟨_, List.getElem?_eq_getElem (by omega)⟩; have hz : (oks (oAll (hev minI maxI Ls rs.length)))[k]? = some y.1 := (by unfold oks; rw [List.getElem?_map, hy]; rfl); obtain ⟨jx, x, hj, hx1, hx2⟩ := hP9.nth hy; have hyo : y = (x.k, x.v, x.t) := (Prod.ext hx1.symm hx2.symm); have hal : acc.length ≤ 4096 := (by rw [ha, List.length_take]; omega); have hoa := or3_len acc
          refine WL.ix rfl rfl (i := (k : Int)) (k) el_109 rfl rfl (by omega) (by omega) (hS.rdO 1 rfl (i64s_at hz)).1 ?_
          refine WL.run 2 [.int .i64 y.1] rfl (by exact (hS.rdO 1 rfl (i64s_at hz)).2 0 _ rfl) ?_
          refine WL.nil ?_
          refine WC.region ?_
          refine WL.r 3 rfl ?_
          refine WL.lk rfl rfl mt_187 3 hS rfl rfl rfl (by first | trivial | rfl) (r := some (jx, .agg #[.int .i64 x.k, .int .i64 x.v, .int .i64 x.t])) (hx1 ▸ ki_in (f := oK) (n := OE.k) hP.k.key hP.k.uniq hj) rfl ?_
          refine WL.lit rfl rfl (or3 [(x.k, x.v, x.t)]) el_94 hS (by exact ⟨rfl, rfl⟩) (or3_ok _) rfl (by decide) (fun b2 w hS => ?_)
          refine WL.app rfl rfl 1 (or3 (acc ++ [(x.k, x.v, x.t)])) el_94 hS rfl (hS.srcO 0 rfl) (or3_app _ _).symm (Rm.of (by first | omega | (simp <;> omega)) (by decide)) rfl rfl (fun a3 c4 w hS => ?_)
          replace hS : St g (Own 93 3 (or3 [(x.k, x.v, x.t)]) (some ⟨b2, 0, none⟩) (List.length (or3 [(x.k, x.v, x.t)])) :: Own 93 3 (or3 (acc ++ [(x.k, x.v, x.t)])) a3 c4 :: Own 2 1 (i64s (oks (oAll (hev minI maxI Ls (List.length rs))))) a2 c3 :: cel c2 #[.map (some b1)] 187 :: blk b1 (.map (mE (List.map oK xs)) q) :: Own 84 5 (ev5 (hev minI maxI Ls (List.length rs))) a1 c1 :: Arn a A :: Sh 64 1 (u32s rs) u d :: L) w := hS
          refine WL.r 1 rfl ?_
          refine WL.nil ?_
          refine WC.region ?_
          refine WL.r 1 rfl ?_
          refine WL.nw 55 rfl (w64 (by omega)) ?_
          refine WL.r 1 rfl ?_
          refine WL.nil ?_
          exact ⟨_, by omega, k + 1, acc ++ [(x.k, x.v, x.t)], a3, c4, rfl, (hS.sel 1 [] rfl), (by omega), (by rw [List.take_add_one, hy, ha, hyo]; rfl), rfl⟩
        · refine WC.exit ?_
          refine WC.seq ?_
          refine WC.region ?_
          refine WL.r 2 rfl ?_
          refine WL.nil ?_
          refine WC.ret ?_
          refine ⟨[.slice ub (List.length (or3 acc)) ud], rfl, ?_⟩
          replace hS := (hS.sel 5 [0] rfl)
          have e9 : acc = oAll (hev minI maxI Ls rs.length) := (by rw [ha, List.take_of_length_le (by omega)]); rw [e9] at hS ⊢; exact ⟨_, _, rfl, hS⟩
end Go.Proofs.YtlnlnebibgdjdaaGreat
/-! ## Eqn -/
namespace Go.V
open Go Go.RowKit
theorem vEqs_app : ∀ (xs ys xs2 ys2 : List Value), xs.length = ys.length → vEqs (xs ++ xs2) (ys ++ ys2) = (bif vEqs xs ys then vEqs xs2 ys2 else false)
  | [], [], xs2, ys2, _ => by simp [vEqs]
  | [], _ :: _, _, _, h => by simp at h
  | _ :: _, [], _, _, h => by simp at h
  | [x], [y], [], ys2, _ => by
    show vEqs [x] (y :: ys2) = _
    simp [vEqs]
  | [x], [y], a :: xs2, ys2, _ => rfl
  | [_], _ :: _ :: _, _, _, h => by simp at h
  | _ :: _ :: _, [_], _, _, h => by simp at h
  | x :: x2 :: xs, y :: y2 :: ys, xs2, ys2, h => by
    have ih := vEqs_app (x2 :: xs) (y2 :: ys) xs2 ys2 (by simpa using h)
    show (bif vEq x y then vEqs ((x2 :: xs) ++ xs2) ((y2 :: ys) ++ ys2) else false) = (bif (bif vEq x y then vEqs (x2 :: xs) (y2 :: ys) else false) then vEqs xs2 ys2 else false)
    rw [ih]; cases vEq x y <;> rfl
def eqFN (P : Program) (e : TypeId) (m : Nat) (ks : List FK) : List Field → Bool
  | f :: fs => f.offset == 0 && f.name != "_" && f.type == e && eqF P fs m ks
  | [] => false
def szN (P : Program) (e : TypeId) (m : Nat) : Bool := match P.info? e with
  | some i => i.size == m
  | none => false
structure EqN (P : Program) (t e : TypeId) (ks1 ks2 : List FK) : Prop where
  und : P.underlying t = some (.struct (P.fieldsOf t))
  held : P.stoodInHeld t = false
  guard : P.eqGuardType P.depth t = false
  eund : P.underlying e = some (.struct (P.fieldsOf e))
  eheld : P.stoodInHeld e = false
  efs : eqF P (P.fieldsOf e).toList 0 ks1 = true
  agg : isAggB P e = true
  sz : szN P e ks1.length = true
  fs : eqFN P e ks1.length ks2 (P.fieldsOf t).toList = true
section
variable {P : Program} {T : Tab} [hT : TabOk P T] {n : Nat} {os l : List Oper} {F : Fm} {w g : World} {t e : TypeId} {ks1 ks2 : List FK}
theorem szN_ex {m : Nat} (h : szN P e m = true) : ∃ i, P.info? e = some i ∧ i.size = m := by
  unfold szN at h
  cases hi : P.info? e with
  | none => rw [hi] at h; cases h
  | some i => rw [hi] at h; exact ⟨i, rfl, by simpa using h⟩
theorem run_eqN (hE : EqN P t e ks1 ks2) {xs1 ys1 xs2 ys2 : List Value} (kx : xs1.map tyv = ks1) (ky : ys1.map tyv = ks1) (kx2 : xs2.map tyv = ks2) (ky2 : ys2.map tyv = ks2) (w : World) :
    (Op.equalIn 10000 t (.agg (xs1 ++ xs2).toArray) (.agg (ys1 ++ ys2).toArray)).run P w = .ok (vEqs (xs1 ++ xs2) (ys1 ++ ys2)) w := by
  have lx : xs1.length = ks1.length := by rw [← kx, List.length_map]
  have ly : ys1.length = ks1.length := by rw [← ky, List.length_map]
  rw [run_equalIn_agg (P := P) w 9999 t _ _ hE.und hE.held]
  have hf := hE.fs
  cases hfs : (P.fieldsOf t).toList with
  | nil => rw [hfs] at hf; cases hf
  | cons f fs =>
    rw [hfs] at hf
    simp only [eqFN, Bool.and_eq_true, beq_iff_eq, bne_iff_ne] at hf
    obtain ⟨⟨⟨h1, h2⟩, h3⟩, h4⟩ := hf
    have hp : ∀ zs1 zs2 : List Value, zs1.length = ks1.length → (part f.type (zs1 ++ zs2).toArray f.offset).run P w = .ok (.agg zs1.toArray) w := fun zs1 zs2 hz => by
      rw [h1, h3]
      simp only [part, Sem.run_bind, run_isAgg w (show (P.underlying e).isSome = true by rw [hE.eund]; rfl), hE.agg, Result.andThen_ok, if_true, run_sizeOf w (szN_ex hE.sz), Sem.run_pure]
      congr 2
      rw [Nat.zero_add, ← hz]
      simp
    have he : (Op.equalIn 9999 f.type (.agg xs1.toArray) (.agg ys1.toArray)).run P w = .ok (vEqs xs1 ys1) w := by
      rw [h3, run_equalIn_agg (P := P) w 9998 e _ _ hE.eund hE.eheld]
      exact run_eqFields (P := P) (w := w) 9997 xs1.toArray ys1.toArray _ 0 ks1 xs1 ys1 hE.efs (by simp) (by simp) kx ky
    have hr := run_eqFields (P := P) (w := w) 9998 (xs1 ++ xs2).toArray (ys1 ++ ys2).toArray fs ks1.length ks2 xs2 ys2 h4 (by simp [← lx]) (by simp [← ly]) kx2 ky2
    rw [vEqs_app xs1 ys1 xs2 ys2 (by rw [lx, ly])]
    simp only [Op.eqFields, ne_eq, h2, not_false_eq_true, if_true, Sem.run_bind, hp xs1 xs2 lx, hp ys1 ys2 ly, he, Result.andThen_ok, Sem.run_ite, hr]
    cases vEqs xs1 ys1 <;> simp
theorem WL.neN {K : Kt} {o : Oper} {yt : TypeId} {x y : Operand} {xs1 ys1 xs2 ys2 : List Value} (hg : o.guard = none) (ho : o.op = .binOp .neq t x y yt) (hE : EqN P t e ks1 ks2) (hx : ev F x = .agg (xs1 ++ xs2).toArray) (hy : ev F y = .agg (ys1 ++ ys2).toArray) (kx : xs1.map tyv = ks1) (ky : ys1.map tyv = ks1) (kx2 : xs2.map tyv = ks2) (ky2 : ys2.map tyv = ks2)
    (hk : WL P n os l K (updo F o.dst (.bool (!vEqs (xs1 ++ xs2) (ys1 ++ ys2)))) w) : WL P n os (o :: l) K F w := by
  refine WL.val hg (fun hok => ?_) hk
  have e1 := okX_at (F := F) hok (x := x) (by simp [ho, Op.operands])
  have e2 := okX_at (F := F) hok (x := y) (by simp [ho, Op.operands])
  simp only [execOp, ho, e1, e2, hx, hy, Sem.run_bind, run_eqGuard_agg w _ _ _ _ _ _ hE.guard, run_neq_struct, run_eqN hE kx ky kx2 ky2 w, Result.andThen_ok, Sem.run_pure]
theorem WQ.neN {K : Fm → Prop} {o : Oper} {yt : TypeId} {x y : Operand} {xs1 ys1 xs2 ys2 : List Value} (hg : o.guard = none) (ho : o.op = .binOp .neq t x y yt) (hE : EqN P t e ks1 ks2) (hx : ev F x = .agg (xs1 ++ xs2).toArray) (hy : ev F y = .agg (ys1 ++ ys2).toArray) (kx : xs1.map tyv = ks1) (ky : ys1.map tyv = ks1) (kx2 : xs2.map tyv = ks2) (ky2 : ys2.map tyv = ks2)
    (hk : WQ P n os l w K (updo F o.dst (.bool (!vEqs (xs1 ++ xs2) (ys1 ++ ys2))))) : WQ P n os (o :: l) w K F := by
  refine WQ.val hg (fun hok mm => ?_) hk
  generalize hw0 : w.drewN mm = w0
  clear hw0
  have e1 := okX_at (F := F) hok (x := x) (by simp [ho, Op.operands])
  have e2 := okX_at (F := F) hok (x := y) (by simp [ho, Op.operands])
  simp only [execOp, ho, e1, e2, hx, hy, Sem.run_bind, run_eqGuard_agg w0 _ _ _ _ _ _ hE.guard, run_neq_struct, run_eqN hE kx ky kx2 ky2 w0, Result.andThen_ok, Sem.run_pure]
theorem RQ.neN {o : Oper} {yt : TypeId} {x y : Operand} {xs1 ys1 xs2 ys2 : List Value} (hg : o.guard = none) (ho : o.op = .binOp .neq t x y yt) (hE : EqN P t e ks1 ks2) (hx : ev F x = .agg (xs1 ++ xs2).toArray) (hy : ev F y = .agg (ys1 ++ ys2).toArray) (kx : xs1.map tyv = ks1) (ky : ys1.map tyv = ks1) (kx2 : xs2.map tyv = ks2) (ky2 : ys2.map tyv = ks2)
    {d : Nat} (hd : o.dst = some d) (hfd : F d = (.bool (!vEqs (xs1 ++ xs2) (ys1 ++ ys2)))) : RQ P n os w F o := by
  refine RQ.val hg (fun hok mm => ?_) hd hfd
  generalize hw0 : w.drewN mm = w0
  clear hw0
  have e1 := okX_at (F := F) hok (x := x) (by simp [ho, Op.operands])
  have e2 := okX_at (F := F) hok (x := y) (by simp [ho, Op.operands])
  simp only [execOp, ho, e1, e2, hx, hy, Sem.run_bind, run_eqGuard_agg w0 _ _ _ _ _ _ hE.guard, run_neq_struct, run_eqN hE kx ky kx2 ky2 w0, Result.andThen_ok, Sem.run_pure]
end
end Go.V
/-! ## H6 -/
namespace Go.Proofs.YtlnlnebibgdjdaaGreat
open Go Go.V Go.RowKit
theorem eqn_93 : EqN Tryz.prog 93 77 [.int .i64, .int .i64] [.int .i64] := ⟨by kernel_rfl, by kernel_rfl, by kernel_rfl, by kernel_rfl, by kernel_rfl, by kernel_rfl, by kernel_rfl, by kernel_rfl, by kernel_rfl⟩
set_option maxRecDepth 8192 in
theorem sameO {g w : World} {L : List HP} (xs ys : List Or) (a b : Option Addr) (c d : Nat) (hl : xs.length ≤ 1000000000) (hS : St g (Sh 93 3 (or3 xs) a c :: Sh 93 3 (or3 ys) b d :: L) w) :
    Sp Tryz.prog 33 [.slice a (List.length (or3 xs)) c, .slice b (List.length (or3 ys)) d] w (fun v w' => v = .bool (decide (xs = ys)) ∧ St g (Sh 93 3 (or3 xs) a c :: Sh 93 3 (or3 ys) b d :: L) w') := by
  refine Sp.enter Tryz.func33 rfl (by kernel_rfl) (by kernel_rfl) ?_
  have _ := hl
  refine WC.seq ?_
  refine WC.region ?_
  refine WL.r 1 rfl ?_
  refine WL.nil ?_
  refine WC.seq ?_
  refine WC.seq ?_
  refine WC.region ?_
  have h1 := or3_len xs; have h2 := or3_len ys
  refine WL.r 5 rfl ?_
  refine WL.nil ?_
  refine WC.ifP rfl (fun cd1 => ?_) (fun cd1 => ?_)
  · refine WC.seq ?_
    refine WC.region ?_
    refine WL.r 1 rfl ?_
    refine WL.nil ?_
    refine WC.ret ?_
    refine ⟨[.bool false], rfl, ?_⟩
    exact ⟨congrArg Value.bool (decide_eq_false (fun h => by rw [h1, h2, h] at cd1; exact absurd rfl cd1)).symm, hS⟩
  · refine WC.skip ?_
    refine WC.seq ?_
    refine WC.seq ?_
    refine WC.region ?_
    refine WL.r 1 rfl ?_
    refine WL.nil ?_
    refine WC.block ?_
    refine WC.loop [0, 1, 5] (fun kM vs w => ∃ (k : Nat), vs = [.slice a (List.length (or3 xs)) c, .slice b (List.length (or3 ys)) d, .int .i64 (k : Int)] ∧ St g (Sh 93 3 (or3 xs) a c :: Sh 93 3 (or3 ys) b d :: L) w ∧ (k ≤ xs.length) ∧ (xs.take k = ys.take k) ∧ (xs.length - k) = kM) ((List.length xs) - 0) ⟨0, rfl, hS, (Nat.zero_le _), (rfl), rfl⟩ ?_
    clear hS; rintro _ _ w j ⟨k, rfl, hS, hk, he, rfl⟩
    refine WC.seq ?_
    refine WC.seq ?_
    refine WC.region ?_
    refine WL.r 4 rfl ?_
    refine WL.nil ?_
    as_aux_lemma =>
      refine WC.ifP rfl (fun cd2 => ?_) (fun cd2 => ?_)
      · refine WC.skip ?_
        refine WC.seq ?_
        refine WC.block ?_
        refine WC.seq ?_
        refine WC.plan [([0, 1, 4, 5, 2, 6, 3, 7, 8], none)] (by kernel_rfl) (by kernel_rfl) ?_
        refine WQ.r 4 rfl ?_
        obtain ⟨x, hx⟩ : ∃ x, xs[k]? = some x := ⟨_, List.getElem?_eq_getElem (by omega)⟩
        refine WQ.ix rfl rfl (i := (k : Int)) (k) el_94 rfl rfl (by omega) (len_of (or3_at hx)) (hS.rdS 0 rfl (or3_at hx)).1 ?_
        obtain ⟨y, hy⟩ : ∃ y, ys[k]? = some y := ⟨_, List.getElem?_eq_getElem (by omega)⟩
        refine WQ.ix rfl rfl (i := (k : Int)) (k) el_94 rfl rfl (by omega) (len_of (or3_at hy)) (hS.rdS 1 rfl (or3_at hy)).1 ?_
        refine WQ.ldC rfl rfl [.int .i64 x.1, .int .i64 x.2.1, .int .i64 x.2.2] ag_93 rfl (hS.rdS 0 rfl (or3_at hx)).2 ?_
        refine WQ.ldC rfl rfl [.int .i64 y.1, .int .i64 y.2.1, .int .i64 y.2.2] ag_93 rfl (hS.rdS 1 rfl (or3_at hy)).2 ?_
        refine WQ.neN rfl rfl eqn_93 (xs1 := [.int .i64 x.1, .int .i64 x.2.1]) (ys1 := [.int .i64 y.1, .int .i64 y.2.1]) (xs2 := [.int .i64 x.2.2]) (ys2 := [.int .i64 y.2.2]) rfl rfl rfl rfl rfl rfl ?_
        refine WQ.prop 25 rfl (bnot (band (dd _) (band (dd _) (dd _)))) ?_
        refine WQ.nil ?_
        intro m1
        replace hS := hS.drewN m1; generalize hwm1 : World.drewN _ _ = w at *; clear hwm1
        refine WC.ifP rfl (fun cd3 => ?_) (fun cd3 => ?_)
        · refine WC.seq ?_
          refine WC.region ?_
          refine WL.r 1 rfl ?_
          refine WL.nil ?_
          refine WC.ret ?_
          refine ⟨[.bool false], rfl, ?_⟩
          exact ⟨congrArg Value.bool (decide_eq_false (fun h => by subst h; rw [hx] at hy; cases hy; exact absurd ⟨rfl, rfl, rfl⟩ cd3)).symm, hS⟩
        · refine WC.skip ?_
          refine WC.region ?_
          refine WL.r 2 rfl ?_
          refine WL.nw 16 rfl (w64 (by omega)) ?_
          refine WL.r 1 rfl ?_
          refine WL.nil ?_
          exact ⟨_, by omega, k + 1, rfl, hS, (by omega), (by rw [List.take_add_one, List.take_add_one, he, hx, hy, show x = y from Prod.ext (Classical.not_not.1 cd3).1 (Prod.ext (Classical.not_not.1 cd3).2.1 (Classical.not_not.1 cd3).2.2)]), rfl⟩
      · refine WC.exit ?_
        refine WC.seq ?_
        refine WC.region ?_
        refine WL.r 1 rfl ?_
        refine WL.nil ?_
        refine WC.ret ?_
        refine ⟨[.bool true], rfl, ?_⟩
        exact ⟨congrArg Value.bool (decide_eq_true (by rw [← List.take_of_length_le (i := k) (l := xs) (by omega), he, List.take_of_length_le (by omega)])).symm, hS⟩
def ex27 : List Kvs := [[(1, 5)], [(1, 5), (2, 6)], [(1, 7), (2, 6)]]
theorem ex27_ok : LOk ex27 := by
  intro l hl
  simp only [ex27, List.mem_cons, List.not_mem_nil, or_false] at hl
  rcases hl with rfl | rfl | rfl <;> exact ⟨by unfold Srt; decide, by decide, by unfold kvR; decide⟩
theorem ex27_or : oAll (hev minI maxI ex27 3) = [(1, 7, 2), (2, 6, 1)] := by
  have h0 : dif [] [((1 : Int), (5 : Int))] = [(1, 1, 0, 5)] := by simp [dif]
  have h1 : dif [((1 : Int), (5 : Int))] [(1, 5), (2, 6)] = [(1, 2, 0, 6)] := by simp [dif]
  have h2 : dif [((1 : Int), (5 : Int)), (2, 6)] [(1, 7), (2, 6)] = [(3, 1, 5, 7)] := by simp [dif]
  have d0 : dA minI maxI ex27 0 = [(1, 1, 0, 5)] := by show inR minI maxI (dif [] [((1 : Int), (5 : Int))]) = _; rw [h0]; rfl
  have d1 : dA minI maxI ex27 1 = [(1, 2, 0, 6)] := by show inR minI maxI (dif [((1 : Int), (5 : Int))] [(1, 5), (2, 6)]) = _; rw [h1]; rfl
  have d2 : dA minI maxI ex27 2 = [(3, 1, 5, 7)] := by show inR minI maxI (dif [((1 : Int), (5 : Int)), (2, 6)] [(1, 7), (2, 6)]) = _; rw [h2]; rfl
  rw [hev_succ, hev_succ, hev_succ, d0, d1, d2]
  decide
theorem ex27_t {A : AM} {i1 i2 i3 : Int} {t1 t2 t3 : Tr} (h1 : Is A t1 i1) (h2 : Is A t2 i2) (h3 : Is A t3 i3) (o1 : t1.ok) (o2 : t2.ok) (o3 : t3.ok) (l1 : t1.ls = [(1, 5)]) (l2 : t2.ls = [(1, 5), (2, 6)]) (l3 : t3.ls = [(1, 7), (2, 6)]) : RTs A ex27 [i1, i2, i3] := ⟨rfl, fun i r hr => by
  match i, hr with
  | 0, hr => exact ⟨t1, Option.some.inj hr ▸ h1, o1, l1⟩
  | 1, hr => exact ⟨t2, Option.some.inj hr ▸ h2, o2, l2⟩
  | 2, hr => exact ⟨t3, Option.some.inj hr ▸ h3, o3, l3⟩
  | i + 3, hr => simp at hr⟩
set_option maxRecDepth 8192 in
theorem awake27_spec {g w : World} {L : List HP} (hS : St g (L) w) :
    Sp Tryz.prog 27 [] w (fun v w' => v = .bool true ∧ St g (L) w') := by
  refine Sp.enter Tryz.func27 rfl (by kernel_rfl) (by kernel_rfl) ?_
  refine WC.seq ?_
  refine WC.region ?_
  refine WL.r 1 rfl ?_
  refine WL.nil ?_
  refine WC.seq ?_
  refine WC.region ?_
  refine WL.call rfl rfl (ar_new_ok (cap := 20) (hc := (by omega)) (hS := hS)) rfl ?_
  clear hS; rintro _ w ⟨a1, rfl, hS⟩
  replace hS : St g (Arn a1 (AM.new 20) :: L) w := hS
  refine WL.r 5 rfl ?_
  refine WL.nil ?_
  refine WC.seq ?_
  refine WC.seq ?_
  refine WC.region ?_
  refine WL.r 2 rfl ?_
  refine WL.rG 4 rfl (fun j => ?_)
  refine WL.nil ?_
  refine WC.ifF rfl (by rfl) ?_
  refine WC.skip ?_
  refine WC.seq ?_
  refine WC.region ?_
  have hrf := AM.new_rf (cap := 20) (by omega); have hfr : (AM.new 20).s.free = 20 := SM.new_free 20
  refine WL.r 1 rfl ?_
  refine WL.build rfl rfl (cs := [.int .i64 1, .int .i64 5]) zv_77 rfl rfl ?_
  refine WL.lit rfl rfl (en2 [(1, 5)]) el_49 hS (by exact ⟨rfl, rfl⟩) (en2_ok _) rfl (by decide) (fun b1 w hS => ?_)
  replace hS := (hS.at_ 0 rfl).share
  replace hS : St g (Sh 77 2 (en2 [(1, 5)]) (some ⟨b1, 0, none⟩) (List.length (en2 [(1, 5)])) :: Arn a1 (AM.new 20) :: L) w := hS
  refine WL.call rfl rfl (kt_plant (a := a1) (A := AM.new 20) (R := []) (l := [(1, 5)]) (u := some ⟨b1, 0, none⟩) (d := List.length (en2 [(1, 5)])) (q := 0) (hA := hrf) (hf := (by rw [hfr]; decide)) (hl := (by decide)) (hz := (by decide)) (hq := (by omega)) (hS := (hS.sel 2 [1, 0] rfl))) rfl ?_
  clear hS; rintro _ w ⟨A1, i1, t1, rfl, hS, f1, f2, f3⟩
  replace hS : St g (Arn a1 A1 :: Sh 77 2 (en2 [(1, 5)]) (some ⟨b1, 0, none⟩) (List.length (en2 [(1, 5)])) :: L) w := hS
  refine WL.r 5 rfl ?_
  refine WL.nil ?_
  as_aux_lemma =>
    refine WC.seq ?_
    refine WC.region ?_
    have hr1 := f1.fr; rw [hfr] at hr1; simp only [List.length_cons, List.length_nil] at hr1
    refine WL.r 1 rfl ?_
    refine WL.build rfl rfl (cs := [.int .i64 1, .int .i64 5]) zv_77 rfl rfl ?_
    refine WL.build rfl rfl (cs := [.int .i64 2, .int .i64 6]) zv_77 rfl rfl ?_
    refine WL.lit rfl rfl (en2 [(1, 5), (2, 6)]) el_49 hS (by exact ⟨rfl, rfl, rfl, rfl⟩) (en2_ok _) rfl (by decide) (fun b2 w hS => ?_)
    replace hS := (hS.at_ 0 rfl).share
    replace hS : St g (Sh 77 2 (en2 [(1, 5), (2, 6)]) (some ⟨b2, 0, none⟩) (List.length (en2 [(1, 5), (2, 6)])) :: Arn a1 A1 :: Sh 77 2 (en2 [(1, 5)]) (some ⟨b1, 0, none⟩) (List.length (en2 [(1, 5)])) :: L) w := hS
    refine WL.call rfl rfl (kt_plant (a := a1) (A := A1) (R := [i1]) (l := [(1, 5), (2, 6)]) (u := some ⟨b2, 0, none⟩) (d := List.length (en2 [(1, 5), (2, 6)])) (q := 0) (hA := f1.ref) (hf := (by simp only [List.length_cons, List.length_nil]; omega)) (hl := (by decide)) (hz := (by simp)) (hq := (by omega)) (hS := (hS.sel 2 [1, 0] rfl))) rfl ?_
    clear hS; rintro _ w ⟨A2, i2, t2, rfl, hS, f4, f5, f6⟩
    replace hS : St g (Arn a1 A2 :: Sh 77 2 (en2 [(1, 5), (2, 6)]) (some ⟨b2, 0, none⟩) (List.length (en2 [(1, 5), (2, 6)])) :: Sh 77 2 (en2 [(1, 5)]) (some ⟨b1, 0, none⟩) (List.length (en2 [(1, 5)])) :: L) w := hS
    refine WL.r 5 rfl ?_
    refine WL.nil ?_
    refine WC.seq ?_
    refine WC.region ?_
    have hr2 := f4.fr; simp only [List.length_cons, List.length_nil] at hr2
    refine WL.r 1 rfl ?_
    refine WL.build rfl rfl (cs := [.int .i64 1, .int .i64 7]) zv_77 rfl rfl ?_
    refine WL.build rfl rfl (cs := [.int .i64 2, .int .i64 6]) zv_77 rfl rfl ?_
    refine WL.lit rfl rfl (en2 [(1, 7), (2, 6)]) el_49 hS (by exact ⟨rfl, rfl, rfl, rfl⟩) (en2_ok _) rfl (by decide) (fun b3 w hS => ?_)
    replace hS := (hS.at_ 0 rfl).share
    replace hS : St g (Sh 77 2 (en2 [(1, 7), (2, 6)]) (some ⟨b3, 0, none⟩) (List.length (en2 [(1, 7), (2, 6)])) :: Arn a1 A2 :: Sh 77 2 (en2 [(1, 5), (2, 6)]) (some ⟨b2, 0, none⟩) (List.length (en2 [(1, 5), (2, 6)])) :: Sh 77 2 (en2 [(1, 5)]) (some ⟨b1, 0, none⟩) (List.length (en2 [(1, 5)])) :: L) w := hS
    refine WL.call rfl rfl (kt_plant (a := a1) (A := A2) (R := [i2, i1]) (l := [(1, 7), (2, 6)]) (u := some ⟨b3, 0, none⟩) (d := List.length (en2 [(1, 7), (2, 6)])) (q := 0) (hA := f4.ref) (hf := (by simp only [List.length_cons, List.length_nil]; omega)) (hl := (by decide)) (hz := (by simp)) (hq := (by omega)) (hS := (hS.sel 2 [1, 0] rfl))) rfl ?_
    clear hS; rintro _ w ⟨A3, i3, t3, rfl, hS, f7, f8, f9⟩
    replace hS : St g (Arn a1 A3 :: Sh 77 2 (en2 [(1, 7), (2, 6)]) (some ⟨b3, 0, none⟩) (List.length (en2 [(1, 7), (2, 6)])) :: Sh 77 2 (en2 [(1, 5), (2, 6)]) (some ⟨b2, 0, none⟩) (List.length (en2 [(1, 5), (2, 6)])) :: Sh 77 2 (en2 [(1, 5)]) (some ⟨b1, 0, none⟩) (List.length (en2 [(1, 5)])) :: L) w := hS
    refine WL.r 5 rfl ?_
    refine WL.nil ?_
    as_aux_lemma =>
      refine WC.seq ?_
      refine WC.region ?_
      have hT := ex27_t (f7.kp i1 (by simp) t1 (f4.kp i1 (by simp) t1 f1.is)) (f7.kp i2 (by simp) t2 f4.is) f7.is f2 f5 f8 f3 f6 f9
      refine WL.r 4 rfl ?_
      refine WL.lit rfl rfl (u32s [i1, i2, i3]) el_32 hS (by exact ⟨rfl, rfl, rfl, rfl, rfl, rfl⟩) (u32s_ok _) rfl (by decide) (fun b4 w hS => ?_)
      replace hS := (hS.at_ 0 rfl).share
      replace hS : St g (Sh 64 1 (u32s [i1, i2, i3]) (some ⟨b4, 0, none⟩) (List.length (u32s [i1, i2, i3])) :: Arn a1 A3 :: Sh 77 2 (en2 [(1, 7), (2, 6)]) (some ⟨b3, 0, none⟩) (List.length (en2 [(1, 7), (2, 6)])) :: Sh 77 2 (en2 [(1, 5), (2, 6)]) (some ⟨b2, 0, none⟩) (List.length (en2 [(1, 5), (2, 6)])) :: Sh 77 2 (en2 [(1, 5)]) (some ⟨b1, 0, none⟩) (List.length (en2 [(1, 5)])) :: L) w := hS
      refine WL.call rfl rfl (hi_orig (a := a1) (A := A3) (R := [i3, i2, i1]) (Ls := ex27) (rs := [i1, i2, i3]) (u := some ⟨b4, 0, none⟩) (d := List.length (u32s [i1, i2, i3])) (hA := f7.ref) (hT := hT) (hL := ex27_ok) (hn := (by simp)) (hS := (hS.sel 2 [1, 0] rfl))) rfl ?_
      clear hS; rintro _ w ⟨a2, c1, rfl, hS⟩
      replace hS : St g (Own 93 3 (or3 (oAll (hev minI maxI ex27 (List.length [i1, i2, i3])))) a2 c1 :: Arn a1 A3 :: Sh 64 1 (u32s [i1, i2, i3]) (some ⟨b4, 0, none⟩) (List.length (u32s [i1, i2, i3])) :: Sh 77 2 (en2 [(1, 7), (2, 6)]) (some ⟨b3, 0, none⟩) (List.length (en2 [(1, 7), (2, 6)])) :: Sh 77 2 (en2 [(1, 5), (2, 6)]) (some ⟨b2, 0, none⟩) (List.length (en2 [(1, 5), (2, 6)])) :: Sh 77 2 (en2 [(1, 5)]) (some ⟨b1, 0, none⟩) (List.length (en2 [(1, 5)])) :: L) w := hS
      refine WL.r 1 rfl ?_
      refine WL.nil ?_
      refine WC.seq ?_
      refine WC.region ?_
      have ho : oAll (hev minI maxI ex27 [i1, i2, i3].length) = [(1, 7, 2), (2, 6, 1)] := ex27_or
      refine WL.r 2 rfl ?_
      refine WL.ung rfl rfl rfl ?_
      refine WL.r 3 rfl ?_
      refine WL.ung rfl rfl rfl ?_
      refine WL.r 3 rfl ?_
      refine WL.ung rfl rfl rfl ?_
      refine WL.r 1 rfl ?_
      refine WL.ung rfl rfl rfl ?_
      refine WL.build rfl rfl (cs := [.int .i64 1, .int .i64 7]) zv_77 rfl rfl ?_
      refine WL.ung rfl rfl rfl ?_
      refine WL.build rfl rfl (cs := [.int .i64 1, .int .i64 7, .int .i64 2]) zv_93 rfl rfl ?_
      refine WL.ung rfl rfl rfl ?_
      refine WL.build rfl rfl (cs := [.int .i64 2, .int .i64 6]) zv_77 rfl rfl ?_
      refine WL.ung rfl rfl rfl ?_
      refine WL.build rfl rfl (cs := [.int .i64 2, .int .i64 6, .int .i64 1]) zv_93 rfl rfl ?_
      refine WL.ung rfl rfl rfl ?_
      refine WL.lit rfl rfl (or3 [(1, 7, 2), (2, 6, 1)]) el_94 hS (by exact ⟨rfl, rfl, rfl, rfl⟩) (or3_ok _) rfl (by decide) (fun b5 w hS => ?_)
      refine WL.ung rfl rfl rfl ?_
      replace hS := (hS.at_ 1 rfl).share
      replace hS : St g (Sh 93 3 (or3 (oAll (hev minI maxI ex27 (List.length [i1, i2, i3])))) a2 c1 :: Own 93 3 (or3 [(1, 7, 2), (2, 6, 1)]) (some ⟨b5, 0, none⟩) (List.length (or3 [(1, 7, 2), (2, 6, 1)])) :: Arn a1 A3 :: Sh 64 1 (u32s [i1, i2, i3]) (some ⟨b4, 0, none⟩) (List.length (u32s [i1, i2, i3])) :: Sh 77 2 (en2 [(1, 7), (2, 6)]) (some ⟨b3, 0, none⟩) (List.length (en2 [(1, 7), (2, 6)])) :: Sh 77 2 (en2 [(1, 5), (2, 6)]) (some ⟨b2, 0, none⟩) (List.length (en2 [(1, 5), (2, 6)])) :: Sh 77 2 (en2 [(1, 5)]) (some ⟨b1, 0, none⟩) (List.length (en2 [(1, 5)])) :: L) w := hS
      replace hS := (hS.at_ 1 rfl).share
      replace hS : St g (Sh 93 3 (or3 [(1, 7, 2), (2, 6, 1)]) (some ⟨b5, 0, none⟩) (List.length (or3 [(1, 7, 2), (2, 6, 1)])) :: Sh 93 3 (or3 (oAll (hev minI maxI ex27 (List.length [i1, i2, i3])))) a2 c1 :: Arn a1 A3 :: Sh 64 1 (u32s [i1, i2, i3]) (some ⟨b4, 0, none⟩) (List.length (u32s [i1, i2, i3])) :: Sh 77 2 (en2 [(1, 7), (2, 6)]) (some ⟨b3, 0, none⟩) (List.length (en2 [(1, 7), (2, 6)])) :: Sh 77 2 (en2 [(1, 5), (2, 6)]) (some ⟨b2, 0, none⟩) (List.length (en2 [(1, 5), (2, 6)])) :: Sh 77 2 (en2 [(1, 5)]) (some ⟨b1, 0, none⟩) (List.length (en2 [(1, 5)])) :: L) w := hS
      refine WL.call rfl rfl (sameO (xs := oAll (hev minI maxI ex27 (List.length [i1, i2, i3]))) (ys := [(1, 7, 2), (2, 6, 1)]) (a := a2) (b := some ⟨b5, 0, none⟩) (c := c1) (d := List.length (or3 [(1, 7, 2), (2, 6, 1)])) (hl := (by rw [ho]; decide)) (hS := (hS.sel 2 [1, 0] rfl))) rfl ?_
      clear hS; rintro _ w ⟨rfl, hS⟩
      replace hS : St g (Sh 93 3 (or3 (oAll (hev minI maxI ex27 (List.length [i1, i2, i3])))) a2 c1 :: Sh 93 3 (or3 [(1, 7, 2), (2, 6, 1)]) (some ⟨b5, 0, none⟩) (List.length (or3 [(1, 7, 2), (2, 6, 1)])) :: Arn a1 A3 :: Sh 64 1 (u32s [i1, i2, i3]) (some ⟨b4, 0, none⟩) (List.length (u32s [i1, i2, i3])) :: Sh 77 2 (en2 [(1, 7), (2, 6)]) (some ⟨b3, 0, none⟩) (List.length (en2 [(1, 7), (2, 6)])) :: Sh 77 2 (en2 [(1, 5), (2, 6)]) (some ⟨b2, 0, none⟩) (List.length (en2 [(1, 5), (2, 6)])) :: Sh 77 2 (en2 [(1, 5)]) (some ⟨b1, 0, none⟩) (List.length (en2 [(1, 5)])) :: L) w := hS
      refine WL.r 2 rfl ?_
      refine WL.nil ?_
      as_aux_lemma =>
        refine WC.ret ?_
        refine ⟨[.bool (decide ((oAll (hev minI maxI ex27 (List.length [i1, i2, i3]))) = [(1, 7, 2), (2, 6, 1)]))], rfl, ?_⟩
        replace hS := (hS.sel 7 [] rfl)
        exact ⟨by rw [ho]; rfl, hS⟩
end Go.Proofs.YtlnlnebibgdjdaaGreat
/-! ## H4 -/
namespace Go.Proofs.YtlnlnebibgdjdaaGreat
open Go Go.V Go.RowKit
def logC (k : Int) (o n : Option Int) : List Chg := if (¬ ((o.isSome == n.isSome) = true)) ∨ o.getD 0 ≠ n.getD 0 then [(if o.isSome = false then 1 else if n.isSome = false then 2 else 3, k, o.getD 0, n.getD 0)] else []
theorem opt_same {o n : Option Int} : ((¬ ((o.isSome == n.isSome) = true)) ∨ o.getD 0 ≠ n.getD 0) ↔ o ≠ n := by
  cases o <;> cases n <;> simp
theorem asc_one : ∀ {D : List Chg} {c : Chg}, (D.Pairwise fun a b => a.2.1 < b.2.1) → c ∈ D → inR c.2.1 c.2.1 D = [c]
  | [], _, _, h => by cases h
  | d :: D, c, hd, hc => by
    obtain ⟨h1, h2⟩ := List.pairwise_cons.1 hd
    unfold inR
    rcases List.mem_cons.1 hc with rfl | hc
    · rw [List.filter_cons_of_pos (by simp), List.filter_eq_nil_iff.2 fun x hx => by have := h1 x hx; simp; omega]
    · have h3 := h1 c hc
      rw [List.filter_cons_of_neg (by simp; omega)]
      exact asc_one h2 hc
theorem inR_log {l r : Kvs} (hl : Srt l) (hr : Srt r) (k : Int) : inR k k (dif l r) = logC k (lget k l) (lget k r) := by
  by_cases h : lget k l = lget k r
  · rw [(inR_one hl hr k).2 h]
    unfold logC
    rw [if_neg fun hc => opt_same.1 hc h]
  · obtain ⟨c, hc, rfl⟩ := (dif_get l r hl hr k).2 h
    rw [asc_one (dif_asc l r hl hr) hc]
    unfold logC
    rw [if_pos (opt_same.2 h)]
    have hk := dif_ok l r hl hr c hc
    obtain ⟨c1, c2, c3, c4⟩ := c
    have h1 := hk.new
    have h2 := hk.old
    have z1 := hk.z1
    have z2 := hk.z2
    simp only at h1 h2 z1 z2
    rcases hk.kd with e | e | e <;> simp only at e <;> subst e
    · rw [h1, h2]; simp [z1 rfl]
    · rw [h1, h2]; simp [z2 rfl]
    · rw [h1, h2]; simp
end Go.Proofs.YtlnlnebibgdjdaaGreat
/-! ## E1 -/
namespace Go.Proofs.YtlnlnebibgdjdaaGreat
open Go Go.V Go.RowKit
theorem lget_hit {l : Kvs} {j : Nat} {e : Int × Int} {k : Int} (he : l[j]? = some e) (hk : e.1 = k) (hn : ∀ x ∈ l.take j, x.1 ≠ k) : lget k l = some e.2 := by
  unfold lget
  have hs : l = l.take j ++ e :: l.drop (j + 1) := by
    obtain ⟨h1, h2⟩ := List.getElem?_eq_some_iff.1 he
    rw [← h2, ← List.drop_eq_getElem_cons h1, List.take_append_drop]
  rw [hs, List.find?_append, List.find?_eq_none.2 fun x hx h => hn x hx (of_decide_eq_true h), List.find?_cons_of_pos (by simpa using hk)]; rfl
theorem take_ne {l : Kvs} {j : Nat} {e : Int × Int} {k : Int} (he : l[j]? = some e) (hk : ¬ e.1 = k) (hn : ∀ x ∈ l.take j, x.1 ≠ k) : ∀ x ∈ l.take (j + 1), x.1 ≠ k := fun x hx => by
  rw [List.take_add_one, he] at hx
  rcases List.mem_append.1 hx with hx | hx
  · exact hn x hx
  · have hx2 : x ∈ [e] := hx
    rw [List.mem_singleton.1 hx2]; exact hk
set_option maxRecDepth 8192 in
theorem ref_get {g w : World} {L : List HP} (l : Kvs) (u : Option Addr) (d : Nat) (k : Int) (hl : l.length ≤ 1000000) (hS : St g (Sh 77 2 (en2 l) u d :: L) w) :
    Sp Tryz.prog 105 [.slice u (List.length (en2 l)) d, .int .i64 k] w (fun v w' => v = .tuple #[.int .i64 ((lget k l).getD 0), .bool (lget k l).isSome] ∧ St g (Sh 77 2 (en2 l) u d :: L) w') := by
  refine Sp.enter Tryz.func105 rfl (by kernel_rfl) (by kernel_rfl) ?_
  have _ := hl
  refine WC.seq ?_
  refine WC.region ?_
  refine WL.r 2 rfl ?_
  refine WL.nil ?_
  refine WC.seq ?_
  refine WC.seq ?_
  refine WC.region ?_
  have hll := en2_len l
  refine WL.r 1 rfl ?_
  refine WL.nil ?_
  refine WC.block ?_
  refine WC.loop [0, 1, 6] (fun kM vs w => ∃ (j : Nat), vs = [.slice u (List.length (en2 l)) d, .int .i64 k, .int .i64 (j : Int)] ∧ St g (Sh 77 2 (en2 l) u d :: L) w ∧ (j ≤ l.length) ∧ (∀ x ∈ l.take j, x.1 ≠ k) ∧ (l.length - j) = kM) ((List.length l) - 0) ⟨0, rfl, hS, (Nat.zero_le _), (fun x hx => by simp at hx), rfl⟩ ?_
  clear hS; rintro _ _ w j ⟨j, rfl, hS, hj, hn, rfl⟩
  refine WC.seq ?_
  refine WC.seq ?_
  refine WC.region ?_
  have hll := en2_len l
  refine WL.r 4 rfl ?_
  refine WL.nil ?_
  refine WC.ifP rfl (fun cd1 => ?_) (fun cd1 => ?_)
  · refine WC.skip ?_
    refine WC.seq ?_
    refine WC.block ?_
    refine WC.seq ?_
    refine WC.region ?_
    refine WL.r 2 rfl ?_
    obtain ⟨e, he⟩ : ∃ e, l[j]? = some e := ⟨_, List.getElem?_eq_getElem (by omega)⟩
    refine WL.ix rfl rfl (i := (j : Int)) (j) el_49 rfl rfl (by omega) (by omega) (hS.rdS 0 rfl (en2_at he)).1 ?_
    refine WL.run 4 [.int .i64 e.1] rfl (by exact (hS.rdS 0 rfl (en2_at he)).2 0 _ rfl) ?_
    refine WL.nil ?_
    as_aux_lemma =>
      refine WC.ifP rfl (fun hk => ?_) (fun hk => ?_)
      · refine WC.seq ?_
        refine WC.region ?_
        refine WL.r 2 rfl ?_
        refine WL.ix rfl rfl (i := (j : Int)) (j) el_49 rfl rfl (by omega) (by omega) (hS.rdS 0 rfl (en2_at he)).1 ?_
        refine WL.run 4 [.int .i64 e.2] rfl (by exact (hS.rdS 0 rfl (en2_at he)).2 1 _ rfl) ?_
        refine WL.nil ?_
        refine WC.ret ?_
        refine ⟨[.int .i64 e.2, .bool true], ⟨rfl, rfl⟩, ?_⟩
        rw [lget_hit he hk hn]; exact ⟨rfl, hS⟩
      · refine WC.skip ?_
        refine WC.region ?_
        refine WL.r 2 rfl ?_
        refine WL.nw 12 rfl (w64 (by omega)) ?_
        refine WL.r 1 rfl ?_
        refine WL.nil ?_
        exact ⟨_, by omega, j + 1, rfl, hS, (by omega), (take_ne he hk hn), rfl⟩
  · refine WC.exit ?_
    refine WC.seq ?_
    refine WC.region ?_
    refine WL.r 2 rfl ?_
    refine WL.nil ?_
    as_aux_lemma =>
      refine WC.ret ?_
      refine ⟨[.int .i64 0, .bool false], ⟨rfl, rfl⟩, ?_⟩
      have hj9 : j = l.length := (by omega); subst hj9; rw [List.take_length] at hn; rw [lget_none hn]; exact ⟨rfl, hS⟩
def kacc (b l : Kvs) : Kvs := l.foldl (fun a x => lins x.1 0 a) b
theorem kacc_snoc {b l : Kvs} {j : Nat} {e : Int × Int} (he : l[j]? = some e) : kacc b (l.take (j + 1)) = lins e.1 0 (kacc b (l.take j)) := by
  unfold kacc; rw [List.take_add_one, he, List.foldl_append]; rfl
theorem kacc_srt : ∀ {l b : Kvs}, Srt b → Srt (kacc b l)
  | [], _, h => h
  | _ :: l, _, h => kacc_srt (l := l) (lins_srt h)
theorem kacc_len : ∀ {l b : Kvs}, Srt b → (kacc b l).length ≤ b.length + l.length
  | [], _, _ => Nat.le_refl _
  | x :: l, b, h => by
    have h1 := kacc_len (l := l) (lins_srt (k := x.1) (v := 0) h)
    have h2 := lins_len (k := x.1) (v := 0) h
    show (kacc (lins x.1 0 b) l).length ≤ _
    rw [List.length_cons]
    split at h2 <;> omega
theorem lins_key {k v z : Int} {l : Kvs} : (∃ x ∈ lins k v l, x.1 = z) ↔ z = k ∨ ∃ x ∈ l, x.1 = z := by
  unfold lins
  constructor
  · rintro ⟨x, hx, rfl⟩
    rcases List.mem_append.1 hx with hx | hx
    · exact .inr ⟨x, (List.mem_filter.1 hx).1, rfl⟩
    · rcases List.mem_cons.1 hx with rfl | hx
      · exact .inl rfl
      · exact .inr ⟨x, (List.mem_filter.1 hx).1, rfl⟩
  · rintro (rfl | ⟨x, hx, rfl⟩)
    · exact ⟨(z, v), List.mem_append_right _ (List.mem_cons_self ..), rfl⟩
    · rcases Int.lt_trichotomy x.1 k with h | h | h
      · exact ⟨x, List.mem_append_left _ (List.mem_filter.2 ⟨hx, decide_eq_true h⟩), rfl⟩
      · exact ⟨(k, v), List.mem_append_right _ (List.mem_cons_self ..), h.symm⟩
      · exact ⟨x, List.mem_append_right _ (List.mem_cons_of_mem _ (List.mem_filter.2 ⟨hx, decide_eq_true h⟩)), rfl⟩
theorem kacc_key {z : Int} : ∀ {l b : Kvs}, (∃ x ∈ kacc b l, x.1 = z) ↔ (∃ x ∈ b, x.1 = z) ∨ ∃ x ∈ l, x.1 = z
  | [], b => ⟨fun h => .inl h, fun h => h.elim id fun ⟨_, hx, _⟩ => by cases hx⟩
  | x :: l, b => by
    refine (kacc_key (l := l) (b := lins x.1 0 b)).trans ?_
    rw [lins_key]
    constructor
    · rintro ((rfl | h) | ⟨y, hy, h⟩)
      · exact .inr ⟨x, List.mem_cons_self .., rfl⟩
      · exact .inl h
      · exact .inr ⟨y, List.mem_cons_of_mem _ hy, h⟩
    · rintro (h | ⟨y, hy, rfl⟩)
      · exact .inl (.inr h)
      · rcases List.mem_cons.1 hy with rfl | hy
        · exact .inl (.inl rfl)
        · exact .inr ⟨y, hy, rfl⟩
def keys3 (l m n : Kvs) : List Int := (kacc (kacc (kacc [] l) m) n).map (·.1)
theorem keys3_asc (l m n : Kvs) : (keys3 l m n).Pairwise (· < ·) := List.pairwise_map.2 (kacc_srt (kacc_srt (kacc_srt List.Pairwise.nil)))
theorem keys3_len (l m n : Kvs) : (keys3 l m n).length ≤ l.length + m.length + n.length := by
  have h0 : Srt ([] : Kvs) := List.Pairwise.nil
  have h1 := kacc_len (l := l) h0
  have h2 := kacc_len (l := m) (kacc_srt (l := l) h0)
  have h3 := kacc_len (l := n) (kacc_srt (l := m) (kacc_srt (l := l) h0))
  unfold keys3
  rw [List.length_map]
  simp only [List.length_nil] at h1
  omega
theorem keys3_mem {l m n : Kvs} {z : Int} : z ∈ keys3 l m n ↔ (∃ x ∈ l, x.1 = z) ∨ (∃ x ∈ m, x.1 = z) ∨ ∃ x ∈ n, x.1 = z := by
  unfold keys3
  rw [List.mem_map, kacc_key, kacc_key, kacc_key]
  constructor
  · rintro (((⟨_, h, _⟩ | h) | h) | h)
    · cases h
    · exact .inl h
    · exact .inr (.inl h)
    · exact .inr (.inr h)
  · rintro (h | h | h)
    · exact .inl (.inl (.inr h))
    · exact .inl (.inr h)
    · exact .inr h
set_option maxHeartbeats 1000000 in
set_option maxRecDepth 8192 in
theorem ref_keys {g w : World} {L : List HP} (l m n : Kvs) (ua ub uc : Option Addr) (da db dc : Nat) (hl : l.length ≤ 1000) (hm : m.length ≤ 1000) (hn : n.length ≤ 1000) (hS : St g (Sh 77 2 (en2 l) ua da :: Sh 77 2 (en2 m) ub db :: Sh 77 2 (en2 n) uc dc :: L) w) :
    Sp Tryz.prog 164 [.slice ua (List.length (en2 l)) da, .slice ub (List.length (en2 m)) db, .slice uc (List.length (en2 n)) dc] w (fun v w' => ∃ (a2 : Option Addr) (c2 : Nat), v = .slice a2 (List.length (i64s (keys3 l m n))) c2 ∧ St g (Own 2 1 (i64s (keys3 l m n)) a2 c2 :: Sh 77 2 (en2 l) ua da :: Sh 77 2 (en2 m) ub db :: Sh 77 2 (en2 n) uc dc :: L) w') := by
  refine Sp.enter Tryz.func164 rfl (by kernel_rfl) (by kernel_rfl) ?_
  have _ := hn
  have _ := hm
  have _ := hl
  refine WC.seq ?_
  refine WC.region ?_
  refine WL.r 1 rfl ?_
  refine WL.nil ?_
  refine WC.seq ?_
  refine WC.region ?_
  refine WL.r 1 rfl ?_
  refine WL.nil ?_
  refine WC.seq ?_
  refine WC.seq ?_
  refine WC.region ?_
  have h1 := en2_len l; have h2 := en2_len m; have h3 := en2_len n; have h0 : Srt ([] : Kvs) := List.Pairwise.nil
  refine WL.r 1 rfl ?_
  refine WL.nil ?_
  refine WC.block ?_
  replace hS := hS.nil_ 77 2
  refine WC.loop [0, 1, 2, 6, 7, 8] (fun kM vs w => ∃ (j : Nat) (acc : Kvs) (va : Option Addr) (vc : Nat), vs = [.slice ua (List.length (en2 l)) da, .slice ub (List.length (en2 m)) db, .slice uc (List.length (en2 n)) dc, .slice none 0 0, .slice va (List.length (en2 acc)) vc, .int .i64 (j : Int)] ∧ St g (Own 77 2 (en2 acc) va vc :: Sh 77 2 (en2 l) ua da :: Sh 77 2 (en2 m) ub db :: Sh 77 2 (en2 n) uc dc :: L) w ∧ (j ≤ l.length) ∧ (acc = kacc [] (l.take j)) ∧ (l.length - j) = kM) ((List.length l) - 0) ⟨0, [], none, 0, rfl, hS, (Nat.zero_le _), (rfl), rfl⟩ ?_
  clear hS; rintro _ _ w j ⟨j, acc, va, vc, rfl, hS, hj, ha, rfl⟩
  refine WC.seq ?_
  refine WC.seq ?_
  refine WC.region ?_
  have h1 := en2_len l; have h2 := en2_len m; have h3 := en2_len n; have h0 : Srt ([] : Kvs) := List.Pairwise.nil
  refine WL.r 4 rfl ?_
  refine WL.nil ?_
  as_aux_lemma =>
    refine WC.ifP rfl (fun cd1 => ?_) (fun cd1 => ?_)
    · refine WC.skip ?_
      refine WC.seq ?_
      refine WC.block ?_
      refine WC.region ?_
      refine WL.r 3 rfl ?_
      obtain ⟨e, he⟩ : ∃ e, l[j]? = some e := ⟨_, List.getElem?_eq_getElem (by omega)⟩; have hs1 : Srt acc := (by rw [ha]; exact kacc_srt h0); have hal : acc.length ≤ 1000 := (by have := kacc_len (l := l.take j) h0; rw [← ha, List.length_take] at this; simp only [List.length_nil] at this; omega)
      refine WL.ix rfl rfl (i := (j : Int)) (j) el_49 rfl rfl (by omega) (by omega) (hS.rdS 1 rfl (en2_at he)).1 ?_
      refine WL.run 2 [.int .i64 e.1] rfl (by exact (hS.rdS 1 rfl (en2_at he)).2 0 _ rfl) ?_
      refine WL.build rfl rfl (cs := [.int .i64 e.1, .int .i64 0]) zv_77 rfl rfl ?_
      replace hS := (hS.at_ 0 rfl).share
      replace hS : St g (Sh 77 2 (en2 acc) va vc :: Sh 77 2 (en2 l) ua da :: Sh 77 2 (en2 m) ub db :: Sh 77 2 (en2 n) uc dc :: L) w := hS
      refine WL.call rfl rfl (ref_ins (l := acc) (u := va) (d := vc) (k := e.1) (z := 0) (hs := hs1) (hl := (by omega)) (hS := hS)) rfl ?_
      clear hS; rintro _ w ⟨a1, c1, rfl, hS⟩
      replace hS : St g (Own 77 2 (en2 (lins e.1 0 acc)) a1 c1 :: Sh 77 2 (en2 acc) va vc :: Sh 77 2 (en2 l) ua da :: Sh 77 2 (en2 m) ub db :: Sh 77 2 (en2 n) uc dc :: L) w := hS
      refine WL.r 1 rfl ?_
      refine WL.nil ?_
      refine WC.region ?_
      refine WL.r 2 rfl ?_
      refine WL.nw 18 rfl (w64 (by omega)) ?_
      refine WL.r 1 rfl ?_
      refine WL.nil ?_
      exact ⟨_, by omega, j + 1, lins e.1 0 acc, a1, c1, rfl, (hS.sel 2 [0] rfl), (by omega), (by rw [kacc_snoc he, ← ha]), rfl⟩
    · refine WC.exit ?_
      refine WC.seq ?_
      refine WC.seq ?_
      refine WC.region ?_
      have hj1 : j = l.length := (by omega); rw [hj1, List.take_length] at ha; have hs1 : Srt acc := (by rw [ha]; exact kacc_srt h0); have hal1 : acc.length ≤ 1000 := (by have := kacc_len (l := l) h0; rw [← ha] at this; simp only [List.length_nil] at this; omega)
      refine WL.r 1 rfl ?_
      refine WL.nil ?_
      refine WC.block ?_
      refine WC.loop [1, 2, 6, 7, 9] (fun kM vs w => ∃ (j2 : Nat) (acc2 : Kvs) (va2 : Option Addr) (vc2 : Nat), vs = [.slice ub (List.length (en2 m)) db, .slice uc (List.length (en2 n)) dc, .slice none 0 0, .slice va2 (List.length (en2 acc2)) vc2, .int .i64 (j2 : Int)] ∧ St g (Own 77 2 (en2 acc2) va2 vc2 :: Sh 77 2 (en2 l) ua da :: Sh 77 2 (en2 m) ub db :: Sh 77 2 (en2 n) uc dc :: L) w ∧ (j2 ≤ m.length) ∧ (acc2 = kacc acc (m.take j2)) ∧ (m.length - j2) = kM) ((List.length m) - 0) ⟨0, acc, va, vc, rfl, hS, (Nat.zero_le _), (rfl), rfl⟩ ?_
      clear hS; rintro _ _ w j ⟨j2, acc2, va2, vc2, rfl, hS, hj2, ha2, rfl⟩
      refine WC.seq ?_
      refine WC.seq ?_
      refine WC.region ?_
      refine WL.r 4 rfl ?_
      refine WL.nil ?_
      refine WC.ifP rfl (fun cd2 => ?_) (fun cd2 => ?_)
      · refine WC.skip ?_
        refine WC.seq ?_
        refine WC.block ?_
        refine WC.region ?_
        refine WL.r 3 rfl ?_
        obtain ⟨e2, he2⟩ : ∃ e, m[j2]? = some e := ⟨_, List.getElem?_eq_getElem (by omega)⟩; have hs2 : Srt acc2 := (by rw [ha2]; exact kacc_srt hs1); have hal2 : acc2.length ≤ 2000 := (by have := kacc_len (l := m.take j2) hs1; rw [← ha2, List.length_take] at this; omega)
        refine WL.ix rfl rfl (i := (j2 : Int)) (j2) el_49 rfl rfl (by omega) (by omega) (hS.rdS 2 rfl (en2_at he2)).1 ?_
        refine WL.run 2 [.int .i64 e2.1] rfl (by exact (hS.rdS 2 rfl (en2_at he2)).2 0 _ rfl) ?_
        refine WL.build rfl rfl (cs := [.int .i64 e2.1, .int .i64 0]) zv_77 rfl rfl ?_
        replace hS := (hS.at_ 0 rfl).share
        replace hS : St g (Sh 77 2 (en2 acc2) va2 vc2 :: Sh 77 2 (en2 l) ua da :: Sh 77 2 (en2 m) ub db :: Sh 77 2 (en2 n) uc dc :: L) w := hS
        refine WL.call rfl rfl (ref_ins (l := acc2) (u := va2) (d := vc2) (k := e2.1) (z := 0) (hs := hs2) (hl := (by omega)) (hS := hS)) rfl ?_
        clear hS; rintro _ w ⟨a1, c1, rfl, hS⟩
        replace hS : St g (Own 77 2 (en2 (lins e2.1 0 acc2)) a1 c1 :: Sh 77 2 (en2 acc2) va2 vc2 :: Sh 77 2 (en2 l) ua da :: Sh 77 2 (en2 m) ub db :: Sh 77 2 (en2 n) uc dc :: L) w := hS
        refine WL.r 1 rfl ?_
        refine WL.nil ?_
        as_aux_lemma =>
          refine WC.region ?_
          refine WL.r 2 rfl ?_
          refine WL.nw 32 rfl (w64 (by omega)) ?_
          refine WL.r 1 rfl ?_
          refine WL.nil ?_
          exact ⟨_, by omega, j2 + 1, lins e2.1 0 acc2, a1, c1, rfl, (hS.sel 2 [0] rfl), (by omega), (by rw [kacc_snoc he2, ← ha2]), rfl⟩
      · refine WC.exit ?_
        refine WC.seq ?_
        refine WC.seq ?_
        refine WC.region ?_
        have hj3 : j2 = m.length := (by omega); rw [hj3, List.take_length] at ha2; have hs2 : Srt acc2 := (by rw [ha2]; exact kacc_srt hs1); have hal2 : acc2.length ≤ 2000 := (by have := kacc_len (l := m) hs1; rw [← ha2] at this; omega)
        refine WL.r 1 rfl ?_
        refine WL.nil ?_
        refine WC.block ?_
        refine WC.loop [2, 6, 7, 10] (fun kM vs w => ∃ (j4 : Nat) (acc4 : Kvs) (va4 : Option Addr) (vc4 : Nat), vs = [.slice uc (List.length (en2 n)) dc, .slice none 0 0, .slice va4 (List.length (en2 acc4)) vc4, .int .i64 (j4 : Int)] ∧ St g (Own 77 2 (en2 acc4) va4 vc4 :: Sh 77 2 (en2 l) ua da :: Sh 77 2 (en2 m) ub db :: Sh 77 2 (en2 n) uc dc :: L) w ∧ (j4 ≤ n.length) ∧ (acc4 = kacc acc2 (n.take j4)) ∧ (n.length - j4) = kM) ((List.length n) - 0) ⟨0, acc2, va2, vc2, rfl, hS, (Nat.zero_le _), (rfl), rfl⟩ ?_
        clear hS; rintro _ _ w j ⟨j4, acc4, va4, vc4, rfl, hS, hj4, ha4, rfl⟩
        refine WC.seq ?_
        refine WC.seq ?_
        refine WC.region ?_
        refine WL.r 4 rfl ?_
        refine WL.nil ?_
        as_aux_lemma =>
          refine WC.ifP rfl (fun cd3 => ?_) (fun cd3 => ?_)
          · refine WC.skip ?_
            refine WC.seq ?_
            refine WC.block ?_
            refine WC.region ?_
            refine WL.r 3 rfl ?_
            obtain ⟨e4, he4⟩ : ∃ e, n[j4]? = some e := ⟨_, List.getElem?_eq_getElem (by omega)⟩; have hs4 : Srt acc4 := (by rw [ha4]; exact kacc_srt hs2); have hal4 : acc4.length ≤ 3000 := (by have := kacc_len (l := n.take j4) hs2; rw [← ha4, List.length_take] at this; omega)
            refine WL.ix rfl rfl (i := (j4 : Int)) (j4) el_49 rfl rfl (by omega) (by omega) (hS.rdS 3 rfl (en2_at he4)).1 ?_
            refine WL.run 2 [.int .i64 e4.1] rfl (by exact (hS.rdS 3 rfl (en2_at he4)).2 0 _ rfl) ?_
            refine WL.build rfl rfl (cs := [.int .i64 e4.1, .int .i64 0]) zv_77 rfl rfl ?_
            replace hS := (hS.at_ 0 rfl).share
            replace hS : St g (Sh 77 2 (en2 acc4) va4 vc4 :: Sh 77 2 (en2 l) ua da :: Sh 77 2 (en2 m) ub db :: Sh 77 2 (en2 n) uc dc :: L) w := hS
            refine WL.call rfl rfl (ref_ins (l := acc4) (u := va4) (d := vc4) (k := e4.1) (z := 0) (hs := hs4) (hl := (by omega)) (hS := hS)) rfl ?_
            clear hS; rintro _ w ⟨a1, c1, rfl, hS⟩
            replace hS : St g (Own 77 2 (en2 (lins e4.1 0 acc4)) a1 c1 :: Sh 77 2 (en2 acc4) va4 vc4 :: Sh 77 2 (en2 l) ua da :: Sh 77 2 (en2 m) ub db :: Sh 77 2 (en2 n) uc dc :: L) w := hS
            refine WL.r 1 rfl ?_
            refine WL.nil ?_
            refine WC.region ?_
            refine WL.r 2 rfl ?_
            refine WL.nw 46 rfl (w64 (by omega)) ?_
            refine WL.r 1 rfl ?_
            refine WL.nil ?_
            exact ⟨_, by omega, j4 + 1, lins e4.1 0 acc4, a1, c1, rfl, (hS.sel 2 [0] rfl), (by omega), (by rw [kacc_snoc he4, ← ha4]), rfl⟩
          · refine WC.exit ?_
            refine WC.seq ?_
            refine WC.region ?_
            refine WL.r 1 rfl ?_
            refine WL.nil ?_
            refine WC.seq ?_
            refine WC.seq ?_
            refine WC.region ?_
            have hj5 : j4 = n.length := (by omega); rw [hj5, List.take_length] at ha4; have hal4 : acc4.length ≤ 3000 := (by have := kacc_len (l := n) hs2; rw [← ha4] at this; omega); have hae := en2_len acc4; have hk3 : keys3 l m n = acc4.map (·.1) := (by unfold keys3; rw [ha4, ha2, ha])
            refine WL.r 1 rfl ?_
            refine WL.nil ?_
            refine WC.block ?_
            replace hS := hS.nil_ 2 1
            refine WC.loop [6, 7, 11, 12] (fun kM vs w => ∃ (p : Nat) (out : List Int) (wa : Option Addr) (wc : Nat), vs = [.slice none 0 0, .slice va4 (List.length (en2 acc4)) vc4, .slice wa (List.length (i64s out)) wc, .int .i64 (p : Int)] ∧ St g (Own 2 1 (i64s out) wa wc :: Own 77 2 (en2 acc4) va4 vc4 :: Sh 77 2 (en2 l) ua da :: Sh 77 2 (en2 m) ub db :: Sh 77 2 (en2 n) uc dc :: L) w ∧ (p ≤ acc4.length) ∧ (out = (acc4.take p).map (·.1)) ∧ (acc4.length - p) = kM) ((List.length acc4) - 0) ⟨0, [], none, 0, rfl, hS, (Nat.zero_le _), (rfl), rfl⟩ ?_
            clear hS; rintro _ _ w j ⟨p, out, wa, wc, rfl, hS, hp, ho, rfl⟩
            refine WC.seq ?_
            refine WC.seq ?_
            refine WC.region ?_
            refine WL.r 4 rfl ?_
            refine WL.nil ?_
            refine WC.ifP rfl (fun cd4 => ?_) (fun cd4 => ?_)
            · refine WC.skip ?_
              refine WC.seq ?_
              refine WC.block ?_
              refine WC.region ?_
              refine WL.r 3 rfl ?_
              obtain ⟨x, hx⟩ : ∃ x, acc4[p]? = some x := ⟨_, List.getElem?_eq_getElem (by omega)⟩; have hol : out.length ≤ 3000 := (by rw [ho, List.length_map, List.length_take]; omega); have hoe := i64s_len out
              refine WL.ix rfl rfl (i := (p : Int)) (p) el_49 rfl rfl (by omega) (by omega) (hS.rdO 1 rfl (en2_at hx)).1 ?_
              refine WL.run 2 [.int .i64 x.1] rfl (by exact (hS.rdO 1 rfl (en2_at hx)).2 0 _ rfl) ?_
              refine WL.lit rfl rfl (i64s [x.1]) el_109 hS (by exact ⟨rfl, rfl⟩) (i64s_ok _) rfl (by decide) (fun b1 w hS => ?_)
              refine WL.app rfl rfl 1 (i64s (out ++ [x.1])) el_109 hS rfl (hS.srcO 0 rfl) (i64s_app _ _).symm (Rm.of (by first | omega | (simp <;> omega)) (by decide)) rfl rfl (fun a1 c1 w hS => ?_)
              replace hS : St g (Own 2 1 (i64s [x.1]) (some ⟨b1, 0, none⟩) (List.length (i64s [x.1])) :: Own 2 1 (i64s (out ++ [x.1])) a1 c1 :: Own 77 2 (en2 acc4) va4 vc4 :: Sh 77 2 (en2 l) ua da :: Sh 77 2 (en2 m) ub db :: Sh 77 2 (en2 n) uc dc :: L) w := hS
              refine WL.r 1 rfl ?_
              refine WL.nil ?_
              as_aux_lemma =>
                refine WC.region ?_
                refine WL.r 2 rfl ?_
                refine WL.nw 60 rfl (w64 (by omega)) ?_
                refine WL.r 1 rfl ?_
                refine WL.nil ?_
                exact ⟨_, by omega, p + 1, out ++ [x.1], a1, c1, rfl, (hS.sel 1 [] rfl), (by omega), (by rw [List.take_add_one, hx, List.map_append, ← ho]; rfl), rfl⟩
            · refine WC.exit ?_
              refine WC.seq ?_
              refine WC.region ?_
              refine WL.r 2 rfl ?_
              refine WL.nil ?_
              as_aux_lemma =>
                refine WC.ret ?_
                refine ⟨[.slice wa (List.length (i64s out)) wc], rfl, ?_⟩
                replace hS := (hS.sel 2 [0] rfl)
                have e9 : out = keys3 l m n := (by rw [ho, List.take_of_length_le (by omega), hk3]); rw [e9] at hS ⊢; exact ⟨_, _, rfl, hS⟩
theorem asc_flat : ∀ (ks : List Int) (D : List Chg), ks.Pairwise (· < ·) → (D.Pairwise fun a b => a.2.1 < b.2.1) → (∀ c ∈ D, c.2.1 ∈ ks) → ks.flatMap (fun k => inR k k D) = D
  | [], D, _, _, h => by
    cases D with
    | nil => rfl
    | cons c D => exact absurd (h c (List.mem_cons_self ..)) (by simp)
  | k :: ks, D, hk, hD, h => by
    obtain ⟨k1, k2⟩ := List.pairwise_cons.1 hk
    rw [List.flatMap_cons]
    by_cases hh : ∃ c D', D = c :: D' ∧ c.2.1 = k
    · obtain ⟨c, D', rfl, rfl⟩ := hh
      obtain ⟨d1, d2⟩ := List.pairwise_cons.1 hD
      have e2 : ks.flatMap (fun k => inR k k (c :: D')) = ks.flatMap (fun k => inR k k D') := by
        rw [List.flatMap_def, List.flatMap_def]
        congr 1
        refine List.map_congr_left fun j hj => ?_
        have := k1 j hj
        unfold inR; rw [List.filter_cons_of_neg (by simp; omega)]
      rw [asc_one hD (List.mem_cons_self ..), e2, asc_flat ks D' k2 d2 fun d hd => ?_]
      · rfl
      · have := d1 d hd
        rcases List.mem_cons.1 (h d (List.mem_cons_of_mem _ hd)) with e | e
        · omega
        · exact e
    · have hne : ∀ c ∈ D, k < c.2.1 := by
        cases D with
        | nil => intro c hc; cases hc
        | cons c D =>
          have h1 : c.2.1 ≠ k := fun e => hh ⟨c, D, rfl, e⟩
          have h2 : k < c.2.1 := by
            rcases List.mem_cons.1 (h c (List.mem_cons_self ..)) with e | e
            · exact absurd e h1
            · exact k1 _ e
          intro d hd
          rcases List.mem_cons.1 hd with rfl | hd
          · exact h2
          · have := (List.pairwise_cons.1 hD).1 d hd; omega
      have e1 : inR k k D = [] := List.filter_eq_nil_iff.2 fun c hc => by have := hne c hc; simp; omega
      rw [e1, List.nil_append, asc_flat ks D k2 hD fun c hc => ?_]
      have := hne c hc
      rcases List.mem_cons.1 (h c hc) with e | e
      · omega
      · exact e
def kdif (l m : Kvs) (ks : List Int) : List Chg := ks.flatMap fun k => logC k (lget k l) (lget k m)
theorem kdif_snoc {l m : Kvs} {ks : List Int} {p : Nat} {k : Int} (h : ks[p]? = some k) : kdif l m (ks.take (p + 1)) = kdif l m (ks.take p) ++ logC k (lget k l) (lget k m) := by
  unfold kdif; rw [List.take_add_one, h, List.flatMap_append]; simp
theorem kdif_eq {l m : Kvs} (hl : Srt l) (hm : Srt m) : kdif l m (keys3 l m []) = dif l m := by
  unfold kdif
  rw [List.flatMap_def, List.map_congr_left (g := fun k => inR k k (dif l m)) fun k _ => (inR_log hl hm k).symm, ← List.flatMap_def]
  refine asc_flat _ _ (keys3_asc l m []) (dif_asc l m hl hm) fun c hc => keys3_mem.2 ?_
  rcases dif_keys l m c hc with h | h
  · exact .inl h
  · exact .inr (.inl h)
theorem kdif_len (l m : Kvs) : ∀ ks : List Int, (kdif l m ks).length ≤ ks.length
  | [] => Nat.le_refl _
  | k :: ks => by
    have h1 := kdif_len l m ks
    have h2 : (logC k (lget k l) (lget k m)).length ≤ 1 := by unfold logC; split <;> simp
    show (logC k (lget k l) (lget k m) ++ kdif l m ks).length ≤ _
    rw [List.length_append, List.length_cons]; omega
theorem lget_of {l : Kvs} {z : Int} (h : ∃ x ∈ l, x.1 = z) : (lget z l).isSome = true := by
  unfold lget
  rw [Option.isSome_map, List.find?_isSome]
  obtain ⟨x, hx, e⟩ := h
  exact ⟨x, hx, decide_eq_true e⟩
theorem keys_some {l m : Kvs} {z : Int} (h : z ∈ keys3 l m []) (hl : (lget z l).isSome = false) : (lget z m).isSome = true := by
  rcases keys3_mem.1 h with h | h | ⟨_, h, _⟩
  · rw [lget_of h] at hl; cases hl
  · exact lget_of h
  · cases h
theorem logN {k : Int} {o n : Option Int} (h1 : o.isSome = false) (h2 : n.isSome = true) : logC k o n = [(1, k, 0, n.getD 0)] := by
  cases o <;> cases n <;> simp_all [logC]
theorem logR {k : Int} {o n : Option Int} (h1 : o.isSome = true) (h2 : n.isSome = false) : logC k o n = [(2, k, o.getD 0, 0)] := by
  cases o <;> cases n <;> simp_all [logC]
theorem logD {k : Int} {o n : Option Int} (h1 : o.isSome = true) (h2 : n.isSome = true) (h : o.getD 0 ≠ n.getD 0) : logC k o n = [(3, k, o.getD 0, n.getD 0)] := by
  cases o <;> cases n <;> simp_all [logC]
theorem logE {k : Int} {o n : Option Int} (h1 : o.isSome = true) (h2 : n.isSome = true) (h : ¬ o.getD 0 ≠ n.getD 0) : logC k o n = [] := by
  cases o <;> cases n <;> simp_all [logC]
set_option maxHeartbeats 1000000 in
set_option maxRecDepth 8192 in
theorem ref_diff {g w : World} {L : List HP} (l m : Kvs) (ua ub : Option Addr) (da db : Nat) (hs : Srt l) (ht : Srt m) (hl : l.length ≤ 1000) (hm : m.length ≤ 1000) (hS : St g (Sh 77 2 (en2 l) ua da :: Sh 77 2 (en2 m) ub db :: L) w) :
    Sp Tryz.prog 96 [.slice ua (List.length (en2 l)) da, .slice ub (List.length (en2 m)) db] w (fun v w' => ∃ (a2 : Option Addr) (c2 : Nat), v = .slice a2 (List.length (ch4 (dif l m))) c2 ∧ St g (Own 82 4 (ch4 (dif l m)) a2 c2 :: Sh 77 2 (en2 l) ua da :: Sh 77 2 (en2 m) ub db :: L) w') := by
  refine Sp.enter Tryz.func96 rfl (by kernel_rfl) (by kernel_rfl) ?_
  have _ := hm
  have _ := hl
  refine WC.seq ?_
  refine WC.region ?_
  refine WL.r 1 rfl ?_
  refine WL.nil ?_
  refine WC.seq ?_
  refine WC.region ?_
  refine WL.r 1 rfl ?_
  refine WL.nil ?_
  refine WC.seq ?_
  refine WC.region ?_
  refine WL.r 2 rfl ?_
  replace hS := hS.nilS 77 2
  replace hS : St g (Sh 77 2 (en2 []) none 0 :: Sh 77 2 (en2 l) ua da :: Sh 77 2 (en2 m) ub db :: L) w := hS
  refine WL.call rfl rfl (ref_keys (l := l) (m := m) (n := []) (ua := ua) (ub := ub) (uc := none) (da := da) (db := db) (dc := 0) (hl := (by omega)) (hm := (by omega)) (hn := (by decide)) (hS := (hS.sel 3 [1, 1, 0] rfl))) rfl ?_
  clear hS; rintro _ w ⟨a1, c1, rfl, hS⟩
  replace hS : St g (Own 2 1 (i64s (keys3 l m [])) a1 c1 :: Sh 77 2 (en2 l) ua da :: Sh 77 2 (en2 m) ub db :: Sh 77 2 (en2 []) none 0 :: L) w := hS
  refine WL.r 1 rfl ?_
  refine WL.nil ?_
  refine WC.seq ?_
  refine WC.seq ?_
  refine WC.region ?_
  have hkl := keys3_len l m []; simp only [List.length_nil] at hkl; have hke := i64s_len (keys3 l m [])
  refine WL.r 1 rfl ?_
  refine WL.nil ?_
  as_aux_lemma =>
    refine WC.block ?_
    replace hS := hS.nil_ 82 4
    refine WC.loop [0, 1, 4, 5, 6, 7] (fun kM vs w => ∃ (p : Nat) (out : List Chg) (wa : Option Addr) (wc : Nat), vs = [.slice ua (List.length (en2 l)) da, .slice ub (List.length (en2 m)) db, .slice none 0 0, .slice wa (List.length (ch4 out)) wc, .slice a1 (List.length (i64s (keys3 l m []))) c1, .int .i64 (p : Int)] ∧ St g (Own 82 4 (ch4 out) wa wc :: Own 2 1 (i64s (keys3 l m [])) a1 c1 :: Sh 77 2 (en2 l) ua da :: Sh 77 2 (en2 m) ub db :: Sh 77 2 (en2 []) none 0 :: L) w ∧ (p ≤ (keys3 l m []).length) ∧ (out = kdif l m ((keys3 l m []).take p)) ∧ ((keys3 l m []).length - p) = kM) ((List.length (keys3 l m [])) - 0) ⟨0, [], none, 0, rfl, hS, (Nat.zero_le _), (rfl), rfl⟩ ?_
    clear hS; rintro _ _ w j ⟨p, out, wa, wc, rfl, hS, hp, ho, rfl⟩
    refine WC.seq ?_
    refine WC.seq ?_
    refine WC.region ?_
    refine WL.r 4 rfl ?_
    refine WL.nil ?_
    refine WC.ifP rfl (fun cd1 => ?_) (fun cd1 => ?_)
    · refine WC.skip ?_
      refine WC.seq ?_
      refine WC.block ?_
      refine WC.seq ?_
      refine WC.region ?_
      refine WL.r 2 rfl ?_
      obtain ⟨x, hx⟩ : ∃ x, (keys3 l m [])[p]? = some x := ⟨_, List.getElem?_eq_getElem (by omega)⟩; have hol : out.length ≤ 2000 := (by have := kdif_len l m ((keys3 l m []).take p); rw [← ho, List.length_take] at this; omega); have hoe := ch4_len out; have hxm := List.mem_of_getElem? hx
      refine WL.ix rfl rfl (i := (p : Int)) (p) el_109 rfl rfl (by omega) (by omega) (hS.rdO 1 rfl (i64s_at hx)).1 ?_
      refine WL.run 2 [.int .i64 x] rfl (by exact (hS.rdO 1 rfl (i64s_at hx)).2 0 _ rfl) ?_
      refine WL.nil ?_
      refine WC.seq ?_
      refine WC.region ?_
      refine WL.r 2 rfl ?_
      refine WL.call rfl rfl (ref_get (l := l) (u := ua) (d := da) (k := x) (hl := (by omega)) (hS := (hS.sel 3 [2, 0, 0] rfl))) rfl ?_
      clear hS; rintro _ w ⟨rfl, hS⟩
      replace hS : St g (Sh 77 2 (en2 l) ua da :: Own 82 4 (ch4 out) wa wc :: Own 2 1 (i64s (keys3 l m [])) a1 c1 :: Sh 77 2 (en2 m) ub db :: Sh 77 2 (en2 []) none 0 :: L) w := hS
      refine WL.r 5 rfl ?_
      refine WL.nil ?_
      as_aux_lemma =>
        refine WC.seq ?_
        refine WC.region ?_
        refine WL.r 2 rfl ?_
        refine WL.call rfl rfl (ref_get (l := m) (u := ub) (d := db) (k := x) (hl := (by omega)) (hS := (hS.sel 4 [3, 0, 0, 0] rfl))) rfl ?_
        clear hS; rintro _ w ⟨rfl, hS⟩
        replace hS : St g (Sh 77 2 (en2 m) ub db :: Sh 77 2 (en2 l) ua da :: Own 82 4 (ch4 out) wa wc :: Own 2 1 (i64s (keys3 l m [])) a1 c1 :: Sh 77 2 (en2 []) none 0 :: L) w := hS
        refine WL.r 5 rfl ?_
        refine WL.nil ?_
        refine WC.block ?_
        refine WC.seq ?_
        refine WC.region ?_
        refine WL.r 2 rfl ?_
        refine WL.r 1 rfl ?_
        refine WL.nil ?_
        refine WC.if_ rfl (fun h1 => ?_) (fun h1 => ?_)
        · refine WC.region ?_
          refine WL.r 3 rfl ?_
          refine WL.build rfl rfl (cs := [.int .i64 1, .int .i64 x, .int .i64 0, .int .i64 ((lget x m).getD 0)]) zv_82 rfl rfl ?_
          refine WL.lit rfl rfl (ch4 [(1, x, 0, (lget x m).getD 0)]) el_179 hS (by exact ⟨rfl, rfl⟩) (ch4_ok _) rfl (by decide) (fun b1 w hS => ?_)
          refine WL.app rfl rfl 3 (ch4 (out ++ [(1, x, 0, (lget x m).getD 0)])) el_179 hS rfl (hS.srcO 0 rfl) (ch4_app _ _).symm (Rm.of (by first | omega | (simp <;> omega)) (by decide)) rfl rfl (fun a2 c2 w hS => ?_)
          replace hS : St g (Own 82 4 (ch4 [(1, x, 0, (lget x m).getD 0)]) (some ⟨b1, 0, none⟩) (List.length (ch4 [(1, x, 0, (lget x m).getD 0)])) :: Sh 77 2 (en2 m) ub db :: Sh 77 2 (en2 l) ua da :: Own 82 4 (ch4 (out ++ [(1, x, 0, (lget x m).getD 0)])) a2 c2 :: Own 2 1 (i64s (keys3 l m [])) a1 c1 :: Sh 77 2 (en2 []) none 0 :: L) w := hS
          refine WL.r 1 rfl ?_
          refine WL.nil ?_
          refine WC.region ?_
          refine WL.r 2 rfl ?_
          refine WL.nw 21 rfl (w64 (by omega)) ?_
          refine WL.r 1 rfl ?_
          refine WL.nil ?_
          exact ⟨_, by omega, p + 1, out ++ [(1, x, 0, (lget x m).getD 0)], a2, c2, rfl, (hS.sel 5 [3, 3, 2, 1] rfl), (by omega), (by rw [kdif_snoc hx, ← ho, logN (by simpa using h1) (keys_some hxm (by simpa using h1))]), rfl⟩
        · refine WC.seq ?_
          refine WC.region ?_
          refine WL.r 2 rfl ?_
          refine WL.r 1 rfl ?_
          refine WL.nil ?_
          refine WC.if_ rfl (fun h2 => ?_) (fun h2 => ?_)
          · refine WC.region ?_
            refine WL.r 3 rfl ?_
            refine WL.build rfl rfl (cs := [.int .i64 2, .int .i64 x, .int .i64 ((lget x l).getD 0), .int .i64 0]) zv_82 rfl rfl ?_
            refine WL.lit rfl rfl (ch4 [(2, x, (lget x l).getD 0, 0)]) el_179 hS (by exact ⟨rfl, rfl⟩) (ch4_ok _) rfl (by decide) (fun b1 w hS => ?_)
            refine WL.app rfl rfl 3 (ch4 (out ++ [(2, x, (lget x l).getD 0, 0)])) el_179 hS rfl (hS.srcO 0 rfl) (ch4_app _ _).symm (Rm.of (by first | omega | (simp <;> omega)) (by decide)) rfl rfl (fun a2 c2 w hS => ?_)
            replace hS : St g (Own 82 4 (ch4 [(2, x, (lget x l).getD 0, 0)]) (some ⟨b1, 0, none⟩) (List.length (ch4 [(2, x, (lget x l).getD 0, 0)])) :: Sh 77 2 (en2 m) ub db :: Sh 77 2 (en2 l) ua da :: Own 82 4 (ch4 (out ++ [(2, x, (lget x l).getD 0, 0)])) a2 c2 :: Own 2 1 (i64s (keys3 l m [])) a1 c1 :: Sh 77 2 (en2 []) none 0 :: L) w := hS
            refine WL.r 1 rfl ?_
            refine WL.nil ?_
            as_aux_lemma =>
              refine WC.region ?_
              refine WL.r 2 rfl ?_
              refine WL.nw 21 rfl (w64 (by omega)) ?_
              refine WL.r 1 rfl ?_
              refine WL.nil ?_
              exact ⟨_, by omega, p + 1, out ++ [(2, x, (lget x l).getD 0, 0)], a2, c2, rfl, (hS.sel 5 [3, 3, 2, 1] rfl), (by omega), (by rw [kdif_snoc hx, ← ho, logR (by simpa using h1) (by simpa using h2)]), rfl⟩
          · refine WC.seq ?_
            refine WC.region ?_
            refine WL.r 4 rfl ?_
            refine WL.nil ?_
            as_aux_lemma =>
              refine WC.ifP rfl (fun h3 => ?_) (fun h3 => ?_)
              · refine WC.region ?_
                refine WL.r 4 rfl ?_
                refine WL.build rfl rfl (cs := [.int .i64 3, .int .i64 x, .int .i64 ((lget x l).getD 0), .int .i64 ((lget x m).getD 0)]) zv_82 rfl rfl ?_
                refine WL.lit rfl rfl (ch4 [(3, x, (lget x l).getD 0, (lget x m).getD 0)]) el_179 hS (by exact ⟨rfl, rfl⟩) (ch4_ok _) rfl (by decide) (fun b1 w hS => ?_)
                refine WL.app rfl rfl 3 (ch4 (out ++ [(3, x, (lget x l).getD 0, (lget x m).getD 0)])) el_179 hS rfl (hS.srcO 0 rfl) (ch4_app _ _).symm (Rm.of (by first | omega | (simp <;> omega)) (by decide)) rfl rfl (fun a2 c2 w hS => ?_)
                replace hS : St g (Own 82 4 (ch4 [(3, x, (lget x l).getD 0, (lget x m).getD 0)]) (some ⟨b1, 0, none⟩) (List.length (ch4 [(3, x, (lget x l).getD 0, (lget x m).getD 0)])) :: Sh 77 2 (en2 m) ub db :: Sh 77 2 (en2 l) ua da :: Own 82 4 (ch4 (out ++ [(3, x, (lget x l).getD 0, (lget x m).getD 0)])) a2 c2 :: Own 2 1 (i64s (keys3 l m [])) a1 c1 :: Sh 77 2 (en2 []) none 0 :: L) w := hS
                refine WL.r 1 rfl ?_
                refine WL.nil ?_
                refine WC.region ?_
                refine WL.r 2 rfl ?_
                refine WL.nw 21 rfl (w64 (by omega)) ?_
                refine WL.r 1 rfl ?_
                refine WL.nil ?_
                exact ⟨_, by omega, p + 1, out ++ [(3, x, (lget x l).getD 0, (lget x m).getD 0)], a2, c2, rfl, (hS.sel 5 [3, 3, 2, 1] rfl), (by omega), (by rw [kdif_snoc hx, ← ho, logD (by simpa using h1) (by simpa using h2) h3]), rfl⟩
              · refine WC.skip ?_
                refine WC.region ?_
                refine WL.r 2 rfl ?_
                refine WL.nw 21 rfl (w64 (by omega)) ?_
                refine WL.r 1 rfl ?_
                refine WL.nil ?_
                exact ⟨_, by omega, p + 1, out, wa, wc, rfl, (hS.sel 4 [2, 2, 1, 0] rfl), (by omega), (by rw [kdif_snoc hx, ← ho, logE (by simpa using h1) (by simpa using h2) h3, List.append_nil]), rfl⟩
    · refine WC.exit ?_
      refine WC.seq ?_
      refine WC.region ?_
      refine WL.r 2 rfl ?_
      refine WL.nil ?_
      refine WC.ret ?_
      refine ⟨[.slice wa (List.length (ch4 out)) wc], rfl, ?_⟩
      replace hS := (hS.sel 5 [0, 1, 1] rfl)
      have e9 : out = dif l m := (by rw [ho, List.take_of_length_le (by omega), kdif_eq hs ht]); rw [e9] at hS ⊢; exact ⟨_, _, rfl, hS⟩
end Go.Proofs.YtlnlnebibgdjdaaGreat
/-! ## E2 -/
namespace Go.Proofs.YtlnlnebibgdjdaaGreat
open Go Go.V Go.RowKit
def bfL (LL : List LsE) (k : Nat) : LsE := if k = 0 then ⟨[], none, 0⟩ else LL.getD (k - 1) ⟨[], none, 0⟩
theorem bfL_0 (LL : List LsE) : bfL LL 0 = ⟨[], none, 0⟩ := rfl
theorem bfL_at {LL : List LsE} {k : Nat} (h0 : k ≠ 0) (hk : k ≤ LL.length) : LL[k - 1]? = some (bfL LL k) := by
  unfold bfL
  rw [if_neg h0, List.getD_eq_getElem?_getD, List.getElem?_eq_getElem (by omega)]; rfl
theorem bfL_es {LL : List LsE} {k : Nat} : (bfL LL k).es = lsB (List.map LsE.es LL) k := by
  unfold bfL lsB lsA
  split
  · rfl
  · rw [List.getD_eq_getElem?_getD, List.getD_eq_getElem?_getD, List.getElem?_map]
    cases LL[k - 1]? <;> rfl
theorem bfL_shs {g w : World} {L : List HP} {LL ZZ : List LsE} {k : Nat} (hS : St g L w) (i : Nat) (hi : L[i]? = some (Shs leF ZZ)) (hsub : ∀ x ∈ LL, x ∈ ZZ) (hk : k ≤ LL.length) : St g (Sh 77 2 (en2 (bfL LL k).es) (bfL LL k).a (bfL LL k).c :: L) w := by
  by_cases h0 : k = 0
  · subst h0; exact hS.nilS 77 2
  · exact hS.shsGet i hi (hsub _ (List.mem_of_getElem? (bfL_at h0 hk)))
set_option maxRecDepth 8192 in
theorem r27_at {g w : World} {L : List HP} (LL : List LsE) (u : Option Addr) (d k : Nat) (hk : k ≤ LL.length) (hn : LL.length ≤ 1000000) (hS : St g (Sh 49 1 (enL LL) u d :: L) w) :
    Sp Tryz.prog 97 [.slice u (List.length (enL LL)) d, .int .i64 ((k : Int) - 1)] w (fun v w' => v = .slice (bfL LL k).a (List.length (en2 (bfL LL k).es)) (bfL LL k).c ∧ St g (Sh 49 1 (enL LL) u d :: L) w') := by
  refine Sp.enter Tryz.func97 rfl (by kernel_rfl) (by kernel_rfl) ?_
  have _ := hn
  refine WC.seq ?_
  refine WC.region ?_
  refine WL.r 1 rfl ?_
  refine WL.nil ?_
  refine WC.seq ?_
  refine WC.seq ?_
  refine WC.region ?_
  refine WL.r 2 rfl ?_
  refine WL.nil ?_
  refine WC.ifP rfl (fun h0 => ?_) (fun h0 => ?_)
  · refine WC.seq ?_
    refine WC.region ?_
    refine WL.r 1 rfl ?_
    refine WL.nil ?_
    refine WC.ret ?_
    refine ⟨[.slice none 0 0], rfl, ?_⟩
    have e0 : k = 0 := (by omega); subst e0; exact ⟨rfl, hS⟩
  · refine WC.skip ?_
    refine WC.seq ?_
    refine WC.region ?_
    refine WL.r 2 rfl ?_
    have hll := enL_len LL
    refine WL.ix rfl rfl (i := (k : Int) - 1) (k - 1) el_41 rfl rfl (by omega) (by omega) (hS.rdS 0 rfl (enL_at (bfL_at (by omega) hk))).1 ?_
    refine WL.run 2 [.slice (bfL LL k).a (List.length (en2 (bfL LL k).es)) (bfL LL k).c] rfl (by exact (hS.rdS 0 rfl (enL_at (bfL_at (by omega) hk))).2 0 _ rfl) ?_
    refine WL.nil ?_
    refine WC.ret ?_
    refine ⟨[.slice (bfL LL k).a (List.length (en2 (bfL LL k).es)) (bfL LL k).c], rfl, ?_⟩
    exact ⟨rfl, hS⟩
theorem inR_in {lo hi : Int} {D : List Chg} {m : Nat} {c : Chg} (h : D[m]? = some c) (hc : lo ≤ c.2.1 ∧ c.2.1 ≤ hi) : inR lo hi (D.take (m + 1)) = inR lo hi (D.take m) ++ [c] := by
  unfold inR; rw [List.take_add_one, h, List.filter_append]; simp [hc]
theorem inR_no {lo hi : Int} {D : List Chg} {m : Nat} {c : Chg} (h : D[m]? = some c) (hc : ¬ (lo ≤ c.2.1 ∧ c.2.1 ≤ hi)) : inR lo hi (D.take (m + 1)) = inR lo hi (D.take m) := by
  unfold inR; rw [List.take_add_one, h, List.filter_append]; simp; omega
theorem evA_app (i : Nat) (A B : List Chg) : evA i (A ++ B) = evA i A ++ evA i B := List.map_append
set_option maxHeartbeats 1000000 in
set_option maxRecDepth 8192 in
theorem r27_events {g w : World} {L : List HP} (LL ZZ : List LsE) (u : Option Addr) (d : Nat) (lo hi : Int) (hL : LOk (List.map LsE.es LL)) (hsub : ∀ x ∈ LL, x ∈ ZZ) (hn : LL.length ≤ 100) (hS : St g (Sh 49 1 (enL LL) u d :: Shs leF ZZ :: L) w) :
    Sp Tryz.prog 30 [.slice u (List.length (enL LL)) d, .int .i64 lo, .int .i64 hi] w (fun v w' => ∃ (a2 : Option Addr) (c2 : Nat), v = .slice a2 (List.length (ev5 (hev lo hi (List.map LsE.es LL) (List.length LL)))) c2 ∧ St g (Own 84 5 (ev5 (hev lo hi (List.map LsE.es LL) (List.length LL))) a2 c2 :: Sh 49 1 (enL LL) u d :: Shs leF ZZ :: L) w') := by
  refine Sp.enter Tryz.func30 rfl (by kernel_rfl) (by kernel_rfl) ?_
  have _ := hn
  refine WC.seq ?_
  refine WC.region ?_
  refine WL.r 1 rfl ?_
  refine WL.nil ?_
  refine WC.seq ?_
  refine WC.region ?_
  refine WL.r 1 rfl ?_
  refine WL.nil ?_
  refine WC.seq ?_
  refine WC.seq ?_
  refine WC.region ?_
  have hll := enL_len LL
  refine WL.r 1 rfl ?_
  refine WL.nil ?_
  refine WC.block ?_
  replace hS := hS.nil_ 84 5
  refine WC.loop [0, 1, 2, 6, 7, 8] (fun kM vs w => ∃ (k : Nat) (out : List Ev) (ua : Option Addr) (uc : Nat), vs = [.slice u (List.length (enL LL)) d, .int .i64 lo, .int .i64 hi, .slice none 0 0, .slice ua (List.length (ev5 out)) uc, .int .i64 (k : Int)] ∧ St g (Own 84 5 (ev5 out) ua uc :: Sh 49 1 (enL LL) u d :: Shs leF ZZ :: L) w ∧ (k ≤ LL.length) ∧ (out = hev lo hi (List.map LsE.es LL) k) ∧ (LL.length - k) = kM) ((List.length LL) - 0) ⟨0, [], none, 0, rfl, hS, (Nat.zero_le _), (rfl), rfl⟩ ?_
  clear hS; rintro _ _ w j ⟨k, out, ua, uc, rfl, hS, hk, ho, rfl⟩
  refine WC.seq ?_
  refine WC.seq ?_
  refine WC.region ?_
  have hll := enL_len LL
  refine WL.r 4 rfl ?_
  refine WL.nil ?_
  as_aux_lemma =>
    refine WC.ifP rfl (fun cd1 => ?_) (fun cd1 => ?_)
    · refine WC.skip ?_
      refine WC.seq ?_
      refine WC.block ?_
      refine WC.seq ?_
      refine WC.plan [([0, 1, 4, 5, 2, 6, 7], some (3, [4, 5, 6, 7])), ([], some (8, [])), ([9], none)] (by kernel_rfl) (by kernel_rfl) ?_
      obtain ⟨z, hz⟩ : ∃ z, LL[k]? = some z := ⟨_, List.getElem?_eq_getElem (by omega)⟩; have hza : z.es = lsA (List.map LsE.es LL) k := (by unfold lsA; rw [List.getD_eq_getElem?_getD, List.getElem?_map, hz]; rfl); have ha := hL.a k; have hb := hL.b k; rw [← hza] at ha; rw [← bfL_es] at hb; have hdl := dif_len (bfL LL k).es z.es; have hel := hev_len (lo := lo) (hi := hi) hL k; rw [← ho] at hel; have hdd : dA lo hi (List.map LsE.es LL) k = inR lo hi (dif (bfL LL k).es z.es) := (by unfold dA; rw [bfL_es, hza]); have hcl := ch4_len (dif (bfL LL k).es z.es)
      replace hS : St g (Sh 77 2 (en2 z.es) z.a z.c :: Own 84 5 (ev5 out) ua uc :: Sh 49 1 (enL LL) u d :: Shs leF ZZ :: L) w := hS.shsGet 2 rfl (hsub _ (List.mem_of_getElem? hz))
      replace hS : St g (Sh 77 2 (en2 (bfL LL k).es) (bfL LL k).a (bfL LL k).c :: Sh 77 2 (en2 z.es) z.a z.c :: Own 84 5 (ev5 out) ua uc :: Sh 49 1 (enL LL) u d :: Shs leF ZZ :: L) w := bfL_shs hS 3 rfl hsub (by omega)
      refine WQ.r 5 rfl ?_
      refine WQ.nw 19 rfl (w64 (by omega)) ?_
      refine WQ.ix rfl rfl (i := (k : Int)) (k) el_41 rfl rfl (by omega) (by omega) (hS.rdS 3 rfl (enL_at hz)).1 ?_
      refine WQ.run 1 [.slice z.a (List.length (en2 z.es)) z.c] rfl (by exact (hS.rdS 3 rfl (enL_at hz)).2 0 _ rfl) ?_
      refine WQ.nil ?_
      intro m1
      replace hS := hS.drewN m1; generalize hwm1 : World.drewN _ _ = w at *; clear hwm1
      refine WL.call rfl rfl (r27_at (LL := LL) (u := u) (d := d) (k := k) (hk := (by omega)) (hn := (by omega)) (hS := (hS.sel 4 [3, 0, 0, 0] rfl))) rfl ?_
      clear hS; rintro _ w ⟨rfl, hS⟩
      replace hS : St g (Sh 49 1 (enL LL) u d :: Sh 77 2 (en2 (bfL LL k).es) (bfL LL k).a (bfL LL k).c :: Sh 77 2 (en2 z.es) z.a z.c :: Own 84 5 (ev5 out) ua uc :: Shs leF ZZ :: L) w := hS
      refine WL.nil ?_
      refine ⟨by exact ⟨RQ.pure rfl rfl rfl rfl, RQ.pure rfl rfl rfl rfl, RQ.ix rfl rfl (i := (k : Int)) (k) el_41 rfl rfl (by omega) (by omega) (hS.rdS 0 rfl (enL_at hz)).1 rfl rfl, RQ.load rfl rfl rfl rfl ((hS.rdS 0 rfl (enL_at hz)).2 0 _ rfl)⟩, ?_⟩
      refine WQ.nil ?_
      intro m2
      replace hS := hS.drewN m2; generalize hwm2 : World.drewN _ _ = w at *; clear hwm2
      refine WL.call rfl rfl (ref_diff (l := (bfL LL k).es) (m := z.es) (ua := (bfL LL k).a) (ub := z.a) (da := (bfL LL k).c) (db := z.c) (hs := hb.1) (ht := ha.1) (hl := (by omega)) (hm := (by omega)) (hS := (hS.sel 3 [1, 1, 0] rfl))) rfl ?_
      clear hS; rintro _ w ⟨a1, c1, rfl, hS⟩
      replace hS : St g (Own 82 4 (ch4 (dif (bfL LL k).es z.es)) a1 c1 :: Sh 77 2 (en2 (bfL LL k).es) (bfL LL k).a (bfL LL k).c :: Sh 77 2 (en2 z.es) z.a z.c :: Sh 49 1 (enL LL) u d :: Own 84 5 (ev5 out) ua uc :: Shs leF ZZ :: L) w := hS
      refine WL.nil ?_
      refine ⟨by exact trivial, ?_⟩
      refine WQ.r 1 rfl ?_
      refine WQ.nil ?_
      intro m3
      replace hS := hS.drewN m3; generalize hwm3 : World.drewN _ _ = w at *; clear hwm3
      as_aux_lemma =>
        refine WC.seq ?_
        refine WC.region ?_
        refine WL.r 1 rfl ?_
        refine WL.nil ?_
        refine WC.block ?_
        refine WC.loop [0, 1, 2, 6, 7, 8, 9, 10, 11, 12, 13, 14, 17, 18, 19, 20, 21, 22, 23, 24, 25] (fun kM vs w => ∃ (m : Nat) (acc : List Ev) (ub : Option Addr) (ud : Nat), vs = [.slice u (List.length (enL LL)) d, .int .i64 lo, .int .i64 hi, .slice none 0 0, .slice ub (List.length (ev5 acc)) ud, .int .i64 (k : Int), .slice a1 (List.length (ch4 (dif (bfL LL k).es z.es))) c1, .int .i64 (m : Int), .int .i64 (k : Int), .slice u (List.length (enL LL)) d, .int .i64 (List.length (enL LL) : Int), .bool (decide ((k : Int) < (List.length (enL LL) : Int))), .slice u (List.length (enL LL)) d, .int .i64 (k : Int), .int .i64 ((k : Int) - 1), .slice (bfL LL k).a (List.length (en2 (bfL LL k).es)) (bfL LL k).c, .slice u (List.length (enL LL)) d, .int .i64 (k : Int), .pointer (some ⟨bo u, (oo u) + (k * 1), none⟩), .slice z.a (List.length (en2 z.es)) z.c, .slice a1 (List.length (ch4 (dif (bfL LL k).es z.es))) c1] ∧ St g (Own 82 4 (ch4 (dif (bfL LL k).es z.es)) a1 c1 :: Sh 77 2 (en2 (bfL LL k).es) (bfL LL k).a (bfL LL k).c :: Sh 77 2 (en2 z.es) z.a z.c :: Sh 49 1 (enL LL) u d :: Own 84 5 (ev5 acc) ub ud :: Shs leF ZZ :: L) w ∧ (m ≤ (dif (bfL LL k).es z.es).length) ∧ (acc = hev lo hi (List.map LsE.es LL) k ++ evA k (inR lo hi ((dif (bfL LL k).es z.es).take m))) ∧ ((dif (bfL LL k).es z.es).length - m) = kM) ((List.length (dif (bfL LL k).es z.es)) - 0) ⟨0, out, ua, uc, rfl, hS, (Nat.zero_le _), (by rw [ho]; simp [evA, inR]), rfl⟩ ?_
        clear hS; rintro _ _ w j ⟨m, acc, ub, ud, rfl, hS, hm, hc, rfl⟩
        refine WC.seq ?_
        refine WC.seq ?_
        refine WC.region ?_
        refine WL.r 4 rfl ?_
        refine WL.nil ?_
        refine WC.ifP rfl (fun cd2 => ?_) (fun cd2 => ?_)
        · refine WC.skip ?_
          refine WC.seq ?_
          refine WC.block ?_
          refine WC.seq ?_
          refine WC.region ?_
          obtain ⟨e, he⟩ : ∃ e, (dif (bfL LL k).es z.es)[m]? = some e := ⟨_, List.getElem?_eq_getElem (by omega)⟩; have hacl : acc.length ≤ 40000 := (by rw [hc, List.length_append, evA_len, ← ho]; have h1 := List.length_take_le m (dif (bfL LL k).es z.es); have h2 : (inR lo hi ((dif (bfL LL k).es z.es).take m)).length ≤ _ := List.length_filter_le _ _; omega); have hael := ev5_len acc
          refine WL.r 3 rfl ?_
          refine WL.ix rfl rfl (i := (m : Int)) (m) el_179 rfl rfl (by omega) (by omega) (hS.rdO 0 rfl (ch4_at he)).1 ?_
          refine WL.run 4 [.int .i64 e.2.1] rfl (by exact (hS.rdO 0 rfl (ch4_at he)).2 1 _ rfl) ?_
          by_cases cg1 : lo ≤ e.2.1
          · refine WL.reb 39 (.bool true) (congrArg Value.bool (decide_eq_true cg1)) ?_
            refine WL.ung rfl rfl rfl ?_
            refine WL.r 1 rfl ?_
            refine WL.ung rfl rfl rfl ?_
            refine WL.r 1 rfl ?_
            refine WL.ung rfl rfl rfl ?_
            refine WL.ix rfl rfl (i := (m : Int)) (m) el_179 rfl rfl (by omega) (by omega) (hS.rdO 0 rfl (ch4_at he)).1 ?_
            refine WL.ung rfl rfl rfl ?_
            refine WL.r 1 rfl ?_
            refine WL.ung rfl rfl rfl ?_
            refine WL.run 1 [.int .i64 e.2.1] rfl (by exact (hS.rdO 0 rfl (ch4_at he)).2 1 _ rfl) ?_
            refine WL.ung rfl rfl rfl ?_
            refine WL.r 1 rfl ?_
            refine WL.ung rfl rfl rfl ?_
            refine WL.r 2 rfl ?_
            refine WL.nil ?_
            as_aux_lemma =>
              refine WC.ifP rfl (fun cd3 => ?_) (fun cd3 => ?_)
              · refine WC.region ?_
                refine WL.r 4 rfl ?_
                refine WL.ix rfl rfl (i := (m : Int)) (m) el_179 rfl rfl (by omega) (by omega) (hS.rdO 0 rfl (ch4_at he)).1 ?_
                refine WL.ldC rfl rfl [.int .i64 e.1, .int .i64 e.2.1, .int .i64 e.2.2.1, .int .i64 e.2.2.2] ag_82 rfl (hS.rdO 0 rfl (ch4_at he)).2 ?_
                refine WL.build rfl rfl (cs := [.int .i64 (k : Int), .int .i64 e.1, .int .i64 e.2.1, .int .i64 e.2.2.1, .int .i64 e.2.2.2]) zv_84 rfl rfl ?_
                refine WL.lit rfl rfl (ev5 [((k : Int), e.1, e.2.1, e.2.2.1, e.2.2.2)]) el_85 hS (by exact ⟨rfl, rfl⟩) (ev5_ok _) rfl (by decide) (fun b1 w hS => ?_)
                refine WL.app rfl rfl 5 (ev5 (acc ++ [((k : Int), e.1, e.2.1, e.2.2.1, e.2.2.2)])) el_85 hS rfl (hS.srcO 0 rfl) (ev5_app _ _).symm (Rm.of (by first | omega | (simp <;> omega)) (by decide)) rfl rfl (fun a2 c2 w hS => ?_)
                replace hS : St g (Own 84 5 (ev5 [((k : Int), e.1, e.2.1, e.2.2.1, e.2.2.2)]) (some ⟨b1, 0, none⟩) (List.length (ev5 [((k : Int), e.1, e.2.1, e.2.2.1, e.2.2.2)])) :: Own 82 4 (ch4 (dif (bfL LL k).es z.es)) a1 c1 :: Sh 77 2 (en2 (bfL LL k).es) (bfL LL k).a (bfL LL k).c :: Sh 77 2 (en2 z.es) z.a z.c :: Sh 49 1 (enL LL) u d :: Own 84 5 (ev5 (acc ++ [((k : Int), e.1, e.2.1, e.2.2.1, e.2.2.2)])) a2 c2 :: Shs leF ZZ :: L) w := hS
                refine WL.r 1 rfl ?_
                refine WL.nil ?_
                refine WC.region ?_
                refine WL.r 2 rfl ?_
                refine WL.nw 31 rfl (w64 (by omega)) ?_
                refine WL.r 1 rfl ?_
                refine WL.nil ?_
                exact ⟨_, by omega, m + 1, acc ++ [((k : Int), e.1, e.2.1, e.2.2.1, e.2.2.2)], a2, c2, rfl, (hS.sel 1 [] rfl), (by omega), (by rw [inR_in he (by omega), evA_app, ← List.append_assoc, ← hc]; rfl), rfl⟩
              · refine WC.skip ?_
                refine WC.region ?_
                refine WL.r 2 rfl ?_
                refine WL.nw 31 rfl (w64 (by omega)) ?_
                refine WL.r 1 rfl ?_
                refine WL.nil ?_
                exact ⟨_, by omega, m + 1, acc, ub, ud, rfl, hS, (by omega), (by rw [inR_no he (by omega)]; exact hc), rfl⟩
          · refine WL.reb 39 (.bool false) (congrArg Value.bool (decide_eq_false cg1)) ?_
            refine WL.skp rfl rfl rfl rfl ?_
            refine WL.skp rfl rfl rfl rfl ?_
            refine WL.skp rfl rfl rfl rfl ?_
            refine WL.skp rfl rfl rfl rfl ?_
            refine WL.skp rfl rfl rfl rfl ?_
            refine WL.skp rfl rfl rfl rfl ?_
            refine WL.skp rfl rfl rfl rfl ?_
            refine WL.r 1 rfl ?_
            refine WL.nil ?_
            as_aux_lemma =>
              refine WC.ifF rfl rfl ?_
              refine WC.skip ?_
              refine WC.region ?_
              refine WL.r 2 rfl ?_
              refine WL.nw 31 rfl (w64 (by omega)) ?_
              refine WL.r 1 rfl ?_
              refine WL.nil ?_
              exact ⟨_, by omega, m + 1, acc, ub, ud, rfl, hS, (by omega), (by rw [inR_no he (by omega)]; exact hc), rfl⟩
        · refine WC.exit ?_
          refine WC.region ?_
          have hll := enL_len LL
          refine WL.r 2 rfl ?_
          refine WL.nw 16 rfl (w64 (by omega)) ?_
          refine WL.r 1 rfl ?_
          refine WL.nil ?_
          exact ⟨_, by omega, k + 1, acc, ub, ud, rfl, (hS.sel 5 [4, 3] rfl), (by omega), (by rw [hc, List.take_of_length_le (by omega), hev_succ, hdd]), rfl⟩
    · refine WC.exit ?_
      refine WC.seq ?_
      refine WC.region ?_
      refine WL.r 2 rfl ?_
      refine WL.nil ?_
      refine WC.ret ?_
      refine ⟨[.slice ua (List.length (ev5 out)) uc], rfl, ?_⟩
      have hk9 : k = LL.length := (by omega); subst hk9; subst ho; exact ⟨_, _, rfl, hS⟩
end Go.Proofs.YtlnlnebibgdjdaaGreat
/-! ## Eql -/
namespace Go.V
open Go Go.RowKit
def eqFL (P : Program) (e : TypeId) : List Field → Nat → List FK → Bool
  | [f], i, [] => f.offset == i && f.name != "_" && f.type == e
  | f :: g :: fs, i, k :: ks => f.offset == i && f.name != "_" && decide (fkind P f.type = k) && decide (k ≠ .no) && !isAggB P f.type && (P.underlying f.type).isSome && eqFL P e (g :: fs) (i + 1) ks
  | _, _, _ => false
structure EqL (P : Program) (t e : TypeId) (ks1 ks2 : List FK) : Prop where
  und : P.underlying t = some (.struct (P.fieldsOf t))
  held : P.stoodInHeld t = false
  guard : P.eqGuardType P.depth t = false
  eund : P.underlying e = some (.struct (P.fieldsOf e))
  eheld : P.stoodInHeld e = false
  efs : eqF P (P.fieldsOf e).toList 0 ks2 = true
  agg : isAggB P e = true
  sz : szN P e ks2.length = true
  pos : 0 < ks2.length
  fs : eqFL P e (P.fieldsOf t).toList 0 ks1 = true
section
variable {P : Program} {T : Tab} [hT : TabOk P T] {n : Nat} {os l : List Oper} {F : Fm} {w g : World} {t e : TypeId} {ks1 ks2 : List FK}
theorem ext_drop {X : Array Value} {i m : Nat} {zs : List Value} (h : X.toList.drop i = zs) (hm : zs.length = m) : X.extract i (i + m) = zs.toArray := by
  apply Array.toList_inj.1
  rw [Array.toList_extract, List.extract_eq_take_drop, h]
  rw [Nat.add_sub_cancel_left, ← hm, List.take_length]
theorem run_eqFL (d : Nat) (X Y : Array Value) (zx zy : List Value) (eund : P.underlying e = some (.struct (P.fieldsOf e))) (eheld : P.stoodInHeld e = false) (efs : eqF P (P.fieldsOf e).toList 0 ks2 = true) (agg : isAggB P e = true) (sz : szN P e ks2.length = true) (pos : 0 < ks2.length) (kz : zx.map tyv = ks2) (ky : zy.map tyv = ks2) :
    ∀ (fs : List Field) (i : Nat) (ks : List FK) (xs ys : List Value), eqFL P e fs i ks = true → X.toList.drop i = xs ++ zx → Y.toList.drop i = ys ++ zy → xs.map tyv = ks → ys.map tyv = ks →
    (Op.eqFields (d + 2) X Y fs).run P w = .ok (vEqs (xs ++ zx) (ys ++ zy)) w
  | [], _, ks, _, _, h, _, _, _, _ => by cases ks <;> simp [eqFL] at h
  | [f], i, [], xs, ys, h, hx, hy, kx, kyy => by
    have hx0 : xs = [] := List.map_eq_nil_iff.1 kx
    have hy0 : ys = [] := List.map_eq_nil_iff.1 kyy
    subst hx0; subst hy0
    simp only [List.nil_append] at hx hy ⊢
    simp only [eqFL, Bool.and_eq_true, beq_iff_eq, bne_iff_ne] at h
    obtain ⟨⟨h1, h2⟩, h3⟩ := h
    have lx : zx.length = ks2.length := by rw [← kz, List.length_map]
    have ly : zy.length = ks2.length := by rw [← ky, List.length_map]
    have hp : ∀ (Z : Array Value) (zs : List Value), Z.toList.drop i = zs → zs.length = ks2.length → (part f.type Z f.offset).run P w = .ok (.agg zs.toArray) w := fun Z zs hz hl => by
      rw [h1, h3]
      simp only [part, Sem.run_bind, run_isAgg w (show (P.underlying e).isSome = true by rw [eund]; rfl), agg, Result.andThen_ok, if_true, run_sizeOf w (szN_ex sz), Sem.run_pure]
      rw [ext_drop hz hl]
    have he : (Op.equalIn (d + 2) f.type (.agg zx.toArray) (.agg zy.toArray)).run P w = .ok (vEqs zx zy) w := by
      rw [h3, run_equalIn_agg (P := P) w (d + 1) e _ _ eund eheld]
      exact run_eqFields (P := P) (w := w) d zx.toArray zy.toArray _ 0 ks2 zx zy efs (by simp) (by simp) kz ky
    simp only [Op.eqFields, ne_eq, h2, not_false_eq_true, if_true, Sem.run_bind, hp X zx hx lx, hp Y zy hy ly, he, Result.andThen_ok, Sem.run_ite, Sem.run_pure]
    cases vEqs zx zy <;> simp
  | f :: g :: fs, i, [], xs, ys, h, hx, hy, kx, kyy => by simp [eqFL] at h
  | [f], i, k :: ks, xs, ys, h, hx, hy, kx, kyy => by simp [eqFL] at h
  | f :: g :: fs, i, k :: ks, xs, ys, h, hx, hy, kx, kyy => by
    simp only [eqFL, Bool.and_eq_true, beq_iff_eq, bne_iff_ne, Bool.not_eq_true', decide_eq_true_eq] at h
    obtain ⟨⟨⟨⟨⟨⟨h1, h2⟩, h3⟩, h4⟩, h5⟩, h6⟩, h7⟩ := h
    match xs, kx with
    | x :: xs, kx =>
      match ys, kyy with
      | y :: ys, kyy =>
        simp only [List.map_cons, List.cons.injEq] at kx kyy
        have hX : X[i]? = some x := by
          have : (X.toList.drop i)[0]? = some x := by rw [hx]; rfl
          simpa using this
        have hY : Y[i]? = some y := by
          have : (Y.toList.drop i)[0]? = some y := by rw [hy]; rfl
          simpa using this
        have px : (part f.type X f.offset).run P w = .ok x w := by
          rw [h1]; simp [part, run_isAgg w h6, h5, hX]
        have py : (part f.type Y f.offset).run P w = .ok y w := by
          rw [h1]; simp [part, run_isAgg w h6, h5, hY]
        have hx2 : X.toList.drop (i + 1) = xs ++ zx := by rw [← List.drop_drop, hx]; rfl
        have hy2 : Y.toList.drop (i + 1) = ys ++ zy := by rw [← List.drop_drop, hy]; rfl
        have ih := run_eqFL d X Y zx zy eund eheld efs agg sz pos kz ky (g :: fs) (i + 1) ks xs ys h7 hx2 hy2 kx.2 kyy.2
        have he := run_vEq (P := P) (w := w) (d + 1) f.type x y (by rw [kx.1, h3]) (by rw [kyy.1, h3]) (by rw [h3]; exact h4)
        rw [Op.eqFields]
        simp only [ne_eq, h2, not_false_eq_true, if_true, Sem.run_bind, px, py, he, Result.andThen_ok, Sem.run_ite, ih]
        have hne : ∃ a b, xs ++ zx = a :: b := by
          cases hz : xs ++ zx with
          | nil =>
            have h8 := (List.append_eq_nil_iff.1 hz).2
            have e1 : zx.length = ks2.length := by rw [← kz, List.length_map]
            rw [h8] at e1; simp only [List.length_nil] at e1; omega
          | cons a b => exact ⟨a, b, rfl⟩
        obtain ⟨a, b, hab⟩ := hne
        have hv2 : vEqs (x :: xs ++ zx) (y :: ys ++ zy) = (bif vEq x y then vEqs (xs ++ zx) (ys ++ zy) else false) := by
          show vEqs (x :: (xs ++ zx)) (y :: (ys ++ zy)) = _
          rw [hab]; rfl
        rw [hv2]
        cases hv : vEq x y <;> simp
theorem run_eqL (hE : EqL P t e ks1 ks2) {xs1 ys1 xs2 ys2 : List Value} (kx : xs1.map tyv = ks1) (ky : ys1.map tyv = ks1) (kx2 : xs2.map tyv = ks2) (ky2 : ys2.map tyv = ks2) (w : World) :
    (Op.equalIn 10000 t (.agg (xs1 ++ xs2).toArray) (.agg (ys1 ++ ys2).toArray)).run P w = .ok (vEqs (xs1 ++ xs2) (ys1 ++ ys2)) w := by
  rw [run_equalIn_agg (P := P) w 9999 t _ _ hE.und hE.held]
  exact run_eqFL (P := P) (w := w) 9997 _ _ xs2 ys2 hE.eund hE.eheld hE.efs hE.agg hE.sz hE.pos kx2 ky2 _ 0 ks1 xs1 ys1 hE.fs (by simp) (by simp) kx ky
theorem WL.neL {K : Kt} {o : Oper} {yt : TypeId} {x y : Operand} {xs1 ys1 xs2 ys2 : List Value} (hg : o.guard = none) (ho : o.op = .binOp .neq t x y yt) (hE : EqL P t e ks1 ks2) (hx : ev F x = .agg (xs1 ++ xs2).toArray) (hy : ev F y = .agg (ys1 ++ ys2).toArray) (kx : xs1.map tyv = ks1) (ky : ys1.map tyv = ks1) (kx2 : xs2.map tyv = ks2) (ky2 : ys2.map tyv = ks2)
    (hk : WL P n os l K (updo F o.dst (.bool (!vEqs (xs1 ++ xs2) (ys1 ++ ys2)))) w) : WL P n os (o :: l) K F w := by
  refine WL.val hg (fun hok => ?_) hk
  have e1 := okX_at (F := F) hok (x := x) (by simp [ho, Op.operands])
  have e2 := okX_at (F := F) hok (x := y) (by simp [ho, Op.operands])
  simp only [execOp, ho, e1, e2, hx, hy, Sem.run_bind, run_eqGuard_agg w _ _ _ _ _ _ hE.guard, run_neq_struct, run_eqL hE kx ky kx2 ky2 w, Result.andThen_ok, Sem.run_pure]
theorem WQ.neL {K : Fm → Prop} {o : Oper} {yt : TypeId} {x y : Operand} {xs1 ys1 xs2 ys2 : List Value} (hg : o.guard = none) (ho : o.op = .binOp .neq t x y yt) (hE : EqL P t e ks1 ks2) (hx : ev F x = .agg (xs1 ++ xs2).toArray) (hy : ev F y = .agg (ys1 ++ ys2).toArray) (kx : xs1.map tyv = ks1) (ky : ys1.map tyv = ks1) (kx2 : xs2.map tyv = ks2) (ky2 : ys2.map tyv = ks2)
    (hk : WQ P n os l w K (updo F o.dst (.bool (!vEqs (xs1 ++ xs2) (ys1 ++ ys2))))) : WQ P n os (o :: l) w K F := by
  refine WQ.val hg (fun hok mm => ?_) hk
  generalize hw0 : w.drewN mm = w0
  clear hw0
  have e1 := okX_at (F := F) hok (x := x) (by simp [ho, Op.operands])
  have e2 := okX_at (F := F) hok (x := y) (by simp [ho, Op.operands])
  simp only [execOp, ho, e1, e2, hx, hy, Sem.run_bind, run_eqGuard_agg w0 _ _ _ _ _ _ hE.guard, run_neq_struct, run_eqL hE kx ky kx2 ky2 w0, Result.andThen_ok, Sem.run_pure]
end
end Go.V
/-! ## Dm -/
namespace Go.V
open Go Go.RowKit
structure SlE where
  al : Bool
  cn : Int
  ge : Int
  nd : Nd
def slC (x : SlE) : List Value := [.bool x.al, .int .i64 x.cn, .int .u32 x.ge, .int .i64 x.nd.key, .int .i64 x.nd.val, .int .u32 x.nd.lf, .int .u32 x.nd.rg, .int .i64 x.nd.size, .int .i64 x.nd.sum, .int .i64 x.nd.mn, .int .i64 x.nd.mx]
def sls (l : List SlE) : List (List Value) := l.map slC
@[simp] theorem sls_len (l : List SlE) : (sls l).length = l.length := by simp [sls]
theorem sls_at {l : List SlE} {k : Nat} {x : SlE} (h : l[k]? = some x) : (sls l)[k]? = some (slC x) := by simp [sls, h]
theorem sls_set (l : List SlE) (k : Nat) (x : SlE) : (sls l).set k (slC x) = sls (l.set k x) := by simp [sls, List.map_set]
def SlE.zero : SlE := ⟨false, 0, 0, Nd.zero⟩
def AM.cntD (A : AM) (i : Int) : Int := if A.s.ok i = true then A.cntOf i else 0
def AM.dmpAt (A : AM) (i : Int) : SlE := ⟨A.s.ok i, A.cntD i, A.s.genOf i, (A.nodes[i.toNat]?).getD Nd.zero⟩
def AM.dmp (A : AM) : List SlE := (List.range A.s.cap.toNat).map fun j : Nat => A.dmpAt ((j : Int) + 1)
def AM.dmpK (A : AM) (k : Nat) : List SlE := (List.range A.s.cap.toNat).map fun j : Nat => if j < k then A.dmpAt ((j : Int) + 1) else SlE.zero
theorem AM.dmp_len (A : AM) : A.dmp.length = A.s.cap.toNat := by simp [AM.dmp]
theorem AM.dmpK_len (A : AM) (k : Nat) : (A.dmpK k).length = A.s.cap.toNat := by simp [AM.dmpK]
theorem AM.dmpK_0 (A : AM) : sls (A.dmpK 0) = List.replicate A.s.cap.toNat (slC SlE.zero) := by
  unfold AM.dmpK
  have : (List.range A.s.cap.toNat).map (fun j : Nat => if j < 0 then A.dmpAt ((j : Int) + 1) else SlE.zero) = List.replicate A.s.cap.toNat SlE.zero := by
    apply List.ext_getElem <;> simp
  rw [this]; simp [sls]
theorem AM.dmpK_set (A : AM) {k : Nat} : (A.dmpK k).set k (A.dmpAt ((k : Int) + 1)) = A.dmpK (k + 1) := by
  apply List.ext_getElem?
  intro i
  rw [List.getElem?_set]
  unfold AM.dmpK
  rw [List.length_map, List.length_range, List.getElem?_map, List.getElem?_map]
  by_cases hi : i < A.s.cap.toNat
  · rw [List.getElem?_range hi]
    by_cases hk : k = i
    · subst hk; rw [if_pos rfl, if_pos hi]; simp
    · rw [if_neg hk]
      simp only [Option.map_some]
      by_cases h2 : i < k
      · rw [if_pos h2, if_pos (by omega)]
      · rw [if_neg h2, if_neg (by omega)]
  · have hn : (List.range A.s.cap.toNat)[i]? = none := List.getElem?_eq_none (by simp; omega)
    rw [hn]
    by_cases hk : k = i
    · subst hk; rw [if_pos rfl, if_neg hi]; rfl
    · rw [if_neg hk]; rfl
theorem AM.dmpK_end (A : AM) : A.dmpK A.s.cap.toNat = A.dmp := by
  unfold AM.dmpK AM.dmp
  refine List.map_congr_left fun j hj => ?_
  rw [if_pos (List.mem_range.1 hj)]
end Go.V
/-! ## E3 -/
namespace Go.Proofs.YtlnlnebibgdjdaaGreat
open Go Go.V Go.RowKit
theorem eql_167 : EqL Tryz.prog 167 165 [.bool, .int .i64, .int .u32] [.int .i64, .int .i64, .int .u32, .int .u32, .int .i64, .int .i64, .int .i64, .int .i64] := ⟨by kernel_rfl, by kernel_rfl, by kernel_rfl, by kernel_rfl, by kernel_rfl, by kernel_rfl, by kernel_rfl, by kernel_rfl, by decide, by kernel_rfl⟩
set_option maxRecDepth 8192 in
theorem sameSS {g w : World} {L : List HP} (xs ys : List SlE) (a b : Option Addr) (c d : Nat) (he : xs = ys) (hl : xs.length ≤ 1000000000) (hS : St g (Sh 167 11 (sls xs) a c :: Sh 167 11 (sls ys) b d :: L) w) :
    Sp Tryz.prog 99 [.slice a (List.length (sls xs)) c, .slice b (List.length (sls ys)) d] w (fun v w' => v = .bool true ∧ St g (Sh 167 11 (sls xs) a c :: Sh 167 11 (sls ys) b d :: L) w') := by
  refine Sp.enter Tryz.func99 rfl (by kernel_rfl) (by kernel_rfl) ?_
  have _ := hl
  refine WC.seq ?_
  refine WC.region ?_
  refine WL.r 1 rfl ?_
  refine WL.nil ?_
  refine WC.seq ?_
  refine WC.seq ?_
  refine WC.region ?_
  subst he; have hxl := sls_len xs
  refine WL.r 5 rfl ?_
  refine WL.nil ?_
  refine WC.ifF rfl (decide_eq_false ((fun h => h rfl))) ?_
  refine WC.skip ?_
  refine WC.seq ?_
  refine WC.seq ?_
  refine WC.region ?_
  refine WL.r 1 rfl ?_
  refine WL.nil ?_
  refine WC.block ?_
  refine WC.loop [0, 1, 5] (fun kM vs w => ∃ (k : Nat), vs = [.slice a (List.length (sls xs)) c, .slice b (List.length (sls xs)) d, .int .i64 (k : Int)] ∧ St g (Sh 167 11 (sls xs) a c :: Sh 167 11 (sls xs) b d :: L) w ∧ (k ≤ xs.length) ∧ (xs.length - k) = kM) ((List.length xs) - 0) ⟨0, rfl, hS, (Nat.zero_le _), rfl⟩ ?_
  clear hS; rintro _ _ w j ⟨k, rfl, hS, hk, rfl⟩
  refine WC.seq ?_
  refine WC.seq ?_
  refine WC.region ?_
  refine WL.r 4 rfl ?_
  refine WL.nil ?_
  as_aux_lemma =>
    refine WC.ifP rfl (fun cd1 => ?_) (fun cd1 => ?_)
    · refine WC.skip ?_
      refine WC.seq ?_
      refine WC.block ?_
      refine WC.seq ?_
      refine WC.plan [([0, 1, 4, 5, 2, 6, 3, 7, 8], none)] (by kernel_rfl) (by kernel_rfl) ?_
      refine WQ.r 4 rfl ?_
      obtain ⟨x, hx⟩ : ∃ x, xs[k]? = some x := ⟨_, List.getElem?_eq_getElem (by omega)⟩
      refine WQ.ix rfl rfl (i := (k : Int)) (k) el_60 rfl rfl (by omega) (len_of (sls_at hx)) (hS.rdS 0 rfl (sls_at hx)).1 ?_
      refine WQ.ix rfl rfl (i := (k : Int)) (k) el_60 rfl rfl (by omega) (len_of (sls_at hx)) (hS.rdS 1 rfl (sls_at hx)).1 ?_
      refine WQ.ldC rfl rfl [.bool x.al, .int .i64 x.cn, .int .u32 x.ge, .int .i64 x.nd.key, .int .i64 x.nd.val, .int .u32 x.nd.lf, .int .u32 x.nd.rg, .int .i64 x.nd.size, .int .i64 x.nd.sum, .int .i64 x.nd.mn, .int .i64 x.nd.mx] ag_167 rfl (hS.rdS 0 rfl (sls_at hx)).2 ?_
      refine WQ.ldC rfl rfl [.bool x.al, .int .i64 x.cn, .int .u32 x.ge, .int .i64 x.nd.key, .int .i64 x.nd.val, .int .u32 x.nd.lf, .int .u32 x.nd.rg, .int .i64 x.nd.size, .int .i64 x.nd.sum, .int .i64 x.nd.mn, .int .i64 x.nd.mx] ag_167 rfl (hS.rdS 1 rfl (sls_at hx)).2 ?_
      refine WQ.neL rfl rfl eql_167 (xs1 := [.bool x.al, .int .i64 x.cn, .int .u32 x.ge]) (ys1 := [.bool x.al, .int .i64 x.cn, .int .u32 x.ge]) (xs2 := [.int .i64 x.nd.key, .int .i64 x.nd.val, .int .u32 x.nd.lf, .int .u32 x.nd.rg, .int .i64 x.nd.size, .int .i64 x.nd.sum, .int .i64 x.nd.mn, .int .i64 x.nd.mx]) (ys2 := [.int .i64 x.nd.key, .int .i64 x.nd.val, .int .u32 x.nd.lf, .int .u32 x.nd.rg, .int .i64 x.nd.size, .int .i64 x.nd.sum, .int .i64 x.nd.mn, .int .i64 x.nd.mx]) rfl rfl rfl rfl rfl rfl ?_
      refine WQ.prop 25 rfl (bnot (band (dd _) (band (dd _) (band (dd _) (band (dd _) (band (dd _) (band (dd _) (band (dd _) (band (dd _) (band (dd _) (band (dd _) (dd _)))))))))))) ?_
      refine WQ.nil ?_
      intro m1
      replace hS := hS.drewN m1; generalize hwm1 : World.drewN _ _ = w at *; clear hwm1
      refine WC.ifF rfl (decide_eq_false ((fun h => h ⟨rfl, rfl, rfl, rfl, rfl, rfl, rfl, rfl, rfl, rfl, rfl⟩))) ?_
      refine WC.skip ?_
      refine WC.region ?_
      refine WL.r 2 rfl ?_
      refine WL.nw 16 rfl (w64 (by omega)) ?_
      refine WL.r 1 rfl ?_
      refine WL.nil ?_
      exact ⟨_, by omega, k + 1, rfl, hS, (by omega), rfl⟩
    · refine WC.exit ?_
      refine WC.seq ?_
      refine WC.region ?_
      refine WL.r 1 rfl ?_
      refine WL.nil ?_
      refine WC.ret ?_
      refine ⟨[.bool true], rfl, ?_⟩
      exact ⟨rfl, hS⟩
set_option maxRecDepth 8192 in
theorem sameU32 {g w : World} {L : List HP} (xs ys : List Int) (a b : Option Addr) (c d : Nat) (he : xs = ys) (hl : xs.length ≤ 1000000000) (hS : St g (Sh 64 1 (u32s xs) a c :: Sh 64 1 (u32s ys) b d :: L) w) :
    Sp Tryz.prog 100 [.slice a (List.length (u32s xs)) c, .slice b (List.length (u32s ys)) d] w (fun v w' => v = .bool true ∧ St g (Sh 64 1 (u32s xs) a c :: Sh 64 1 (u32s ys) b d :: L) w') := by
  refine Sp.enter Tryz.func100 rfl (by kernel_rfl) (by kernel_rfl) ?_
  have _ := hl
  refine WC.seq ?_
  refine WC.region ?_
  refine WL.r 1 rfl ?_
  refine WL.nil ?_
  refine WC.seq ?_
  refine WC.seq ?_
  refine WC.region ?_
  subst he; have hxl := u32s_len xs
  refine WL.r 5 rfl ?_
  refine WL.nil ?_
  refine WC.ifF rfl (decide_eq_false ((fun h => h rfl))) ?_
  refine WC.skip ?_
  refine WC.seq ?_
  refine WC.seq ?_
  refine WC.region ?_
  refine WL.r 1 rfl ?_
  refine WL.nil ?_
  refine WC.block ?_
  refine WC.loop [0, 1, 5] (fun kM vs w => ∃ (k : Nat), vs = [.slice a (List.length (u32s xs)) c, .slice b (List.length (u32s xs)) d, .int .i64 (k : Int)] ∧ St g (Sh 64 1 (u32s xs) a c :: Sh 64 1 (u32s xs) b d :: L) w ∧ (k ≤ xs.length) ∧ (xs.length - k) = kM) ((List.length xs) - 0) ⟨0, rfl, hS, (Nat.zero_le _), rfl⟩ ?_
  clear hS; rintro _ _ w j ⟨k, rfl, hS, hk, rfl⟩
  refine WC.seq ?_
  refine WC.seq ?_
  refine WC.region ?_
  refine WL.r 4 rfl ?_
  refine WL.nil ?_
  as_aux_lemma =>
    refine WC.ifP rfl (fun cd1 => ?_) (fun cd1 => ?_)
    · refine WC.skip ?_
      refine WC.seq ?_
      refine WC.block ?_
      refine WC.seq ?_
      refine WC.plan [([0, 1, 4, 5, 2, 6, 3, 7, 8], none)] (by kernel_rfl) (by kernel_rfl) ?_
      refine WQ.r 4 rfl ?_
      obtain ⟨x, hx⟩ : ∃ x, xs[k]? = some x := ⟨_, List.getElem?_eq_getElem (by omega)⟩
      refine WQ.ix rfl rfl (i := (k : Int)) (k) el_32 rfl rfl (by omega) (len_of (u32s_at hx)) (hS.rdS 0 rfl (u32s_at hx)).1 ?_
      refine WQ.ix rfl rfl (i := (k : Int)) (k) el_32 rfl rfl (by omega) (len_of (u32s_at hx)) (hS.rdS 1 rfl (u32s_at hx)).1 ?_
      refine WQ.run 3 [.int .u32 x, .int .u32 x] rfl (by exact ⟨(hS.rdS 0 rfl (u32s_at hx)).2 0 _ rfl, (hS.rdS 1 rfl (u32s_at hx)).2 0 _ rfl⟩) ?_
      refine WQ.nil ?_
      intro m1
      replace hS := hS.drewN m1; generalize hwm1 : World.drewN _ _ = w at *; clear hwm1
      refine WC.ifF rfl (decide_eq_false ((fun h => h rfl))) ?_
      refine WC.skip ?_
      refine WC.region ?_
      refine WL.r 2 rfl ?_
      refine WL.nw 16 rfl (w64 (by omega)) ?_
      refine WL.r 1 rfl ?_
      refine WL.nil ?_
      exact ⟨_, by omega, k + 1, rfl, hS, (by omega), rfl⟩
    · refine WC.exit ?_
      refine WC.seq ?_
      refine WC.region ?_
      refine WL.r 1 rfl ?_
      refine WL.nil ?_
      refine WC.ret ?_
      refine ⟨[.bool true], rfl, ?_⟩
      exact ⟨rfl, hS⟩
set_option maxRecDepth 8192 in
theorem same_dump {g w : World} {L : List HP} (xs ys : List SlE) (fs gs : List Int) (a b a' b' : Option Addr) (c d c' d' : Nat) (he : xs = ys) (hf : fs = gs) (hl : xs.length ≤ 1000000000) (hm : fs.length ≤ 1000000000) (hS : St g (Sh 167 11 (sls xs) a c :: Sh 64 1 (u32s fs) b d :: Sh 167 11 (sls ys) a' c' :: Sh 64 1 (u32s gs) b' d' :: L) w) :
    Sp Tryz.prog 32 [.agg #[.slice a (List.length (sls xs)) c, .slice b (List.length (u32s fs)) d], .agg #[.slice a' (List.length (sls ys)) c', .slice b' (List.length (u32s gs)) d']] w (fun v w' => v = .bool true ∧ St g (L) w') := by
  refine Sp.enter Tryz.func32 rfl (by kernel_rfl) (by kernel_rfl) ?_
  refine WC.seq ?_
  refine WC.region ?_
  refine WL.box rfl rfl #[.slice a (List.length (sls xs)) c, .slice b (List.length (u32s fs)) d] hS rfl rfl (fun b1 w hS => ?_)
  refine WL.box rfl rfl #[.slice a' (List.length (sls ys)) c', .slice b' (List.length (u32s gs)) d'] hS rfl rfl (fun b2 w hS => ?_)
  refine WL.r 1 rfl ?_
  refine WL.nil ?_
  refine WC.seq ?_
  refine WC.region ?_
  refine WL.run 4 [.slice a (List.length (sls xs)) c, .slice a' (List.length (sls ys)) c'] rfl (by exact ⟨hS.ld 1 rfl rfl, hS.ld 0 rfl rfl⟩) ?_
  refine WL.call rfl rfl (sameSS (xs := xs) (ys := ys) (a := a) (b := a') (c := c) (d := c') (he := he) (hl := hl) (hS := (hS.sel 5 [2, 3, 0, 0, 0] rfl))) rfl ?_
  clear hS; rintro _ w ⟨rfl, hS⟩
  replace hS : St g (Sh 167 11 (sls xs) a c :: Sh 167 11 (sls ys) a' c' :: cel b2 #[.slice a' (List.length (sls ys)) c', .slice b' (List.length (u32s gs)) d'] 62 :: cel b1 #[.slice a (List.length (sls xs)) c, .slice b (List.length (u32s fs)) d] 62 :: Sh 64 1 (u32s fs) b d :: Sh 64 1 (u32s gs) b' d' :: L) w := hS
  refine WL.r 1 rfl ?_
  refine WL.ung rfl rfl rfl ?_
  refine WL.r 1 rfl ?_
  refine WL.ung rfl rfl rfl ?_
  refine WL.run 1 [.slice b (List.length (u32s fs)) d] rfl (by exact hS.ld 3 rfl rfl) ?_
  refine WL.ung rfl rfl rfl ?_
  refine WL.r 1 rfl ?_
  refine WL.ung rfl rfl rfl ?_
  refine WL.run 1 [.slice b' (List.length (u32s gs)) d'] rfl (by exact hS.ld 2 rfl rfl) ?_
  refine WL.ung rfl rfl rfl ?_
  refine WL.call rfl rfl (sameU32 (xs := fs) (ys := gs) (a := b) (b := b') (c := d) (d := d') (he := hf) (hl := hm) (hS := (hS.sel 6 [4, 4, 0, 0, 0, 0] rfl))) rfl ?_
  clear hS; rintro _ w ⟨rfl, hS⟩
  replace hS : St g (Sh 64 1 (u32s fs) b d :: Sh 64 1 (u32s gs) b' d' :: Sh 167 11 (sls xs) a c :: Sh 167 11 (sls ys) a' c' :: cel b2 #[.slice a' (List.length (sls ys)) c', .slice b' (List.length (u32s gs)) d'] 62 :: cel b1 #[.slice a (List.length (sls xs)) c, .slice b (List.length (u32s fs)) d] 62 :: L) w := hS
  refine WL.r 2 rfl ?_
  refine WL.nil ?_
  as_aux_lemma =>
    refine WC.ret ?_
    refine ⟨[.bool true], rfl, ?_⟩
    replace hS := (hS.sel 6 [] rfl)
    exact ⟨rfl, hS⟩
end Go.Proofs.YtlnlnebibgdjdaaGreat
/-! ## D1 -/
namespace Go.Proofs.YtlnlnebibgdjdaaGreat
open Go Go.V
def ordU (S : SM) (k : Nat) : List Int := (List.range k).map fun i : Nat => S.fresh + 1 + (i : Int)
def SM.order (S : SM) : List Int := S.rel.reverse ++ ordU S (S.cap - S.fresh).toNat
theorem rev_next {l : List Int} {k : Nat} {x : Int} (h : l[k]? = some x) : (l.drop k).reverse = (l.drop (k + 1)).reverse ++ [x] := by
  obtain ⟨hl, rfl⟩ := List.getElem?_eq_some_iff.1 h
  rw [List.drop_eq_getElem_cons hl, List.reverse_cons]
theorem ordU_next (S : SM) (k : Nat) : ordU S (k + 1) = ordU S k ++ [S.fresh + 1 + (k : Int)] := by
  unfold ordU; rw [List.range_succ, List.map_append]; rfl
set_option maxRecDepth 8192 in
theorem sl_order {g w : World} {L : List HP} (s : Nat) (S : SM) (hO : SOk S) (hS : St g (Slt s S :: L) w) :
    Sp Tryz.prog 76 [.pointer (some ⟨s, 0, none⟩)] w (fun v w' => ∃ (a2 : Option Addr) (c2 : Nat), v = .slice a2 (List.length (u32s (SM.order S))) c2 ∧ St g (Own 64 1 (u32s (SM.order S)) a2 c2 :: Slt s S :: L) w') := by
  refine Sp.enter Tryz.func76 rfl (by kernel_rfl) (by kernel_rfl) ?_
  refine WC.seq ?_
  refine WC.region ?_
  obtain ⟨⟨ua, uc, ga, gc, ra, rc⟩, hS⟩ := St.exOpen (f := sltF s S) hS
  replace hS : St g (cel s #[.slice ua (List.length (bos S.used)) uc, .slice ga (List.length (u32s S.gen)) gc, .slice ra (List.length (u32s S.rel)) rc, .int .u32 S.fresh] 233 :: Own 4 1 (bos S.used) ua uc :: Own 64 1 (u32s S.gen) ga gc :: Own 64 1 (u32s S.rel) ra rc :: L) w := hS
  have hfr := hO.fr; have hcp : S.cap = (S.used.length : Int) - 1 := rfl; have hle := hO.le; have hrl := hO.rle; have hfd : S.free = (S.rel.length : Int) + S.cap - S.fresh := rfl; have hru := u32s_len S.rel; have hbu := bos_len S.used
  refine WL.r 1 rfl ?_
  refine WL.nil ?_
  refine WC.seq ?_
  refine WC.region ?_
  refine WL.r 1 rfl ?_
  refine WL.call rfl rfl (sl_free0 (s := s) (ua := ua) (ga := ga) (ra := ra) (n := List.length (bos S.used)) (ng := List.length (u32s S.gen)) (nr := List.length (u32s S.rel)) (uc := uc) (gc := gc) (rc := rc) (fr := S.fresh) (hn := (by omega)) (hS := hS)) rfl ?_
  clear hS; rintro _ w ⟨rfl, hS⟩
  replace hS : St g (cel s #[.slice ua (List.length (bos S.used)) uc, .slice ga (List.length (u32s S.gen)) gc, .slice ra (List.length (u32s S.rel)) rc, .int .u32 S.fresh] 233 :: Own 4 1 (bos S.used) ua uc :: Own 64 1 (u32s S.gen) ga gc :: Own 64 1 (u32s S.rel) ra rc :: L) w := hS
  refine WL.make rfl rfl (v := 0) (v' := (List.length (u32s S.rel)) + ((List.length (bos S.used)) - 1) - S.fresh) (0) (S.free.toNat) el_32 hS rfl (by omega) rfl (by omega) (by omega) (Rm.of (by omega) (by decide)) (fun b1 w hS => ?_)
  replace hS : St g (Own 64 1 [] (some ⟨b1, 0, none⟩) S.free.toNat :: cel s #[.slice ua (List.length (bos S.used)) uc, .slice ga (List.length (u32s S.gen)) gc, .slice ra (List.length (u32s S.rel)) rc, .int .u32 S.fresh] 233 :: Own 4 1 (bos S.used) ua uc :: Own 64 1 (u32s S.gen) ga gc :: Own 64 1 (u32s S.rel) ra rc :: L) w := hS
  refine WL.r 1 rfl ?_
  refine WL.nil ?_
  refine WC.seq ?_
  refine WC.seq ?_
  refine WC.region ?_
  refine WL.run 6 [.slice ra (List.length (u32s S.rel)) rc] rfl (by exact hS.ld 1 rfl rfl) ?_
  refine WL.nw 14 rfl (w64 (by omega)) ?_
  refine WL.r 1 rfl ?_
  refine WL.nil ?_
  as_aux_lemma =>
    refine WC.block ?_
    refine WC.loop [0, 2, 3, 4] (fun kM vs w => ∃ (j : Int) (out : List Int) (ub : Option Addr) (ud : Nat), vs = [.pointer (some ⟨s, 0, none⟩), .slice none 0 0, .slice ub (List.length (u32s out)) ud, .int .i64 j] ∧ St g (Own 64 1 (u32s out) ub ud :: cel s #[.slice ua (List.length (bos S.used)) uc, .slice ga (List.length (u32s S.gen)) gc, .slice ra (List.length (u32s S.rel)) rc, .int .u32 S.fresh] 233 :: Own 4 1 (bos S.used) ua uc :: Own 64 1 (u32s S.gen) ga gc :: Own 64 1 (u32s S.rel) ra rc :: L) w ∧ (-1 ≤ j ∧ j < S.rel.length) ∧ (out = (S.rel.drop (j + 1).toNat).reverse) ∧ ((j + 1).toNat) = kM) ((((List.length (u32s S.rel) : Int) - 1) + 1).toNat) ⟨((u32s S.rel).length : Int) - 1, [], (some ⟨b1, 0, none⟩), S.free.toNat, rfl, hS, (by omega), (by rw [List.drop_eq_nil_of_le (by omega)]; rfl), rfl⟩ ?_
    clear hS; rintro _ _ w j ⟨j, out, ub, ud, rfl, hS, hj, ho, rfl⟩
    refine WC.seq ?_
    refine WC.seq ?_
    refine WC.region ?_
    refine WL.r 2 rfl ?_
    refine WL.nil ?_
    refine WC.ifP rfl (fun cd1 => ?_) (fun cd1 => ?_)
    · refine WC.skip ?_
      refine WC.seq ?_
      refine WC.block ?_
      refine WC.region ?_
      refine WL.run 6 [.slice ra (List.length (u32s S.rel)) rc] rfl (by exact hS.ld 1 rfl rfl) ?_
      obtain ⟨x, hx⟩ : ∃ x, S.rel[j.toNat]? = some x := ⟨_, List.getElem?_eq_getElem (by omega)⟩; have hol : out.length ≤ S.rel.length := (by rw [ho, List.length_reverse, List.length_drop]; omega); have hoe := u32s_len out
      refine WL.ix rfl rfl (i := j) (j.toNat) el_32 rfl rfl (by omega) (by omega) (hS.rdO 4 rfl (u32s_at hx)).1 ?_
      refine WL.run 1 [.int .u32 x] rfl (by exact (hS.rdO 4 rfl (u32s_at hx)).2 0 _ rfl) ?_
      refine WL.lit rfl rfl (u32s [x]) el_32 hS (by exact ⟨rfl, rfl⟩) (u32s_ok _) rfl (by decide) (fun b2 w hS => ?_)
      refine WL.app rfl rfl 1 (u32s (out ++ [x])) el_32 hS rfl (hS.srcO 0 rfl) (u32s_app _ _).symm (Rm.of (by first | omega | (simp <;> omega)) (by decide)) rfl rfl (fun a1 c1 w hS => ?_)
      replace hS : St g (Own 64 1 (u32s [x]) (some ⟨b2, 0, none⟩) (List.length (u32s [x])) :: Own 64 1 (u32s (out ++ [x])) a1 c1 :: cel s #[.slice ua (List.length (bos S.used)) uc, .slice ga (List.length (u32s S.gen)) gc, .slice ra (List.length (u32s S.rel)) rc, .int .u32 S.fresh] 233 :: Own 4 1 (bos S.used) ua uc :: Own 64 1 (u32s S.gen) ga gc :: Own 64 1 (u32s S.rel) ra rc :: L) w := hS
      refine WL.r 1 rfl ?_
      refine WL.nil ?_
      refine WC.region ?_
      refine WL.r 2 rfl ?_
      refine WL.nw 18 rfl (w64 (by omega)) ?_
      refine WL.r 1 rfl ?_
      refine WL.nil ?_
      exact ⟨_, by omega, j - 1, out ++ [x], a1, c1, rfl, (hS.sel 1 [] rfl), (by omega), (by rw [ho, show (j + 1).toNat = j.toNat + 1 by omega, show (j - 1 + 1).toNat = j.toNat by omega]; exact (rev_next hx).symm), rfl⟩
    · refine WC.exit ?_
      refine WC.seq ?_
      refine WC.seq ?_
      refine WC.region ?_
      have hor : out = S.rel.reverse := (by rw [ho, show (j + 1).toNat = 0 by omega]; rfl)
      refine WL.run 5 [.int .u32 S.fresh] rfl (by exact hS.ld 1 rfl rfl) ?_
      refine WL.nw 33 rfl (w64 (by omega)) ?_
      refine WL.r 1 rfl ?_
      refine WL.nw 34 rfl (w64 (by omega)) ?_
      refine WL.r 1 rfl ?_
      refine WL.nil ?_
      refine WC.block ?_
      refine WC.loop [0, 2, 3, 5] (fun kM vs w => ∃ (k : Nat) (j2 : Int) (acc : List Int) (uf : Option Addr) (ud2 : Nat), vs = [.pointer (some ⟨s, 0, none⟩), .slice none 0 0, .slice uf (List.length (u32s acc)) ud2, .int .i64 j2] ∧ St g (Own 64 1 (u32s acc) uf ud2 :: cel s #[.slice ua (List.length (bos S.used)) uc, .slice ga (List.length (u32s S.gen)) gc, .slice ra (List.length (u32s S.rel)) rc, .int .u32 S.fresh] 233 :: Own 4 1 (bos S.used) ua uc :: Own 64 1 (u32s S.gen) ga gc :: Own 64 1 (u32s S.rel) ra rc :: L) w ∧ ((k : Int) ≤ S.cap - S.fresh) ∧ (j2 = S.fresh + 1 + (k : Int)) ∧ (acc = S.rel.reverse ++ ordU S k) ∧ ((S.cap - S.fresh).toNat - k) = kM) ((S.cap - S.fresh).toNat - 0) ⟨0, S.fresh + 1, out, ub, ud, rfl, hS, (by omega), (by omega), (by rw [hor]; simp [ordU]), rfl⟩ ?_
      clear hS; rintro _ _ w j ⟨k, j2, acc, uf, ud2, rfl, hS, hk, hj2, ha, rfl⟩
      refine WC.seq ?_
      refine WC.seq ?_
      refine WC.region ?_
      refine WL.r 2 rfl ?_
      refine WL.call rfl rfl (sl_cap0 (s := s) (ua := ua) (ga := ga) (ra := ra) (n := List.length (bos S.used)) (ng := List.length (u32s S.gen)) (nr := List.length (u32s S.rel)) (uc := uc) (gc := gc) (rc := rc) (fr := S.fresh) (hn := (by omega)) (hS := (hS.sel 2 [1, 0] rfl))) rfl ?_
      clear hS; rintro _ w ⟨rfl, hS⟩
      replace hS : St g (cel s #[.slice ua (List.length (bos S.used)) uc, .slice ga (List.length (u32s S.gen)) gc, .slice ra (List.length (u32s S.rel)) rc, .int .u32 S.fresh] 233 :: Own 64 1 (u32s acc) uf ud2 :: Own 4 1 (bos S.used) ua uc :: Own 64 1 (u32s S.gen) ga gc :: Own 64 1 (u32s S.rel) ra rc :: L) w := hS
      refine WL.r 1 rfl ?_
      refine WL.nil ?_
      as_aux_lemma =>
        refine WC.ifP rfl (fun cd2 => ?_) (fun cd2 => ?_)
        · refine WC.skip ?_
          refine WC.seq ?_
          refine WC.block ?_
          refine WC.region ?_
          have hal : acc.length ≤ 140000 := (by rw [ha, List.length_append, List.length_reverse]; unfold ordU; simp; omega); have hac := u32s_len acc
          refine WL.r 3 rfl ?_
          refine WL.nw 43 rfl (wu32 (by omega)) ?_
          refine WL.lit rfl rfl (u32s [j2]) el_32 hS (by exact ⟨rfl, rfl⟩) (u32s_ok _) rfl (by decide) (fun b2 w hS => ?_)
          refine WL.app rfl rfl 2 (u32s (acc ++ [j2])) el_32 hS rfl (hS.srcO 0 rfl) (u32s_app _ _).symm (Rm.of (by first | omega | (simp <;> omega)) (by decide)) rfl rfl (fun a1 c1 w hS => ?_)
          replace hS : St g (Own 64 1 (u32s [j2]) (some ⟨b2, 0, none⟩) (List.length (u32s [j2])) :: cel s #[.slice ua (List.length (bos S.used)) uc, .slice ga (List.length (u32s S.gen)) gc, .slice ra (List.length (u32s S.rel)) rc, .int .u32 S.fresh] 233 :: Own 64 1 (u32s (acc ++ [j2])) a1 c1 :: Own 4 1 (bos S.used) ua uc :: Own 64 1 (u32s S.gen) ga gc :: Own 64 1 (u32s S.rel) ra rc :: L) w := hS
          refine WL.r 1 rfl ?_
          refine WL.nil ?_
          refine WC.region ?_
          refine WL.r 2 rfl ?_
          refine WL.nw 40 rfl (w64 (by omega)) ?_
          refine WL.r 1 rfl ?_
          refine WL.nil ?_
          exact ⟨_, by omega, k + 1, j2 + 1, acc ++ [j2], a1, c1, rfl, (hS.sel 3 [2, 1] rfl), (by omega), (by omega), (by rw [hj2, ha, ordU_next, List.append_assoc]), rfl⟩
        · refine WC.exit ?_
          refine WC.seq ?_
          refine WC.region ?_
          refine WL.r 2 rfl ?_
          refine WL.nil ?_
          refine WC.ret ?_
          replace hS := St.exClose (f := sltF s S) (L := Own 64 1 (u32s acc) uf ud2 :: L) ⟨ua, uc, ga, gc, ra, rc⟩ ((hS.sel 5 [0, 1, 1, 1, 0] rfl))
          replace hS : St g (Slt s S :: Own 64 1 (u32s acc) uf ud2 :: L) w := hS
          refine ⟨[.slice uf (List.length (u32s acc)) ud2], rfl, ?_⟩
          replace hS := (hS.sel 2 [1, 0] rfl)
          have hke : k = (S.cap - S.fresh).toNat := (by omega); subst hke; rw [show acc = SM.order S from ha] at hS ⊢; exact ⟨_, _, rfl, hS⟩
end Go.Proofs.YtlnlnebibgdjdaaGreat
/-! ## D2 -/
namespace Go.Proofs.YtlnlnebibgdjdaaGreat
open Go Go.V
set_option maxRecDepth 8192 in
theorem ar_cap_o {g w : World} {L : List HP} (a p : Nat) (A : AM) (na : Option Addr) (nc : Nat) (ca : Option Addr) (cc : Nat) (rd : Int) (hA : AWf A) (hS : St g (cel a #[.pointer (some ⟨p, 0, none⟩), .slice na (List.length (nds A.nodes)) nc, .slice ca (List.length (i64s A.cnt)) cc, .int .u64 rd] 153 :: Slt p A.s :: Own 165 8 (nds A.nodes) na nc :: Own 3 1 (i64s A.cnt) ca cc :: L) w) :
    Sp Tryz.prog 14 [.pointer (some ⟨a, 0, none⟩)] w (fun v w' => v = .int .i64 A.s.cap ∧ St g (cel a #[.pointer (some ⟨p, 0, none⟩), .slice na (List.length (nds A.nodes)) nc, .slice ca (List.length (i64s A.cnt)) cc, .int .u64 rd] 153 :: Slt p A.s :: Own 165 8 (nds A.nodes) na nc :: Own 3 1 (i64s A.cnt) ca cc :: L) w') := by
  refine Sp.enter Tryz.func14 rfl (by kernel_rfl) (by kernel_rfl) ?_
  refine WC.seq ?_
  refine WC.region ?_
  have hs := hA.s
  refine WL.r 1 rfl ?_
  refine WL.nil ?_
  refine WC.seq ?_
  refine WC.region ?_
  refine WL.run 4 [.pointer (some ⟨p, 0, none⟩)] rfl (by exact hS.ld 0 rfl rfl) ?_
  refine WL.call rfl rfl (sl_cap (s := p) (S := A.s) (hl := hA.s.le) (hS := (hS.sel 2 [1, 0] rfl))) rfl ?_
  clear hS; rintro _ w ⟨rfl, hS⟩
  replace hS : St g (Slt p A.s :: cel a #[.pointer (some ⟨p, 0, none⟩), .slice na (List.length (nds A.nodes)) nc, .slice ca (List.length (i64s A.cnt)) cc, .int .u64 rd] 153 :: Own 165 8 (nds A.nodes) na nc :: Own 3 1 (i64s A.cnt) ca cc :: L) w := hS
  refine WL.r 1 rfl ?_
  refine WL.nil ?_
  refine WC.ret ?_
  refine ⟨[.int .i64 A.s.cap], rfl, ?_⟩
  replace hS := (hS.sel 2 [1, 0] rfl)
  exact ⟨rfl, hS⟩
set_option maxRecDepth 8192 in
theorem ar_gen_o {g w : World} {L : List HP} (a p : Nat) (A : AM) (na : Option Addr) (nc : Nat) (ca : Option Addr) (cc : Nat) (rd : Int) (i : Int) (hA : AWf A) (hi : 0 ≤ i ∧ i < 4294967296) (hS : St g (cel a #[.pointer (some ⟨p, 0, none⟩), .slice na (List.length (nds A.nodes)) nc, .slice ca (List.length (i64s A.cnt)) cc, .int .u64 rd] 153 :: Slt p A.s :: Own 165 8 (nds A.nodes) na nc :: Own 3 1 (i64s A.cnt) ca cc :: L) w) :
    Sp Tryz.prog 79 [.pointer (some ⟨a, 0, none⟩), .int .u32 i] w (fun v w' => v = .int .u32 (A.s.genOf i) ∧ St g (cel a #[.pointer (some ⟨p, 0, none⟩), .slice na (List.length (nds A.nodes)) nc, .slice ca (List.length (i64s A.cnt)) cc, .int .u64 rd] 153 :: Slt p A.s :: Own 165 8 (nds A.nodes) na nc :: Own 3 1 (i64s A.cnt) ca cc :: L) w') := by
  refine Sp.enter Tryz.func79 rfl (by kernel_rfl) (by kernel_rfl) ?_
  have _ := hi
  refine WC.seq ?_
  refine WC.region ?_
  have hs := hA.s
  refine WL.r 1 rfl ?_
  refine WL.nil ?_
  refine WC.seq ?_
  refine WC.region ?_
  refine WL.run 5 [.pointer (some ⟨p, 0, none⟩)] rfl (by exact hS.ld 0 rfl rfl) ?_
  refine WL.call rfl rfl (sl_gen (s := p) (S := A.s) (i := i) (hl := (by first | assumption | exact SOk.gle (by assumption))) (hi := (by omega)) (hS := (hS.sel 2 [1, 0] rfl))) rfl ?_
  clear hS; rintro _ w ⟨rfl, hS⟩
  replace hS : St g (Slt p A.s :: cel a #[.pointer (some ⟨p, 0, none⟩), .slice na (List.length (nds A.nodes)) nc, .slice ca (List.length (i64s A.cnt)) cc, .int .u64 rd] 153 :: Own 165 8 (nds A.nodes) na nc :: Own 3 1 (i64s A.cnt) ca cc :: L) w := hS
  refine WL.r 1 rfl ?_
  refine WL.nil ?_
  refine WC.ret ?_
  refine ⟨[.int .u32 (A.s.genOf i)], rfl, ?_⟩
  replace hS := (hS.sel 2 [1, 0] rfl)
  exact ⟨rfl, hS⟩
set_option maxRecDepth 8192 in
theorem ar_count_o {g w : World} {L : List HP} (a p : Nat) (A : AM) (na : Option Addr) (nc : Nat) (ca : Option Addr) (cc : Nat) (rd : Int) (i : Int) (hA : AWf A) (hi : 0 ≤ i ∧ i < 4294967296) (hS : St g (cel a #[.pointer (some ⟨p, 0, none⟩), .slice na (List.length (nds A.nodes)) nc, .slice ca (List.length (i64s A.cnt)) cc, .int .u64 rd] 153 :: Slt p A.s :: Own 165 8 (nds A.nodes) na nc :: Own 3 1 (i64s A.cnt) ca cc :: L) w) :
    Sp Tryz.prog 78 [.pointer (some ⟨a, 0, none⟩), .int .u32 i] w (fun v w' => v = .int .i64 (AM.cntD A i) ∧ St g (cel a #[.pointer (some ⟨p, 0, none⟩), .slice na (List.length (nds A.nodes)) nc, .slice ca (List.length (i64s A.cnt)) cc, .int .u64 rd] 153 :: Slt p A.s :: Own 165 8 (nds A.nodes) na nc :: Own 3 1 (i64s A.cnt) ca cc :: L) w') := by
  refine Sp.enter Tryz.func78 rfl (by kernel_rfl) (by kernel_rfl) ?_
  refine WC.seq ?_
  refine WC.region ?_
  refine WL.r 1 rfl ?_
  refine WL.nil ?_
  refine WC.seq ?_
  refine WC.seq ?_
  refine WC.region ?_
  have hs := hA.s; have hle := hA.s.le; have hcl := hA.cl; have hil := i64s_len A.cnt
  refine WL.run 5 [.pointer (some ⟨p, 0, none⟩)] rfl (by exact hS.ld 0 rfl rfl) ?_
  refine WL.call rfl rfl (sl_ok (s := p) (S := A.s) (i := i) (hl := hle) (hi := hi) (hS := (hS.sel 2 [1, 0] rfl))) rfl ?_
  clear hS; rintro _ w ⟨rfl, hS⟩
  replace hS : St g (Slt p A.s :: cel a #[.pointer (some ⟨p, 0, none⟩), .slice na (List.length (nds A.nodes)) nc, .slice ca (List.length (i64s A.cnt)) cc, .int .u64 rd] 153 :: Own 165 8 (nds A.nodes) na nc :: Own 3 1 (i64s A.cnt) ca cc :: L) w := hS
  refine WL.r 1 rfl ?_
  refine WL.nil ?_
  refine WC.if_ rfl (fun hc => ?_) (fun hc => ?_)
  · refine WC.seq ?_
    refine WC.region ?_
    refine WL.r 1 rfl ?_
    refine WL.nil ?_
    refine WC.ret ?_
    refine ⟨[.int .i64 0], rfl, ?_⟩
    replace hS := (hS.sel 2 [1, 0] rfl)
    exact ⟨by unfold AM.cntD; rw [if_neg (by simpa using hc)]; rfl, hS⟩
  · refine WC.skip ?_
    refine WC.seq ?_
    refine WC.region ?_
    refine WL.run 5 [.slice ca (List.length (i64s A.cnt)) cc] rfl (by exact hS.ld 1 rfl rfl) ?_
    have hr := SM.ok_rng hA.s hi.1 (by simpa using hc); obtain ⟨x, hx⟩ : ∃ x, A.cnt[i.toNat]? = some x := ⟨_, List.getElem?_eq_getElem (by omega)⟩
    refine WL.ix rfl rfl (i := i) (i.toNat) el_56 rfl rfl (by omega) (by omega) (hS.rdO 3 rfl (i64s_at hx)).1 ?_
    refine WL.run 2 [.int .i64 x] rfl (by exact (hS.rdO 3 rfl (i64s_at hx)).2 0 _ rfl) ?_
    refine WL.nil ?_
    refine WC.ret ?_
    refine ⟨[.int .i64 x], rfl, ?_⟩
    replace hS := (hS.sel 2 [1, 0] rfl)
    exact ⟨by unfold AM.cntD AM.cntOf; rw [if_pos (by simpa using hc), hx]; rfl, hS⟩
end Go.Proofs.YtlnlnebibgdjdaaGreat
