/-
  Histories: the chain of trees that the laws make.
  Conditions: the keys are 64-bit numbers.
-/
import Derived.Test.YtlnlnebibgdjdaaH1
import Derived.Test.YtlnlnebibgdjdaaH2
import Derived.Test.YtlnlnebibgdjdaaK2
import Derived.Test.YtlnlnebibgdjdaaMd
import Derived.Test.YtlnlnebibgdjdaaHc
namespace Go.Proofs.Ytlnlnebibgdjdaa
open Go Go.V Go.RowKit

theorem mkL_R {raw : Kvs} (h : kvR raw) : ∀ k, kvR (mkL raw k)
  | 0 => fun x hx => by cases hx
  | k + 1 => by
    cases he : raw[k]? with
    | none =>
      have : mkL raw (k + 1) = mkL raw k := by unfold mkL; rw [List.take_add_one, he]; simp
      rw [this]; exact mkL_R h k
    | some e =>
      rw [mkL_succ he]
      exact kvR_lins (mkL_R h k) (h e (List.mem_of_getElem? he))
theorem get_in {t : Tr} {l : Kvs} {x : Int × Int} (h : t.ls = l) (hs : Srt l) (hx : x ∈ l) : (Tr.get x.1 t).isSome = true := by
  rw [Tr.get_ls x.1 t (by rw [h]; exact hs), h, (lget_some hs).2 hx]; rfl
def i6 (z : Int) : Prop := -9223372036854775808 ≤ z ∧ z ≤ 9223372036854775807
def stR (S : List Chg) : Prop := ∀ s ∈ S, i6 s.1 ∧ i6 s.2.1 ∧ i6 s.2.2.2
theorem snoc_le {α : Type} {xs : List α} {x z : α} (h : z ∈ xs ++ [x]) : z ∈ x :: xs := by
  rcases List.mem_append.1 h with h | h
  · exact List.mem_cons_of_mem _ h
  · rw [List.mem_singleton.1 h]; exact List.mem_cons_self ..
theorem refS_del {g w : World} {L : List HP} (l : Kvs) (u : Option Addr) (d : Nat) (k : Int) (hl : l.length ≤ 1000000) (hS : St g (Sh 46 2 (en2 l) u d :: L) w) :
    Sp Try.prog 28 [.slice u (List.length (en2 l)) d, .int .i64 k] w (fun v w' => ∃ (a2 : Option Addr) (c2 : Nat), v = .slice a2 (List.length (en2 (ldel k l))) c2 ∧ St g (Sh 46 2 (en2 (ldel k l)) a2 c2 :: Sh 46 2 (en2 l) u d :: L) w') := by
  exact (ref_del l u d k hl hS).mono fun v w' ⟨a2, c2, hv, hS'⟩ => ⟨a2, c2, hv, hS'.share⟩
theorem refS_ins {g w : World} {L : List HP} (l : Kvs) (u : Option Addr) (d : Nat) (k z : Int) (hs : Srt l) (hl : l.length ≤ 1000000) (hS : St g (Sh 46 2 (en2 l) u d :: L) w) :
    Sp Try.prog 23 [.slice u (List.length (en2 l)) d, .agg #[.int .i64 k, .int .i64 z]] w (fun v w' => ∃ (a2 : Option Addr) (c2 : Nat), v = .slice a2 (List.length (en2 (lins k z l))) c2 ∧ St g (Sh 46 2 (en2 (lins k z l)) a2 c2 :: Sh 46 2 (en2 l) u d :: L) w') := by
  exact (ref_ins l u d k z hs hl hS).mono fun v w' ⟨a2, c2, hv, hS'⟩ => ⟨a2, c2, hv, hS'.share⟩
set_option maxHeartbeats 4000000 in
set_option maxRecDepth 8192 in
theorem kt_chain {g w : World} {L : List HP} (raw : Kvs) (u : Option Addr) (d : Nat) (q : Int) (S : List Chg) (us : Option Addr) (ds : Nat) (hq : 0 ≤ q ∧ q ≤ 18446744073709551615) (hraw : kvR raw) (hS0 : stR S) (hSl : S.length ≤ 9223372036854775807) (hS : St g (Sh 46 2 (en2 raw) u d :: Sh 127 4 (ch4 S) us ds :: L) w) :
    Sp Try.prog 25 [.slice u (List.length (en2 raw)) d, .int .u64 q, .slice us (List.length (ch4 S)) ds] w (fun v w' => ∃ (a : Nat) (A : AM) (R rs : List Int) (ru : Option Addr) (rc : Nat) (LL : List LsE) (lu : Option Addr) (lc : Nat), v = .tuple #[.pointer (some ⟨a, 0, none⟩), .slice ru (List.length (u32s rs)) rc, .slice lu (List.length (enL LL)) lc, .bool true] ∧ St g (Arn a A :: Own 40 1 (u32s rs) ru rc :: Own 36 1 (enL LL) lu lc :: Shs leF LL :: L) w' ∧ (ARf A R) ∧ (RTs A (LL.map LsE.es) rs) ∧ (LOk (LL.map LsE.es)) ∧ (1 ≤ rs.length ∧ rs.length ≤ 15)) := by
  refine Sp.enter Try.func25 rfl (by kernel_rfl) (by kernel_rfl) ?_
  have _ := hSl
  have _ := hq
  refine WC.seq ?_
  refine WC.region ?_
  refine WL.r 4 rfl ?_
  refine WL.nil ?_
  refine WC.seq ?_
  refine WC.region ?_
  have hml := mkL_srt raw 40; have hmr := mkL_R hraw 40; have hcl := ch4_len S; have hel : (en2 (mkL raw (Int.toNat 40))).length = (mkL raw 40).length := en2_len (mkL raw 40)
  refine WL.r 1 rfl ?_
  refine WL.call rfl rfl (kt_list (raw := raw) (u := u) (d := d) (most := 40) (hm := (by omega)) (hS := hS)) rfl ?_
  clear hS; rintro _ w ⟨a1, c1, rfl, hS⟩
  replace hS : St g (Own 46 2 (en2 (mkL raw 40)) a1 c1 :: Sh 46 2 (en2 raw) u d :: Sh 127 4 (ch4 S) us ds :: L) w := hS
  refine WL.r 1 rfl ?_
  refine WL.nil ?_
  refine WC.seq ?_
  refine WC.region ?_
  obtain ⟨n, hn⟩ : ∃ n : Nat, min (List.length (ch4 S) : Int) 14 = (n : Int) := ⟨min (ch4 S).length 14, by omega⟩; have hn2 : n ≤ 14 ∧ n ≤ S.length := (by omega)
  refine WL.r 4 rfl ?_
  refine WL.nil ?_
  refine WC.seq ?_
  refine WC.region ?_
  obtain ⟨c, hc⟩ : ∃ c : Nat, c = 4 * (Tr.mxH ((mkL raw 40).length + n + 1) + 2) := ⟨_, rfl⟩; have hcb : c ≤ 328 := (by have := Tr.mxH_le ((mkL raw 40).length + n + 1); omega); have hmb : (n + 1) * c ≤ 15 * 328 := Nat.mul_le_mul (by omega) hcb; have hme : ((n : Int) + 1) * (4 * ((Tr.mxH ((mkL raw 40).length + n + 1) : Int) + 2)) = (((n + 1) * c : Nat) : Int) := (by rw [hc]; rfl)
  refine WL.reb 11 (.int .i64 (n : Int)) (congrArg (Value.int .i64) hn) ?_
  refine WL.r 4 rfl ?_
  refine WL.nw 33 rfl (w64 (by omega)) ?_
  refine WL.r 4 rfl ?_
  refine WL.reb 37 (.int .i64 (((List.length (mkL raw 40)) + n : Nat) : Int)) (congrArg (Value.int .i64) (by rw [hel, w64 (by omega)]; rfl)) ?_
  refine WL.call rfl rfl (r8_ins (n := ((List.length (mkL raw 40)) + n : Nat)) (hn := (by omega)) (hS := hS)) rfl ?_
  clear hS; rintro _ w ⟨rfl, hS⟩
  replace hS : St g (Own 46 2 (en2 (mkL raw 40)) a1 c1 :: Sh 46 2 (en2 raw) u d :: Sh 127 4 (ch4 S) us ds :: L) w := hS
  refine WL.r 1 rfl ?_
  refine WL.reb 39 (.int .i64 (((n + 1) * c : Nat) : Int)) (congrArg (Value.int .i64) (by exact (congrArg _ hme).trans (w64 (by omega)))) ?_
  refine WL.r 1 rfl ?_
  refine WL.reb 40 (.int .i64 ((1 + (n + 1) * c : Nat) : Int)) (congrArg (Value.int .i64) (by rw [w64 (by omega)]; rfl)) ?_
  replace hS := (hS.at_ 0 rfl).share
  replace hS : St g (Sh 46 2 (en2 (mkL raw 40)) a1 c1 :: Sh 46 2 (en2 raw) u d :: Sh 127 4 (ch4 S) us ds :: L) w := hS
  refine WL.call rfl rfl (kt_grow (l := mkL raw 40) (u := a1) (d := c1) (q := q) (sp := ((1 + (n + 1) * c : Nat) : Int)) (hl := (by omega)) (hs := (by omega)) (hq := (by omega)) (hS := hS)) rfl ?_
  clear hS; rintro _ w ⟨a2, A1, i1, t1, rfl, hS, f1, f2, f3, f4, f5⟩
  replace hS : St g (Arn a2 A1 :: Sh 46 2 (en2 (mkL raw 40)) a1 c1 :: Sh 46 2 (en2 raw) u d :: Sh 127 4 (ch4 S) us ds :: L) w := hS
  refine WL.r 7 rfl ?_
  refine WL.nil ?_
  as_aux_lemma =>
    refine WC.seq ?_
    refine WC.seq ?_
    refine WC.region ?_
    refine WL.r 2 rfl ?_
    refine WL.nil ?_
    refine WC.ifF rfl rfl ?_
    refine WC.skip ?_
    refine WC.seq ?_
    refine WC.region ?_
    replace hS : St g (Shs leF [LsE.mk (mkL raw 40) a1 c1] :: Arn a2 A1 :: Sh 46 2 (en2 (mkL raw 40)) a1 c1 :: Sh 46 2 (en2 raw) u d :: Sh 127 4 (ch4 S) us ds :: L) w := St.shsCons (hS.shsNil leF) (leF_sh _) [1] rfl
    refine WL.r 1 rfl ?_
    refine WL.lit rfl rfl (u32s [i1]) el_54 hS (by exact ⟨rfl, rfl⟩) (u32s_ok _) rfl (by decide) (fun b1 w hS => ?_)
    refine WL.r 1 rfl ?_
    refine WL.lit rfl rfl (enL [LsE.mk (mkL raw 40) a1 c1]) el_55 hS (by exact ⟨rfl, rfl⟩) (enL_ok _) rfl (by decide) (fun b2 w hS => ?_)
    refine WL.r 2 rfl ?_
    refine WL.nil ?_
    refine WC.seq ?_
    refine WC.seq ?_
    refine WC.region ?_
    refine WL.r 1 rfl ?_
    refine WL.nil ?_
    refine WC.block ?_
    refine WC.loop [2, 11, 12, 15, 16, 17] (fun kM vs w => ∃ (k : Nat) (B : AM) (R rs : List Int) (ru : Option Addr) (rc : Nat) (LL : List LsE) (lu : Option Addr) (lc : Nat), vs = [.slice us (List.length (ch4 S)) ds, .int .i64 (n : Int), .pointer (some ⟨a2, 0, none⟩), .slice ru (List.length (u32s rs)) rc, .slice lu (List.length (enL LL)) lc, .int .i64 (k : Int)] ∧ St g (Own 36 1 (enL LL) lu lc :: Own 40 1 (u32s rs) ru rc :: Shs leF LL :: Arn a2 B :: Sh 46 2 (en2 (mkL raw 40)) a1 c1 :: Sh 46 2 (en2 raw) u d :: Sh 127 4 (ch4 S) us ds :: L) w ∧ (k ≤ n) ∧ (ChI B R rs LL (mkL raw 40).length k n c) ∧ (n - k) = kM) (n - 0) ⟨0, A1, [i1], [i1], (some ⟨b1, 0, none⟩), (u32s [i1]).length, [LsE.mk (mkL raw 40) a1 c1], (some ⟨b2, 0, none⟩), (enL [LsE.mk (mkL raw 40) a1 c1]).length, rfl, hS, (Nat.zero_le _), (ChI.init f1 f2 f3 f4 ⟨hml.1, hmr⟩ f5 a1 c1), rfl⟩ ?_
    clear hS; rintro _ _ w j ⟨k, B, R, rs, ru, rc, LL, lu, lc, rfl, hS, hk, hI, rfl⟩
    refine WC.seq ?_
    refine WC.seq ?_
    refine WC.region ?_
    refine WL.r 3 rfl ?_
    refine WL.nil ?_
    as_aux_lemma =>
      refine WC.ifP rfl (fun cd1 => ?_) (fun cd1 => ?_)
      · refine WC.skip ?_
        refine WC.seq ?_
        refine WC.block ?_
        refine WC.seq ?_
        refine WC.plan [([0, 1, 4, 5, 2, 6, 3, 7, 8, 9], none)] (by kernel_rfl) (by kernel_rfl) ?_
        obtain ⟨r, hr⟩ : ∃ r, rs[k]? = some r := ⟨_, List.getElem?_eq_getElem (by have := hI.rsl; omega)⟩; have hLl : LL.length = rs.length := (by have := hI.trs.len; rw [List.length_map] at this; exact this); obtain ⟨z, hz⟩ : ∃ z, LL[k]? = some z := ⟨_, List.getElem?_eq_getElem (by have := hI.rsl; omega)⟩; obtain ⟨s, hs⟩ : ∃ s, S[k]? = some s := ⟨_, List.getElem?_eq_getElem (by omega)⟩; have hsr := hS0 s (List.mem_of_getElem? hs); have hroom := hI.room (by omega); have hul := u32s_len rs; have hnl := enL_len LL; have hrsl := hI.rsl; obtain ⟨hrR, t, ht1, ht2, ht3⟩ := hI.at hr hz; have hzo := hI.lok z (List.mem_of_getElem? hz); have htn : t.n = z.es.length := (by rw [← Tr.ls_len, ht3]); have hRl := hI.rl; have hze := en2_len z.es; have hmx1 := Tr.mxH_mono (a := t.n + 1) (b := (mkL raw 40).length + n + 1) (by omega); have hmx2 := Tr.mxH_mono (a := t.n) (b := (mkL raw 40).length + n + 1) (by omega)
        refine WQ.r 4 rfl ?_
        refine WQ.ix rfl rfl (i := (k : Int)) (k) el_54 rfl rfl (by omega) (by omega) (hS.rdO 1 rfl (u32s_at hr)).1 ?_
        refine WQ.ix rfl rfl (i := (k : Int)) (k) el_55 rfl rfl (by omega) (by omega) (hS.rdO 0 rfl (enL_at hz)).1 ?_
        refine WQ.run 4 [.int .u32 r, .slice z.a (List.length (en2 z.es)) z.c] rfl (by exact ⟨(hS.rdO 1 rfl (u32s_at hr)).2 0 _ rfl, (hS.rdO 0 rfl (enL_at hz)).2 0 _ rfl⟩) ?_
        refine WQ.nil ?_
        intro m1
        replace hS := hS.drewN m1; generalize hwm1 : World.drewN _ _ = w at *; clear hwm1
        refine WC.seq ?_
        refine WC.region ?_
        refine WL.r 2 rfl ?_
        refine WL.nil ?_
        refine WC.seq ?_
        refine WC.seq ?_
        refine WC.region ?_
        refine WL.r 2 rfl ?_
        refine WL.ix rfl rfl (i := (k : Int)) (k) el_53 rfl rfl (by omega) (by omega) (hS.rdS 6 rfl (ch4_at hs)).1 ?_
        refine WL.run 2 [.int .i64 s.1] rfl (by exact (hS.rdS 6 rfl (ch4_at hs)).2 0 _ rfl) ?_
        refine WL.call rfl rfl (md_spec (k := s.1) (n := 4) (hk := hsr.1) (hn := (by omega)) (hS := hS)) rfl ?_
        clear hS; rintro _ w ⟨rfl, hS⟩
        replace hS : St g (Own 36 1 (enL LL) lu lc :: Own 40 1 (u32s rs) ru rc :: Shs leF LL :: Arn a2 B :: Sh 46 2 (en2 (mkL raw 40)) a1 c1 :: Sh 46 2 (en2 raw) u d :: Sh 127 4 (ch4 S) us ds :: L) w := hS
        refine WL.nil ?_
        as_aux_lemma =>
          refine WC.cut [2, 11, 12, 15, 16, 17, 18, 19, 20, 21, 51, 52, 53, 56, 57, 58, 59, 60, 61, 62, 63, 64, 65, 66, 67, 68, 69] (fun vs w => ∃ (B2 : AM) (R2 : List Int) (o : Int) (ns : Kvs) (na : Option Addr) (nc : Nat), vs = [.slice us (List.length (ch4 S)) ds, .int .i64 (n : Int), .pointer (some ⟨a2, 0, none⟩), .slice ru (List.length (u32s rs)) rc, .slice lu (List.length (enL LL)) lc, .int .i64 (k : Int), .int .u32 r, .slice na (List.length (en2 ns)) nc, .int .u32 o, .int .i64 0, .int .i64 (k : Int), .int .i64 (n : Int), .bool (decide ((k : Int) < (n : Int))), .slice ru (List.length (u32s rs)) rc, .int .i64 (k : Int), .pointer (some ⟨bo ru, (oo ru) + (k * 1), none⟩), .int .u32 r, .slice lu (List.length (enL LL)) lc, .int .i64 (k : Int), .pointer (some ⟨bo lu, (oo lu) + (k * 1), none⟩), .slice z.a (List.length (en2 z.es)) z.c, .slice us (List.length (ch4 S)) ds, .int .i64 (k : Int), .pointer (some ⟨bo us, (oo us) + (k * 4), none⟩), .pointer (some ⟨bo us, (oo us) + (k * 4), none⟩), .int .i64 s.1, .int .i64 (s.1 % 4)] ∧ St g (Arn a2 B2 :: Sh 46 2 (en2 ns) na nc :: Own 36 1 (enL LL) lu lc :: Own 40 1 (u32s rs) ru rc :: Shs leF LL :: Sh 46 2 (en2 (mkL raw 40)) a1 c1 :: Sh 46 2 (en2 raw) u d :: Sh 127 4 (ch4 S) us ds :: L) w ∧ (ChJ B B2 R R2 o ns (mkL raw 40).length k c)) ?_ ?_
          · refine WC.block ?_
            refine WC.seq ?_
            refine WC.region ?_
            refine WL.r 2 rfl ?_
            refine WL.nil ?_
            refine WC.ifP rfl (fun cd2 => ?_) (fun cd2 => ?_)
            · refine WC.seq ?_
              refine WC.seq ?_
              refine WC.region ?_
              replace hS : St g (Sh 46 2 (en2 z.es) z.a z.c :: Own 36 1 (enL LL) lu lc :: Own 40 1 (u32s rs) ru rc :: Shs leF LL :: Arn a2 B :: Sh 46 2 (en2 (mkL raw 40)) a1 c1 :: Sh 46 2 (en2 raw) u d :: Sh 127 4 (ch4 S) us ds :: L) w := hS.shsGet 2 rfl (List.mem_of_getElem? hz)
              refine WL.r 3 rfl ?_
              refine WL.nil ?_
              refine WC.ifP rfl (fun cd3 => ?_) (fun cd3 => ?_)
              · refine WC.seq ?_
                refine WC.region ?_
                refine WL.r 2 rfl ?_
                refine WL.nil ?_
                refine WC.exit ?_
                exact ⟨B, R, r, z.es, z.a, z.c, rfl, (hS.sel 5 [4, 0, 0, 0, 0] rfl), (hI.same hr hz)⟩
              · refine WC.skip ?_
                refine WC.seq ?_
                refine WC.region ?_
                have hb1 := Int.emod_nonneg s.2.2.2 (b := ((en2 z.es).length : Int)) (by omega); have hb2 := Int.emod_lt_of_pos s.2.2.2 (b := ((en2 z.es).length : Int)) (by omega); obtain ⟨y, hy⟩ : ∃ y, z.es[(s.2.2.2 % ((en2 z.es).length : Int)).toNat]? = some y := ⟨_, List.getElem?_eq_getElem (by omega)⟩
                refine WL.r 3 rfl ?_
                refine WL.ix rfl rfl (i := (k : Int)) (k) el_53 rfl rfl (by omega) (by omega) (hS.rdS 7 rfl (ch4_at hs)).1 ?_
                refine WL.run 4 [.int .i64 s.2.2.2] rfl (by exact (hS.rdS 7 rfl (ch4_at hs)).2 3 _ rfl) ?_
                refine WL.call rfl rfl (md_spec (k := s.2.2.2) (n := (List.length (en2 z.es) : Int)) (hk := hsr.2.2) (hn := (by omega)) (hS := hS)) rfl ?_
                clear hS; rintro _ w ⟨rfl, hS⟩
                replace hS : St g (Sh 46 2 (en2 z.es) z.a z.c :: Own 36 1 (enL LL) lu lc :: Own 40 1 (u32s rs) ru rc :: Shs leF LL :: Arn a2 B :: Sh 46 2 (en2 (mkL raw 40)) a1 c1 :: Sh 46 2 (en2 raw) u d :: Sh 127 4 (ch4 S) us ds :: L) w := hS
                refine WL.ix rfl rfl (i := s.2.2.2 % (List.length (en2 z.es) : Int)) ((s.2.2.2 % ((en2 z.es).length : Int)).toNat) el_36 rfl rfl (by omega) (by omega) (hS.rdS 0 rfl (en2_at hy)).1 ?_
                refine WL.run 3 [.int .i64 y.1] rfl (by exact (hS.rdS 0 rfl (en2_at hy)).2 0 _ rfl) ?_
                refine WL.nil ?_
                as_aux_lemma =>
                  refine WC.seq ?_
                  refine WC.region ?_
                  refine WL.r 3 rfl ?_
                  refine WL.call rfl rfl (up_del (a := a2) (A := B) (R := R) (i := r) (k := y.1) (t := t) (hA := hI.ref) (hi := ht1) (hb := ht2) (hg := (get_in ht3 hzo.1 (List.mem_of_getElem? hy))) (hn := (by omega)) (hf := (by omega)) (hz := (by omega)) (hS := (hS.sel 5 [4, 0, 0, 0, 0] rfl))) rfl ?_
                  clear hS; rintro _ w ⟨A2, j1, rfl, hS, f6⟩
                  replace hS : St g (Arn a2 A2 :: Sh 46 2 (en2 z.es) z.a z.c :: Own 36 1 (enL LL) lu lc :: Own 40 1 (u32s rs) ru rc :: Shs leF LL :: Sh 46 2 (en2 (mkL raw 40)) a1 c1 :: Sh 46 2 (en2 raw) u d :: Sh 127 4 (ch4 S) us ds :: L) w := hS
                  refine WL.r 6 rfl ?_
                  refine WL.nil ?_
                  refine WC.region ?_
                  refine WL.r 2 rfl ?_
                  refine WL.call rfl rfl (refS_del (l := z.es) (u := z.a) (d := z.c) (k := y.1) (hl := (by omega)) (hS := (hS.sel 2 [1, 0] rfl))) rfl ?_
                  clear hS; rintro _ w ⟨a3, c2, rfl, hS⟩
                  replace hS : St g (Sh 46 2 (en2 (ldel y.1 z.es)) a3 c2 :: Sh 46 2 (en2 z.es) z.a z.c :: Arn a2 A2 :: Own 36 1 (enL LL) lu lc :: Own 40 1 (u32s rs) ru rc :: Shs leF LL :: Sh 46 2 (en2 (mkL raw 40)) a1 c1 :: Sh 46 2 (en2 raw) u d :: Sh 127 4 (ch4 S) us ds :: L) w := hS
                  refine WL.r 1 rfl ?_
                  refine WL.nil ?_
                  exact ⟨A2, j1 :: R, j1, ldel y.1 z.es, a3, c2, rfl, (hS.sel 3 [2, 0] rfl), (hI.del hz ht2 ht3 f6 (by rw [hc]; omega))⟩
            · refine WC.seq ?_
              refine WC.region ?_
              refine WL.r 2 rfl ?_
              refine WL.nil ?_
              refine WC.ifP rfl (fun cd3 => ?_) (fun cd3 => ?_)
              · refine WC.seq ?_
                refine WC.region ?_
                refine WL.r 2 rfl ?_
                refine WL.ix rfl rfl (i := (k : Int)) (k) el_53 rfl rfl (by omega) (by omega) (hS.rdS 6 rfl (ch4_at hs)).1 ?_
                refine WL.run 4 [.int .i64 s.2.2.2] rfl (by exact (hS.rdS 6 rfl (ch4_at hs)).2 3 _ rfl) ?_
                refine WL.call rfl rfl (md_spec (k := s.2.2.2) (n := (List.length (u32s rs) : Int)) (hk := hsr.2.2) (hn := (by omega)) (hS := hS)) rfl ?_
                clear hS; rintro _ w ⟨rfl, hS⟩
                replace hS : St g (Own 36 1 (enL LL) lu lc :: Own 40 1 (u32s rs) ru rc :: Shs leF LL :: Arn a2 B :: Sh 46 2 (en2 (mkL raw 40)) a1 c1 :: Sh 46 2 (en2 raw) u d :: Sh 127 4 (ch4 S) us ds :: L) w := hS
                refine WL.r 1 rfl ?_
                refine WL.nil ?_
                refine WC.plan [([0, 1, 4, 5, 2, 6, 3, 7, 8, 9], none)] (by kernel_rfl) (by kernel_rfl) ?_
                have hb1 := Int.emod_nonneg s.2.2.2 (b := ((u32s rs).length : Int)) (by omega); have hb2 := Int.emod_lt_of_pos s.2.2.2 (b := ((u32s rs).length : Int)) (by omega); obtain ⟨r2, hr2⟩ : ∃ y, rs[(s.2.2.2 % ((u32s rs).length : Int)).toNat]? = some y := ⟨_, List.getElem?_eq_getElem (by omega)⟩; obtain ⟨z2, hz2⟩ : ∃ y, LL[(s.2.2.2 % ((u32s rs).length : Int)).toNat]? = some y := ⟨_, List.getElem?_eq_getElem (by omega)⟩
                replace hS : St g (Sh 46 2 (en2 z2.es) z2.a z2.c :: Own 36 1 (enL LL) lu lc :: Own 40 1 (u32s rs) ru rc :: Shs leF LL :: Arn a2 B :: Sh 46 2 (en2 (mkL raw 40)) a1 c1 :: Sh 46 2 (en2 raw) u d :: Sh 127 4 (ch4 S) us ds :: L) w := hS.shsGet 2 rfl (List.mem_of_getElem? hz2)
                refine WQ.r 4 rfl ?_
                refine WQ.ix rfl rfl (i := s.2.2.2 % (List.length (u32s rs) : Int)) ((s.2.2.2 % ((u32s rs).length : Int)).toNat) el_54 rfl rfl (by omega) (by omega) (hS.rdO 2 rfl (u32s_at hr2)).1 ?_
                refine WQ.ix rfl rfl (i := s.2.2.2 % (List.length (u32s rs) : Int)) ((s.2.2.2 % ((u32s rs).length : Int)).toNat) el_55 rfl rfl (by omega) (by omega) (hS.rdO 1 rfl (enL_at hz2)).1 ?_
                refine WQ.run 4 [.int .u32 r2, .slice z2.a (List.length (en2 z2.es)) z2.c] rfl (by exact ⟨(hS.rdO 2 rfl (u32s_at hr2)).2 0 _ rfl, (hS.rdO 1 rfl (enL_at hz2)).2 0 _ rfl⟩) ?_
                refine WQ.nil ?_
                intro m2
                replace hS := hS.drewN m2; generalize hwm2 : World.drewN _ _ = w at *; clear hwm2
                exact ⟨B, R, r2, z2.es, z2.a, z2.c, rfl, (hS.sel 5 [4, 0, 0, 0, 0] rfl), (hI.same hr2 hz2)⟩
              · refine WC.seq ?_
                refine WC.region ?_
                replace hS : St g (Sh 46 2 (en2 z.es) z.a z.c :: Own 36 1 (enL LL) lu lc :: Own 40 1 (u32s rs) ru rc :: Shs leF LL :: Arn a2 B :: Sh 46 2 (en2 (mkL raw 40)) a1 c1 :: Sh 46 2 (en2 raw) u d :: Sh 127 4 (ch4 S) us ds :: L) w := hS.shsGet 2 rfl (List.mem_of_getElem? hz)
                refine WL.r 4 rfl ?_
                refine WL.ix rfl rfl (i := (k : Int)) (k) el_53 rfl rfl (by omega) (by omega) (hS.rdS 7 rfl (ch4_at hs)).1 ?_
                refine WL.r 1 rfl ?_
                refine WL.ldC rfl rfl [.int .i64 s.2.1, .int .i64 s.2.2.1] ag_46 rfl (RdE.sub (hS.rdS 7 rfl (ch4_at hs)).2 1 [.int .i64 s.2.1, .int .i64 s.2.2.1] rfl) ?_
                refine WL.call rfl rfl (up_ins (a := a2) (A := B) (R := R) (i := r) (k := s.2.1) (z := s.2.2.1) (t := t) (hA := hI.ref) (hi := ht1) (hb := ht2) (hn := (by omega)) (hf := (by omega)) (hz := (by omega)) (hS := (hS.sel 5 [4, 0, 0, 0, 0] rfl))) rfl ?_
                clear hS; rintro _ w ⟨A2, j1, rfl, hS, f6⟩
                replace hS : St g (Arn a2 A2 :: Sh 46 2 (en2 z.es) z.a z.c :: Own 36 1 (enL LL) lu lc :: Own 40 1 (u32s rs) ru rc :: Shs leF LL :: Sh 46 2 (en2 (mkL raw 40)) a1 c1 :: Sh 46 2 (en2 raw) u d :: Sh 127 4 (ch4 S) us ds :: L) w := hS
                refine WL.r 7 rfl ?_
                refine WL.nil ?_
                refine WC.region ?_
                refine WL.r 3 rfl ?_
                refine WL.ix rfl rfl (i := (k : Int)) (k) el_53 rfl rfl (by omega) (by omega) (hS.rdS 7 rfl (ch4_at hs)).1 ?_
                refine WL.r 1 rfl ?_
                refine WL.ldC rfl rfl [.int .i64 s.2.1, .int .i64 s.2.2.1] ag_46 rfl (RdE.sub (hS.rdS 7 rfl (ch4_at hs)).2 1 [.int .i64 s.2.1, .int .i64 s.2.2.1] rfl) ?_
                refine WL.call rfl rfl (refS_ins (l := z.es) (u := z.a) (d := z.c) (k := s.2.1) (z := s.2.2.1) (hs := hzo.1) (hl := (by omega)) (hS := (hS.sel 2 [1, 0] rfl))) rfl ?_
                clear hS; rintro _ w ⟨a3, c2, rfl, hS⟩
                replace hS : St g (Sh 46 2 (en2 (lins s.2.1 s.2.2.1 z.es)) a3 c2 :: Sh 46 2 (en2 z.es) z.a z.c :: Arn a2 A2 :: Own 36 1 (enL LL) lu lc :: Own 40 1 (u32s rs) ru rc :: Shs leF LL :: Sh 46 2 (en2 (mkL raw 40)) a1 c1 :: Sh 46 2 (en2 raw) u d :: Sh 127 4 (ch4 S) us ds :: L) w := hS
                refine WL.r 1 rfl ?_
                refine WL.nil ?_
                exact ⟨A2, j1 :: R, j1, lins s.2.1 s.2.2.1 z.es, a3, c2, rfl, (hS.sel 3 [2, 0] rfl), (hI.ins hz ht2 ht3 hsr.2.1 f6 (by rw [hc]; omega))⟩
          clear hS; rintro _ w j ⟨B2, R2, o, ns, na, nc, rfl, hS, hJ⟩
          refine WC.seq ?_
          refine WC.seq ?_
          refine WC.region ?_
          refine WL.r 2 rfl ?_
          refine WL.nil ?_
          refine WC.ifF rfl (decide_eq_false ((by decide))) ?_
          refine WC.skip ?_
          refine WC.region ?_
          replace hS : St g (Shs leF (LL ++ [LsE.mk ns na nc]) :: Arn a2 B2 :: Sh 46 2 (en2 ns) na nc :: Own 36 1 (enL LL) lu lc :: Own 40 1 (u32s rs) ru rc :: Shs leF LL :: Sh 46 2 (en2 (mkL raw 40)) a1 c1 :: Sh 46 2 (en2 raw) u d :: Sh 127 4 (ch4 S) us ds :: L) w := St.shsSub (zs' := LL ++ [LsE.mk ns na nc]) (St.shsCons (hS.shsDup 4 rfl) (z := LsE.mk ns na nc) (leF_sh _) [1] rfl) (fun z hz => snoc_le hz)
          refine WL.r 2 rfl ?_
          refine WL.lit rfl rfl (u32s [o]) el_54 hS (by exact ⟨rfl, rfl⟩) (u32s_ok _) rfl (by decide) (fun b3 w hS => ?_)
          refine WL.app rfl rfl 5 (u32s (rs ++ [o])) el_54 hS rfl (hS.srcO 0 rfl) (u32s_app _ _).symm (Rm.of (by first | omega | (simp <;> omega)) (by decide)) rfl rfl (fun a3 c2 w hS => ?_)
          replace hS : St g (Own 40 1 (u32s [o]) (some ⟨b3, 0, none⟩) (List.length (u32s [o])) :: Shs leF (LL ++ [LsE.mk ns na nc]) :: Arn a2 B2 :: Sh 46 2 (en2 ns) na nc :: Own 36 1 (enL LL) lu lc :: Own 40 1 (u32s (rs ++ [o])) a3 c2 :: Shs leF LL :: Sh 46 2 (en2 (mkL raw 40)) a1 c1 :: Sh 46 2 (en2 raw) u d :: Sh 127 4 (ch4 S) us ds :: L) w := hS
          refine WL.r 2 rfl ?_
          refine WL.lit rfl rfl (enL [LsE.mk ns na nc]) el_55 hS (by exact ⟨rfl, rfl⟩) (enL_ok _) rfl (by decide) (fun b4 w hS => ?_)
          refine WL.app rfl rfl 5 (enL (LL ++ [LsE.mk ns na nc])) el_55 hS rfl (hS.srcO 0 rfl) (enL_app _ _).symm (Rm.of (by first | omega | (simp <;> omega)) (by decide)) rfl rfl (fun a4 c3 w hS => ?_)
          replace hS : St g (Own 36 1 (enL [LsE.mk ns na nc]) (some ⟨b4, 0, none⟩) (List.length (enL [LsE.mk ns na nc])) :: Own 40 1 (u32s [o]) (some ⟨b3, 0, none⟩) (List.length (u32s [o])) :: Shs leF (LL ++ [LsE.mk ns na nc]) :: Arn a2 B2 :: Sh 46 2 (en2 ns) na nc :: Own 36 1 (enL (LL ++ [LsE.mk ns na nc])) a4 c3 :: Own 40 1 (u32s (rs ++ [o])) a3 c2 :: Shs leF LL :: Sh 46 2 (en2 (mkL raw 40)) a1 c1 :: Sh 46 2 (en2 raw) u d :: Sh 127 4 (ch4 S) us ds :: L) w := hS
          refine WL.r 2 rfl ?_
          refine WL.nil ?_
          refine WC.region ?_
          refine WL.r 2 rfl ?_
          refine WL.nw 55 rfl (w64 (by omega)) ?_
          refine WL.r 1 rfl ?_
          refine WL.nil ?_
          exact ⟨_, by omega, k + 1, B2, R2, rs ++ [o], a3, c2, LL ++ [LsE.mk ns na nc], a4, c3, rfl, (hS.sel 8 [5, 5, 2, 2] rfl), (by omega), (hI.step hJ na nc), rfl⟩
      · refine WC.exit ?_
        refine WC.seq ?_
        refine WC.region ?_
        refine WL.r 7 rfl ?_
        refine WL.nil ?_
        refine WC.ret ?_
        refine ⟨[.pointer (some ⟨a2, 0, none⟩), .slice ru (List.length (u32s rs)) rc, .slice lu (List.length (enL LL)) lc, .bool true], ⟨rfl, rfl, rfl, rfl⟩, ?_⟩
        replace hS := (hS.sel 7 [3, 1, 0, 0] rfl)
        have hke : k = n := (by omega); subst hke; have hrsl := hI.rsl; exact ⟨_, _, _, _, _, _, _, _, _, rfl, hS, hI.ref, hI.trs, hI.fin (by omega), by omega⟩
end Go.Proofs.Ytlnlnebibgdjdaa
