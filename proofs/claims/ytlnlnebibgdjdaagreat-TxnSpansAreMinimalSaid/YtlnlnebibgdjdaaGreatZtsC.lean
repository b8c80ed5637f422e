/-
  What the proof of Jts stands on, part 3.
  Conditions: none.
-/
import Derived.Test.YtlnlnebibgdjdaaGreatZtsB
/-! ## Tx2 -/
namespace Go.Proofs
open Go.RowKit Go.Maps Go.Sort Go.Shelf
theorem Tryz.sortsL (m : Nat) : AnyZI.SortsIn Tryz.prog Tryz.sortedL_ren Fence.wide m :=
  ⟨fun blk off cap ss W hH hblk hsz => callsIn_wide.2 (AnyM.slices_Sort_int Tryz.sortL blk off cap ss W hH hblk hsz),
   fun p cap W => callsIn_wide.2 (AnyM.slices_Sort_int_none Tryz.sortL p cap W)⟩
end Go.Proofs
namespace Go.Proofs.YtlnlnebibgdjdaaGreat
open Go Go.V Go.RowKit Go.Maps Go.Sort Go.Shelf
set_option maxRecDepth 8192 in
theorem keysW_spec {g w : World} {L : List HP} (m : Nat) (hS : St g (L) w) :
    Sp Tryz.prog 206 [.map (some m)] w (fun v w' => ∃ (c : Nat), v = .func (.func 252) #[] #[.pointer (some ⟨c, 0, none⟩)] ∧ St g (cel c #[.map (some m)] 200 :: L) w') := by
  have h := callsIn_wide.1 (AnyZI.keys_in Tryz.keysW Fence.wide 5 trivial rfl (some m) w)
  refine ⟨⟨_, _, Tryz.func206, by kernel_rfl, rfl⟩, h.mono fun e w' ⟨he, hw⟩ => ⟨_, he, ?_⟩⟩
  subst hw
  exact ⟨_, rfl, hS.new _⟩
set_option maxRecDepth 8192 in
theorem sortedW_spec {g w : World} {L : List HP} (m c q : Nat) (rs : List WE) (ss : List Int) (ht : KOk wK WE.k rs q) (hp : ss.Perm (rs.map WE.k)) (hs : ss.Pairwise (· ≤ ·)) (hS : St g (cel c #[.map (some m)] 200 :: blk m (.map (mE (List.map wK rs)) q) :: L) w) :
    Sp Tryz.prog 102 [.func (.func 252) #[] #[.pointer (some ⟨c, 0, none⟩)]] w (fun v w' => ∃ (a2 : Option Addr) (c2 : Nat), v = .slice a2 (List.length (i64s ss)) c2 ∧ St g (Own 2 1 (i64s ss) a2 c2 :: cel c #[.map (some m)] 200 :: blk m (.map (mE (List.map wK rs)) q) :: L) w') := by
  have hc : w.cell? ⟨c, 0, none⟩ = some (.map (some m)) := hS.ld 0 rfl rfl
  have hcl : c < w.heap.size := by
    have h1 := hS.heap 0 rfl
    exact (Array.getElem?_eq_some_iff.1 h1).1
  have hm := hS.heap 1 rfl
  obtain ⟨D, hD, hsz, hk⟩ := keys_of (P := Tryz.prog) (k := 2) rs q ht Tryz.underlying2 hm
  have hseq := AnyZI.keys_gives (ρ := Tryz.keysW_ren) { Tryz.keysW with } Fence.wide 2 trivial rfl (by omega) c m 4096 D w hcl hc hD
  have h := callsIn_wide.1 (AnyZI.sorted_in Tryz.sortedL Fence.wide 5 trivial trivial trivial trivial rfl (by omega) (Tryz.sortsL _) (enters_of Tryz.func167 (by kernel_rfl) rfl) 252 #[.pointer (some ⟨c, 0, none⟩)] trivial (enters_of Tryz.func252 (by kernel_rfl) rfl) _ _ (by rw [hsz]; exact Nat.le_trans ht.num (by decide)) (by rw [hsz]; have := ht.num; omega) w hseq)
  refine ⟨⟨_, _, Tryz.func102, by kernel_rfl, rfl⟩, h.mono fun e w' ⟨v, ys, he, hys, hrow, _, hb⟩ => ⟨v, he, ?_⟩⟩
  have hpp : ss.Perm ys := hp.trans (hys.trans hk).symm
  obtain ⟨a, c2, rfl, hS2⟩ := St.of_row (i64s ss) hS hb hrow (by rw [sort_eqI hpp hs, i64s_flat]) (by simpa using hpp.length_eq) (i64s_ok ss)
  exact ⟨a, c2, rfl, hS2⟩
def wks (M : Wrs) : List Int := M.map fun x => x.1
theorem WOk.pick {xs : List WE} {q : Nat} {M : Wrs} (h : WOk xs q M) {k : Nat} {e : Int × Bool × Int} (he : M[k]? = some e) : ∃ (j : Nat) (y : WE), xs[j]? = some y ∧ y.k = e.1 ∧ y.p = e.2.1 ∧ y.v = e.2.2 := by
  obtain ⟨y, hy, rfl⟩ := (h.mem e).1 (List.mem_of_getElem? he)
  obtain ⟨j, hj⟩ := List.mem_iff_getElem?.1 hy
  exact ⟨j, y, hj, rfl, rfl, rfl⟩
def wCs (M : Wrs) (k : Nat) : List (Int × Int × Int × Int) := (M.take k).map wC
theorem wCs_succ {M : Wrs} {k : Nat} {e : Int × Bool × Int} (h : M[k]? = some e) : wCs M (k + 1) = wCs M k ++ [wC e] := by
  unfold wCs; rw [List.take_add_one, h]; simp
set_option maxRecDepth 8192 in
theorem tx_writes {g w : World} {L : List HP} (x a : Nat) (rt : Int) (xs : List WE) (q : Nat) (S : Kvs) (M : Wrs) (hW : WOk xs q M) (hS : St g (Tx x a rt xs q S :: L) w) :
    Sp Tryz.prog 171 [.pointer (some ⟨x, 0, none⟩)] w (fun v w' => ∃ (a2 : Option Addr) (c2 : Nat), v = .slice a2 (List.length (ch4 (M.map wC))) c2 ∧ St g (Own 82 4 (ch4 (M.map wC)) a2 c2 :: Tx x a rt xs q S :: L) w') := by
  refine Sp.enter Tryz.func171 rfl (by kernel_rfl) (by kernel_rfl) ?_
  refine WC.seq ?_
  refine WC.region ?_
  refine WL.r 1 rfl ?_
  refine WL.nil ?_
  refine WC.seq ?_
  refine WC.seq ?_
  refine WC.region ?_
  obtain ⟨⟨xm, xu, xc⟩, hS⟩ := St.exOpen (f := txF x a rt xs q S) hS
  replace hS : St g (cel x #[.pointer (some ⟨a, 0, none⟩), .int .u32 rt, .bool false, .map (some xm), .slice xu (List.length (en2 S)) xc] 202 :: blk xm (.map (mE (List.map wK xs)) q) :: Own 113 2 (en2 S) xu xc :: L) w := hS
  have hll := hW.len; have hnm := hW.k.num; obtain ⟨hk1, hk2⟩ := hW.keys
  refine WL.run 4 [.bool false] rfl (by exact hS.ld 0 rfl rfl) ?_
  refine WL.nil ?_
  refine WC.ifF rfl rfl ?_
  refine WC.skip ?_
  refine WC.seq ?_
  refine WC.region ?_
  refine WL.r 1 rfl ?_
  refine WL.nil ?_
  refine WC.seq ?_
  refine WC.seq ?_
  refine WC.region ?_
  have hsl := i64s_len (wks M); have hwl : (wks M).length = M.length := List.length_map ..
  refine WL.run 4 [.map (some xm)] rfl (by exact hS.ld 0 rfl rfl) ?_
  refine WL.call rfl rfl (keysW_spec (m := xm)  (hS := hS)) rfl ?_
  clear hS; rintro _ w ⟨c1, rfl, hS⟩
  replace hS : St g (cel c1 #[.map (some xm)] 200 :: cel x #[.pointer (some ⟨a, 0, none⟩), .int .u32 rt, .bool false, .map (some xm), .slice xu (List.length (en2 S)) xc] 202 :: blk xm (.map (mE (List.map wK xs)) q) :: Own 113 2 (en2 S) xu xc :: L) w := hS
  refine WL.call rfl rfl (sortedW_spec (m := xm) (c := c1) (q := q) (rs := xs) (ss := wks M) (ht := hW.k) (hp := hk1) (hs := hk2) (hS := (hS.sel 3 [0, 1, 0] rfl))) rfl ?_
  clear hS; rintro _ w ⟨a1, c2, rfl, hS⟩
  replace hS : St g (Own 2 1 (i64s (wks M)) a1 c2 :: cel c1 #[.map (some xm)] 200 :: blk xm (.map (mE (List.map wK xs)) q) :: cel x #[.pointer (some ⟨a, 0, none⟩), .int .u32 rt, .bool false, .map (some xm), .slice xu (List.length (en2 S)) xc] 202 :: Own 113 2 (en2 S) xu xc :: L) w := hS
  refine WL.r 2 rfl ?_
  refine WL.nil ?_
  as_aux_lemma =>
    refine WC.block ?_
    replace hS := hS.nil_ 82 4
    refine WC.loop [0, 2, 3, 17, 18, 19] (fun kM vs w => ∃ (k : Nat) (acc : List (Int × Int × Int × Int)) (u : Option Addr) (d : Nat), vs = [.pointer (some ⟨x, 0, none⟩), .slice none 0 0, .slice u (List.length (ch4 acc)) d, .slice a1 (List.length (i64s (wks M))) c2, .int .i64 (List.length (i64s (wks M)) : Int), .int .i64 (k : Int)] ∧ St g (Own 82 4 (ch4 acc) u d :: Own 2 1 (i64s (wks M)) a1 c2 :: cel c1 #[.map (some xm)] 200 :: blk xm (.map (mE (List.map wK xs)) q) :: cel x #[.pointer (some ⟨a, 0, none⟩), .int .u32 rt, .bool false, .map (some xm), .slice xu (List.length (en2 S)) xc] 202 :: Own 113 2 (en2 S) xu xc :: L) w ∧ (k ≤ M.length) ∧ (acc = wCs M k) ∧ (M.length - k) = kM) ((List.length M) - 0) ⟨0, [], none, 0, rfl, hS, (Nat.zero_le _), (rfl), rfl⟩ ?_
    clear hS; rintro _ _ w j ⟨k, acc, u, d, rfl, hS, hk, ha, rfl⟩
    refine WC.seq ?_
    refine WC.region ?_
    have hsl := i64s_len (wks M); have hwl : (wks M).length = M.length := List.length_map ..
    refine WL.r 1 rfl ?_
    refine WL.nil ?_
    refine WC.seq ?_
    refine WC.ifP rfl (fun cd1 => ?_) (fun cd1 => ?_)
    · refine WC.skip ?_
      refine WC.seq ?_
      refine WC.block ?_
      refine WC.seq ?_
      refine WC.region ?_
      obtain ⟨e, he⟩ : ∃ e, M[k]? = some e := ⟨_, List.getElem?_eq_getElem (by omega)⟩; have hz : (wks M)[k]? = some e.1 := (by unfold wks; rw [List.getElem?_map, he]; rfl); obtain ⟨j, y, hj, hy1, hy2, hy3⟩ := WOk.pick hW he; have hac : acc.length ≤ 4096 := (by rw [ha]; unfold wCs; rw [List.length_map, List.length_take]; omega); have hal := ch4_len acc
      refine WL.ix rfl rfl (i := (k : Int)) (k) el_109 rfl rfl (by omega) (by omega) (hS.rdO 1 rfl (i64s_at hz)).1 ?_
      refine WL.run 2 [.int .i64 e.1] rfl (by exact (hS.rdO 1 rfl (i64s_at hz)).2 0 _ rfl) ?_
      refine WL.nil ?_
      refine WC.seq ?_
      refine WC.region ?_
      refine WL.r 1 rfl ?_
      refine WL.build rfl rfl (cs := [.int .i64 2, .int .i64 e.1, .int .i64 0, .int .i64 0]) zv_82 rfl rfl ?_
      refine WL.new rfl rfl zv_82 hS (fun b1 w hS => ?_)
      refine WL.stF rfl rfl rfl 0 hS rfl rfl rfl rfl rfl ag_82 (fun w hS => ?_)
      replace hS : St g (cel b1 #[.int .i64 2, .int .i64 e.1, .int .i64 0, .int .i64 0] 82 :: Own 82 4 (ch4 acc) u d :: Own 2 1 (i64s (wks M)) a1 c2 :: cel c1 #[.map (some xm)] 200 :: blk xm (.map (mE (List.map wK xs)) q) :: cel x #[.pointer (some ⟨a, 0, none⟩), .int .u32 rt, .bool false, .map (some xm), .slice xu (List.length (en2 S)) xc] 202 :: Own 113 2 (en2 S) xu xc :: L) w := hS
      refine WL.nil ?_
      as_aux_lemma =>
        refine WC.seq ?_
        refine WC.seq ?_
        refine WC.region ?_
        refine WL.run 5 [.map (some xm)] rfl (by exact hS.ld 5 rfl rfl) ?_
        refine WL.lk rfl rfl mt_200 4 hS rfl rfl rfl (by first | trivial | rfl) (r := some (j, .agg #[.bool y.p, .int .i64 y.v])) (hy1 ▸ ki_in (f := wK) (n := WE.k) hW.k.key hW.k.uniq hj) rfl ?_
        refine WL.new rfl rfl zv_206 hS (fun b2 w hS => ?_)
        refine WL.stF rfl rfl rfl 0 hS rfl rfl rfl rfl rfl ag_206 (fun w hS => ?_)
        replace hS : St g (cel b2 #[.bool y.p, .int .i64 y.v] 206 :: cel b1 #[.int .i64 2, .int .i64 e.1, .int .i64 0, .int .i64 0] 82 :: Own 82 4 (ch4 acc) u d :: Own 2 1 (i64s (wks M)) a1 c2 :: cel c1 #[.map (some xm)] 200 :: blk xm (.map (mE (List.map wK xs)) q) :: cel x #[.pointer (some ⟨a, 0, none⟩), .int .u32 rt, .bool false, .map (some xm), .slice xu (List.length (en2 S)) xc] 202 :: Own 113 2 (en2 S) xu xc :: L) w := hS
        refine WL.nil ?_
        refine WC.seq ?_
        refine WC.region ?_
        refine WL.run 2 [.bool y.p] rfl (by exact hS.ld 0 rfl rfl) ?_
        refine WL.nil ?_
        refine WC.if_ rfl (fun hp => ?_) (fun hp => ?_)
        · refine WC.plan [([0, 2, 1], some (3, [0, 1])), ([4], some (5, []))] (by kernel_rfl) (by kernel_rfl) ?_
          refine WQ.run 3 [.int .i64 y.v] rfl (by exact hS.ld 0 rfl rfl) ?_
          refine WQ.nil ?_
          intro m1
          replace hS := hS.drewN m1; generalize hwm1 : World.drewN _ _ = w at *; clear hwm1
          refine WL.st rfl rfl rfl 1 hS rfl rfl rfl rfl rfl rfl (fun w hS => ?_)
          replace hS : St g (cel b2 #[.bool y.p, .int .i64 y.v] 206 :: cel b1 #[.int .i64 3, .int .i64 e.1, .int .i64 0, .int .i64 0] 82 :: Own 82 4 (ch4 acc) u d :: Own 2 1 (i64s (wks M)) a1 c2 :: cel c1 #[.map (some xm)] 200 :: blk xm (.map (mE (List.map wK xs)) q) :: cel x #[.pointer (some ⟨a, 0, none⟩), .int .u32 rt, .bool false, .map (some xm), .slice xu (List.length (en2 S)) xc] 202 :: Own 113 2 (en2 S) xu xc :: L) w := hS
          refine WL.nil ?_
          refine ⟨by exact ⟨RQ.pure rfl rfl rfl rfl, RQ.load rfl rfl rfl rfl (hS.ld 0 rfl rfl)⟩, ?_⟩
          refine WQ.r 1 rfl ?_
          refine WQ.nil ?_
          intro m2
          replace hS := hS.drewN m2; generalize hwm2 : World.drewN _ _ = w at *; clear hwm2
          refine WL.st rfl rfl rfl 1 hS rfl rfl rfl rfl rfl rfl (fun w hS => ?_)
          replace hS : St g (cel b2 #[.bool y.p, .int .i64 y.v] 206 :: cel b1 #[.int .i64 3, .int .i64 e.1, .int .i64 0, .int .i64 y.v] 82 :: Own 82 4 (ch4 acc) u d :: Own 2 1 (i64s (wks M)) a1 c2 :: cel c1 #[.map (some xm)] 200 :: blk xm (.map (mE (List.map wK xs)) q) :: cel x #[.pointer (some ⟨a, 0, none⟩), .int .u32 rt, .bool false, .map (some xm), .slice xu (List.length (en2 S)) xc] 202 :: Own 113 2 (en2 S) xu xc :: L) w := hS
          refine WL.nil ?_
          refine ⟨by exact trivial, ?_⟩
          intro m3
          replace hS := hS.drewN m3; generalize hwm3 : World.drewN _ _ = w at *; clear hwm3
          as_aux_lemma =>
            refine WC.region ?_
            refine WL.r 1 rfl ?_
            refine WL.ldF rfl rfl 1 hS rfl rfl ag_82 ?_
            refine WL.lit rfl rfl (ch4 [(3, e.1, 0, y.v)]) el_179 hS (by exact ⟨rfl, rfl⟩) (ch4_ok _) rfl (by decide) (fun b3 w hS => ?_)
            refine WL.app rfl rfl 3 (ch4 (acc ++ [(3, e.1, 0, y.v)])) el_179 hS rfl (hS.srcO 0 rfl) (ch4_app _ _).symm (Rm.of (by first | omega | (simp <;> omega)) (by decide)) rfl rfl (fun a2 c3 w hS => ?_)
            replace hS : St g (Own 82 4 (ch4 [(3, e.1, 0, y.v)]) (some ⟨b3, 0, none⟩) (List.length (ch4 [(3, e.1, 0, y.v)])) :: cel b2 #[.bool y.p, .int .i64 y.v] 206 :: cel b1 #[.int .i64 3, .int .i64 e.1, .int .i64 0, .int .i64 y.v] 82 :: Own 82 4 (ch4 (acc ++ [(3, e.1, 0, y.v)])) a2 c3 :: Own 2 1 (i64s (wks M)) a1 c2 :: cel c1 #[.map (some xm)] 200 :: blk xm (.map (mE (List.map wK xs)) q) :: cel x #[.pointer (some ⟨a, 0, none⟩), .int .u32 rt, .bool false, .map (some xm), .slice xu (List.length (en2 S)) xc] 202 :: Own 113 2 (en2 S) xu xc :: L) w := hS
            refine WL.r 1 rfl ?_
            refine WL.nil ?_
            refine WC.region ?_
            refine WL.r 1 rfl ?_
            refine WL.nw 41 rfl (w64 (by omega)) ?_
            refine WL.r 1 rfl ?_
            refine WL.nil ?_
            exact ⟨_, by omega, k + 1, acc ++ [(3, e.1, 0, y.v)], a2, c3, rfl, (hS.sel 3 [] rfl), (by omega), (by rw [wCs_succ he, ha]; unfold wC; rw [← hy2, if_pos hp, hy3]), rfl⟩
        · refine WC.skip ?_
          refine WC.region ?_
          refine WL.r 1 rfl ?_
          refine WL.ldF rfl rfl 1 hS rfl rfl ag_82 ?_
          refine WL.lit rfl rfl (ch4 [(2, e.1, 0, 0)]) el_179 hS (by exact ⟨rfl, rfl⟩) (ch4_ok _) rfl (by decide) (fun b3 w hS => ?_)
          refine WL.app rfl rfl 3 (ch4 (acc ++ [(2, e.1, 0, 0)])) el_179 hS rfl (hS.srcO 0 rfl) (ch4_app _ _).symm (Rm.of (by first | omega | (simp <;> omega)) (by decide)) rfl rfl (fun a2 c3 w hS => ?_)
          replace hS : St g (Own 82 4 (ch4 [(2, e.1, 0, 0)]) (some ⟨b3, 0, none⟩) (List.length (ch4 [(2, e.1, 0, 0)])) :: cel b2 #[.bool y.p, .int .i64 y.v] 206 :: cel b1 #[.int .i64 2, .int .i64 e.1, .int .i64 0, .int .i64 0] 82 :: Own 82 4 (ch4 (acc ++ [(2, e.1, 0, 0)])) a2 c3 :: Own 2 1 (i64s (wks M)) a1 c2 :: cel c1 #[.map (some xm)] 200 :: blk xm (.map (mE (List.map wK xs)) q) :: cel x #[.pointer (some ⟨a, 0, none⟩), .int .u32 rt, .bool false, .map (some xm), .slice xu (List.length (en2 S)) xc] 202 :: Own 113 2 (en2 S) xu xc :: L) w := hS
          refine WL.r 1 rfl ?_
          refine WL.nil ?_
          refine WC.region ?_
          refine WL.r 1 rfl ?_
          refine WL.nw 41 rfl (w64 (by omega)) ?_
          refine WL.r 1 rfl ?_
          refine WL.nil ?_
          exact ⟨_, by omega, k + 1, acc ++ [(2, e.1, 0, 0)], a2, c3, rfl, (hS.sel 3 [] rfl), (by omega), (by rw [wCs_succ he, ha]; unfold wC; rw [← hy2, if_neg (by rw [hp]; decide)]), rfl⟩
    · refine WC.exit ?_
      refine WC.seq ?_
      refine WC.region ?_
      refine WL.r 2 rfl ?_
      refine WL.nil ?_
      refine WC.ret ?_
      replace hS := St.exClose (f := txF x a rt xs q S) (L := Own 82 4 (ch4 acc) u d :: Own 2 1 (i64s (wks M)) a1 c2 :: cel c1 #[.map (some xm)] 200 :: L) ⟨xm, xu, xc⟩ ((hS.sel 6 [4, 3, 3, 0, 0, 0] rfl))
      replace hS : St g (Tx x a rt xs q S :: Own 82 4 (ch4 acc) u d :: Own 2 1 (i64s (wks M)) a1 c2 :: cel c1 #[.map (some xm)] 200 :: L) w := hS
      refine ⟨[.slice u (List.length (ch4 acc)) d], rfl, ?_⟩
      replace hS := (hS.sel 4 [1, 0] rfl)
      have e9 : acc = M.map wC := (by rw [ha]; unfold wCs; rw [List.take_of_length_le (by omega)]); rw [e9] at hS ⊢; exact ⟨_, _, rfl, hS⟩
end Go.Proofs.YtlnlnebibgdjdaaGreat
/-! ## Pr -/
namespace Go.V
open Go Go.RowKit
inductive Pt where
  | sub (i : Int) (t : Tr)
  | one (k v : Int)
def ptC : Pt → List Value
  | .sub i t => [.int .u32 i, .int .i64 (t.n : Int), .int .i64 0, .int .i64 0, .bool false]
  | .one k v => [.int .u32 0, .int .i64 0, .int .i64 k, .int .i64 v, .bool true]
def pts (l : List Pt) : List (List Value) := l.map ptC
@[simp] theorem pts_len (l : List Pt) : (pts l).length = l.length := by simp [pts]
theorem pts_app (l m : List Pt) : pts (l ++ m) = pts l ++ pts m := by simp [pts]
theorem pts_take (l : List Pt) (k : Nat) : (pts l).take k = pts (l.take k) := by simp [pts]
theorem pts_ok (l : List Pt) : OkE 5 (pts l) := fun x hx => by
  obtain ⟨y, _, rfl⟩ := List.mem_map.1 hx
  cases y
  · exact ⟨rfl, fun u hu => by simp [ptC] at hu; rcases hu with rfl | rfl | rfl | rfl | rfl <;> rfl⟩
  · exact ⟨rfl, fun u hu => by simp [ptC] at hu; rcases hu with rfl | rfl | rfl | rfl | rfl <;> rfl⟩
def pI : Option Pt → Int
  | some (.sub i _) => i
  | _ => 0
def pN : Option Pt → Int
  | some (.sub _ t) => t.n
  | _ => 0
def pK : Option Pt → Int
  | some (.one k _) => k
  | _ => 0
def pV : Option Pt → Int
  | some (.one _ v) => v
  | _ => 0
def pS : Option Pt → Bool
  | some (.one _ _) => true
  | _ => false
def topP (P : List Pt) : Option Pt := P.getLast?
theorem pts_at {l : List Pt} {k : Nat} {x : Pt} (h : l[k]? = some x) : (pts l)[k]? = some [.int .u32 (pI (some x)), .int .i64 (pN (some x)), .int .i64 (pK (some x)), .int .i64 (pV (some x)), .bool (pS (some x))] := by
  cases x <;> simp [pts, h, ptC, pI, pN, pK, pV, pS]
def ptL : Pt → Kvs
  | .sub _ t => t.ls
  | .one k v => [(k, v)]
def rem (P : List Pt) : Kvs := (P.reverse.map ptL).flatten
theorem rem_snoc (P : List Pt) (x : Pt) : rem (P ++ [x]) = ptL x ++ rem P := by simp [rem]
def ptW : Pt → Nat
  | .sub _ t => 3 * t.n
  | .one _ _ => 1
def wgt (P : List Pt) : Nat := (P.map ptW).sum
theorem wgt_snoc (P : List Pt) (x : Pt) : wgt (P ++ [x]) = wgt P + ptW x := by simp [wgt]
def PtOk (A : AM) : Pt → Prop
  | .sub i t => Is A t i ∧ i ≠ 0
  | .one _ _ => True
structure PsOk (A : AM) (P : List Pt) : Prop where
  ok : ∀ x ∈ P, PtOk A x
theorem PsOk.app {A : AM} {P : List Pt} (h : PsOk A P) {x : Pt} (hx : PtOk A x) : PsOk A (P ++ [x]) := ⟨fun y hy => by
  rcases List.mem_append.1 hy with hy | hy
  · exact h.ok y hy
  · rw [List.mem_singleton.1 hy]; exact hx⟩
theorem PsOk.sub {A : AM} {P Q : List Pt} (h : PsOk A (P ++ Q)) : PsOk A P := ⟨fun y hy => h.ok y (List.mem_append_left _ hy)⟩
def pushP (P : List Pt) (i : Int) (t : Tr) : List Pt := if i = 0 then P else P ++ [.sub i t]
theorem pushP_rem {A : AM} {P : List Pt} {i : Int} {t : Tr} (h : Is A t i) : rem (pushP P i t) = t.ls ++ rem P := by
  unfold pushP
  split
  · rename_i e; rw [(Is.nil_iff h).1 e]; rfl
  · rw [rem_snoc]; rfl
theorem pushP_wgt {A : AM} {P : List Pt} {i : Int} {t : Tr} (h : Is A t i) : wgt (pushP P i t) = wgt P + 3 * t.n := by
  unfold pushP
  split
  · rename_i e; rw [(Is.nil_iff h).1 e]; rfl
  · rw [wgt_snoc]; rfl
theorem pushP_ok {A : AM} {P : List Pt} {i : Int} {t : Tr} (hP : PsOk A P) (h : Is A t i) : PsOk A (pushP P i t) := by
  unfold pushP
  split
  · exact hP
  · rename_i e; exact hP.app ⟨h, e⟩
theorem pushP_len (P : List Pt) (i : Int) (t : Tr) : (pushP P i t).length ≤ P.length + 1 := by
  unfold pushP; split <;> simp
def expP (P : List Pt) (A : AM) (i k v : Int) (l r : Tr) : List Pt := pushP (pushP P (A.nd i).rg r ++ [.one k v]) (A.nd i).lf l
theorem expP_rem {A : AM} {P : List Pt} {i k v : Int} {l r : Tr} (h : Is A (.node l k v r) i) : rem (expP P A i k v l r) = (Tr.node l k v r).ls ++ rem P := by
  unfold expP
  rw [pushP_rem h.2.2.2.2.1, rem_snoc, pushP_rem h.2.2.2.2.2]
  simp [ptL, Tr.ls]
theorem expP_wgt {A : AM} {P : List Pt} {i k v : Int} {l r : Tr} (h : Is A (.node l k v r) i) : wgt (expP P A i k v l r) + 2 = wgt P + ptW (.sub i (.node l k v r)) := by
  unfold expP
  rw [pushP_wgt h.2.2.2.2.1, wgt_snoc, pushP_wgt h.2.2.2.2.2]
  simp only [ptW, Tr.n]; omega
theorem expP_ok {A : AM} {P : List Pt} {i k v : Int} {l r : Tr} (hP : PsOk A P) (h : Is A (.node l k v r) i) : PsOk A (expP P A i k v l r) :=
  pushP_ok ((pushP_ok hP h.2.2.2.2.2).app trivial) h.2.2.2.2.1
theorem wgt_len {A : AM} : ∀ {P : List Pt}, PsOk A P → P.length ≤ wgt P
  | [], _ => by simp
  | x :: P, h => by
    have ih := wgt_len (A := A) (P := P) ⟨fun y hy => h.ok y (List.mem_cons_of_mem _ hy)⟩
    have hx := h.ok x (List.mem_cons_self ..)
    have h1 : 1 ≤ ptW x := by
      cases x with
      | one => simp [ptW]
      | sub i t =>
        have : t ≠ .nil := fun e => hx.2 ((Is.nil_iff hx.1).2 e)
        cases t with
        | nil => exact absurd rfl this
        | node => simp only [ptW, Tr.n]; omega
    simp only [wgt, List.map_cons, List.sum_cons, List.length_cons] at ih ⊢
    omega
abbrev Chg := Int × Int × Int × Int
def dif : Kvs → Kvs → List Chg
  | [], [] => []
  | [], (k, w) :: r => (1, k, 0, w) :: dif [] r
  | (k, v) :: l, [] => (2, k, v, 0) :: dif l []
  | (k, v) :: l, (k', w) :: r => if k < k' then (2, k, v, 0) :: dif l ((k', w) :: r) else if k' < k then (1, k', 0, w) :: dif ((k, v) :: l) r else if v ≠ w then (3, k, v, w) :: dif l r else dif l r
termination_by l r => l.length + r.length
theorem dif_common (l r : Kvs) : ∀ c : Kvs, dif (c ++ l) (c ++ r) = dif l r
  | [] => rfl
  | (k, v) :: c => by
    rw [List.cons_append, List.cons_append, dif, if_neg (by omega), if_neg (by omega), if_neg (by simp)]
    exact dif_common l r c
theorem dif_keys (l r : Kvs) : ∀ c ∈ dif l r, (∃ x ∈ l, x.1 = c.2.1) ∨ ∃ x ∈ r, x.1 = c.2.1 := by
  fun_induction dif l r
  case case1 => intro c hc; cases hc
  case case2 k w r ih =>
    intro c hc
    rcases List.mem_cons.1 hc with rfl | hc
    · exact .inr ⟨(k, w), by simp, rfl⟩
    · rcases ih c hc with ⟨x, hx, _⟩ | ⟨x, hx, e⟩
      · cases hx
      · exact .inr ⟨x, List.mem_cons_of_mem _ hx, e⟩
  case case3 k v l ih =>
    intro c hc
    rcases List.mem_cons.1 hc with rfl | hc
    · exact .inl ⟨(k, v), by simp, rfl⟩
    · rcases ih c hc with ⟨x, hx, e⟩ | ⟨x, hx, _⟩
      · exact .inl ⟨x, List.mem_cons_of_mem _ hx, e⟩
      · cases hx
  case case4 k v l k' w r h ih =>
    intro c hc
    rcases List.mem_cons.1 hc with rfl | hc
    · exact .inl ⟨(k, v), by simp, rfl⟩
    · rcases ih c hc with ⟨x, hx, e⟩ | h
      · exact .inl ⟨x, List.mem_cons_of_mem _ hx, e⟩
      · exact .inr h
  case case5 k v l k' w r h1 h2 ih =>
    intro c hc
    rcases List.mem_cons.1 hc with rfl | hc
    · exact .inr ⟨(k', w), by simp, rfl⟩
    · rcases ih c hc with h | ⟨x, hx, e⟩
      · exact .inl h
      · exact .inr ⟨x, List.mem_cons_of_mem _ hx, e⟩
  case case6 k v l k' w r h1 h2 h3 ih =>
    intro c hc
    rcases List.mem_cons.1 hc with rfl | hc
    · exact .inl ⟨(k, v), by simp, rfl⟩
    · rcases ih c hc with ⟨x, hx, e⟩ | ⟨x, hx, e⟩
      · exact .inl ⟨x, List.mem_cons_of_mem _ hx, e⟩
      · exact .inr ⟨x, List.mem_cons_of_mem _ hx, e⟩
  case case7 k v l k' w r h1 h2 h3 ih =>
    intro c hc
    rcases ih c hc with ⟨x, hx, e⟩ | ⟨x, hx, e⟩
    · exact .inl ⟨x, List.mem_cons_of_mem _ hx, e⟩
    · exact .inr ⟨x, List.mem_cons_of_mem _ hx, e⟩
def inR (lo hi : Int) (l : List Chg) : List Chg := l.filter fun c => decide (lo ≤ c.2.1 ∧ c.2.1 ≤ hi)
theorem inR_nil {lo hi : Int} {l r : Kvs} (h1 : ∀ x ∈ l, hi < x.1) (h2 : ∀ x ∈ r, hi < x.1) : inR lo hi (dif l r) = [] := by
  refine List.filter_eq_nil_iff.2 fun c hc => ?_
  rcases dif_keys l r c hc with ⟨x, hx, e⟩ | ⟨x, hx, e⟩
  · have := h1 x hx; simp; omega
  · have := h2 x hx; simp; omega
def pChg (k v w : Int) (il ir : Bool) : Option Chg := if il = false then some (1, k, 0, w) else if ir = false then some (2, k, v, 0) else if v ≠ w then some (3, k, v, w) else none
def oneR (lo hi : Int) (c : Option Chg) : List Chg := match c with
  | some c => if lo ≤ c.2.1 ∧ c.2.1 ≤ hi then [c] else []
  | none => []
def goOn (hi : Int) (c : Option Chg) : Bool := match c with
  | some c => decide (c.2.1 < hi)
  | none => true
theorem inR_cons (lo hi : Int) (c : Chg) (l : List Chg) : inR lo hi (c :: l) = oneR lo hi (some c) ++ inR lo hi l := by
  unfold inR oneR
  by_cases h : lo ≤ c.2.1 ∧ c.2.1 ≤ hi
  · rw [List.filter_cons_of_pos (by simpa using h)]; simp [h]
  · rw [List.filter_cons_of_neg (by simpa using h)]; simp [h]
theorem Is.fn {A : AM} : ∀ {t u : Tr} {i : Int}, Is A t i → Is A u i → t = u
  | .nil, .nil, _, _, _ => rfl
  | .nil, .node _ _ _ _, _, h, k => absurd k.1 (by rw [show _ = (0 : Int) from h]; omega)
  | .node _ _ _ _, .nil, _, h, k => absurd h.1 (by rw [show _ = (0 : Int) from k]; omega)
  | .node _ _ _ _, .node _ _ _ _, _, ⟨_, _, h3, h4, h5, h6⟩, ⟨_, _, k3, k4, k5, k6⟩ => by
    rw [Is.fn h5 k5, Is.fn h6 k6, ← h3, ← h4, ← k3, ← k4]
theorem top_split {P : List Pt} {q : Pt} (h : topP P = some q) : P = P.dropLast ++ [q] := by
  have hne : P ≠ [] := fun e => by subst e; cases h
  have h2 : P.getLast hne = q := by
    unfold topP at h
    rw [List.getLast?_eq_some_getLast hne] at h
    exact Option.some.inj h
  rw [← h2]; exact (List.dropLast_concat_getLast hne).symm
theorem top_none {P : List Pt} (h : (topP P).isSome = false) : P = [] := by
  cases ht : topP P with
  | none => exact List.getLast?_eq_none_iff.1 ht
  | some q => rw [ht] at h; cases h
theorem top_ne {P : List Pt} (h : (topP P).isSome = true) : P ≠ [] := fun e => by subst e; cases h
theorem top_sub {P : List Pt} (h : (topP P).isSome = true) (hs : pS (topP P) = false) : ∃ i t, topP P = some (.sub i t) := by
  cases ht : topP P with
  | none => rw [ht] at h; cases h
  | some q =>
    cases q with
    | sub i t => exact ⟨i, t, rfl⟩
    | one k v => rw [ht] at hs; cases hs
theorem top_one {P : List Pt} (h : (topP P).isSome = true) (hs : pS (topP P) = true) : P = P.dropLast ++ [.one (pK (topP P)) (pV (topP P))] ∧ rem P = (pK (topP P), pV (topP P)) :: rem P.dropLast ∧ wgt P = wgt P.dropLast + 1 := by
  cases ht : topP P with
  | none => rw [ht] at h; cases h
  | some q =>
    cases q with
    | sub i t => rw [ht] at hs; cases hs
    | one k v =>
      have h1 := top_split ht
      refine ⟨h1, ?_, ?_⟩
      · show rem P = (k, v) :: rem P.dropLast
        have e := congrArg rem h1
        rw [rem_snoc] at e; exact e
      · have e := congrArg wgt h1
        rw [wgt_snoc] at e; exact e
structure Pv (A : AM) (lo hi : Int) (F : List Chg) (m : Nat) (PL PR : List Pt) (out : List Chg) : Prop where
  oL : PsOk A PL
  oR : PsOk A PR
  sL : Srt (rem PL)
  sR : Srt (rem PR)
  d : out ++ inR lo hi (dif (rem PL) (rem PR)) = F
  w : out.length + wgt PL + wgt PR ≤ m
section
variable {A : AM} {lo hi : Int} {F : List Chg} {m : Nat} {PL PR : List Pt} {out : List Chg}
theorem PsOk.top {P : List Pt} {q : Pt} (h : PsOk A P) (ht : topP P = some q) : PtOk A q ∧ PsOk A P.dropLast := by
  have h1 := top_split ht
  refine ⟨h.ok q (by rw [h1]; simp), ⟨fun y hy => h.ok y ((List.dropLast_sublist _).subset hy)⟩⟩
theorem Pv.both (h : Pv A lo hi F m PL PR out) {i : Int} {t u : Tr} (hl : topP PL = some (.sub i t)) (hr : topP PR = some (.sub i u)) : Pv A lo hi F m PL.dropLast PR.dropLast out ∧ wgt PL.dropLast + wgt PR.dropLast < wgt PL + wgt PR := by
  obtain ⟨a1, a2⟩ := h.oL.top hl
  obtain ⟨b1, b2⟩ := h.oR.top hr
  have e : t = u := Is.fn a1.1 b1.1
  subst e
  have e1 := congrArg rem (top_split hl)
  have e2 := congrArg rem (top_split hr)
  have w1 := congrArg wgt (top_split hl)
  have w2 := congrArg wgt (top_split hr)
  rw [rem_snoc] at e1 e2
  rw [wgt_snoc] at w1 w2
  have h1 := h.sL
  have h2 := h.sR
  have h3 := h.d
  rw [e1] at h1 h3
  rw [e2] at h2 h3
  have hw : 1 ≤ ptW (.sub i t) := by
    have : t ≠ .nil := fun e => a1.2 ((Is.nil_iff a1.1).2 e)
    cases t with
    | nil => exact absurd rfl this
    | node => simp only [ptW, Tr.n]; omega
  refine ⟨⟨a2, b2, (Srt.app h1).2.1, (Srt.app h2).2.1, by rw [← h3, dif_common], by have := h.w; omega⟩, by omega⟩
theorem Pv.expL (h : Pv A lo hi F m PL PR out) {i : Int} {t : Tr} (hl : topP PL = some (.sub i t)) : ∃ k z tl tr, topP PL = some (.sub i (.node tl k z tr)) ∧ Is A (.node tl k z tr) i ∧ Pv A lo hi F m (expP PL.dropLast A i k z tl tr) PR out ∧ wgt (expP PL.dropLast A i k z tl tr) < wgt PL := by
  obtain ⟨a1, a2⟩ := h.oL.top hl
  have e1 := congrArg rem (top_split hl)
  have w1 := congrArg wgt (top_split hl)
  rw [rem_snoc] at e1
  rw [wgt_snoc] at w1
  cases t with
  | nil => exact absurd a1.1 a1.2
  | node tl k z tr =>
    have r1 := expP_rem (P := PL.dropLast) a1.1
    have r2 := expP_wgt (P := PL.dropLast) a1.1
    refine ⟨k, z, tl, tr, hl, a1.1, ⟨expP_ok a2 a1.1, h.oR, by rw [r1]; have := h.sL; rw [e1] at this; exact this, h.sR, by rw [r1]; have := h.d; rw [e1] at this; exact this, by have := h.w; omega⟩, by omega⟩
theorem Pv.expR (h : Pv A lo hi F m PL PR out) {i : Int} {t : Tr} (hl : topP PR = some (.sub i t)) : ∃ k z tl tr, topP PR = some (.sub i (.node tl k z tr)) ∧ Is A (.node tl k z tr) i ∧ Pv A lo hi F m PL (expP PR.dropLast A i k z tl tr) out ∧ wgt (expP PR.dropLast A i k z tl tr) < wgt PR := by
  obtain ⟨a1, a2⟩ := h.oR.top hl
  have e1 := congrArg rem (top_split hl)
  have w1 := congrArg wgt (top_split hl)
  rw [rem_snoc] at e1
  rw [wgt_snoc] at w1
  cases t with
  | nil => exact absurd a1.1 a1.2
  | node tl k z tr =>
    have r1 := expP_rem (P := PR.dropLast) a1.1
    have r2 := expP_wgt (P := PR.dropLast) a1.1
    refine ⟨k, z, tl, tr, hl, a1.1, ⟨h.oL, expP_ok a2 a1.1, h.sL, by rw [r1]; have := h.sR; rw [e1] at this; exact this, by rw [r1]; have := h.d; rw [e1] at this; exact this, by have := h.w; omega⟩, by omega⟩
theorem Pv.done (h : Pv A lo hi F m [] [] out) : out = F := by
  have := h.d
  rw [show rem [] = [] from rfl, dif] at this
  simpa [inR] using this
theorem Pv.go (h : Pv A lo hi F m PL PR out) {PL2 PR2 : List Pt} {k v w : Int} {il ir : Bool} (oL : PsOk A PL2) (oR : PsOk A PR2) (sL : Srt (rem PL2)) (sR : Srt (rem PR2))
    (hd : dif (rem PL) (rem PR) = (pChg k v w il ir).toList ++ dif (rem PL2) (rem PR2)) (hw : wgt PL2 + wgt PR2 + 1 ≤ wgt PL + wgt PR) (g1 : ∀ x ∈ rem PL2, k < x.1) (g2 : ∀ x ∈ rem PR2, k < x.1) (hk : ∀ c, pChg k v w il ir = some c → c.2.1 = k) :
    (goOn hi (pChg k v w il ir) = true → Pv A lo hi F m PL2 PR2 (out ++ oneR lo hi (pChg k v w il ir))) ∧ wgt PL2 + wgt PR2 < wgt PL + wgt PR ∧ (goOn hi (pChg k v w il ir) = false → out ++ oneR lo hi (pChg k v w il ir) = F) := by
  have h1 := h.d
  rw [hd] at h1
  have hol : (oneR lo hi (pChg k v w il ir)).length ≤ 1 := by
    unfold oneR
    split
    · split <;> simp
    · simp
  have h2 : inR lo hi ((pChg k v w il ir).toList ++ dif (rem PL2) (rem PR2)) = oneR lo hi (pChg k v w il ir) ++ inR lo hi (dif (rem PL2) (rem PR2)) := by
    cases hc : pChg k v w il ir with
    | none => rfl
    | some c => exact inR_cons lo hi c _
  rw [h2, ← List.append_assoc] at h1
  refine ⟨fun _ => ⟨oL, oR, sL, sR, h1, by have := h.w; rw [List.length_append]; omega⟩, by omega, fun hg => ?_⟩
  rw [← h1]
  cases hc : pChg k v w il ir with
  | none => rw [hc] at hg; cases hg
  | some c =>
    rw [hc] at hg
    have hck := hk c hc
    have hh : hi ≤ k := by simp [goOn] at hg; omega
    rw [inR_nil (fun x hx => by have := g1 x hx; omega) (fun x hx => by have := g2 x hx; omega), List.append_nil]
theorem pChg_key {k v w : Int} {il ir : Bool} : ∀ c, pChg k v w il ir = some c → c.2.1 = k := fun c hc => by
  unfold pChg at hc
  split at hc
  · cases hc; rfl
  · split at hc
    · cases hc; rfl
    · split at hc
      · cases hc; rfl
      · cases hc
theorem Pv.vLR (h : Pv A lo hi F m PL PR out) (l1 : (topP PL).isSome = true) (l2 : pS (topP PL) = true) (r1 : (topP PR).isSome = true) (r2 : pS (topP PR) = true) (hk : pK (topP PL) = pK (topP PR)) {k v w : Int} (e1 : k = pK (topP PR)) (e2 : v = pV (topP PL)) (e3 : w = pV (topP PR)) :
    (goOn hi (pChg k v w true true) = true → Pv A lo hi F m PL.dropLast PR.dropLast (out ++ oneR lo hi (pChg k v w true true))) ∧ wgt PL.dropLast + wgt PR.dropLast < wgt PL + wgt PR ∧ (goOn hi (pChg k v w true true) = false → out ++ oneR lo hi (pChg k v w true true) = F) := by
  obtain ⟨a1, a2, a3⟩ := top_one l1 l2
  obtain ⟨b1, b2, b3⟩ := top_one r1 r2
  have s1 := h.sL
  have s2 := h.sR
  rw [a2] at s1
  rw [b2] at s2
  obtain ⟨s3, s4⟩ := List.pairwise_cons.1 s1
  obtain ⟨s5, s6⟩ := List.pairwise_cons.1 s2
  refine h.go ⟨fun y hy => h.oL.ok y ((List.dropLast_sublist _).subset hy)⟩ ⟨fun y hy => h.oR.ok y ((List.dropLast_sublist _).subset hy)⟩ s4 s6 ?_ (by omega) (fun x hx => by rw [e1, ← hk]; exact s3 x hx) (fun x hx => by rw [e1]; exact s5 x hx) pChg_key
  have hp : pChg k v w true true = if v ≠ w then some (3, k, v, w) else none := by unfold pChg; rw [if_neg (by simp), if_neg (by simp)]
  rw [hp, a2, b2, hk, dif, if_neg (by omega), if_neg (by omega), e1, e2, e3]
  by_cases hvw : pV (topP PL) ≠ pV (topP PR)
  · rw [if_pos hvw, if_pos hvw]; rfl
  · rw [if_neg hvw, if_neg hvw]; rfl
theorem Pv.vL (h : Pv A lo hi F m PL PR out) (l1 : (topP PL).isSome = true) (l2 : pS (topP PL) = true) (hr : (topP PR).isSome = true → pS (topP PR) = true ∧ pK (topP PL) < pK (topP PR)) {k v w : Int} (e1 : k = pK (topP PL)) (e2 : v = pV (topP PL)) :
    (goOn hi (pChg k v w true false) = true → Pv A lo hi F m PL.dropLast PR (out ++ oneR lo hi (pChg k v w true false))) ∧ wgt PL.dropLast + wgt PR < wgt PL + wgt PR ∧ (goOn hi (pChg k v w true false) = false → out ++ oneR lo hi (pChg k v w true false) = F) := by
  obtain ⟨a1, a2, a3⟩ := top_one l1 l2
  have s1 := h.sL
  rw [a2] at s1
  obtain ⟨s3, s4⟩ := List.pairwise_cons.1 s1
  have hg : ∀ x ∈ rem PR, k < x.1 := fun x hx => by
    cases ht : (topP PR).isSome with
    | false => rw [top_none ht] at hx; cases hx
    | true =>
      obtain ⟨h1, h2⟩ := hr ht
      obtain ⟨_, b2, _⟩ := top_one ht h1
      have s2 := h.sR
      rw [b2] at s2 hx
      rcases List.mem_cons.1 hx with rfl | hx
      · rw [e1]; exact h2
      · have := (List.pairwise_cons.1 s2).1 x hx
        rw [e1]
        exact Int.lt_trans h2 this
  refine h.go ⟨fun y hy => h.oL.ok y ((List.dropLast_sublist _).subset hy)⟩ h.oR s4 h.sR ?_ (by omega) (fun x hx => by rw [e1]; exact s3 x hx) hg pChg_key
  rw [a2]
  have hp : pChg k v w true false = some (2, k, v, 0) := by unfold pChg; rw [if_neg (by simp), if_pos rfl]
  rw [hp, e1, e2]
  cases hq : rem PR with
  | nil => rw [dif]; rfl
  | cons x r =>
    obtain ⟨x1, x2⟩ := x
    have := hg (x1, x2) (by rw [hq]; simp)
    rw [dif, if_pos (by rw [← e1]; exact this)]; rfl
theorem Pv.vR (h : Pv A lo hi F m PL PR out) (r1 : (topP PR).isSome = true) (r2 : pS (topP PR) = true) (hl : (topP PL).isSome = true → pS (topP PL) = true ∧ pK (topP PR) < pK (topP PL)) {k v w : Int} (e1 : k = pK (topP PR)) (e3 : w = pV (topP PR)) :
    (goOn hi (pChg k v w false true) = true → Pv A lo hi F m PL PR.dropLast (out ++ oneR lo hi (pChg k v w false true))) ∧ wgt PL + wgt PR.dropLast < wgt PL + wgt PR ∧ (goOn hi (pChg k v w false true) = false → out ++ oneR lo hi (pChg k v w false true) = F) := by
  obtain ⟨b1, b2, b3⟩ := top_one r1 r2
  have s2 := h.sR
  rw [b2] at s2
  obtain ⟨s5, s6⟩ := List.pairwise_cons.1 s2
  have hg : ∀ x ∈ rem PL, k < x.1 := fun x hx => by
    cases ht : (topP PL).isSome with
    | false => rw [top_none ht] at hx; cases hx
    | true =>
      obtain ⟨h1, h2⟩ := hl ht
      obtain ⟨_, a2, _⟩ := top_one ht h1
      have s1 := h.sL
      rw [a2] at s1 hx
      rcases List.mem_cons.1 hx with rfl | hx
      · rw [e1]; exact h2
      · have := (List.pairwise_cons.1 s1).1 x hx
        rw [e1]
        exact Int.lt_trans h2 this
  refine h.go h.oL ⟨fun y hy => h.oR.ok y ((List.dropLast_sublist _).subset hy)⟩ h.sL s6 ?_ (by omega) hg (fun x hx => by rw [e1]; exact s5 x hx) pChg_key
  rw [b2]
  have hp : pChg k v w false true = some (1, k, 0, w) := by unfold pChg; rw [if_pos rfl]
  rw [hp, e1, e3]
  cases hq : rem PL with
  | nil => rw [dif]; rfl
  | cons x r =>
    obtain ⟨x1, x2⟩ := x
    have := hg (x1, x2) (by rw [hq]; simp)
    rw [dif, if_neg (by rw [e1] at this; exact Int.not_lt.2 (Int.le_of_lt this)), if_pos (by rw [← e1]; exact this)]; rfl
end
theorem b_both {a b sl sr : Bool} {p : Prop} [Decidable p] (h : (bif (bif (bif (bif a then b else false) then (!sl) else false) then (!sr) else false) then decide p else false) = true) : a = true ∧ b = true ∧ sl = false ∧ sr = false ∧ p := by
  cases a <;> cases b <;> cases sl <;> cases sr <;> simp_all
theorem b_left {a b sl sr : Bool} {p : Prop} [Decidable p] (h : (bif (bif a then (!sl) else false) then (bif (bif (!b) then true else sr) then true else decide p) else false) = true) : a = true ∧ sl = false := by
  cases a <;> cases sl <;> simp_all
theorem b_right {b sr : Bool} (h : (bif b then (!sr) else false) = true) : b = true ∧ sr = false := by
  cases b <;> cases sr <;> simp_all
theorem b_ones {a b sl sr : Bool} {p : Prop} [Decidable p] (h1 : (bif (!a) then (!b) else false) = false) (h3 : (bif (bif a then (!sl) else false) then (bif (bif (!b) then true else sr) then true else decide p) else false) = false) (h4 : (bif b then (!sr) else false) = false) : (a = true → sl = true) ∧ (b = true → sr = true) ∧ (a = false → b = true) := by
  cases a <;> cases b <;> cases sl <;> cases sr <;> simp_all
end Go.V
/-! ## Pb -/
namespace Go.V
open Go Go.RowKit
structure SiA where
  u : Option Addr
  c : Nat
def sidF (s : Nat) (P : List Pt) (x : SiA) : List HP := [cel s #[.slice x.u (pts P).length x.c] 332, Own 335 5 (pts P) x.u x.c]
def Sid (s : Nat) (P : List Pt) : HP := ExB (sidF s P)
structure DfA where
  lb : Nat
  hb : Nat
  u : Option Addr
  c : Nat
def dfsF (b ob : Nat) (lo hi : Int) (out : List Chg) (x : DfA) : List HP := [cel b #[.func (.func 163) #[] #[.pointer (some ⟨x.lb, 0, none⟩), .pointer (some ⟨x.hb, 0, none⟩), .pointer (some ⟨ob, 0, none⟩)]] 258, cel x.lb #[.int .i64 lo] 2, cel x.hb #[.int .i64 hi] 2, cel ob #[.slice x.u (ch4 out).length x.c] 179, Own 82 4 (ch4 out) x.u x.c]
def Dfs (b ob : Nat) (lo hi : Int) (out : List Chg) : HP := ExB (dfsF b ob lo hi out)
end Go.V
/-! ## P1 -/
namespace Go.Proofs.YtlnlnebibgdjdaaGreat
open Go Go.V
set_option maxRecDepth 8192 in
theorem sd_push {g w : World} {L : List HP} (s a : Nat) (P : List Pt) (A : AM) (R : List Int) (i : Int) (t : Tr) (hA : ARf A R) (hi : Is A t i) (hl : P.length ≤ 900000000) (hS : St g (Sid s P :: Arn a A :: L) w) :
    Sp Tryz.prog 239 [.pointer (some ⟨s, 0, none⟩), .pointer (some ⟨a, 0, none⟩), .int .u32 i] w (fun v w' => v = .tuple #[] ∧ St g (Sid s (pushP P i t) :: Arn a A :: L) w') := by
  refine Sp.enter Tryz.func239 rfl (by kernel_rfl) (by kernel_rfl) ?_
  have _ := hl
  refine WC.seq ?_
  refine WC.region ?_
  refine WL.r 2 rfl ?_
  refine WL.nil ?_
  refine WC.ifP rfl (fun hne => ?_) (fun hne => ?_)
  · refine WC.plan [([0, 1, 5, 6, 7, 2, 3, 4], some (8, [0, 1, 2, 3, 4, 5])), ([], some (9, [0, 1, 2, 3, 4])), ([], some (10, [0, 1, 2, 3, 4])), ([], some (11, [0])), ([12, 13], some (14, []))] (by kernel_rfl) (by kernel_rfl) ?_
    obtain ⟨⟨su, sc⟩, hS⟩ := St.exOpen (f := sidF s P) hS
    replace hS : St g (cel s #[.slice su (List.length (pts P)) sc] 332 :: Own 335 5 (pts P) su sc :: Arn a A :: L) w := hS
    have hpl := pts_len P
    refine WQ.run 8 [.slice su (List.length (pts P)) sc] rfl (by exact hS.ld 0 rfl rfl) ?_
    refine WQ.nil ?_
    intro m1
    replace hS := hS.drewN m1; generalize hwm1 : World.drewN _ _ = w at *; clear hwm1
    refine WL.call rfl rfl (tr_size (a := a) (A := A) (R := R) (i := i) (t := t) (hA := hA) (hi := hi) (hS := (hS.sel 3 [2, 0, 0] rfl))) rfl ?_
    clear hS; rintro _ w ⟨rfl, hS⟩
    replace hS : St g (Arn a A :: cel s #[.slice su (List.length (pts P)) sc] 332 :: Own 335 5 (pts P) su sc :: L) w := hS
    refine WL.nil ?_
    refine ⟨by exact ⟨RQ.pure rfl rfl rfl rfl, RQ.pure rfl rfl rfl rfl, RQ.pure rfl rfl rfl rfl, RQ.pure rfl rfl rfl rfl, RQ.load rfl rfl rfl rfl (hS.ld 1 rfl rfl), RQ.pure rfl rfl rfl rfl⟩, ?_⟩
    refine WQ.nil ?_
    intro m2
    replace hS := hS.drewN m2; generalize hwm2 : World.drewN _ _ = w at *; clear hwm2
    refine WL.build rfl rfl (cs := [.int .u32 i, .int .i64 (t.n : Int), .int .i64 0, .int .i64 0, .bool false]) zv_335 rfl rfl ?_
    refine WL.nil ?_
    refine ⟨by exact ⟨RQ.pure rfl rfl rfl rfl, RQ.pure rfl rfl rfl rfl, RQ.pure rfl rfl rfl rfl, RQ.pure rfl rfl rfl rfl, RQ.load rfl rfl rfl rfl (hS.ld 1 rfl rfl)⟩, ?_⟩
    refine WQ.nil ?_
    intro m3
    replace hS := hS.drewN m3; generalize hwm3 : World.drewN _ _ = w at *; clear hwm3
    refine WL.lit rfl rfl (pts [Pt.sub i t]) el_330 hS (by exact ⟨rfl, rfl⟩) (pts_ok _) rfl (by decide) (fun b1 w hS => ?_)
    refine WL.nil ?_
    refine ⟨by exact ⟨RQ.pure rfl rfl rfl rfl, RQ.pure rfl rfl rfl rfl, RQ.pure rfl rfl rfl rfl, RQ.pure rfl rfl rfl rfl, RQ.load rfl rfl rfl rfl (hS.ld 2 rfl rfl)⟩, ?_⟩
    refine WQ.nil ?_
    intro m4
    replace hS := hS.drewN m4; generalize hwm4 : World.drewN _ _ = w at *; clear hwm4
    refine WL.app rfl rfl 3 (pts (P ++ [Pt.sub i t])) el_330 hS rfl (hS.srcO 0 rfl) (pts_app _ _).symm (Rm.of (by first | omega | (simp <;> omega)) (by decide)) rfl rfl (fun a1 c1 w hS => ?_)
    replace hS : St g (Own 335 5 (pts [Pt.sub i t]) (some ⟨b1, 0, none⟩) (List.length (pts [Pt.sub i t])) :: Arn a A :: cel s #[.slice su (List.length (pts P)) sc] 332 :: Own 335 5 (pts (P ++ [Pt.sub i t])) a1 c1 :: L) w := hS
    refine WL.nil ?_
    refine ⟨by exact RQ.pure rfl rfl rfl rfl, ?_⟩
    refine WQ.r 2 rfl ?_
    refine WQ.nil ?_
    intro m5
    replace hS := hS.drewN m5; generalize hwm5 : World.drewN _ _ = w at *; clear hwm5
    refine WL.st rfl rfl rfl 2 hS rfl rfl rfl rfl rfl rfl (fun w hS => ?_)
    replace hS : St g (Own 335 5 (pts [Pt.sub i t]) (some ⟨b1, 0, none⟩) (List.length (pts [Pt.sub i t])) :: Arn a A :: cel s #[.slice a1 (List.length (pts (P ++ [Pt.sub i t]))) c1] 332 :: Own 335 5 (pts (P ++ [Pt.sub i t])) a1 c1 :: L) w := hS
    refine WL.nil ?_
    refine ⟨by exact trivial, ?_⟩
    intro m6
    replace hS := hS.drewN m6; generalize hwm6 : World.drewN _ _ = w at *; clear hwm6
    replace hS := St.exClose (f := sidF s (P ++ [Pt.sub i t])) (L := Own 335 5 (pts [Pt.sub i t]) (some ⟨b1, 0, none⟩) (List.length (pts [Pt.sub i t])) :: Arn a A :: L) ⟨a1, c1⟩ ((hS.sel 4 [2, 2, 0, 0] rfl))
    replace hS : St g (Sid s (P ++ [Pt.sub i t]) :: Own 335 5 (pts [Pt.sub i t]) (some ⟨b1, 0, none⟩) (List.length (pts [Pt.sub i t])) :: Arn a A :: L) w := hS
    refine ⟨[], trivial, ?_⟩
    replace hS := (hS.sel 2 [0] rfl)
    exact ⟨rfl, by unfold pushP; first | (rw [if_neg hne]; exact hS) | (rw [if_pos (by omega)]; exact hS)⟩
  · refine WC.skip ?_
    refine ⟨[], trivial, ?_⟩
    exact ⟨rfl, by unfold pushP; first | (rw [if_neg hne]; exact hS) | (rw [if_pos (by omega)]; exact hS)⟩
set_option maxRecDepth 8192 in
theorem sd_top {g w : World} {L : List HP} (s : Nat) (P : List Pt) (hl : P.length ≤ 900000000) (hS : St g (Sid s P :: L) w) :
    Sp Tryz.prog 240 [.pointer (some ⟨s, 0, none⟩)] w (fun v w' => v = .tuple #[.agg #[.int .u32 (pI (topP P)), .int .i64 (pN (topP P)), .int .i64 (pK (topP P)), .int .i64 (pV (topP P)), .bool (pS (topP P))], .bool (topP P).isSome] ∧ St g (Sid s P :: L) w') := by
  refine Sp.enter Tryz.func240 rfl (by kernel_rfl) (by kernel_rfl) ?_
  have _ := hl
  refine WC.seq ?_
  refine WC.region ?_
  obtain ⟨⟨su, sc⟩, hS⟩ := St.exOpen (f := sidF s P) hS
  replace hS : St g (cel s #[.slice su (List.length (pts P)) sc] 332 :: Own 335 5 (pts P) su sc :: L) w := hS
  have hpl := pts_len P
  refine WL.new rfl rfl zv_335 hS (fun b1 w hS => ?_)
  refine WL.r 1 rfl ?_
  refine WL.nil ?_
  refine WC.seq ?_
  refine WC.seq ?_
  refine WC.region ?_
  refine WL.run 6 [.slice su (List.length (pts P)) sc] rfl (by exact hS.ld 1 rfl rfl) ?_
  refine WL.nil ?_
  refine WC.ifP rfl (fun he => ?_) (fun he => ?_)
  · refine WC.seq ?_
    refine WC.region ?_
    refine WL.build rfl rfl (cs := [.int .u32 0, .int .i64 0, .int .i64 0, .int .i64 0, .bool false]) zv_335 rfl rfl ?_
    refine WL.stF rfl rfl rfl 0 hS rfl rfl rfl rfl rfl ag_335 (fun w hS => ?_)
    replace hS : St g (cel b1 #[.int .u32 0, .int .i64 0, .int .i64 0, .int .i64 0, .bool false] 335 :: cel s #[.slice su (List.length (pts P)) sc] 332 :: Own 335 5 (pts P) su sc :: L) w := hS
    refine WL.r 1 rfl ?_
    refine WL.nil ?_
    refine WC.ret ?_
    replace hS := St.exClose (f := sidF s P) (L := cel b1 #[.int .u32 0, .int .i64 0, .int .i64 0, .int .i64 0, .bool false] 335 :: L) ⟨su, sc⟩ ((hS.sel 3 [1, 1, 0] rfl))
    replace hS : St g (Sid s P :: cel b1 #[.int .u32 0, .int .i64 0, .int .i64 0, .int .i64 0, .bool false] 335 :: L) w := hS
    refine ⟨[.agg #[.int .u32 0, .int .i64 0, .int .i64 0, .int .i64 0, .bool false], .bool false], ⟨⟨_, rfl, hS.lvF 1 rfl ag_335⟩, rfl⟩, ?_⟩
    replace hS := (hS.sel 2 [0] rfl)
    have hn : P = [] := List.length_eq_zero_iff.1 (by omega); subst hn; exact ⟨rfl, hS⟩
  · refine WC.skip ?_
    refine WC.seq ?_
    refine WC.plan [([0, 4, 1, 5, 2, 6, 3, 7, 8, 9], some (10, [])), ([], some (11, [])), ([], some (12, [])), ([13], none)] (by kernel_rfl) (by kernel_rfl) ?_
    refine WQ.run 10 [.slice su (List.length (pts P)) sc, .slice su (List.length (pts P)) sc] rfl (by exact ⟨hS.ld 1 rfl rfl, hS.ld 1 rfl rfl⟩) ?_
    refine WQ.nw 20 rfl (w64 (by omega)) ?_
    refine WQ.nil ?_
    intro m1
    replace hS := hS.drewN m1; generalize hwm1 : World.drewN _ _ = w at *; clear hwm1
    obtain ⟨x, hx⟩ : ∃ x, P[P.length - 1]? = some x := ⟨_, List.getElem?_eq_getElem (by omega)⟩; have hgl : topP P = some x := (by unfold topP; rw [List.getLast?_eq_getElem?]; exact hx)
    refine WL.ix rfl rfl (i := (List.length (pts P) : Int) - 1) (P.length - 1) el_330 rfl rfl (by omega) (by omega) (hS.rdO 2 rfl (pts_at hx)).1 ?_
    refine WL.nil ?_
    refine ⟨by exact trivial, ?_⟩
    refine WQ.nil ?_
    intro m2
    replace hS := hS.drewN m2; generalize hwm2 : World.drewN _ _ = w at *; clear hwm2
    refine WL.ldC rfl rfl [.int .u32 (pI (some x)), .int .i64 (pN (some x)), .int .i64 (pK (some x)), .int .i64 (pV (some x)), .bool (pS (some x))] ag_335 rfl (hS.rdO 2 rfl (pts_at hx)).2 ?_
    refine WL.nil ?_
    refine ⟨by exact trivial, ?_⟩
    refine WQ.nil ?_
    intro m3
    replace hS := hS.drewN m3; generalize hwm3 : World.drewN _ _ = w at *; clear hwm3
    refine WL.stF rfl rfl rfl 0 hS rfl rfl rfl rfl rfl ag_335 (fun w hS => ?_)
    replace hS : St g (cel b1 #[.int .u32 (pI (some x)), .int .i64 (pN (some x)), .int .i64 (pK (some x)), .int .i64 (pV (some x)), .bool (pS (some x))] 335 :: cel s #[.slice su (List.length (pts P)) sc] 332 :: Own 335 5 (pts P) su sc :: L) w := hS
    refine WL.nil ?_
    refine ⟨by exact trivial, ?_⟩
    refine WQ.r 1 rfl ?_
    refine WQ.nil ?_
    intro m4
    replace hS := hS.drewN m4; generalize hwm4 : World.drewN _ _ = w at *; clear hwm4
    as_aux_lemma =>
      refine WC.ret ?_
      replace hS := St.exClose (f := sidF s P) (L := cel b1 #[.int .u32 (pI (some x)), .int .i64 (pN (some x)), .int .i64 (pK (some x)), .int .i64 (pV (some x)), .bool (pS (some x))] 335 :: L) ⟨su, sc⟩ ((hS.sel 3 [1, 1, 0] rfl))
      replace hS : St g (Sid s P :: cel b1 #[.int .u32 (pI (some x)), .int .i64 (pN (some x)), .int .i64 (pK (some x)), .int .i64 (pV (some x)), .bool (pS (some x))] 335 :: L) w := hS
      refine ⟨[.agg #[.int .u32 (pI (some x)), .int .i64 (pN (some x)), .int .i64 (pK (some x)), .int .i64 (pV (some x)), .bool (pS (some x))], .bool true], ⟨⟨_, rfl, hS.lvF 1 rfl ag_335⟩, rfl⟩, ?_⟩
      replace hS := (hS.sel 2 [0] rfl)
      exact ⟨by rw [hgl]; rfl, hS⟩
set_option maxRecDepth 8192 in
theorem sd_pop {g w : World} {L : List HP} (s : Nat) (P : List Pt) (hl : P.length ≤ 900000000) (hne : P ≠ []) (hS : St g (Sid s P :: L) w) :
    Sp Tryz.prog 241 [.pointer (some ⟨s, 0, none⟩)] w (fun v w' => v = .tuple #[] ∧ St g (Sid s P.dropLast :: L) w') := by
  refine Sp.enter Tryz.func241 rfl (by kernel_rfl) (by kernel_rfl) ?_
  have _ := hl
  refine WC.plan [([0, 1, 5, 2, 6, 3, 7, 4, 8, 9, 10], some (11, [0])), ([12, 13], some (14, []))] (by kernel_rfl) (by kernel_rfl) ?_
  obtain ⟨⟨su, sc⟩, hS⟩ := St.exOpen (f := sidF s P) hS
  replace hS : St g (cel s #[.slice su (List.length (pts P)) sc] 332 :: Own 335 5 (pts P) su sc :: L) w := hS
  have hpl := pts_len P; have hpos := List.length_pos_iff.2 hne
  refine WQ.run 11 [.slice su (List.length (pts P)) sc, .slice su (List.length (pts P)) sc] rfl (by exact ⟨hS.ld 0 rfl rfl, hS.ld 0 rfl rfl⟩) ?_
  refine WQ.nw 12 rfl (w64 (by omega)) ?_
  refine WQ.nil ?_
  intro m1
  replace hS := hS.drewN m1; generalize hwm1 : World.drewN _ _ = w at *; clear hwm1
  refine WL.slOwn rfl rfl (v := (List.length (pts P) : Int) - 1) 1 (P.length - 1) (pts P.dropLast) el_330 hS rfl rfl rfl (by omega) (by omega) (by rw [List.dropLast_eq_take, pts_take]) (fun hS => ?_)
  replace hS : St g (cel s #[.slice su (List.length (pts P)) sc] 332 :: Own 335 5 (pts P.dropLast) su sc :: L) w := hS
  refine WL.nil ?_
  refine ⟨by exact RQ.pure rfl rfl rfl rfl, ?_⟩
  refine WQ.r 2 rfl ?_
  refine WQ.nil ?_
  intro m2
  replace hS := hS.drewN m2; generalize hwm2 : World.drewN _ _ = w at *; clear hwm2
  refine WL.st rfl rfl rfl 0 hS rfl rfl rfl rfl rfl rfl (fun w hS => ?_)
  replace hS : St g (cel s #[.slice su (List.length (pts P.dropLast)) sc] 332 :: Own 335 5 (pts P.dropLast) su sc :: L) w := hS
  refine WL.nil ?_
  refine ⟨by exact trivial, ?_⟩
  intro m3
  replace hS := hS.drewN m3; generalize hwm3 : World.drewN _ _ = w at *; clear hwm3
  replace hS := St.exClose (f := sidF s P.dropLast) (L := L) ⟨su, sc⟩ (hS)
  replace hS : St g (Sid s P.dropLast :: L) w := hS
  refine ⟨[], trivial, ?_⟩
  exact ⟨rfl, hS⟩
set_option maxHeartbeats 1000000 in
set_option maxRecDepth 8192 in
theorem sd_exp {g w : World} {L : List HP} (s a : Nat) (P : List Pt) (A : AM) (R : List Int) (i k z : Int) (tl tr : Tr) (hA : ARf A R) (hP : (topP P) = some (.sub i (.node tl k z tr))) (hi : Is A (.node tl k z tr) i) (hl : P.length ≤ 800000000) (hS : St g (Sid s P :: Arn a A :: L) w) :
    Sp Tryz.prog 242 [.pointer (some ⟨s, 0, none⟩), .pointer (some ⟨a, 0, none⟩)] w (fun v w' => v = .tuple #[] ∧ St g (Sid s (expP P.dropLast A i k z tl tr) :: Arn a A :: L) w') := by
  refine Sp.enter Tryz.func242 rfl (by kernel_rfl) (by kernel_rfl) ?_
  have _ := hl
  refine WC.seq ?_
  refine WC.region ?_
  have hne : P ≠ [] := (fun e => by subst e; cases hP); have hri := hA.okrng hi.ref; have hpI : pI (topP P) = i := (by rw [hP]; rfl); have hdl : P.dropLast.length ≤ P.length := (by rw [List.length_dropLast]; omega)
  refine WL.r 1 rfl ?_
  refine WL.call rfl rfl (sd_top (s := s) (P := P) (hl := (by omega)) (hS := hS)) rfl ?_
  clear hS; rintro _ w ⟨rfl, hS⟩
  replace hS : St g (Sid s P :: Arn a A :: L) w := hS
  refine WL.r 3 rfl ?_
  refine WL.new rfl rfl zv_335 hS (fun b1 w hS => ?_)
  refine WL.stF rfl rfl rfl 0 hS rfl rfl rfl rfl rfl ag_335 (fun w hS => ?_)
  replace hS : St g (cel b1 #[.int .u32 (pI (topP P)), .int .i64 (pN (topP P)), .int .i64 (pK (topP P)), .int .i64 (pV (topP P)), .bool (pS (topP P))] 335 :: Sid s P :: Arn a A :: L) w := hS
  refine WL.r 1 rfl ?_
  refine WL.nil ?_
  refine WC.seq ?_
  refine WC.region ?_
  refine WL.r 1 rfl ?_
  refine WL.call rfl rfl (sd_pop (s := s) (P := P) (hl := (by omega)) (hne := hne) (hS := (hS.sel 2 [1, 0] rfl))) rfl ?_
  clear hS; rintro _ w ⟨rfl, hS⟩
  replace hS : St g (Sid s P.dropLast :: cel b1 #[.int .u32 (pI (topP P)), .int .i64 (pN (topP P)), .int .i64 (pK (topP P)), .int .i64 (pV (topP P)), .bool (pS (topP P))] 335 :: Arn a A :: L) w := hS
  refine WL.nil ?_
  refine WC.seq ?_
  refine WC.region ?_
  refine WL.run 3 [.int .u32 (pI (topP P))] rfl (by exact hS.ld 1 rfl rfl) ?_
  refine WL.call rfl rfl (ar_node (a := a) (A := A) (i := pI (topP P)) (hA := hA.toAWf) (hi := (by omega)) (hio := (by rw [hpI]; exact hi.2.1)) (hS := (hS.sel 3 [2, 0, 0] rfl))) rfl ?_
  clear hS; rintro _ w ⟨rfl, hS⟩
  replace hS : St g (Arn a A :: Sid s P.dropLast :: cel b1 #[.int .u32 (pI (topP P)), .int .i64 (pN (topP P)), .int .i64 (pK (topP P)), .int .i64 (pV (topP P)), .bool (pS (topP P))] 335 :: L) w := hS
  refine WL.r 3 rfl ?_
  refine WL.new rfl rfl zv_165 hS (fun b2 w hS => ?_)
  refine WL.stF rfl rfl rfl 0 hS rfl rfl rfl rfl rfl ag_165 (fun w hS => ?_)
  replace hS : St g (cel b2 #[.int .i64 (A.nd (pI (topP P))).key, .int .i64 (A.nd (pI (topP P))).val, .int .u32 (A.nd (pI (topP P))).lf, .int .u32 (A.nd (pI (topP P))).rg, .int .i64 (A.nd (pI (topP P))).size, .int .i64 (A.nd (pI (topP P))).sum, .int .i64 (A.nd (pI (topP P))).mn, .int .i64 (A.nd (pI (topP P))).mx] 165 :: Arn a A :: Sid s P.dropLast :: cel b1 #[.int .u32 (pI (topP P)), .int .i64 (pN (topP P)), .int .i64 (pK (topP P)), .int .i64 (pV (topP P)), .bool (pS (topP P))] 335 :: L) w := hS
  refine WL.r 1 rfl ?_
  refine WL.nil ?_
  as_aux_lemma =>
    refine WC.seq ?_
    refine WC.seq ?_
    refine WC.region ?_
    refine WL.r 2 rfl ?_
    refine WL.nil ?_
    refine WC.ifF rfl rfl ?_
    refine WC.skip ?_
    refine WC.seq ?_
    refine WC.region ?_
    have hir : Is A tr (A.nd (pI (topP P))).rg := (by rw [hpI]; exact hi.2.2.2.2.2); have hil : Is A tl (A.nd (pI (topP P))).lf := (by rw [hpI]; exact hi.2.2.2.2.1); have hpl2 := pushP_len P.dropLast (A.nd (pI (topP P))).rg tr
    refine WL.run 4 [.int .u32 (A.nd (pI (topP P))).rg] rfl (by exact hS.ld 0 rfl rfl) ?_
    refine WL.call rfl rfl (sd_push (s := s) (a := a) (P := P.dropLast) (A := A) (R := R) (i := (A.nd (pI (topP P))).rg) (t := tr) (hA := hA) (hi := hir) (hl := (by omega)) (hS := (hS.sel 3 [2, 1, 0] rfl))) rfl ?_
    clear hS; rintro _ w ⟨rfl, hS⟩
    replace hS : St g (Sid s (pushP P.dropLast (A.nd (pI (topP P))).rg tr) :: Arn a A :: cel b2 #[.int .i64 (A.nd (pI (topP P))).key, .int .i64 (A.nd (pI (topP P))).val, .int .u32 (A.nd (pI (topP P))).lf, .int .u32 (A.nd (pI (topP P))).rg, .int .i64 (A.nd (pI (topP P))).size, .int .i64 (A.nd (pI (topP P))).sum, .int .i64 (A.nd (pI (topP P))).mn, .int .i64 (A.nd (pI (topP P))).mx] 165 :: cel b1 #[.int .u32 (pI (topP P)), .int .i64 (pN (topP P)), .int .i64 (pK (topP P)), .int .i64 (pV (topP P)), .bool (pS (topP P))] 335 :: L) w := hS
    refine WL.nil ?_
    refine WC.seq ?_
    refine WC.plan [([0, 1, 5, 7, 2, 6, 8, 3, 4], some (9, [0, 1, 2, 3, 4])), ([], some (10, [0, 1, 2, 3, 4])), ([], some (11, [0, 1, 2, 3, 4])), ([], some (12, [0])), ([13, 14], some (15, []))] (by kernel_rfl) (by kernel_rfl) ?_
    obtain ⟨⟨su, sc⟩, hS⟩ := St.exOpen (f := sidF s (pushP P.dropLast (A.nd (pI (topP P))).rg tr)) hS
    replace hS : St g (cel s #[.slice su (List.length (pts (pushP P.dropLast (A.nd (pI (topP P))).rg tr))) sc] 332 :: Own 335 5 (pts (pushP P.dropLast (A.nd (pI (topP P))).rg tr)) su sc :: Arn a A :: cel b2 #[.int .i64 (A.nd (pI (topP P))).key, .int .i64 (A.nd (pI (topP P))).val, .int .u32 (A.nd (pI (topP P))).lf, .int .u32 (A.nd (pI (topP P))).rg, .int .i64 (A.nd (pI (topP P))).size, .int .i64 (A.nd (pI (topP P))).sum, .int .i64 (A.nd (pI (topP P))).mn, .int .i64 (A.nd (pI (topP P))).mx] 165 :: cel b1 #[.int .u32 (pI (topP P)), .int .i64 (pN (topP P)), .int .i64 (pK (topP P)), .int .i64 (pV (topP P)), .bool (pS (topP P))] 335 :: L) w := hS
    have hpl3 := pts_len (pushP P.dropLast (A.nd (pI (topP P))).rg tr)
    refine WQ.run 9 [.int .i64 (A.nd (pI (topP P))).key, .int .i64 (A.nd (pI (topP P))).val, .slice su (List.length (pts (pushP P.dropLast (A.nd (pI (topP P))).rg tr))) sc] rfl (by exact ⟨hS.ld 3 rfl rfl, hS.ld 3 rfl rfl, hS.ld 0 rfl rfl⟩) ?_
    refine WQ.nil ?_
    intro m1
    replace hS := hS.drewN m1; generalize hwm1 : World.drewN _ _ = w at *; clear hwm1
    refine WL.build rfl rfl (cs := [.int .i64 (A.nd (pI (topP P))).key, .int .i64 (A.nd (pI (topP P))).val]) zv_77 rfl rfl ?_
    refine WL.nil ?_
    refine ⟨by exact ⟨RQ.pure rfl rfl rfl rfl, RQ.pure rfl rfl rfl rfl, RQ.pure rfl rfl rfl rfl, RQ.pure rfl rfl rfl rfl, RQ.load rfl rfl rfl rfl (hS.ld 0 rfl rfl)⟩, ?_⟩
    refine WQ.nil ?_
    intro m2
    replace hS := hS.drewN m2; generalize hwm2 : World.drewN _ _ = w at *; clear hwm2
    refine WL.build rfl rfl (cs := [.int .u32 0, .int .i64 0, .int .i64 (A.nd (pI (topP P))).key, .int .i64 (A.nd (pI (topP P))).val, .bool true]) zv_335 rfl rfl ?_
    refine WL.nil ?_
    refine ⟨by exact ⟨RQ.pure rfl rfl rfl rfl, RQ.pure rfl rfl rfl rfl, RQ.pure rfl rfl rfl rfl, RQ.pure rfl rfl rfl rfl, RQ.load rfl rfl rfl rfl (hS.ld 0 rfl rfl)⟩, ?_⟩
    refine WQ.nil ?_
    intro m3
    replace hS := hS.drewN m3; generalize hwm3 : World.drewN _ _ = w at *; clear hwm3
    refine WL.lit rfl rfl (pts [Pt.one (A.nd (pI (topP P))).key (A.nd (pI (topP P))).val]) el_330 hS (by exact ⟨rfl, rfl⟩) (pts_ok _) rfl (by decide) (fun b3 w hS => ?_)
    refine WL.nil ?_
    refine ⟨by exact ⟨RQ.pure rfl rfl rfl rfl, RQ.pure rfl rfl rfl rfl, RQ.pure rfl rfl rfl rfl, RQ.pure rfl rfl rfl rfl, RQ.load rfl rfl rfl rfl (hS.ld 1 rfl rfl)⟩, ?_⟩
    refine WQ.nil ?_
    intro m4
    replace hS := hS.drewN m4; generalize hwm4 : World.drewN _ _ = w at *; clear hwm4
    refine WL.app rfl rfl 2 (pts ((pushP P.dropLast (A.nd (pI (topP P))).rg tr) ++ [Pt.one (A.nd (pI (topP P))).key (A.nd (pI (topP P))).val])) el_330 hS rfl (hS.srcO 0 rfl) (pts_app _ _).symm (Rm.of (by first | omega | (simp <;> omega)) (by decide)) rfl rfl (fun a1 c1 w hS => ?_)
    replace hS : St g (Own 335 5 (pts [Pt.one (A.nd (pI (topP P))).key (A.nd (pI (topP P))).val]) (some ⟨b3, 0, none⟩) (List.length (pts [Pt.one (A.nd (pI (topP P))).key (A.nd (pI (topP P))).val])) :: cel s #[.slice su (List.length (pts (pushP P.dropLast (A.nd (pI (topP P))).rg tr))) sc] 332 :: Own 335 5 (pts ((pushP P.dropLast (A.nd (pI (topP P))).rg tr) ++ [Pt.one (A.nd (pI (topP P))).key (A.nd (pI (topP P))).val])) a1 c1 :: Arn a A :: cel b2 #[.int .i64 (A.nd (pI (topP P))).key, .int .i64 (A.nd (pI (topP P))).val, .int .u32 (A.nd (pI (topP P))).lf, .int .u32 (A.nd (pI (topP P))).rg, .int .i64 (A.nd (pI (topP P))).size, .int .i64 (A.nd (pI (topP P))).sum, .int .i64 (A.nd (pI (topP P))).mn, .int .i64 (A.nd (pI (topP P))).mx] 165 :: cel b1 #[.int .u32 (pI (topP P)), .int .i64 (pN (topP P)), .int .i64 (pK (topP P)), .int .i64 (pV (topP P)), .bool (pS (topP P))] 335 :: L) w := hS
    refine WL.nil ?_
    refine ⟨by exact RQ.pure rfl rfl rfl rfl, ?_⟩
    refine WQ.r 2 rfl ?_
    refine WQ.nil ?_
    intro m5
    replace hS := hS.drewN m5; generalize hwm5 : World.drewN _ _ = w at *; clear hwm5
    refine WL.st rfl rfl rfl 1 hS rfl rfl rfl rfl rfl rfl (fun w hS => ?_)
    replace hS : St g (Own 335 5 (pts [Pt.one (A.nd (pI (topP P))).key (A.nd (pI (topP P))).val]) (some ⟨b3, 0, none⟩) (List.length (pts [Pt.one (A.nd (pI (topP P))).key (A.nd (pI (topP P))).val])) :: cel s #[.slice a1 (List.length (pts ((pushP P.dropLast (A.nd (pI (topP P))).rg tr) ++ [Pt.one (A.nd (pI (topP P))).key (A.nd (pI (topP P))).val]))) c1] 332 :: Own 335 5 (pts ((pushP P.dropLast (A.nd (pI (topP P))).rg tr) ++ [Pt.one (A.nd (pI (topP P))).key (A.nd (pI (topP P))).val])) a1 c1 :: Arn a A :: cel b2 #[.int .i64 (A.nd (pI (topP P))).key, .int .i64 (A.nd (pI (topP P))).val, .int .u32 (A.nd (pI (topP P))).lf, .int .u32 (A.nd (pI (topP P))).rg, .int .i64 (A.nd (pI (topP P))).size, .int .i64 (A.nd (pI (topP P))).sum, .int .i64 (A.nd (pI (topP P))).mn, .int .i64 (A.nd (pI (topP P))).mx] 165 :: cel b1 #[.int .u32 (pI (topP P)), .int .i64 (pN (topP P)), .int .i64 (pK (topP P)), .int .i64 (pV (topP P)), .bool (pS (topP P))] 335 :: L) w := hS
    refine WL.nil ?_
    refine ⟨by exact trivial, ?_⟩
    intro m6
    replace hS := hS.drewN m6; generalize hwm6 : World.drewN _ _ = w at *; clear hwm6
    as_aux_lemma =>
      refine WC.region ?_
      replace hS := St.exClose (f := sidF s (pushP P.dropLast (A.nd (pI (topP P))).rg tr ++ [Pt.one (A.nd (pI (topP P))).key (A.nd (pI (topP P))).val])) (L := Own 335 5 (pts [Pt.one (A.nd (pI (topP P))).key (A.nd (pI (topP P))).val]) (some ⟨b3, 0, none⟩) (List.length (pts [Pt.one (A.nd (pI (topP P))).key (A.nd (pI (topP P))).val])) :: Arn a A :: cel b2 #[.int .i64 (A.nd (pI (topP P))).key, .int .i64 (A.nd (pI (topP P))).val, .int .u32 (A.nd (pI (topP P))).lf, .int .u32 (A.nd (pI (topP P))).rg, .int .i64 (A.nd (pI (topP P))).size, .int .i64 (A.nd (pI (topP P))).sum, .int .i64 (A.nd (pI (topP P))).mn, .int .i64 (A.nd (pI (topP P))).mx] 165 :: cel b1 #[.int .u32 (pI (topP P)), .int .i64 (pN (topP P)), .int .i64 (pK (topP P)), .int .i64 (pV (topP P)), .bool (pS (topP P))] 335 :: L) ⟨a1, c1⟩ ((hS.sel 3 [1, 1, 0] rfl))
      replace hS : St g (Sid s (pushP P.dropLast (A.nd (pI (topP P))).rg tr ++ [Pt.one (A.nd (pI (topP P))).key (A.nd (pI (topP P))).val]) :: Own 335 5 (pts [Pt.one (A.nd (pI (topP P))).key (A.nd (pI (topP P))).val]) (some ⟨b3, 0, none⟩) (List.length (pts [Pt.one (A.nd (pI (topP P))).key (A.nd (pI (topP P))).val])) :: Arn a A :: cel b2 #[.int .i64 (A.nd (pI (topP P))).key, .int .i64 (A.nd (pI (topP P))).val, .int .u32 (A.nd (pI (topP P))).lf, .int .u32 (A.nd (pI (topP P))).rg, .int .i64 (A.nd (pI (topP P))).size, .int .i64 (A.nd (pI (topP P))).sum, .int .i64 (A.nd (pI (topP P))).mn, .int .i64 (A.nd (pI (topP P))).mx] 165 :: cel b1 #[.int .u32 (pI (topP P)), .int .i64 (pN (topP P)), .int .i64 (pK (topP P)), .int .i64 (pV (topP P)), .bool (pS (topP P))] 335 :: L) w := hS
      refine WL.run 4 [.int .u32 (A.nd (pI (topP P))).lf] rfl (by exact hS.ld 3 rfl rfl) ?_
      refine WL.call rfl rfl (sd_push (s := s) (a := a) (P := pushP P.dropLast (A.nd (pI (topP P))).rg tr ++ [Pt.one (A.nd (pI (topP P))).key (A.nd (pI (topP P))).val]) (A := A) (R := R) (i := (A.nd (pI (topP P))).lf) (t := tl) (hA := hA) (hi := hil) (hl := (by simp; omega)) (hS := (hS.sel 3 [0, 1, 0] rfl))) rfl ?_
      clear hS; rintro _ w ⟨rfl, hS⟩
      replace hS : St g (Sid s (pushP (pushP P.dropLast (A.nd (pI (topP P))).rg tr ++ [Pt.one (A.nd (pI (topP P))).key (A.nd (pI (topP P))).val]) (A.nd (pI (topP P))).lf tl) :: Arn a A :: Own 335 5 (pts [Pt.one (A.nd (pI (topP P))).key (A.nd (pI (topP P))).val]) (some ⟨b3, 0, none⟩) (List.length (pts [Pt.one (A.nd (pI (topP P))).key (A.nd (pI (topP P))).val])) :: cel b2 #[.int .i64 (A.nd (pI (topP P))).key, .int .i64 (A.nd (pI (topP P))).val, .int .u32 (A.nd (pI (topP P))).lf, .int .u32 (A.nd (pI (topP P))).rg, .int .i64 (A.nd (pI (topP P))).size, .int .i64 (A.nd (pI (topP P))).sum, .int .i64 (A.nd (pI (topP P))).mn, .int .i64 (A.nd (pI (topP P))).mx] 165 :: cel b1 #[.int .u32 (pI (topP P)), .int .i64 (pN (topP P)), .int .i64 (pK (topP P)), .int .i64 (pV (topP P)), .bool (pS (topP P))] 335 :: L) w := hS
      refine WL.nil ?_
      refine ⟨[], trivial, ?_⟩
      replace hS := (hS.sel 5 [0, 0] rfl)
      exact ⟨rfl, by unfold expP; rw [hpI, hi.2.2.1, hi.2.2.2.1] at hS; exact hS⟩
end Go.Proofs.YtlnlnebibgdjdaaGreat
/-! ## P2 -/
namespace Go.Proofs.YtlnlnebibgdjdaaGreat
open Go Go.V
set_option maxRecDepth 8192 in
theorem df_visit {g w : World} {L : List HP} (lb hb ob : Nat) (lo hi x y z q : Int) (out : List Chg) (u : Option Addr) (d : Nat) (hl : out.length ≤ 900000000) (hS : St g (cel lb #[.int .i64 lo] 2 :: cel hb #[.int .i64 hi] 2 :: cel ob #[.slice u (List.length (ch4 out)) d] 179 :: Own 82 4 (ch4 out) u d :: L) w) :
    Sp Tryz.prog 163 [.agg #[.int .i64 x, .int .i64 y, .int .i64 z, .int .i64 q], .pointer (some ⟨lb, 0, none⟩), .pointer (some ⟨hb, 0, none⟩), .pointer (some ⟨ob, 0, none⟩)] w (fun v w' => ∃ (a2 : Option Addr) (c2 : Nat), v = .bool (decide (y < hi)) ∧ St g (cel lb #[.int .i64 lo] 2 :: cel hb #[.int .i64 hi] 2 :: cel ob #[.slice a2 (List.length (ch4 (out ++ oneR lo hi (some (x, y, z, q))))) c2] 179 :: Own 82 4 (ch4 (out ++ oneR lo hi (some (x, y, z, q)))) a2 c2 :: L) w') := by
  refine Sp.enter Tryz.func163 rfl (by kernel_rfl) (by kernel_rfl) ?_
  have _ := hl
  refine WC.seq ?_
  refine WC.region ?_
  have hol := ch4_len out
  refine WL.box rfl rfl #[.int .i64 x, .int .i64 y, .int .i64 z, .int .i64 q] hS rfl rfl (fun b1 w hS => ?_)
  refine WL.r 1 rfl ?_
  refine WL.nil ?_
  refine WC.seq ?_
  refine WC.seq ?_
  refine WC.region ?_
  refine WL.run 4 [.int .i64 y, .int .i64 lo] rfl (by exact ⟨hS.ld 0 rfl rfl, hS.ld 1 rfl rfl⟩) ?_
  refine WL.runG 6 [.int .i64 y, .int .i64 hi] rfl (by exact ⟨fun _ => hS.ld 0 rfl rfl, fun _ => hS.ld 2 rfl rfl⟩) (fun j => ?_)
  refine WL.prop 15 rfl (band (dd _) (dd _)) ?_
  refine WL.nil ?_
  refine WC.ifP rfl (fun hc => ?_) (fun hc => ?_)
  · refine WC.region ?_
    refine WL.run 1 [.slice u (List.length (ch4 out)) d] rfl (by exact hS.ld 3 rfl rfl) ?_
    refine WL.ldF rfl rfl 0 hS rfl rfl ag_82 ?_
    refine WL.lit rfl rfl (ch4 [(x, y, z, q)]) el_179 hS (by exact ⟨rfl, rfl⟩) (ch4_ok _) rfl (by decide) (fun b2 w hS => ?_)
    refine WL.app rfl rfl 5 (ch4 (out ++ [(x, y, z, q)])) el_179 hS rfl (hS.srcO 0 rfl) (ch4_app _ _).symm (Rm.of (by first | omega | (simp <;> omega)) (by decide)) rfl rfl (fun a1 c1 w hS => ?_)
    replace hS : St g (Own 82 4 (ch4 [(x, y, z, q)]) (some ⟨b2, 0, none⟩) (List.length (ch4 [(x, y, z, q)])) :: cel b1 #[.int .i64 x, .int .i64 y, .int .i64 z, .int .i64 q] 82 :: cel lb #[.int .i64 lo] 2 :: cel hb #[.int .i64 hi] 2 :: cel ob #[.slice u (List.length (ch4 out)) d] 179 :: Own 82 4 (ch4 (out ++ [(x, y, z, q)])) a1 c1 :: L) w := hS
    refine WL.st rfl rfl rfl 4 hS rfl rfl rfl rfl rfl rfl (fun w hS => ?_)
    replace hS : St g (Own 82 4 (ch4 [(x, y, z, q)]) (some ⟨b2, 0, none⟩) (List.length (ch4 [(x, y, z, q)])) :: cel b1 #[.int .i64 x, .int .i64 y, .int .i64 z, .int .i64 q] 82 :: cel lb #[.int .i64 lo] 2 :: cel hb #[.int .i64 hi] 2 :: cel ob #[.slice a1 (List.length (ch4 (out ++ [(x, y, z, q)]))) c1] 179 :: Own 82 4 (ch4 (out ++ [(x, y, z, q)])) a1 c1 :: L) w := hS
    refine WL.nil ?_
    refine WC.seq ?_
    refine WC.region ?_
    refine WL.run 5 [.int .i64 y, .int .i64 hi] rfl (by exact ⟨hS.ld 1 rfl rfl, hS.ld 3 rfl rfl⟩) ?_
    refine WL.nil ?_
    as_aux_lemma =>
      refine WC.ret ?_
      refine ⟨[.bool (decide (y < hi))], rfl, ?_⟩
      replace hS := (hS.sel 2 [] rfl)
      have e9 : oneR lo hi (some (x, y, z, q)) = [(x, y, z, q)] := if_pos hc; rw [e9]; exact ⟨_, _, rfl, hS⟩
  · refine WC.skip ?_
    refine WC.seq ?_
    refine WC.region ?_
    refine WL.run 5 [.int .i64 y, .int .i64 hi] rfl (by exact ⟨hS.ld 0 rfl rfl, hS.ld 2 rfl rfl⟩) ?_
    refine WL.nil ?_
    refine WC.ret ?_
    refine ⟨[.bool (decide (y < hi))], rfl, ?_⟩
    replace hS := (hS.sel 1 [] rfl)
    have e9 : oneR lo hi (some (x, y, z, q)) = [] := if_neg hc; rw [e9, List.append_nil]; exact ⟨_, _, rfl, hS⟩
set_option maxRecDepth 8192 in
theorem df_each2 {g w : World} {L : List HP} (vb ob : Nat) (lo hi k z q : Int) (out : List Chg) (il ir ml mr : Bool) (hl : out.length ≤ 900000000) (hS : St g (Dfs vb ob lo hi out :: L) w) :
    Sp Tryz.prog 203 [.agg #[.int .i64 k, .int .i64 z, .int .i64 q, .bool il, .bool ir, .bool ml, .bool mr], .pointer (some ⟨vb, 0, none⟩)] w (fun v w' => v = .bool (goOn hi (pChg k z q il ir)) ∧ St g (Dfs vb ob lo hi (out ++ oneR lo hi (pChg k z q il ir)) :: L) w') := by
  refine Sp.enter Tryz.func203 rfl (by kernel_rfl) (by kernel_rfl) ?_
  have _ := hl
  refine WC.seq ?_
  refine WC.region ?_
  obtain ⟨⟨xl, xh, xu, xc⟩, hS⟩ := St.exOpen (f := dfsF vb ob lo hi out) hS
  replace hS : St g (cel vb #[.func (.func 163) #[] #[.pointer (some ⟨xl, 0, none⟩), .pointer (some ⟨xh, 0, none⟩), .pointer (some ⟨ob, 0, none⟩)]] 258 :: cel xl #[.int .i64 lo] 2 :: cel xh #[.int .i64 hi] 2 :: cel ob #[.slice xu (List.length (ch4 out)) xc] 179 :: Own 82 4 (ch4 out) xu xc :: L) w := hS
  refine WL.box rfl rfl #[.int .i64 k, .int .i64 z, .int .i64 q, .bool il, .bool ir, .bool ml, .bool mr] hS rfl rfl (fun b1 w hS => ?_)
  refine WL.r 1 rfl ?_
  refine WL.nil ?_
  refine WC.seq ?_
  refine WC.block ?_
  refine WC.seq ?_
  refine WC.region ?_
  refine WL.run 3 [.bool il] rfl (by exact hS.ld 0 rfl rfl) ?_
  refine WL.r 1 rfl ?_
  refine WL.nil ?_
  refine WC.if_ rfl (fun hil => ?_) (fun hil => ?_)
  · refine WC.seq ?_
    refine WC.region ?_
    have hch : pChg k z q il ir = some (1, k, 0, q) := if_pos (by simpa using hil)
    refine WL.run 5 [.func (.func 163) #[] #[.pointer (some ⟨xl, 0, none⟩), .pointer (some ⟨xh, 0, none⟩), .pointer (some ⟨ob, 0, none⟩)], .int .i64 k, .int .i64 q] rfl (by exact ⟨hS.ld 1 rfl rfl, hS.ld 0 rfl rfl, hS.ld 0 rfl rfl⟩) ?_
    refine WL.build rfl rfl (cs := [.int .i64 1, .int .i64 k, .int .i64 0, .int .i64 q]) zv_82 rfl rfl ?_
    refine WL.callV (bs := [.pointer (some ⟨xl, 0, none⟩), .pointer (some ⟨xh, 0, none⟩), .pointer (some ⟨ob, 0, none⟩)]) rfl rfl rfl (df_visit (lb := xl) (hb := xh) (ob := ob) (lo := lo) (hi := hi) (x := 1) (y := k) (z := 0) (q := q) (out := out) (u := xu) (d := xc) (hl := (by omega)) (hS := (hS.sel 6 [2, 2, 2, 2, 0, 0] rfl))) rfl ?_
    clear hS; rintro _ w ⟨a1, c1, rfl, hS⟩
    replace hS : St g (cel xl #[.int .i64 lo] 2 :: cel xh #[.int .i64 hi] 2 :: cel ob #[.slice a1 (List.length (ch4 (out ++ oneR lo hi (some (1, k, 0, q))))) c1] 179 :: Own 82 4 (ch4 (out ++ oneR lo hi (some (1, k, 0, q)))) a1 c1 :: cel b1 #[.int .i64 k, .int .i64 z, .int .i64 q, .bool il, .bool ir, .bool ml, .bool mr] 301 :: cel vb #[.func (.func 163) #[] #[.pointer (some ⟨xl, 0, none⟩), .pointer (some ⟨xh, 0, none⟩), .pointer (some ⟨ob, 0, none⟩)]] 258 :: L) w := hS
    refine WL.r 1 rfl ?_
    refine WL.nil ?_
    as_aux_lemma =>
      refine WC.ret ?_
      replace hS := St.exClose (f := dfsF vb ob lo hi (out ++ oneR lo hi (some (1, k, 0, q)))) (L := cel b1 #[.int .i64 k, .int .i64 z, .int .i64 q, .bool il, .bool ir, .bool ml, .bool mr] 301 :: L) ⟨xl, xh, a1, c1⟩ ((hS.sel 6 [5, 0, 0, 0, 0, 0] rfl))
      replace hS : St g (Dfs vb ob lo hi (out ++ oneR lo hi (some (1, k, 0, q))) :: cel b1 #[.int .i64 k, .int .i64 z, .int .i64 q, .bool il, .bool ir, .bool ml, .bool mr] 301 :: L) w := hS
      refine ⟨[.bool (decide (k < hi))], rfl, ?_⟩
      replace hS := (hS.sel 2 [0] rfl)
      exact ⟨by rw [hch]; rfl, by rw [hch]; exact hS⟩
  · refine WC.seq ?_
    refine WC.region ?_
    refine WL.run 3 [.bool ir] rfl (by exact hS.ld 0 rfl rfl) ?_
    refine WL.r 1 rfl ?_
    refine WL.nil ?_
    refine WC.if_ rfl (fun hir => ?_) (fun hir => ?_)
    · refine WC.seq ?_
      refine WC.region ?_
      have hch : pChg k z q il ir = some (2, k, z, 0) := (by unfold pChg; rw [if_neg (by simpa using hil), if_pos (by simpa using hir)])
      refine WL.run 5 [.func (.func 163) #[] #[.pointer (some ⟨xl, 0, none⟩), .pointer (some ⟨xh, 0, none⟩), .pointer (some ⟨ob, 0, none⟩)], .int .i64 k, .int .i64 z] rfl (by exact ⟨hS.ld 1 rfl rfl, hS.ld 0 rfl rfl, hS.ld 0 rfl rfl⟩) ?_
      refine WL.build rfl rfl (cs := [.int .i64 2, .int .i64 k, .int .i64 z, .int .i64 0]) zv_82 rfl rfl ?_
      refine WL.callV (bs := [.pointer (some ⟨xl, 0, none⟩), .pointer (some ⟨xh, 0, none⟩), .pointer (some ⟨ob, 0, none⟩)]) rfl rfl rfl (df_visit (lb := xl) (hb := xh) (ob := ob) (lo := lo) (hi := hi) (x := 2) (y := k) (z := z) (q := 0) (out := out) (u := xu) (d := xc) (hl := (by omega)) (hS := (hS.sel 6 [2, 2, 2, 2, 0, 0] rfl))) rfl ?_
      clear hS; rintro _ w ⟨a1, c1, rfl, hS⟩
      replace hS : St g (cel xl #[.int .i64 lo] 2 :: cel xh #[.int .i64 hi] 2 :: cel ob #[.slice a1 (List.length (ch4 (out ++ oneR lo hi (some (2, k, z, 0))))) c1] 179 :: Own 82 4 (ch4 (out ++ oneR lo hi (some (2, k, z, 0)))) a1 c1 :: cel b1 #[.int .i64 k, .int .i64 z, .int .i64 q, .bool il, .bool ir, .bool ml, .bool mr] 301 :: cel vb #[.func (.func 163) #[] #[.pointer (some ⟨xl, 0, none⟩), .pointer (some ⟨xh, 0, none⟩), .pointer (some ⟨ob, 0, none⟩)]] 258 :: L) w := hS
      refine WL.r 1 rfl ?_
      refine WL.nil ?_
      as_aux_lemma =>
        refine WC.ret ?_
        replace hS := St.exClose (f := dfsF vb ob lo hi (out ++ oneR lo hi (some (2, k, z, 0)))) (L := cel b1 #[.int .i64 k, .int .i64 z, .int .i64 q, .bool il, .bool ir, .bool ml, .bool mr] 301 :: L) ⟨xl, xh, a1, c1⟩ ((hS.sel 6 [5, 0, 0, 0, 0, 0] rfl))
        replace hS : St g (Dfs vb ob lo hi (out ++ oneR lo hi (some (2, k, z, 0))) :: cel b1 #[.int .i64 k, .int .i64 z, .int .i64 q, .bool il, .bool ir, .bool ml, .bool mr] 301 :: L) w := hS
        refine ⟨[.bool (decide (k < hi))], rfl, ?_⟩
        replace hS := (hS.sel 2 [0] rfl)
        exact ⟨by rw [hch]; rfl, by rw [hch]; exact hS⟩
    · refine WC.seq ?_
      refine WC.region ?_
      refine WL.run 6 [.int .i64 z, .int .i64 q] rfl (by exact ⟨hS.ld 0 rfl rfl, hS.ld 0 rfl rfl⟩) ?_
      refine WL.nil ?_
      as_aux_lemma =>
        refine WC.ifP rfl (fun hvw => ?_) (fun hvw => ?_)
        · refine WC.seq ?_
          refine WC.region ?_
          have hch : pChg k z q il ir = some (3, k, z, q) := (by unfold pChg; rw [if_neg (by simpa using hil), if_neg (by simpa using hir), if_pos hvw])
          refine WL.run 7 [.func (.func 163) #[] #[.pointer (some ⟨xl, 0, none⟩), .pointer (some ⟨xh, 0, none⟩), .pointer (some ⟨ob, 0, none⟩)], .int .i64 k, .int .i64 z, .int .i64 q] rfl (by exact ⟨hS.ld 1 rfl rfl, hS.ld 0 rfl rfl, hS.ld 0 rfl rfl, hS.ld 0 rfl rfl⟩) ?_
          refine WL.build rfl rfl (cs := [.int .i64 3, .int .i64 k, .int .i64 z, .int .i64 q]) zv_82 rfl rfl ?_
          refine WL.callV (bs := [.pointer (some ⟨xl, 0, none⟩), .pointer (some ⟨xh, 0, none⟩), .pointer (some ⟨ob, 0, none⟩)]) rfl rfl rfl (df_visit (lb := xl) (hb := xh) (ob := ob) (lo := lo) (hi := hi) (x := 3) (y := k) (z := z) (q := q) (out := out) (u := xu) (d := xc) (hl := (by omega)) (hS := (hS.sel 6 [2, 2, 2, 2, 0, 0] rfl))) rfl ?_
          clear hS; rintro _ w ⟨a1, c1, rfl, hS⟩
          replace hS : St g (cel xl #[.int .i64 lo] 2 :: cel xh #[.int .i64 hi] 2 :: cel ob #[.slice a1 (List.length (ch4 (out ++ oneR lo hi (some (3, k, z, q))))) c1] 179 :: Own 82 4 (ch4 (out ++ oneR lo hi (some (3, k, z, q)))) a1 c1 :: cel b1 #[.int .i64 k, .int .i64 z, .int .i64 q, .bool il, .bool ir, .bool ml, .bool mr] 301 :: cel vb #[.func (.func 163) #[] #[.pointer (some ⟨xl, 0, none⟩), .pointer (some ⟨xh, 0, none⟩), .pointer (some ⟨ob, 0, none⟩)]] 258 :: L) w := hS
          refine WL.r 1 rfl ?_
          refine WL.nil ?_
          refine WC.ret ?_
          replace hS := St.exClose (f := dfsF vb ob lo hi (out ++ oneR lo hi (some (3, k, z, q)))) (L := cel b1 #[.int .i64 k, .int .i64 z, .int .i64 q, .bool il, .bool ir, .bool ml, .bool mr] 301 :: L) ⟨xl, xh, a1, c1⟩ ((hS.sel 6 [5, 0, 0, 0, 0, 0] rfl))
          replace hS : St g (Dfs vb ob lo hi (out ++ oneR lo hi (some (3, k, z, q))) :: cel b1 #[.int .i64 k, .int .i64 z, .int .i64 q, .bool il, .bool ir, .bool ml, .bool mr] 301 :: L) w := hS
          refine ⟨[.bool (decide (k < hi))], rfl, ?_⟩
          replace hS := (hS.sel 2 [0] rfl)
          exact ⟨by rw [hch]; rfl, by rw [hch]; exact hS⟩
        · refine WC.skip ?_
          refine WC.seq ?_
          refine WC.region ?_
          have hch : pChg k z q il ir = none := (by unfold pChg; rw [if_neg (by simpa using hil), if_neg (by simpa using hir), if_neg hvw])
          refine WL.r 1 rfl ?_
          refine WL.nil ?_
          refine WC.ret ?_
          replace hS := St.exClose (f := dfsF vb ob lo hi out) (L := cel b1 #[.int .i64 k, .int .i64 z, .int .i64 q, .bool il, .bool ir, .bool ml, .bool mr] 301 :: L) ⟨xl, xh, xu, xc⟩ ((hS.sel 6 [1, 1, 1, 1, 1, 0] rfl))
          replace hS : St g (Dfs vb ob lo hi out :: cel b1 #[.int .i64 k, .int .i64 z, .int .i64 q, .bool il, .bool ir, .bool ml, .bool mr] 301 :: L) w := hS
          refine ⟨[.bool true], rfl, ?_⟩
          replace hS := (hS.sel 2 [0] rfl)
          exact ⟨by rw [hch]; rfl, by rw [hch]; exact (by simpa [oneR] using hS)⟩
theorem kEq {a b : Prop} {x y : Int} (h : a ∧ (¬ b ∨ x ≤ y)) (k : b ∧ (¬ a ∨ y ≤ x)) : x = y := by
  have h1 := h.2.resolve_left (fun n => n k.1)
  have h2 := k.2.resolve_left (fun n => n h.1)
  omega
theorem kR {a b : Prop} {x y : Int} (k : ¬ (b ∧ (¬ a ∨ y ≤ x))) (hb : b) : x < y := Int.not_le.1 fun h => k ⟨hb, .inr h⟩
theorem kL {a b : Prop} {x y : Int} (h : ¬ (a ∧ (¬ b ∨ x ≤ y))) (ha : a) : y < x := Int.not_le.1 fun k => h ⟨ha, .inr k⟩
theorem kNo {a b : Bool} {x y : Int} (h : ¬ (a = true ∧ (¬ b = true ∨ x ≤ y))) (k : ¬ (b = true ∧ (¬ a = true ∨ y ≤ x))) (o : a = false → b = true) : False := by
  cases ha : a with
  | false => exact k ⟨o ha, .inl (by rw [ha]; decide)⟩
  | true =>
    cases hb : b with
    | false => exact h ⟨ha, .inl (by rw [hb]; decide)⟩
    | true =>
      have := kL h ha
      exact k ⟨hb, .inr (Int.le_of_lt this)⟩
theorem b_none {a b : Bool} (h : (bif (!a) then (!b) else false) = true) : a = false ∧ b = false := by
  cases a <;> cases b <;> simp_all
set_option maxRecDepth 8192 in
theorem df_skip {g w : World} {L : List HP} (hS : St g (L) w) :
    Sp Tryz.prog 201 [] w (fun v w' => v = .bool true ∧ St g (L) w') := by
  refine Sp.enter Tryz.func201 rfl (by kernel_rfl) (by kernel_rfl) ?_
  refine WC.seq ?_
  refine WC.region ?_
  refine WL.r 1 rfl ?_
  refine WL.nil ?_
  refine WC.seq ?_
  refine WC.region ?_
  refine WL.r 1 rfl ?_
  refine WL.nil ?_
  refine WC.ret ?_
  refine ⟨[.bool true], rfl, ?_⟩
  exact ⟨rfl, hS⟩
set_option maxHeartbeats 2000000 in
set_option maxRecDepth 8192 in
theorem tw_pairs {g w : World} {L : List HP} (a : Nat) (A : AM) (R : List Int) (x y lo hi : Int) (vb ob : Nat) (tx ty : Tr) (hA : ARf A R) (hx : Is A tx x) (hy : Is A ty y) (hsx : Srt tx.ls) (hsy : Srt ty.ls) (hl : tx.n + ty.n ≤ 100000000) (hS : St g (Arn a A :: Dfs vb ob lo hi [] :: L) w) :
    Sp Tryz.prog 202 [.pointer (some ⟨a, 0, none⟩), .int .u32 x, .int .u32 y, .func (.func 201) #[] #[], .func (.func 203) #[] #[.pointer (some ⟨vb, 0, none⟩)]] w (fun v w' => v = .tuple #[] ∧ St g (Arn a A :: Dfs vb ob lo hi (inR lo hi (dif tx.ls ty.ls)) :: L) w') := by
  refine Sp.enter Tryz.func202 rfl (by kernel_rfl) (by kernel_rfl) ?_
  have _ := hl
  refine WC.seq ?_
  refine WC.region ?_
  replace hS : St g (Own 335 5 (pts []) none 0 :: Own 335 5 (pts []) none 0 :: Arn a A :: Dfs vb ob lo hi [] :: L) w := (hS.nil_ 335 5).nil_ 335 5
  refine WL.new rfl rfl zv_332 hS (fun b1 w hS => ?_)
  refine WL.new rfl rfl zv_332 hS (fun b2 w hS => ?_)
  refine WL.nil ?_
  refine WC.seq ?_
  refine WC.region ?_
  replace hS := St.exClose (f := sidF b1 []) (L := cel b2 #[.slice none 0 0] 332 :: Own 335 5 (pts []) none 0 :: Arn a A :: Dfs vb ob lo hi [] :: L) ⟨none, 0⟩ ((hS.sel 3 [1, 1, 0] rfl))
  replace hS : St g (Sid b1 [] :: cel b2 #[.slice none 0 0] 332 :: Own 335 5 (pts []) none 0 :: Arn a A :: Dfs vb ob lo hi [] :: L) w := hS
  replace hS := St.exClose (f := sidF b2 []) (L := Sid b1 [] :: Arn a A :: Dfs vb ob lo hi [] :: L) ⟨none, 0⟩ ((hS.sel 3 [1, 1, 0] rfl))
  replace hS : St g (Sid b2 [] :: Sid b1 [] :: Arn a A :: Dfs vb ob lo hi [] :: L) w := hS
  refine WL.r 2 rfl ?_
  refine WL.call rfl rfl (sd_push (s := b1) (a := a) (P := []) (A := A) (R := R) (i := x) (t := tx) (hA := hA) (hi := hx) (hl := (by simp)) (hS := (hS.sel 3 [1, 1, 0] rfl))) rfl ?_
  clear hS; rintro _ w ⟨rfl, hS⟩
  replace hS : St g (Sid b1 (pushP [] x tx) :: Arn a A :: Sid b2 [] :: Dfs vb ob lo hi [] :: L) w := hS
  refine WL.nil ?_
  refine WC.seq ?_
  refine WC.region ?_
  refine WL.r 2 rfl ?_
  refine WL.call rfl rfl (sd_push (s := b2) (a := a) (P := []) (A := A) (R := R) (i := y) (t := ty) (hA := hA) (hi := hy) (hl := (by simp)) (hS := (hS.sel 3 [2, 1, 0] rfl))) rfl ?_
  clear hS; rintro _ w ⟨rfl, hS⟩
  replace hS : St g (Sid b2 (pushP [] y ty) :: Arn a A :: Sid b1 (pushP [] x tx) :: Dfs vb ob lo hi [] :: L) w := hS
  refine WL.nil ?_
  as_aux_lemma =>
    refine WC.block ?_
    refine WC.loop [0, 3, 4, 10, 11] (fun kM vs w => ∃ (PL PR : List Pt) (out : List Chg), vs = [.pointer (some ⟨a, 0, none⟩), .func (.func 201) #[] #[], .func (.func 203) #[] #[.pointer (some ⟨vb, 0, none⟩)], .pointer (some ⟨b1, 0, none⟩), .pointer (some ⟨b2, 0, none⟩)] ∧ St g (Sid b2 PR :: Arn a A :: Sid b1 PL :: Dfs vb ob lo hi out :: L) w ∧ (Pv A lo hi (inR lo hi (dif tx.ls ty.ls)) (3 * (tx.n + ty.n)) PL PR out) ∧ (wgt PL + wgt PR) = kM) (wgt (pushP [] x tx) + wgt (pushP [] y ty)) ⟨pushP [] x tx, pushP [] y ty, [], rfl, hS, (⟨pushP_ok ⟨fun _ h => by cases h⟩ hx, pushP_ok ⟨fun _ h => by cases h⟩ hy, by rw [pushP_rem hx]; simpa [rem] using hsx, by rw [pushP_rem hy]; simpa [rem] using hsy, by rw [pushP_rem hx, pushP_rem hy]; simp [rem], by rw [pushP_wgt hx, pushP_wgt hy]; simp [wgt]; omega⟩), rfl⟩ ?_
    clear hS; rintro _ _ w j ⟨PL, PR, out, rfl, hS, hP, rfl⟩
    refine WC.block ?_
    refine WC.seq ?_
    refine WC.region ?_
    have hlL := wgt_len hP.oL; have hlR := wgt_len hP.oR; have hpw := hP.w
    refine WL.call rfl rfl (sd_top (s := b1) (P := PL) (hl := (by omega)) (hS := (hS.sel 3 [2, 0, 0] rfl))) rfl ?_
    clear hS; rintro _ w ⟨rfl, hS⟩
    replace hS : St g (Sid b1 PL :: Sid b2 PR :: Arn a A :: Dfs vb ob lo hi out :: L) w := hS
    refine WL.r 3 rfl ?_
    refine WL.new rfl rfl zv_335 hS (fun b3 w hS => ?_)
    refine WL.stF rfl rfl rfl 0 hS rfl rfl rfl rfl rfl ag_335 (fun w hS => ?_)
    replace hS : St g (cel b3 #[.int .u32 (pI (topP PL)), .int .i64 (pN (topP PL)), .int .i64 (pK (topP PL)), .int .i64 (pV (topP PL)), .bool (pS (topP PL))] 335 :: Sid b1 PL :: Sid b2 PR :: Arn a A :: Dfs vb ob lo hi out :: L) w := hS
    refine WL.r 1 rfl ?_
    refine WL.nil ?_
    refine WC.seq ?_
    refine WC.region ?_
    refine WL.call rfl rfl (sd_top (s := b2) (P := PR) (hl := (by omega)) (hS := (hS.sel 3 [2, 0, 0] rfl))) rfl ?_
    clear hS; rintro _ w ⟨rfl, hS⟩
    replace hS : St g (Sid b2 PR :: cel b3 #[.int .u32 (pI (topP PL)), .int .i64 (pN (topP PL)), .int .i64 (pK (topP PL)), .int .i64 (pV (topP PL)), .bool (pS (topP PL))] 335 :: Sid b1 PL :: Arn a A :: Dfs vb ob lo hi out :: L) w := hS
    refine WL.r 3 rfl ?_
    refine WL.new rfl rfl zv_335 hS (fun b4 w hS => ?_)
    refine WL.stF rfl rfl rfl 0 hS rfl rfl rfl rfl rfl ag_335 (fun w hS => ?_)
    replace hS : St g (cel b4 #[.int .u32 (pI (topP PR)), .int .i64 (pN (topP PR)), .int .i64 (pK (topP PR)), .int .i64 (pV (topP PR)), .bool (pS (topP PR))] 335 :: Sid b2 PR :: cel b3 #[.int .u32 (pI (topP PL)), .int .i64 (pN (topP PL)), .int .i64 (pK (topP PL)), .int .i64 (pV (topP PL)), .bool (pS (topP PL))] 335 :: Sid b1 PL :: Arn a A :: Dfs vb ob lo hi out :: L) w := hS
    refine WL.r 1 rfl ?_
    refine WL.nil ?_
    as_aux_lemma =>
      refine WC.block ?_
      refine WC.seq ?_
      refine WC.region ?_
      refine WL.r 2 rfl ?_
      refine WL.rG 5 rfl (fun j => ?_)
      refine WL.prop 96 rfl (band (bnot (dv _)) (bnot (dv _))) ?_
      refine WL.nil ?_
      refine WC.if_ rfl (fun cd1 => ?_) (fun cd1 => ?_)
      · refine WC.ret ?_
        refine ⟨[], trivial, ?_⟩
        replace hS := (hS.sel 4 [] rfl)
        obtain ⟨n1, n2⟩ := b_none cd1; have m1 := top_none n1; have m2 := top_none n2; subst m1; subst m2; rw [hP.done] at hS; exact ⟨rfl, hS⟩
      · refine WC.seq ?_
        refine WC.region ?_
        refine WL.r 1 rfl ?_
        refine WL.runG 21 [.bool (pS (topP PL)), .bool (pS (topP PR)), .int .u32 (pI (topP PL)), .int .u32 (pI (topP PR))] rfl (by exact ⟨fun _ => hS.ld 2 rfl rfl, fun _ => hS.ld 0 rfl rfl, fun _ => hS.ld 2 rfl rfl, fun _ => hS.ld 0 rfl rfl⟩) (fun j => ?_)
        refine WL.prop 118 rfl (band (band (band (band (dv _) (dv _)) (bnot (dv _))) (bnot (dv _))) (dd _)) ?_
        refine WL.nil ?_
        refine WC.if_ rfl (fun cd2 => ?_) (fun cd2 => ?_)
        · refine WC.seq ?_
          refine WC.region ?_
          obtain ⟨q1, q2, q3, q4, q5⟩ := b_both cd2; obtain ⟨i0, t0, ht⟩ := top_sub q1 q3; obtain ⟨j0, u0, hu⟩ := top_sub q2 q4; have hij : i0 = j0 := (by rw [ht, hu] at q5; exact q5); subst hij; obtain ⟨hb1, hb2⟩ := hP.both ht hu
          refine WL.call rfl rfl (sd_pop (s := b1) (P := PL) (hl := (by omega)) (hne := top_ne q1) (hS := (hS.sel 4 [3, 0, 0, 0] rfl))) rfl ?_
          clear hS; rintro _ w ⟨rfl, hS⟩
          replace hS : St g (Sid b1 PL.dropLast :: cel b4 #[.int .u32 (pI (topP PR)), .int .i64 (pN (topP PR)), .int .i64 (pK (topP PR)), .int .i64 (pV (topP PR)), .bool (pS (topP PR))] 335 :: Sid b2 PR :: cel b3 #[.int .u32 (pI (topP PL)), .int .i64 (pN (topP PL)), .int .i64 (pK (topP PL)), .int .i64 (pV (topP PL)), .bool (pS (topP PL))] 335 :: Arn a A :: Dfs vb ob lo hi out :: L) w := hS
          refine WL.nil ?_
          refine WC.seq ?_
          refine WC.region ?_
          refine WL.call rfl rfl (sd_pop (s := b2) (P := PR) (hl := (by omega)) (hne := top_ne q2) (hS := (hS.sel 3 [2, 0, 0] rfl))) rfl ?_
          clear hS; rintro _ w ⟨rfl, hS⟩
          replace hS : St g (Sid b2 PR.dropLast :: Sid b1 PL.dropLast :: cel b4 #[.int .u32 (pI (topP PR)), .int .i64 (pN (topP PR)), .int .i64 (pK (topP PR)), .int .i64 (pV (topP PR)), .bool (pS (topP PR))] 335 :: cel b3 #[.int .u32 (pI (topP PL)), .int .i64 (pN (topP PL)), .int .i64 (pK (topP PL)), .int .i64 (pV (topP PL)), .bool (pS (topP PL))] 335 :: Arn a A :: Dfs vb ob lo hi out :: L) w := hS
          refine WL.nil ?_
          as_aux_lemma =>
            refine WC.seq ?_
            refine WC.region ?_
            refine WL.r 1 rfl ?_
            refine WL.callV (bs := []) rfl rfl rfl (df_skip   (hS := hS)) rfl ?_
            clear hS; rintro _ w ⟨rfl, hS⟩
            replace hS : St g (Sid b2 PR.dropLast :: Sid b1 PL.dropLast :: cel b4 #[.int .u32 (pI (topP PR)), .int .i64 (pN (topP PR)), .int .i64 (pK (topP PR)), .int .i64 (pV (topP PR)), .bool (pS (topP PR))] 335 :: cel b3 #[.int .u32 (pI (topP PL)), .int .i64 (pN (topP PL)), .int .i64 (pK (topP PL)), .int .i64 (pV (topP PL)), .bool (pS (topP PL))] 335 :: Arn a A :: Dfs vb ob lo hi out :: L) w := hS
            refine WL.r 1 rfl ?_
            refine WL.nil ?_
            refine WC.ifF rfl rfl ?_
            refine WC.skip ?_
            exact ⟨_, (by first | omega | exact (hP.vLR cd5.1 (o1 cd5.1) cd6.1 (o2 cd6.1) (kEq cd5 cd6) rfl rfl rfl).2.1 | exact (hP.vL (w := 0) cd5.1 (o1 cd5.1) (fun hb => ⟨o2 hb, kR cd6 hb⟩) rfl rfl).2.1 | exact (hP.vR (v := 0) cd6.1 (o2 cd6.1) (fun ha => ⟨o1 ha, kL cd5 ha⟩) rfl rfl).2.1 | exact (kNo cd5 cd6 o3).elim), PL.dropLast, PR.dropLast, out, rfl, (hS.sel 5 [0, 3, 0] rfl), (hb1), rfl⟩
        · refine WC.seq ?_
          refine WC.region ?_
          refine WL.r 1 rfl ?_
          refine WL.runG 21 [.bool (pS (topP PL)), .bool (pS (topP PR)), .int .i64 (pN (topP PL)), .int .i64 (pN (topP PR))] rfl (by exact ⟨fun _ => hS.ld 2 rfl rfl, fun _ => hS.ld 0 rfl rfl, fun _ => hS.ld 2 rfl rfl, fun _ => hS.ld 0 rfl rfl⟩) (fun j => ?_)
          refine WL.prop 145 rfl (band (band (dv _) (bnot (dv _))) (bor (bor (bnot (dv _)) (dv _)) (dd _))) ?_
          refine WL.nil ?_
          refine WC.if_ rfl (fun cd3 => ?_) (fun cd3 => ?_)
          · refine WC.region ?_
            obtain ⟨q1, q2⟩ := b_left cd3; obtain ⟨i0, t0, ht⟩ := top_sub q1 q2; obtain ⟨k0, z0, tl0, tr0, ht2, hi0, hp2, hw2⟩ := hP.expL ht
            refine WL.r 1 rfl ?_
            refine WL.call rfl rfl (sd_exp (s := b1) (a := a) (P := PL) (A := A) (R := R) (i := i0) (k := k0) (z := z0) (tl := tl0) (tr := tr0) (hA := hA) (hP := ht2) (hi := hi0) (hl := (by omega)) (hS := (hS.sel 5 [3, 3, 0, 0, 0] rfl))) rfl ?_
            clear hS; rintro _ w ⟨rfl, hS⟩
            replace hS : St g (Sid b1 (expP PL.dropLast A i0 k0 z0 tl0 tr0) :: Arn a A :: cel b4 #[.int .u32 (pI (topP PR)), .int .i64 (pN (topP PR)), .int .i64 (pK (topP PR)), .int .i64 (pV (topP PR)), .bool (pS (topP PR))] 335 :: Sid b2 PR :: cel b3 #[.int .u32 (pI (topP PL)), .int .i64 (pN (topP PL)), .int .i64 (pK (topP PL)), .int .i64 (pV (topP PL)), .bool (pS (topP PL))] 335 :: Dfs vb ob lo hi out :: L) w := hS
            refine WL.nil ?_
            exact ⟨_, (by first | omega | exact (hP.vLR cd5.1 (o1 cd5.1) cd6.1 (o2 cd6.1) (kEq cd5 cd6) rfl rfl rfl).2.1 | exact (hP.vL (w := 0) cd5.1 (o1 cd5.1) (fun hb => ⟨o2 hb, kR cd6 hb⟩) rfl rfl).2.1 | exact (hP.vR (v := 0) cd6.1 (o2 cd6.1) (fun ha => ⟨o1 ha, kL cd5 ha⟩) rfl rfl).2.1 | exact (kNo cd5 cd6 o3).elim), expP PL.dropLast A i0 k0 z0 tl0 tr0, PR, out, rfl, (hS.sel 5 [3, 1, 0] rfl), (hp2), rfl⟩
          · refine WC.seq ?_
            refine WC.region ?_
            refine WL.r 1 rfl ?_
            refine WL.runG 6 [.bool (pS (topP PR))] rfl (by exact (fun _ => hS.ld 0 rfl rfl)) (fun j => ?_)
            refine WL.prop 154 rfl (band (dv _) (bnot (dv _))) ?_
            refine WL.nil ?_
            as_aux_lemma =>
              refine WC.if_ rfl (fun cd4 => ?_) (fun cd4 => ?_)
              · refine WC.region ?_
                obtain ⟨q1, q2⟩ := b_right cd4; obtain ⟨i0, t0, ht⟩ := top_sub q1 q2; obtain ⟨k0, z0, tl0, tr0, ht2, hi0, hp2, hw2⟩ := hP.expR ht
                refine WL.r 1 rfl ?_
                refine WL.call rfl rfl (sd_exp (s := b2) (a := a) (P := PR) (A := A) (R := R) (i := i0) (k := k0) (z := z0) (tl := tl0) (tr := tr0) (hA := hA) (hP := ht2) (hi := hi0) (hl := (by omega)) (hS := (hS.sel 5 [1, 3, 0, 0, 0] rfl))) rfl ?_
                clear hS; rintro _ w ⟨rfl, hS⟩
                replace hS : St g (Sid b2 (expP PR.dropLast A i0 k0 z0 tl0 tr0) :: Arn a A :: cel b4 #[.int .u32 (pI (topP PR)), .int .i64 (pN (topP PR)), .int .i64 (pK (topP PR)), .int .i64 (pV (topP PR)), .bool (pS (topP PR))] 335 :: cel b3 #[.int .u32 (pI (topP PL)), .int .i64 (pN (topP PL)), .int .i64 (pK (topP PL)), .int .i64 (pV (topP PL)), .bool (pS (topP PL))] 335 :: Sid b1 PL :: Dfs vb ob lo hi out :: L) w := hS
                refine WL.nil ?_
                exact ⟨_, (by first | omega | exact (hP.vLR cd5.1 (o1 cd5.1) cd6.1 (o2 cd6.1) (kEq cd5 cd6) rfl rfl rfl).2.1 | exact (hP.vL (w := 0) cd5.1 (o1 cd5.1) (fun hb => ⟨o2 hb, kR cd6 hb⟩) rfl rfl).2.1 | exact (hP.vR (v := 0) cd6.1 (o2 cd6.1) (fun ha => ⟨o1 ha, kL cd5 ha⟩) rfl rfl).2.1 | exact (kNo cd5 cd6 o3).elim), PL, expP PR.dropLast A i0 k0 z0 tl0 tr0, out, rfl, (hS.sel 4 [0, 0] rfl), (hp2), rfl⟩
              · refine WC.seq ?_
                refine WC.region ?_
                obtain ⟨o1, o2, o3⟩ := b_ones cd1 cd3 cd4
                refine WL.r 2 rfl ?_
                refine WL.build rfl rfl (cs := [.int .i64 0, .int .i64 0, .int .i64 0, .bool false, .bool false, .bool (topP PL).isSome, .bool (topP PR).isSome]) zv_301 rfl rfl ?_
                refine WL.new rfl rfl zv_301 hS (fun b5 w hS => ?_)
                refine WL.stF rfl rfl rfl 0 hS rfl rfl rfl rfl rfl ag_301 (fun w hS => ?_)
                replace hS : St g (cel b5 #[.int .i64 0, .int .i64 0, .int .i64 0, .bool false, .bool false, .bool (topP PL).isSome, .bool (topP PR).isSome] 301 :: cel b4 #[.int .u32 (pI (topP PR)), .int .i64 (pN (topP PR)), .int .i64 (pK (topP PR)), .int .i64 (pV (topP PR)), .bool (pS (topP PR))] 335 :: Sid b2 PR :: cel b3 #[.int .u32 (pI (topP PL)), .int .i64 (pN (topP PL)), .int .i64 (pK (topP PL)), .int .i64 (pV (topP PL)), .bool (pS (topP PL))] 335 :: Sid b1 PL :: Arn a A :: Dfs vb ob lo hi out :: L) w := hS
                refine WL.nil ?_
                refine WC.seq ?_
                refine WC.region ?_
                refine WL.r 1 rfl ?_
                refine WL.runG 14 [.int .i64 (pK (topP PL)), .int .i64 (pK (topP PR))] rfl (by exact ⟨fun _ => hS.ld 3 rfl rfl, fun _ => hS.ld 1 rfl rfl⟩) (fun j => ?_)
                refine WL.prop 47 rfl (band (dv _) (bor (bnot (dv _)) (dd _))) ?_
                refine WL.st rfl rfl rfl 0 hS rfl rfl rfl rfl rfl rfl (fun w hS => ?_)
                replace hS : St g (cel b5 #[.int .i64 0, .int .i64 0, .int .i64 0, .bool (decide (((topP PL).isSome = true) ∧ ((¬ ((topP PR).isSome = true)) ∨ ((pK (topP PL)) ≤ (pK (topP PR)))))), .bool false, .bool (topP PL).isSome, .bool (topP PR).isSome] 301 :: cel b4 #[.int .u32 (pI (topP PR)), .int .i64 (pN (topP PR)), .int .i64 (pK (topP PR)), .int .i64 (pV (topP PR)), .bool (pS (topP PR))] 335 :: Sid b2 PR :: cel b3 #[.int .u32 (pI (topP PL)), .int .i64 (pN (topP PL)), .int .i64 (pK (topP PL)), .int .i64 (pV (topP PL)), .bool (pS (topP PL))] 335 :: Sid b1 PL :: Arn a A :: Dfs vb ob lo hi out :: L) w := hS
                refine WL.nil ?_
                refine WC.seq ?_
                refine WC.region ?_
                refine WL.r 1 rfl ?_
                refine WL.runG 14 [.int .i64 (pK (topP PR)), .int .i64 (pK (topP PL))] rfl (by exact ⟨fun _ => hS.ld 1 rfl rfl, fun _ => hS.ld 3 rfl rfl⟩) (fun j => ?_)
                refine WL.prop 62 rfl (band (dv _) (bor (bnot (dv _)) (dd _))) ?_
                refine WL.st rfl rfl rfl 0 hS rfl rfl rfl rfl rfl rfl (fun w hS => ?_)
                replace hS : St g (cel b5 #[.int .i64 0, .int .i64 0, .int .i64 0, .bool (decide (((topP PL).isSome = true) ∧ ((¬ ((topP PR).isSome = true)) ∨ ((pK (topP PL)) ≤ (pK (topP PR)))))), .bool (decide (((topP PR).isSome = true) ∧ ((¬ ((topP PL).isSome = true)) ∨ ((pK (topP PR)) ≤ (pK (topP PL)))))), .bool (topP PL).isSome, .bool (topP PR).isSome] 301 :: cel b4 #[.int .u32 (pI (topP PR)), .int .i64 (pN (topP PR)), .int .i64 (pK (topP PR)), .int .i64 (pV (topP PR)), .bool (pS (topP PR))] 335 :: Sid b2 PR :: cel b3 #[.int .u32 (pI (topP PL)), .int .i64 (pN (topP PL)), .int .i64 (pK (topP PL)), .int .i64 (pV (topP PL)), .bool (pS (topP PL))] 335 :: Sid b1 PL :: Arn a A :: Dfs vb ob lo hi out :: L) w := hS
                refine WL.nil ?_
                as_aux_lemma =>
                  refine WC.seq ?_
                  refine WC.seq ?_
                  refine WC.region ?_
                  refine WL.run 2 [.bool (decide (((topP PL).isSome = true) ∧ ((¬ ((topP PR).isSome = true)) ∨ ((pK (topP PL)) ≤ (pK (topP PR))))))] rfl (by exact hS.ld 0 rfl rfl) ?_
                  refine WL.nil ?_
                  refine WC.ifP rfl (fun cd5 => ?_) (fun cd5 => ?_)
                  · refine WC.seq ?_
                    refine WC.plan [([0, 3, 1, 4, 2, 5, 6], some (7, [3, 4, 5])), ([8], some (9, []))] (by kernel_rfl) (by kernel_rfl) ?_
                    refine WQ.run 7 [.int .i64 (pK (topP PL)), .int .i64 (pV (topP PL))] rfl (by exact ⟨hS.ld 3 rfl rfl, hS.ld 3 rfl rfl⟩) ?_
                    refine WQ.nil ?_
                    intro m1
                    replace hS := hS.drewN m1; generalize hwm1 : World.drewN _ _ = w at *; clear hwm1
                    refine WL.st rfl rfl rfl 0 hS rfl rfl rfl rfl rfl rfl (fun w hS => ?_)
                    replace hS : St g (cel b5 #[.int .i64 (pK (topP PL)), .int .i64 0, .int .i64 0, .bool (decide (((topP PL).isSome = true) ∧ ((¬ ((topP PR).isSome = true)) ∨ ((pK (topP PL)) ≤ (pK (topP PR)))))), .bool (decide (((topP PR).isSome = true) ∧ ((¬ ((topP PL).isSome = true)) ∨ ((pK (topP PR)) ≤ (pK (topP PL)))))), .bool (topP PL).isSome, .bool (topP PR).isSome] 301 :: cel b4 #[.int .u32 (pI (topP PR)), .int .i64 (pN (topP PR)), .int .i64 (pK (topP PR)), .int .i64 (pV (topP PR)), .bool (pS (topP PR))] 335 :: Sid b2 PR :: cel b3 #[.int .u32 (pI (topP PL)), .int .i64 (pN (topP PL)), .int .i64 (pK (topP PL)), .int .i64 (pV (topP PL)), .bool (pS (topP PL))] 335 :: Sid b1 PL :: Arn a A :: Dfs vb ob lo hi out :: L) w := hS
                    refine WL.nil ?_
                    refine ⟨by exact ⟨RQ.pure rfl rfl rfl rfl, RQ.pure rfl rfl rfl rfl, RQ.load rfl rfl rfl rfl (hS.ld 3 rfl rfl)⟩, ?_⟩
                    refine WQ.r 1 rfl ?_
                    refine WQ.nil ?_
                    intro m2
                    replace hS := hS.drewN m2; generalize hwm2 : World.drewN _ _ = w at *; clear hwm2
                    refine WL.st rfl rfl rfl 0 hS rfl rfl rfl rfl rfl rfl (fun w hS => ?_)
                    replace hS : St g (cel b5 #[.int .i64 (pK (topP PL)), .int .i64 (pV (topP PL)), .int .i64 0, .bool (decide (((topP PL).isSome = true) ∧ ((¬ ((topP PR).isSome = true)) ∨ ((pK (topP PL)) ≤ (pK (topP PR)))))), .bool (decide (((topP PR).isSome = true) ∧ ((¬ ((topP PL).isSome = true)) ∨ ((pK (topP PR)) ≤ (pK (topP PL)))))), .bool (topP PL).isSome, .bool (topP PR).isSome] 301 :: cel b4 #[.int .u32 (pI (topP PR)), .int .i64 (pN (topP PR)), .int .i64 (pK (topP PR)), .int .i64 (pV (topP PR)), .bool (pS (topP PR))] 335 :: Sid b2 PR :: cel b3 #[.int .u32 (pI (topP PL)), .int .i64 (pN (topP PL)), .int .i64 (pK (topP PL)), .int .i64 (pV (topP PL)), .bool (pS (topP PL))] 335 :: Sid b1 PL :: Arn a A :: Dfs vb ob lo hi out :: L) w := hS
                    refine WL.nil ?_
                    refine ⟨by exact trivial, ?_⟩
                    intro m3
                    replace hS := hS.drewN m3; generalize hwm3 : World.drewN _ _ = w at *; clear hwm3
                    as_aux_lemma =>
                      refine WC.region ?_
                      refine WL.call rfl rfl (sd_pop (s := b1) (P := PL) (hl := (by omega)) (hne := top_ne cd5.1) (hS := (hS.sel 5 [4, 0, 0, 0, 0] rfl))) rfl ?_
                      clear hS; rintro _ w ⟨rfl, hS⟩
                      replace hS : St g (Sid b1 PL.dropLast :: cel b5 #[.int .i64 (pK (topP PL)), .int .i64 (pV (topP PL)), .int .i64 0, .bool (decide (((topP PL).isSome = true) ∧ ((¬ ((topP PR).isSome = true)) ∨ ((pK (topP PL)) ≤ (pK (topP PR)))))), .bool (decide (((topP PR).isSome = true) ∧ ((¬ ((topP PL).isSome = true)) ∨ ((pK (topP PR)) ≤ (pK (topP PL)))))), .bool (topP PL).isSome, .bool (topP PR).isSome] 301 :: cel b4 #[.int .u32 (pI (topP PR)), .int .i64 (pN (topP PR)), .int .i64 (pK (topP PR)), .int .i64 (pV (topP PR)), .bool (pS (topP PR))] 335 :: Sid b2 PR :: cel b3 #[.int .u32 (pI (topP PL)), .int .i64 (pN (topP PL)), .int .i64 (pK (topP PL)), .int .i64 (pV (topP PL)), .bool (pS (topP PL))] 335 :: Arn a A :: Dfs vb ob lo hi out :: L) w := hS
                      refine WL.nil ?_
                      refine WC.seq ?_
                      refine WC.seq ?_
                      refine WC.region ?_
                      refine WL.run 2 [.bool (decide (((topP PR).isSome = true) ∧ ((¬ ((topP PL).isSome = true)) ∨ ((pK (topP PR)) ≤ (pK (topP PL))))))] rfl (by exact hS.ld 1 rfl rfl) ?_
                      refine WL.nil ?_
                      refine WC.ifP rfl (fun cd6 => ?_) (fun cd6 => ?_)
                      · refine WC.seq ?_
                        refine WC.plan [([0, 3, 1, 4, 2, 5, 6], some (7, [3, 4, 5])), ([8], some (9, []))] (by kernel_rfl) (by kernel_rfl) ?_
                        refine WQ.run 7 [.int .i64 (pK (topP PR)), .int .i64 (pV (topP PR))] rfl (by exact ⟨hS.ld 2 rfl rfl, hS.ld 2 rfl rfl⟩) ?_
                        refine WQ.nil ?_
                        intro m4
                        replace hS := hS.drewN m4; generalize hwm4 : World.drewN _ _ = w at *; clear hwm4
                        refine WL.st rfl rfl rfl 1 hS rfl rfl rfl rfl rfl rfl (fun w hS => ?_)
                        replace hS : St g (Sid b1 PL.dropLast :: cel b5 #[.int .i64 (pK (topP PR)), .int .i64 (pV (topP PL)), .int .i64 0, .bool (decide (((topP PL).isSome = true) ∧ ((¬ ((topP PR).isSome = true)) ∨ ((pK (topP PL)) ≤ (pK (topP PR)))))), .bool (decide (((topP PR).isSome = true) ∧ ((¬ ((topP PL).isSome = true)) ∨ ((pK (topP PR)) ≤ (pK (topP PL)))))), .bool (topP PL).isSome, .bool (topP PR).isSome] 301 :: cel b4 #[.int .u32 (pI (topP PR)), .int .i64 (pN (topP PR)), .int .i64 (pK (topP PR)), .int .i64 (pV (topP PR)), .bool (pS (topP PR))] 335 :: Sid b2 PR :: cel b3 #[.int .u32 (pI (topP PL)), .int .i64 (pN (topP PL)), .int .i64 (pK (topP PL)), .int .i64 (pV (topP PL)), .bool (pS (topP PL))] 335 :: Arn a A :: Dfs vb ob lo hi out :: L) w := hS
                        refine WL.nil ?_
                        refine ⟨by exact ⟨RQ.pure rfl rfl rfl rfl, RQ.pure rfl rfl rfl rfl, RQ.load rfl rfl rfl rfl (hS.ld 2 rfl rfl)⟩, ?_⟩
                        refine WQ.r 1 rfl ?_
                        refine WQ.nil ?_
                        intro m5
                        replace hS := hS.drewN m5; generalize hwm5 : World.drewN _ _ = w at *; clear hwm5
                        refine WL.st rfl rfl rfl 1 hS rfl rfl rfl rfl rfl rfl (fun w hS => ?_)
                        replace hS : St g (Sid b1 PL.dropLast :: cel b5 #[.int .i64 (pK (topP PR)), .int .i64 (pV (topP PL)), .int .i64 (pV (topP PR)), .bool (decide (((topP PL).isSome = true) ∧ ((¬ ((topP PR).isSome = true)) ∨ ((pK (topP PL)) ≤ (pK (topP PR)))))), .bool (decide (((topP PR).isSome = true) ∧ ((¬ ((topP PL).isSome = true)) ∨ ((pK (topP PR)) ≤ (pK (topP PL)))))), .bool (topP PL).isSome, .bool (topP PR).isSome] 301 :: cel b4 #[.int .u32 (pI (topP PR)), .int .i64 (pN (topP PR)), .int .i64 (pK (topP PR)), .int .i64 (pV (topP PR)), .bool (pS (topP PR))] 335 :: Sid b2 PR :: cel b3 #[.int .u32 (pI (topP PL)), .int .i64 (pN (topP PL)), .int .i64 (pK (topP PL)), .int .i64 (pV (topP PL)), .bool (pS (topP PL))] 335 :: Arn a A :: Dfs vb ob lo hi out :: L) w := hS
                        refine WL.nil ?_
                        refine ⟨by exact trivial, ?_⟩
                        intro m6
                        replace hS := hS.drewN m6; generalize hwm6 : World.drewN _ _ = w at *; clear hwm6
                        as_aux_lemma =>
                          refine WC.region ?_
                          refine WL.call rfl rfl (sd_pop (s := b2) (P := PR) (hl := (by omega)) (hne := top_ne cd6.1) (hS := (hS.sel 4 [3, 0, 0, 0] rfl))) rfl ?_
                          clear hS; rintro _ w ⟨rfl, hS⟩
                          replace hS : St g (Sid b2 PR.dropLast :: Sid b1 PL.dropLast :: cel b5 #[.int .i64 (pK (topP PR)), .int .i64 (pV (topP PL)), .int .i64 (pV (topP PR)), .bool (decide (((topP PL).isSome = true) ∧ ((¬ ((topP PR).isSome = true)) ∨ ((pK (topP PL)) ≤ (pK (topP PR)))))), .bool (decide (((topP PR).isSome = true) ∧ ((¬ ((topP PL).isSome = true)) ∨ ((pK (topP PR)) ≤ (pK (topP PL)))))), .bool (topP PL).isSome, .bool (topP PR).isSome] 301 :: cel b4 #[.int .u32 (pI (topP PR)), .int .i64 (pN (topP PR)), .int .i64 (pK (topP PR)), .int .i64 (pV (topP PR)), .bool (pS (topP PR))] 335 :: cel b3 #[.int .u32 (pI (topP PL)), .int .i64 (pN (topP PL)), .int .i64 (pK (topP PL)), .int .i64 (pV (topP PL)), .bool (pS (topP PL))] 335 :: Arn a A :: Dfs vb ob lo hi out :: L) w := hS
                          refine WL.nil ?_
                          refine WC.seq ?_
                          refine WC.region ?_
                          refine WL.r 1 rfl ?_
                          refine WL.ldF rfl rfl 2 hS rfl rfl ag_301 ?_
                          refine WL.callV (bs := [.pointer (some ⟨vb, 0, none⟩)]) rfl rfl rfl (df_each2 (vb := vb) (ob := ob) (lo := lo) (hi := hi) (k := pK (topP PR)) (z := pV (topP PL)) (q := pV (topP PR)) (out := out) (il := decide (((topP PL).isSome = true) ∧ ((¬ ((topP PR).isSome = true)) ∨ ((pK (topP PL)) ≤ (pK (topP PR)))))) (ir := decide (((topP PR).isSome = true) ∧ ((¬ ((topP PL).isSome = true)) ∨ ((pK (topP PR)) ≤ (pK (topP PL)))))) (ml := (topP PL).isSome) (mr := (topP PR).isSome) (hl := (by omega)) (hS := (hS.sel 7 [6, 0, 0, 0, 0, 0, 0] rfl))) rfl ?_
                          clear hS; rintro _ w ⟨rfl, hS⟩
                          replace hS : St g (Dfs vb ob lo hi (out ++ oneR lo hi (pChg (pK (topP PR)) (pV (topP PL)) (pV (topP PR)) (decide (((topP PL).isSome = true) ∧ ((¬ ((topP PR).isSome = true)) ∨ ((pK (topP PL)) ≤ (pK (topP PR)))))) (decide (((topP PR).isSome = true) ∧ ((¬ ((topP PL).isSome = true)) ∨ ((pK (topP PR)) ≤ (pK (topP PL)))))))) :: Sid b2 PR.dropLast :: Sid b1 PL.dropLast :: cel b5 #[.int .i64 (pK (topP PR)), .int .i64 (pV (topP PL)), .int .i64 (pV (topP PR)), .bool (decide (((topP PL).isSome = true) ∧ ((¬ ((topP PR).isSome = true)) ∨ ((pK (topP PL)) ≤ (pK (topP PR)))))), .bool (decide (((topP PR).isSome = true) ∧ ((¬ ((topP PL).isSome = true)) ∨ ((pK (topP PR)) ≤ (pK (topP PL)))))), .bool (topP PL).isSome, .bool (topP PR).isSome] 301 :: cel b4 #[.int .u32 (pI (topP PR)), .int .i64 (pN (topP PR)), .int .i64 (pK (topP PR)), .int .i64 (pV (topP PR)), .bool (pS (topP PR))] 335 :: cel b3 #[.int .u32 (pI (topP PL)), .int .i64 (pN (topP PL)), .int .i64 (pK (topP PL)), .int .i64 (pV (topP PL)), .bool (pS (topP PL))] 335 :: Arn a A :: L) w := hS
                          refine WL.r 1 rfl ?_
                          refine WL.nil ?_
                          refine WC.if_ rfl (fun cd7 => ?_) (fun cd7 => ?_)
                          · refine WC.ret ?_
                            refine ⟨[], trivial, ?_⟩
                            replace hS := (hS.sel 7 [6, 0] rfl)
                            rw [decide_eq_true cd5, decide_eq_true cd6] at cd7 hS; rw [(hP.vLR cd5.1 (o1 cd5.1) cd6.1 (o2 cd6.1) (kEq cd5 cd6) rfl rfl rfl).2.2 (by simpa using cd7)] at hS; exact ⟨rfl, hS⟩
                          · refine WC.skip ?_
                            exact ⟨_, (by first | omega | exact (hP.vLR cd5.1 (o1 cd5.1) cd6.1 (o2 cd6.1) (kEq cd5 cd6) rfl rfl rfl).2.1 | exact (hP.vL (w := 0) cd5.1 (o1 cd5.1) (fun hb => ⟨o2 hb, kR cd6 hb⟩) rfl rfl).2.1 | exact (hP.vR (v := 0) cd6.1 (o2 cd6.1) (fun ha => ⟨o1 ha, kL cd5 ha⟩) rfl rfl).2.1 | exact (kNo cd5 cd6 o3).elim), PL.dropLast, PR.dropLast, _, rfl, (hS.sel 7 [1, 5, 1, 0] rfl), (by rw [decide_eq_true cd5, decide_eq_true cd6] at cd7 ⊢; exact (hP.vLR cd5.1 (o1 cd5.1) cd6.1 (o2 cd6.1) (kEq cd5 cd6) rfl rfl rfl).1 (by simpa using cd7)), rfl⟩
                      · refine WC.skip ?_
                        refine WC.seq ?_
                        refine WC.region ?_
                        refine WL.r 1 rfl ?_
                        refine WL.ldF rfl rfl 1 hS rfl rfl ag_301 ?_
                        refine WL.callV (bs := [.pointer (some ⟨vb, 0, none⟩)]) rfl rfl rfl (df_each2 (vb := vb) (ob := ob) (lo := lo) (hi := hi) (k := pK (topP PL)) (z := pV (topP PL)) (q := 0) (out := out) (il := decide (((topP PL).isSome = true) ∧ ((¬ ((topP PR).isSome = true)) ∨ ((pK (topP PL)) ≤ (pK (topP PR)))))) (ir := decide (((topP PR).isSome = true) ∧ ((¬ ((topP PL).isSome = true)) ∨ ((pK (topP PR)) ≤ (pK (topP PL)))))) (ml := (topP PL).isSome) (mr := (topP PR).isSome) (hl := (by omega)) (hS := (hS.sel 7 [6, 0, 0, 0, 0, 0, 0] rfl))) rfl ?_
                        clear hS; rintro _ w ⟨rfl, hS⟩
                        replace hS : St g (Dfs vb ob lo hi (out ++ oneR lo hi (pChg (pK (topP PL)) (pV (topP PL)) 0 (decide (((topP PL).isSome = true) ∧ ((¬ ((topP PR).isSome = true)) ∨ ((pK (topP PL)) ≤ (pK (topP PR)))))) (decide (((topP PR).isSome = true) ∧ ((¬ ((topP PL).isSome = true)) ∨ ((pK (topP PR)) ≤ (pK (topP PL)))))))) :: Sid b1 PL.dropLast :: cel b5 #[.int .i64 (pK (topP PL)), .int .i64 (pV (topP PL)), .int .i64 0, .bool (decide (((topP PL).isSome = true) ∧ ((¬ ((topP PR).isSome = true)) ∨ ((pK (topP PL)) ≤ (pK (topP PR)))))), .bool (decide (((topP PR).isSome = true) ∧ ((¬ ((topP PL).isSome = true)) ∨ ((pK (topP PR)) ≤ (pK (topP PL)))))), .bool (topP PL).isSome, .bool (topP PR).isSome] 301 :: cel b4 #[.int .u32 (pI (topP PR)), .int .i64 (pN (topP PR)), .int .i64 (pK (topP PR)), .int .i64 (pV (topP PR)), .bool (pS (topP PR))] 335 :: Sid b2 PR :: cel b3 #[.int .u32 (pI (topP PL)), .int .i64 (pN (topP PL)), .int .i64 (pK (topP PL)), .int .i64 (pV (topP PL)), .bool (pS (topP PL))] 335 :: Arn a A :: L) w := hS
                        refine WL.r 1 rfl ?_
                        refine WL.nil ?_
                        refine WC.if_ rfl (fun cd7 => ?_) (fun cd7 => ?_)
                        · refine WC.ret ?_
                          refine ⟨[], trivial, ?_⟩
                          replace hS := (hS.sel 7 [6, 0] rfl)
                          rw [decide_eq_true cd5, decide_eq_false cd6] at cd7 hS; rw [(hP.vL (w := 0) cd5.1 (o1 cd5.1) (fun hb => ⟨o2 hb, kR cd6 hb⟩) rfl rfl).2.2 (by simpa using cd7)] at hS; exact ⟨rfl, hS⟩
                        · refine WC.skip ?_
                          exact ⟨_, (by first | omega | exact (hP.vLR cd5.1 (o1 cd5.1) cd6.1 (o2 cd6.1) (kEq cd5 cd6) rfl rfl rfl).2.1 | exact (hP.vL (w := 0) cd5.1 (o1 cd5.1) (fun hb => ⟨o2 hb, kR cd6 hb⟩) rfl rfl).2.1 | exact (hP.vR (v := 0) cd6.1 (o2 cd6.1) (fun ha => ⟨o1 ha, kL cd5 ha⟩) rfl rfl).2.1 | exact (kNo cd5 cd6 o3).elim), PL.dropLast, PR, _, rfl, (hS.sel 7 [4, 5, 1, 0] rfl), (by rw [decide_eq_true cd5, decide_eq_false cd6] at cd7 ⊢; exact (hP.vL (w := 0) cd5.1 (o1 cd5.1) (fun hb => ⟨o2 hb, kR cd6 hb⟩) rfl rfl).1 (by simpa using cd7)), rfl⟩
                  · refine WC.skip ?_
                    refine WC.seq ?_
                    refine WC.seq ?_
                    refine WC.region ?_
                    refine WL.run 2 [.bool (decide (((topP PR).isSome = true) ∧ ((¬ ((topP PL).isSome = true)) ∨ ((pK (topP PR)) ≤ (pK (topP PL))))))] rfl (by exact hS.ld 0 rfl rfl) ?_
                    refine WL.nil ?_
                    refine WC.ifP rfl (fun cd6 => ?_) (fun cd6 => ?_)
                    · refine WC.seq ?_
                      refine WC.plan [([0, 3, 1, 4, 2, 5, 6], some (7, [3, 4, 5])), ([8], some (9, []))] (by kernel_rfl) (by kernel_rfl) ?_
                      refine WQ.run 7 [.int .i64 (pK (topP PR)), .int .i64 (pV (topP PR))] rfl (by exact ⟨hS.ld 1 rfl rfl, hS.ld 1 rfl rfl⟩) ?_
                      refine WQ.nil ?_
                      intro m1
                      replace hS := hS.drewN m1; generalize hwm1 : World.drewN _ _ = w at *; clear hwm1
                      refine WL.st rfl rfl rfl 0 hS rfl rfl rfl rfl rfl rfl (fun w hS => ?_)
                      replace hS : St g (cel b5 #[.int .i64 (pK (topP PR)), .int .i64 0, .int .i64 0, .bool (decide (((topP PL).isSome = true) ∧ ((¬ ((topP PR).isSome = true)) ∨ ((pK (topP PL)) ≤ (pK (topP PR)))))), .bool (decide (((topP PR).isSome = true) ∧ ((¬ ((topP PL).isSome = true)) ∨ ((pK (topP PR)) ≤ (pK (topP PL)))))), .bool (topP PL).isSome, .bool (topP PR).isSome] 301 :: cel b4 #[.int .u32 (pI (topP PR)), .int .i64 (pN (topP PR)), .int .i64 (pK (topP PR)), .int .i64 (pV (topP PR)), .bool (pS (topP PR))] 335 :: Sid b2 PR :: cel b3 #[.int .u32 (pI (topP PL)), .int .i64 (pN (topP PL)), .int .i64 (pK (topP PL)), .int .i64 (pV (topP PL)), .bool (pS (topP PL))] 335 :: Sid b1 PL :: Arn a A :: Dfs vb ob lo hi out :: L) w := hS
                      refine WL.nil ?_
                      refine ⟨by exact ⟨RQ.pure rfl rfl rfl rfl, RQ.pure rfl rfl rfl rfl, RQ.load rfl rfl rfl rfl (hS.ld 1 rfl rfl)⟩, ?_⟩
                      refine WQ.r 1 rfl ?_
                      refine WQ.nil ?_
                      intro m2
                      replace hS := hS.drewN m2; generalize hwm2 : World.drewN _ _ = w at *; clear hwm2
                      refine WL.st rfl rfl rfl 0 hS rfl rfl rfl rfl rfl rfl (fun w hS => ?_)
                      replace hS : St g (cel b5 #[.int .i64 (pK (topP PR)), .int .i64 0, .int .i64 (pV (topP PR)), .bool (decide (((topP PL).isSome = true) ∧ ((¬ ((topP PR).isSome = true)) ∨ ((pK (topP PL)) ≤ (pK (topP PR)))))), .bool (decide (((topP PR).isSome = true) ∧ ((¬ ((topP PL).isSome = true)) ∨ ((pK (topP PR)) ≤ (pK (topP PL)))))), .bool (topP PL).isSome, .bool (topP PR).isSome] 301 :: cel b4 #[.int .u32 (pI (topP PR)), .int .i64 (pN (topP PR)), .int .i64 (pK (topP PR)), .int .i64 (pV (topP PR)), .bool (pS (topP PR))] 335 :: Sid b2 PR :: cel b3 #[.int .u32 (pI (topP PL)), .int .i64 (pN (topP PL)), .int .i64 (pK (topP PL)), .int .i64 (pV (topP PL)), .bool (pS (topP PL))] 335 :: Sid b1 PL :: Arn a A :: Dfs vb ob lo hi out :: L) w := hS
                      refine WL.nil ?_
                      refine ⟨by exact trivial, ?_⟩
                      intro m3
                      replace hS := hS.drewN m3; generalize hwm3 : World.drewN _ _ = w at *; clear hwm3
                      as_aux_lemma =>
                        refine WC.region ?_
                        refine WL.call rfl rfl (sd_pop (s := b2) (P := PR) (hl := (by omega)) (hne := top_ne cd6.1) (hS := (hS.sel 3 [2, 0, 0] rfl))) rfl ?_
                        clear hS; rintro _ w ⟨rfl, hS⟩
                        replace hS : St g (Sid b2 PR.dropLast :: cel b5 #[.int .i64 (pK (topP PR)), .int .i64 0, .int .i64 (pV (topP PR)), .bool (decide (((topP PL).isSome = true) ∧ ((¬ ((topP PR).isSome = true)) ∨ ((pK (topP PL)) ≤ (pK (topP PR)))))), .bool (decide (((topP PR).isSome = true) ∧ ((¬ ((topP PL).isSome = true)) ∨ ((pK (topP PR)) ≤ (pK (topP PL)))))), .bool (topP PL).isSome, .bool (topP PR).isSome] 301 :: cel b4 #[.int .u32 (pI (topP PR)), .int .i64 (pN (topP PR)), .int .i64 (pK (topP PR)), .int .i64 (pV (topP PR)), .bool (pS (topP PR))] 335 :: cel b3 #[.int .u32 (pI (topP PL)), .int .i64 (pN (topP PL)), .int .i64 (pK (topP PL)), .int .i64 (pV (topP PL)), .bool (pS (topP PL))] 335 :: Sid b1 PL :: Arn a A :: Dfs vb ob lo hi out :: L) w := hS
                        refine WL.nil ?_
                        refine WC.seq ?_
                        refine WC.region ?_
                        refine WL.r 1 rfl ?_
                        refine WL.ldF rfl rfl 1 hS rfl rfl ag_301 ?_
                        refine WL.callV (bs := [.pointer (some ⟨vb, 0, none⟩)]) rfl rfl rfl (df_each2 (vb := vb) (ob := ob) (lo := lo) (hi := hi) (k := pK (topP PR)) (z := 0) (q := pV (topP PR)) (out := out) (il := decide (((topP PL).isSome = true) ∧ ((¬ ((topP PR).isSome = true)) ∨ ((pK (topP PL)) ≤ (pK (topP PR)))))) (ir := decide (((topP PR).isSome = true) ∧ ((¬ ((topP PL).isSome = true)) ∨ ((pK (topP PR)) ≤ (pK (topP PL)))))) (ml := (topP PL).isSome) (mr := (topP PR).isSome) (hl := (by omega)) (hS := (hS.sel 7 [6, 0, 0, 0, 0, 0, 0] rfl))) rfl ?_
                        clear hS; rintro _ w ⟨rfl, hS⟩
                        replace hS : St g (Dfs vb ob lo hi (out ++ oneR lo hi (pChg (pK (topP PR)) 0 (pV (topP PR)) (decide (((topP PL).isSome = true) ∧ ((¬ ((topP PR).isSome = true)) ∨ ((pK (topP PL)) ≤ (pK (topP PR)))))) (decide (((topP PR).isSome = true) ∧ ((¬ ((topP PL).isSome = true)) ∨ ((pK (topP PR)) ≤ (pK (topP PL)))))))) :: Sid b2 PR.dropLast :: cel b5 #[.int .i64 (pK (topP PR)), .int .i64 0, .int .i64 (pV (topP PR)), .bool (decide (((topP PL).isSome = true) ∧ ((¬ ((topP PR).isSome = true)) ∨ ((pK (topP PL)) ≤ (pK (topP PR)))))), .bool (decide (((topP PR).isSome = true) ∧ ((¬ ((topP PL).isSome = true)) ∨ ((pK (topP PR)) ≤ (pK (topP PL)))))), .bool (topP PL).isSome, .bool (topP PR).isSome] 301 :: cel b4 #[.int .u32 (pI (topP PR)), .int .i64 (pN (topP PR)), .int .i64 (pK (topP PR)), .int .i64 (pV (topP PR)), .bool (pS (topP PR))] 335 :: cel b3 #[.int .u32 (pI (topP PL)), .int .i64 (pN (topP PL)), .int .i64 (pK (topP PL)), .int .i64 (pV (topP PL)), .bool (pS (topP PL))] 335 :: Sid b1 PL :: Arn a A :: L) w := hS
                        refine WL.r 1 rfl ?_
                        refine WL.nil ?_
                        refine WC.if_ rfl (fun cd7 => ?_) (fun cd7 => ?_)
                        · refine WC.ret ?_
                          refine ⟨[], trivial, ?_⟩
                          replace hS := (hS.sel 7 [6, 0] rfl)
                          rw [decide_eq_false cd5, decide_eq_true cd6] at cd7 hS; rw [(hP.vR (v := 0) cd6.1 (o2 cd6.1) (fun ha => ⟨o1 ha, kL cd5 ha⟩) rfl rfl).2.2 (by simpa using cd7)] at hS; exact ⟨rfl, hS⟩
                        · refine WC.skip ?_
                          exact ⟨_, (by first | omega | exact (hP.vLR cd5.1 (o1 cd5.1) cd6.1 (o2 cd6.1) (kEq cd5 cd6) rfl rfl rfl).2.1 | exact (hP.vL (w := 0) cd5.1 (o1 cd5.1) (fun hb => ⟨o2 hb, kR cd6 hb⟩) rfl rfl).2.1 | exact (hP.vR (v := 0) cd6.1 (o2 cd6.1) (fun ha => ⟨o1 ha, kL cd5 ha⟩) rfl rfl).2.1 | exact (kNo cd5 cd6 o3).elim), PL, PR.dropLast, _, rfl, (hS.sel 7 [1, 5, 4, 0] rfl), (by rw [decide_eq_false cd5, decide_eq_true cd6] at cd7 ⊢; exact (hP.vR (v := 0) cd6.1 (o2 cd6.1) (fun ha => ⟨o1 ha, kL cd5 ha⟩) rfl rfl).1 (by simpa using cd7)), rfl⟩
                    · refine WC.skip ?_
                      refine WC.seq ?_
                      refine WC.region ?_
                      refine WL.r 1 rfl ?_
                      refine WL.ldF rfl rfl 0 hS rfl rfl ag_301 ?_
                      refine WL.callV (bs := [.pointer (some ⟨vb, 0, none⟩)]) rfl rfl rfl (df_each2 (vb := vb) (ob := ob) (lo := lo) (hi := hi) (k := 0) (z := 0) (q := 0) (out := out) (il := decide (((topP PL).isSome = true) ∧ ((¬ ((topP PR).isSome = true)) ∨ ((pK (topP PL)) ≤ (pK (topP PR)))))) (ir := decide (((topP PR).isSome = true) ∧ ((¬ ((topP PL).isSome = true)) ∨ ((pK (topP PR)) ≤ (pK (topP PL)))))) (ml := (topP PL).isSome) (mr := (topP PR).isSome) (hl := (by omega)) (hS := (hS.sel 7 [6, 0, 0, 0, 0, 0, 0] rfl))) rfl ?_
                      clear hS; rintro _ w ⟨rfl, hS⟩
                      replace hS : St g (Dfs vb ob lo hi (out ++ oneR lo hi (pChg 0 0 0 (decide (((topP PL).isSome = true) ∧ ((¬ ((topP PR).isSome = true)) ∨ ((pK (topP PL)) ≤ (pK (topP PR)))))) (decide (((topP PR).isSome = true) ∧ ((¬ ((topP PL).isSome = true)) ∨ ((pK (topP PR)) ≤ (pK (topP PL)))))))) :: cel b5 #[.int .i64 0, .int .i64 0, .int .i64 0, .bool (decide (((topP PL).isSome = true) ∧ ((¬ ((topP PR).isSome = true)) ∨ ((pK (topP PL)) ≤ (pK (topP PR)))))), .bool (decide (((topP PR).isSome = true) ∧ ((¬ ((topP PL).isSome = true)) ∨ ((pK (topP PR)) ≤ (pK (topP PL)))))), .bool (topP PL).isSome, .bool (topP PR).isSome] 301 :: cel b4 #[.int .u32 (pI (topP PR)), .int .i64 (pN (topP PR)), .int .i64 (pK (topP PR)), .int .i64 (pV (topP PR)), .bool (pS (topP PR))] 335 :: Sid b2 PR :: cel b3 #[.int .u32 (pI (topP PL)), .int .i64 (pN (topP PL)), .int .i64 (pK (topP PL)), .int .i64 (pV (topP PL)), .bool (pS (topP PL))] 335 :: Sid b1 PL :: Arn a A :: L) w := hS
                      refine WL.r 1 rfl ?_
                      refine WL.nil ?_
                      refine WC.if_ rfl (fun cd7 => ?_) (fun cd7 => ?_)
                      · refine WC.ret ?_
                        refine ⟨[], trivial, ?_⟩
                        replace hS := (hS.sel 7 [6, 0] rfl)
                        exact (kNo cd5 cd6 o3).elim
                      · refine WC.skip ?_
                        exact ⟨_, (by first | omega | exact (hP.vLR cd5.1 (o1 cd5.1) cd6.1 (o2 cd6.1) (kEq cd5 cd6) rfl rfl rfl).2.1 | exact (hP.vL (w := 0) cd5.1 (o1 cd5.1) (fun hb => ⟨o2 hb, kR cd6 hb⟩) rfl rfl).2.1 | exact (hP.vR (v := 0) cd6.1 (o2 cd6.1) (fun ha => ⟨o1 ha, kL cd5 ha⟩) rfl rfl).2.1 | exact (kNo cd5 cd6 o3).elim), PL, PR, _, rfl, (hS.sel 7 [3, 5, 4, 0] rfl), (kNo cd5 cd6 o3).elim, rfl⟩
end Go.Proofs.YtlnlnebibgdjdaaGreat
/-! ## P3 -/
namespace Go.Proofs.YtlnlnebibgdjdaaGreat
open Go Go.V
theorem dif_self (l : Kvs) : dif l l = [] := by
  have h := dif_common [] [] l
  rw [List.append_nil, dif] at h
  exact h
set_option maxRecDepth 8192 in
theorem df_each {g w : World} {L : List HP} (a : Nat) (A : AM) (R : List Int) (x y lo hi : Int) (lb hb ob : Nat) (tx ty : Tr) (hA : ARf A R) (hx : Is A tx x) (hy : Is A ty y) (hsx : Srt tx.ls) (hsy : Srt ty.ls) (hl : tx.n + ty.n ≤ 100000000) (hS : St g (Arn a A :: cel lb #[.int .i64 lo] 2 :: cel hb #[.int .i64 hi] 2 :: cel ob #[.slice none 0 0] 179 :: L) w) :
    Sp Tryz.prog 162 [.pointer (some ⟨a, 0, none⟩), .int .u32 x, .int .u32 y, .func (.func 163) #[] #[.pointer (some ⟨lb, 0, none⟩), .pointer (some ⟨hb, 0, none⟩), .pointer (some ⟨ob, 0, none⟩)]] w (fun v w' => ∃ (vb : Nat), v = .tuple #[] ∧ St g (Arn a A :: Dfs vb ob lo hi (inR lo hi (dif tx.ls ty.ls)) :: L) w') := by
  refine Sp.enter Tryz.func162 rfl (by kernel_rfl) (by kernel_rfl) ?_
  refine WC.seq ?_
  refine WC.region ?_
  replace hS : St g (Own 82 4 (ch4 []) none 0 :: Arn a A :: cel lb #[.int .i64 lo] 2 :: cel hb #[.int .i64 hi] 2 :: cel ob #[.slice none 0 0] 179 :: L) w := hS.nil_ 82 4
  refine WL.box rfl rfl #[.func (.func 163) #[] #[.pointer (some ⟨lb, 0, none⟩), .pointer (some ⟨hb, 0, none⟩), .pointer (some ⟨ob, 0, none⟩)]] hS rfl rfl (fun b1 w hS => ?_)
  refine WL.nil ?_
  refine WC.seq ?_
  refine WC.seq ?_
  refine WC.region ?_
  replace hS := St.exClose (f := dfsF b1 ob lo hi []) (L := Arn a A :: L) ⟨lb, hb, none, 0⟩ ((hS.sel 6 [0, 2, 2, 2, 0, 0] rfl))
  replace hS : St g (Dfs b1 ob lo hi [] :: Arn a A :: L) w := hS
  refine WL.r 3 rfl ?_
  refine WL.nil ?_
  refine WC.ifP rfl (fun he => ?_) (fun he => ?_)
  · refine WC.ret ?_
    refine ⟨[], trivial, ?_⟩
    replace hS := (hS.sel 2 [1, 0] rfl)
    subst he; have e9 := Is.fn hx hy; subst e9; rw [dif_self]; exact ⟨_, rfl, hS⟩
  · refine WC.skip ?_
    refine WC.seq ?_
    refine WC.region ?_
    refine WL.r 1 rfl ?_
    refine WL.nil ?_
    refine WC.region ?_
    refine WL.r 4 rfl ?_
    refine WL.mkF rfl rfl (vs := [.pointer (some ⟨b1, 0, none⟩)]) rfl ?_
    refine WL.call rfl rfl (tw_pairs (a := a) (A := A) (R := R) (x := x) (y := y) (lo := lo) (hi := hi) (vb := b1) (ob := ob) (tx := tx) (ty := ty) (hA := hA) (hx := hx) (hy := hy) (hsx := hsx) (hsy := hsy) (hl := hl) (hS := (hS.sel 2 [1, 0] rfl))) rfl ?_
    clear hS; rintro _ w ⟨rfl, hS⟩
    replace hS : St g (Arn a A :: Dfs b1 ob lo hi (inR lo hi (dif tx.ls ty.ls)) :: L) w := hS
    refine WL.nil ?_
    refine ⟨[], trivial, ?_⟩
    exact ⟨_, rfl, hS⟩
set_option maxRecDepth 8192 in
theorem df_range {g w : World} {L : List HP} (a : Nat) (A : AM) (R : List Int) (x y lo hi : Int) (tx ty : Tr) (hA : ARf A R) (hx : Is A tx x) (hy : Is A ty y) (hsx : Srt tx.ls) (hsy : Srt ty.ls) (hl : tx.n + ty.n ≤ 100000000) (hS : St g (Arn a A :: L) w) :
    Sp Tryz.prog 95 [.pointer (some ⟨a, 0, none⟩), .int .u32 x, .int .u32 y, .int .i64 lo, .int .i64 hi] w (fun v w' => ∃ (a2 : Option Addr) (c2 : Nat), v = .slice a2 (List.length (ch4 (inR lo hi (dif tx.ls ty.ls)))) c2 ∧ St g (Own 82 4 (ch4 (inR lo hi (dif tx.ls ty.ls))) a2 c2 :: Arn a A :: L) w') := by
  refine Sp.enter Tryz.func95 rfl (by kernel_rfl) (by kernel_rfl) ?_
  refine WC.seq ?_
  refine WC.region ?_
  refine WL.box rfl rfl #[.int .i64 lo] hS rfl rfl (fun b1 w hS => ?_)
  refine WL.box rfl rfl #[.int .i64 hi] hS rfl rfl (fun b2 w hS => ?_)
  refine WL.r 1 rfl ?_
  refine WL.nil ?_
  refine WC.seq ?_
  refine WC.region ?_
  refine WL.new rfl rfl zv_179 hS (fun b3 w hS => ?_)
  refine WL.nil ?_
  refine WC.seq ?_
  refine WC.region ?_
  refine WL.r 3 rfl ?_
  refine WL.mkF rfl rfl (vs := [.pointer (some ⟨b1, 0, none⟩), .pointer (some ⟨b2, 0, none⟩), .pointer (some ⟨b3, 0, none⟩)]) rfl ?_
  refine WL.call rfl rfl (df_each (a := a) (A := A) (R := R) (x := x) (y := y) (lo := lo) (hi := hi) (lb := b1) (hb := b2) (ob := b3) (tx := tx) (ty := ty) (hA := hA) (hx := hx) (hy := hy) (hsx := hsx) (hsy := hsy) (hl := hl) (hS := (hS.sel 4 [3, 2, 1, 0] rfl))) rfl ?_
  clear hS; rintro _ w ⟨vb1, rfl, hS⟩
  replace hS : St g (Arn a A :: Dfs vb1 b3 lo hi (inR lo hi (dif tx.ls ty.ls)) :: L) w := hS
  refine WL.nil ?_
  refine WC.seq ?_
  refine WC.region ?_
  obtain ⟨⟨xl, xh, xu, xc⟩, hS⟩ := St.exOpen (f := dfsF vb1 b3 lo hi (inR lo hi (dif tx.ls ty.ls))) (hS.at_ 1 rfl)
  replace hS : St g (cel vb1 #[.func (.func 163) #[] #[.pointer (some ⟨xl, 0, none⟩), .pointer (some ⟨xh, 0, none⟩), .pointer (some ⟨b3, 0, none⟩)]] 258 :: cel xl #[.int .i64 lo] 2 :: cel xh #[.int .i64 hi] 2 :: cel b3 #[.slice xu (List.length (ch4 (inR lo hi (dif tx.ls ty.ls)))) xc] 179 :: Own 82 4 (ch4 (inR lo hi (dif tx.ls ty.ls))) xu xc :: Arn a A :: L) w := hS
  refine WL.run 2 [.slice xu (List.length (ch4 (inR lo hi (dif tx.ls ty.ls)))) xc] rfl (by exact hS.ld 3 rfl rfl) ?_
  refine WL.nil ?_
  as_aux_lemma =>
    refine WC.ret ?_
    refine ⟨[.slice xu (List.length (ch4 (inR lo hi (dif tx.ls ty.ls)))) xc], rfl, ?_⟩
    replace hS := (hS.sel 4 [] rfl)
    exact ⟨_, _, rfl, hS⟩
end Go.Proofs.YtlnlnebibgdjdaaGreat
/-! ## W2 -/
namespace Go.Proofs.YtlnlnebibgdjdaaGreat
open Go Go.V
theorem not_nil {t : Tr} (h : t.n ≠ 0) : ∃ l k v r, t = .node l k v r := by
  cases t with
  | nil => exact absurd rfl h
  | node l k v r => exact ⟨l, k, v, r, rfl⟩
theorem dec_congr {a b : Prop} [Decidable a] [Decidable b] (h : a ↔ b) : decide a = decide b := by
  by_cases h1 : a
  · rw [decide_eq_true h1, decide_eq_true (h.1 h1)]
  · rw [decide_eq_false h1, decide_eq_false (fun h2 => h1 (h.2 h2))]
set_option maxHeartbeats 1000000 in
set_option maxRecDepth 8192 in
theorem tw_litL {g w : World} {L : List HP} (a : Nat) (A : AM) (R : List Int) (l r k z : Int) (tl tm ts : Tr) (fk fz : Int) (hA : ARf A (l :: r :: R)) (hl : Is A tl l) (hr : Is A (.node tm fk fz ts) r) (hf : 3 ≤ A.s.free) (hz : R.length + tl.n + tm.n + ts.n ≤ 800000000) (hS : St g (Arn a A :: L) w) :
    Sp Tryz.prog 258 [.pointer (some ⟨a, 0, none⟩), .int .i64 (tl.n : Int), .int .u32 l, .agg #[.int .i64 k, .int .i64 z], .int .u32 r] w (fun v w' => ∃ (A2 : AM) (i : Int), v = .int .u32 i ∧ St g (Arn a A2 :: L) w' ∧ (TOp A A2 R i (Tr.litL tl k z (.node tm fk fz ts)) 3)) := by
  refine Sp.enter Tryz.func258 rfl (by kernel_rfl) (by kernel_rfl) ?_
  have _ := hz
  have _ := hf
  refine WC.seq ?_
  refine WC.region ?_
  refine WL.box rfl rfl #[.int .i64 k, .int .i64 z] hS rfl rfl (fun b1 w hS => ?_)
  refine WL.r 1 rfl ?_
  refine WL.nil ?_
  refine WC.seq ?_
  refine WC.region ?_
  refine WL.r 2 rfl ?_
  refine WL.call rfl rfl (tw_open (a := a) (A := A) (R := l :: R) (i := r) (k := fk) (z := fz) (l := tm) (r := ts) (hA := hA.sw) (hi := hr) (hz := (by simp only [List.length_cons]; omega)) (hS := (hS.sel 2 [1, 0] rfl))) rfl ?_
  clear hS; rintro _ w ⟨A1, x1, y1, rfl, hS, f1⟩
  replace hS : St g (Arn a A1 :: cel b1 #[.int .i64 k, .int .i64 z] 77 :: L) w := hS
  refine WL.r 4 rfl ?_
  refine WL.new rfl rfl zv_77 hS (fun b2 w hS => ?_)
  refine WL.r 1 rfl ?_
  refine WL.stF rfl rfl rfl 0 hS rfl rfl rfl rfl rfl ag_77 (fun w hS => ?_)
  replace hS : St g (cel b2 #[.int .i64 fk, .int .i64 fz] 77 :: Arn a A1 :: cel b1 #[.int .i64 k, .int .i64 z] 77 :: L) w := hS
  refine WL.r 1 rfl ?_
  refine WL.nil ?_
  refine WC.seq ?_
  refine WC.region ?_
  have hr1 := f1.rng; have hl1 := f1.kp l (by simp) tl hl; have hx0 := Is.nil_iff f1.il; have hfr1 := f1.fr
  refine WL.r 2 rfl ?_
  refine WL.call rfl rfl (tr_size (a := a) (A := A1) (R := x1 :: y1 :: l :: R) (i := x1) (t := tm) (hA := f1.ref) (hi := f1.il) (hS := (hS.sel 2 [1, 0] rfl))) rfl ?_
  clear hS; rintro _ w ⟨rfl, hS⟩
  replace hS : St g (Arn a A1 :: cel b2 #[.int .i64 fk, .int .i64 fz] 77 :: cel b1 #[.int .i64 k, .int .i64 z] 77 :: L) w := hS
  refine WL.r 1 rfl ?_
  refine WL.nil ?_
  as_aux_lemma =>
    refine WC.seq ?_
    refine WC.seq ?_
    refine WC.cut [0, 2, 8, 10, 11, 12, 13, 45] (fun vs w => ∃ (tb : Bool), vs = [.pointer (some ⟨a, 0, none⟩), .int .u32 l, .pointer (some ⟨b1, 0, none⟩), .int .u32 0, .int .u32 x1, .pointer (some ⟨b2, 0, none⟩), .int .u32 y1, .bool tb] ∧ St g (Arn a A1 :: cel b2 #[.int .i64 fk, .int .i64 fz] 77 :: cel b1 #[.int .i64 k, .int .i64 z] 77 :: L) w ∧ (tb = decide (tm.n = 0 ∨ (Bal tl.n tm.n ∧ Bal (tl.n + tm.n + 1) ts.n)))) ?_ ?_
    · refine WC.region ?_
      refine WL.r 3 rfl ?_
      by_cases cg1 : x1 = 0
      · refine WL.reb 31 (.bool true) (congrArg Value.bool (decide_eq_true cg1)) ?_
        refine WL.skp rfl rfl rfl rfl ?_
        refine WL.skp rfl rfl rfl rfl ?_
        refine WL.skp rfl rfl rfl rfl ?_
        refine WL.skp rfl rfl rfl rfl ?_
        refine WL.skU rfl rfl rfl ?_
        refine WL.skU rfl rfl rfl ?_
        refine WL.skU rfl rfl rfl ?_
        refine WL.skU rfl rfl rfl ?_
        refine WL.skU rfl rfl rfl ?_
        refine WL.skU rfl rfl rfl ?_
        refine WL.skU rfl rfl rfl ?_
        refine WL.skU rfl rfl rfl ?_
        refine WL.skp rfl rfl rfl rfl ?_
        refine WL.r 1 rfl ?_
        refine WL.nil ?_
        exact ⟨true, rfl, hS, (decide_eq_true (.inl (by rw [hx0.1 cg1]; rfl))).symm⟩
      · refine WL.reb 31 (.bool false) (congrArg Value.bool (decide_eq_false cg1)) ?_
        refine WL.ung rfl rfl rfl ?_
        refine WL.r 1 rfl ?_
        refine WL.ung rfl rfl rfl ?_
        refine WL.r 1 rfl ?_
        refine WL.ung rfl rfl rfl ?_
        refine WL.call rfl rfl (bal_spec (x := (tl.n : Int)) (y := (tm.n : Int)) (hx := (by omega)) (hy := (by omega)) (hS := hS)) rfl ?_
        clear hS; rintro _ w ⟨rfl, hS⟩
        replace hS : St g (Arn a A1 :: cel b2 #[.int .i64 fk, .int .i64 fz] 77 :: cel b1 #[.int .i64 k, .int .i64 z] 77 :: L) w := hS
        refine WL.ung rfl rfl rfl ?_
        refine WL.r 1 rfl ?_
        by_cases cg2 : (tl.n : Int) + 1 ≤ 3 * ((tm.n : Int) + 1) ∧ (tm.n : Int) + 1 ≤ 3 * ((tl.n : Int) + 1)
        · refine WL.reb 35 (.bool true) (congrArg Value.bool (decide_eq_true cg2)) ?_
          refine WL.ung rfl rfl rfl ?_
          refine WL.r 1 rfl ?_
          refine WL.ung rfl rfl rfl ?_
          refine WL.r 1 rfl ?_
          refine WL.ung rfl rfl rfl ?_
          refine WL.r 1 rfl ?_
          refine WL.nw 38 rfl (w64 (by omega)) ?_
          refine WL.ung rfl rfl rfl ?_
          refine WL.r 1 rfl ?_
          refine WL.nw 39 rfl (w64 (by omega)) ?_
          refine WL.ung rfl rfl rfl ?_
          refine WL.r 1 rfl ?_
          refine WL.ung rfl rfl rfl ?_
          refine WL.r 1 rfl ?_
          refine WL.ung rfl rfl rfl ?_
          refine WL.call rfl rfl (tr_size (a := a) (A := A1) (R := x1 :: y1 :: l :: R) (i := y1) (t := ts) (hA := f1.ref) (hi := f1.ir) (hS := hS)) rfl ?_
          clear hS; rintro _ w ⟨rfl, hS⟩
          replace hS : St g (Arn a A1 :: cel b2 #[.int .i64 fk, .int .i64 fz] 77 :: cel b1 #[.int .i64 k, .int .i64 z] 77 :: L) w := hS
          refine WL.ung rfl rfl rfl ?_
          refine WL.call rfl rfl (bal_spec (x := ((tl.n : Int) + (tm.n : Int)) + 1) (y := (ts.n : Int)) (hx := (by omega)) (hy := (by omega)) (hS := hS)) rfl ?_
          clear hS; rintro _ w ⟨rfl, hS⟩
          replace hS : St g (Arn a A1 :: cel b2 #[.int .i64 fk, .int .i64 fz] 77 :: cel b1 #[.int .i64 k, .int .i64 z] 77 :: L) w := hS
          refine WL.ung rfl rfl rfl ?_
          refine WL.r 2 rfl ?_
          refine WL.nil ?_
          exact ⟨decide ((((tl.n : Int) + (tm.n : Int)) + 1) + 1 ≤ 3 * ((ts.n : Int) + 1) ∧ (ts.n : Int) + 1 ≤ 3 * ((((tl.n : Int) + (tm.n : Int)) + 1) + 1)), rfl, hS, (dec_congr (by have h9 : tm.n ≠ 0 := fun e => cg1 (hx0.2 (Tr.n0 e)); unfold Bal; omega))⟩
        · refine WL.reb 35 (.bool false) (congrArg Value.bool (decide_eq_false cg2)) ?_
          refine WL.skp rfl rfl rfl rfl ?_
          refine WL.skp rfl rfl rfl rfl ?_
          refine WL.skp rfl rfl rfl rfl ?_
          refine WL.skp rfl rfl rfl rfl ?_
          refine WL.skp rfl rfl rfl rfl ?_
          refine WL.skp rfl rfl rfl rfl ?_
          refine WL.skp rfl rfl rfl rfl ?_
          refine WL.skp rfl rfl rfl rfl ?_
          refine WL.ung rfl rfl rfl ?_
          refine WL.r 2 rfl ?_
          refine WL.nil ?_
          exact ⟨false, rfl, hS, (decide_eq_false (by have h9 : tm.n ≠ 0 := fun e => cg1 (hx0.2 (Tr.n0 e)); unfold Bal; omega)).symm⟩
    clear hS; rintro _ w j ⟨tb, rfl, hS, hb⟩
    refine WC.if_ rfl (fun hc => ?_) (fun hc => ?_)
    · refine WC.seq ?_
      refine WC.plan [([0, 1, 2, 3, 4, 6, 7], some (5, [0, 6, 7])), ([], some (8, [])), ([9], none)] (by kernel_rfl) (by kernel_rfl) ?_
      refine WQ.r 3 rfl ?_
      refine WQ.ldF rfl rfl 2 hS rfl rfl ag_77 ?_
      refine WQ.r 1 rfl ?_
      refine WQ.ldF rfl rfl 1 hS rfl rfl ag_77 ?_
      refine WQ.r 1 rfl ?_
      refine WQ.nil ?_
      intro m1
      replace hS := hS.drewN m1; generalize hwm1 : World.drewN _ _ = w at *; clear hwm1
      refine WL.call rfl rfl (tw_node (a := a) (A := A1) (R := y1 :: R) (l := l) (r := x1) (k := k) (z := z) (tl := tl) (tr := tm) (hA := f1.ref.r3) (hl := hl1) (hr := f1.il) (hf := (by omega)) (hz := (by simp only [List.length_cons]; omega)) (hS := hS)) rfl ?_
      clear hS; rintro _ w ⟨A2, i1, rfl, hS, f2⟩
      replace hS : St g (Arn a A2 :: cel b2 #[.int .i64 fk, .int .i64 fz] 77 :: cel b1 #[.int .i64 k, .int .i64 z] 77 :: L) w := hS
      refine WL.nil ?_
      refine ⟨by exact ⟨RQ.pure rfl rfl rfl rfl, RQ.ldF rfl rfl 1 hS rfl rfl ag_77 rfl rfl, RQ.pure rfl rfl rfl rfl⟩, ?_⟩
      refine WQ.nil ?_
      intro m2
      replace hS := hS.drewN m2; generalize hwm2 : World.drewN _ _ = w at *; clear hwm2
      refine WL.call rfl rfl (tw_node (a := a) (A := A2) (R := R) (l := i1) (r := y1) (k := fk) (z := fz) (tl := .node tl k z tm) (tr := ts) (hA := f2.ref) (hl := f2.is) (hr := (f2.kp y1 (by simp) ts f1.ir)) (hf := (by have := f2.fr; omega)) (hz := (by simp only [Tr.n]; omega)) (hS := hS)) rfl ?_
      clear hS; rintro _ w ⟨A3, i2, rfl, hS, f3⟩
      replace hS : St g (Arn a A3 :: cel b2 #[.int .i64 fk, .int .i64 fz] 77 :: cel b1 #[.int .i64 k, .int .i64 z] 77 :: L) w := hS
      refine WL.nil ?_
      refine ⟨by exact trivial, ?_⟩
      refine WQ.r 1 rfl ?_
      refine WQ.nil ?_
      intro m3
      replace hS := hS.drewN m3; generalize hwm3 : World.drewN _ _ = w at *; clear hwm3
      as_aux_lemma =>
        refine WC.ret ?_
        refine ⟨[.int .u32 i2], rfl, ?_⟩
        replace hS := (hS.sel 3 [0] rfl)
        exact ⟨_, _, rfl, hS, by rw [Tr.litL, if_pos (of_decide_eq_true (hb ▸ hc))]; exact f3.after (f1.ch.trans f2.ch sb1 sb1) sb0 (by omega)⟩
    · refine WC.skip ?_
      refine WC.seq ?_
      refine WC.region ?_
      have hcn := of_decide_eq_false (hb.symm.trans hc); obtain ⟨tx, gk, gz, ty, htm⟩ := not_nil (t := tm) (fun e => hcn (.inl e)); have him : Is A1 (.node tx gk gz ty) x1 := htm ▸ f1.il; have htn : tm.n = tx.n + ty.n + 1 := (by rw [htm]; rfl)
      refine WL.r 2 rfl ?_
      refine WL.call rfl rfl (tw_open (a := a) (A := A1) (R := y1 :: l :: R) (i := x1) (k := gk) (z := gz) (l := tx) (r := ty) (hA := f1.ref) (hi := him) (hz := (by simp only [List.length_cons]; omega)) (hS := hS)) rfl ?_
      clear hS; rintro _ w ⟨A2, x2, y2, rfl, hS, f2⟩
      replace hS : St g (Arn a A2 :: cel b2 #[.int .i64 fk, .int .i64 fz] 77 :: cel b1 #[.int .i64 k, .int .i64 z] 77 :: L) w := hS
      refine WL.r 4 rfl ?_
      refine WL.new rfl rfl zv_77 hS (fun b3 w hS => ?_)
      refine WL.r 1 rfl ?_
      refine WL.stF rfl rfl rfl 0 hS rfl rfl rfl rfl rfl ag_77 (fun w hS => ?_)
      replace hS : St g (cel b3 #[.int .i64 gk, .int .i64 gz] 77 :: Arn a A2 :: cel b2 #[.int .i64 fk, .int .i64 fz] 77 :: cel b1 #[.int .i64 k, .int .i64 z] 77 :: L) w := hS
      refine WL.r 1 rfl ?_
      refine WL.nil ?_
      refine WC.seq ?_
      refine WC.region ?_
      have hr2 := f2.rng; have hl2 := f2.kp l (by simp) tl hl1; have hs2 := f2.kp y1 (by simp) ts f1.ir; have hfr2 := f2.fr
      refine WL.r 2 rfl ?_
      refine WL.ldF rfl rfl 3 hS rfl rfl ag_77 ?_
      refine WL.r 1 rfl ?_
      refine WL.call rfl rfl (tw_node (a := a) (A := A2) (R := y2 :: y1 :: R) (l := l) (r := x2) (k := k) (z := z) (tl := tl) (tr := tx) (hA := f2.ref.r4) (hl := hl2) (hr := f2.il) (hf := (by omega)) (hz := (by simp only [List.length_cons]; omega)) (hS := (hS.sel 2 [1, 0] rfl))) rfl ?_
      clear hS; rintro _ w ⟨A3, i1, rfl, hS, f3⟩
      replace hS : St g (Arn a A3 :: cel b3 #[.int .i64 gk, .int .i64 gz] 77 :: cel b2 #[.int .i64 fk, .int .i64 fz] 77 :: cel b1 #[.int .i64 k, .int .i64 z] 77 :: L) w := hS
      refine WL.r 1 rfl ?_
      refine WL.nil ?_
      as_aux_lemma =>
        refine WC.seq ?_
        refine WC.plan [([0, 1, 2, 3, 4, 5, 6], some (7, [0, 1, 2])), ([], some (8, [])), ([9], none)] (by kernel_rfl) (by kernel_rfl) ?_
        have hr3 := f3.rng; have hfr3 := f3.fr
        refine WQ.r 2 rfl ?_
        refine WQ.ldF rfl rfl 1 hS rfl rfl ag_77 ?_
        refine WQ.r 2 rfl ?_
        refine WQ.ldF rfl rfl 2 hS rfl rfl ag_77 ?_
        refine WQ.r 1 rfl ?_
        refine WQ.nil ?_
        intro m1
        replace hS := hS.drewN m1; generalize hwm1 : World.drewN _ _ = w at *; clear hwm1
        refine WL.call rfl rfl (tw_node (a := a) (A := A3) (R := i1 :: R) (l := y2) (r := y1) (k := fk) (z := fz) (tl := ty) (tr := ts) (hA := f3.ref.r3.r3) (hl := (f3.kp y2 (by simp) ty f2.ir)) (hr := (f3.kp y1 (by simp) ts hs2)) (hf := (by omega)) (hz := (by simp only [List.length_cons]; omega)) (hS := hS)) rfl ?_
        clear hS; rintro _ w ⟨A4, i2, rfl, hS, f4⟩
        replace hS : St g (Arn a A4 :: cel b3 #[.int .i64 gk, .int .i64 gz] 77 :: cel b2 #[.int .i64 fk, .int .i64 fz] 77 :: cel b1 #[.int .i64 k, .int .i64 z] 77 :: L) w := hS
        refine WL.nil ?_
        refine ⟨by exact ⟨RQ.pure rfl rfl rfl rfl, RQ.pure rfl rfl rfl rfl, RQ.ldF rfl rfl 1 hS rfl rfl ag_77 rfl rfl⟩, ?_⟩
        refine WQ.nil ?_
        intro m2
        replace hS := hS.drewN m2; generalize hwm2 : World.drewN _ _ = w at *; clear hwm2
        refine WL.call rfl rfl (tw_node (a := a) (A := A4) (R := R) (l := i1) (r := i2) (k := gk) (z := gz) (tl := .node tl k z tx) (tr := .node ty fk fz ts) (hA := f4.ref.sw) (hl := (f4.kp i1 (by simp) _ f3.is)) (hr := f4.is) (hf := (by have := f4.fr; omega)) (hz := (by simp only [Tr.n]; omega)) (hS := hS)) rfl ?_
        clear hS; rintro _ w ⟨A5, i3, rfl, hS, f5⟩
        replace hS : St g (Arn a A5 :: cel b3 #[.int .i64 gk, .int .i64 gz] 77 :: cel b2 #[.int .i64 fk, .int .i64 fz] 77 :: cel b1 #[.int .i64 k, .int .i64 z] 77 :: L) w := hS
        refine WL.nil ?_
        refine ⟨by exact trivial, ?_⟩
        refine WQ.r 1 rfl ?_
        refine WQ.nil ?_
        intro m3
        replace hS := hS.drewN m3; generalize hwm3 : World.drewN _ _ = w at *; clear hwm3
        as_aux_lemma =>
          refine WC.ret ?_
          refine ⟨[.int .u32 i3], rfl, ?_⟩
          replace hS := (hS.sel 4 [0] rfl)
          exact ⟨_, _, rfl, hS, by rw [Tr.litL, if_neg hcn, htm]; exact f5.after ((f1.ch.trans f2.ch sb1 sb2).trans (f3.ch.trans f4.ch sb2 sb1) sb0 sb0) sb0 (by omega)⟩
set_option maxHeartbeats 1000000 in
set_option maxRecDepth 8192 in
theorem tw_litR {g w : World} {L : List HP} (a : Nat) (A : AM) (R : List Int) (l r k z : Int) (tr tm ts : Tr) (fk fz : Int) (hA : ARf A (l :: r :: R)) (hl : Is A (.node ts fk fz tm) l) (hr : Is A tr r) (hf : 3 ≤ A.s.free) (hz : R.length + tr.n + tm.n + ts.n ≤ 800000000) (hS : St g (Arn a A :: L) w) :
    Sp Tryz.prog 259 [.pointer (some ⟨a, 0, none⟩), .int .i64 (tr.n : Int), .int .u32 l, .agg #[.int .i64 k, .int .i64 z], .int .u32 r] w (fun v w' => ∃ (A2 : AM) (i : Int), v = .int .u32 i ∧ St g (Arn a A2 :: L) w' ∧ (TOp A A2 R i (Tr.litR tr k z (.node ts fk fz tm)) 3)) := by
  refine Sp.enter Tryz.func259 rfl (by kernel_rfl) (by kernel_rfl) ?_
  have _ := hz
  have _ := hf
  refine WC.seq ?_
  refine WC.region ?_
  refine WL.box rfl rfl #[.int .i64 k, .int .i64 z] hS rfl rfl (fun b1 w hS => ?_)
  refine WL.r 1 rfl ?_
  refine WL.nil ?_
  refine WC.seq ?_
  refine WC.region ?_
  refine WL.r 2 rfl ?_
  refine WL.call rfl rfl (tw_open (a := a) (A := A) (R := r :: R) (i := l) (k := fk) (z := fz) (l := ts) (r := tm) (hA := hA) (hi := hl) (hz := (by simp only [List.length_cons]; omega)) (hS := (hS.sel 2 [1, 0] rfl))) rfl ?_
  clear hS; rintro _ w ⟨A1, x1, y1, rfl, hS, f1⟩
  replace hS : St g (Arn a A1 :: cel b1 #[.int .i64 k, .int .i64 z] 77 :: L) w := hS
  refine WL.r 4 rfl ?_
  refine WL.new rfl rfl zv_77 hS (fun b2 w hS => ?_)
  refine WL.r 1 rfl ?_
  refine WL.stF rfl rfl rfl 0 hS rfl rfl rfl rfl rfl ag_77 (fun w hS => ?_)
  replace hS : St g (cel b2 #[.int .i64 fk, .int .i64 fz] 77 :: Arn a A1 :: cel b1 #[.int .i64 k, .int .i64 z] 77 :: L) w := hS
  refine WL.r 1 rfl ?_
  refine WL.nil ?_
  refine WC.seq ?_
  refine WC.region ?_
  have hr1 := f1.rng; have hl1 := f1.kp r (by simp) tr hr; have hx0 := Is.nil_iff f1.ir; have hfr1 := f1.fr
  refine WL.r 2 rfl ?_
  refine WL.call rfl rfl (tr_size (a := a) (A := A1) (R := x1 :: y1 :: r :: R) (i := y1) (t := tm) (hA := f1.ref) (hi := f1.ir) (hS := (hS.sel 2 [1, 0] rfl))) rfl ?_
  clear hS; rintro _ w ⟨rfl, hS⟩
  replace hS : St g (Arn a A1 :: cel b2 #[.int .i64 fk, .int .i64 fz] 77 :: cel b1 #[.int .i64 k, .int .i64 z] 77 :: L) w := hS
  refine WL.r 1 rfl ?_
  refine WL.nil ?_
  as_aux_lemma =>
    refine WC.seq ?_
    refine WC.seq ?_
    refine WC.cut [0, 4, 8, 10, 11, 12, 13, 45] (fun vs w => ∃ (tb : Bool), vs = [.pointer (some ⟨a, 0, none⟩), .int .u32 r, .pointer (some ⟨b1, 0, none⟩), .int .u32 0, .int .u32 x1, .pointer (some ⟨b2, 0, none⟩), .int .u32 y1, .bool tb] ∧ St g (Arn a A1 :: cel b2 #[.int .i64 fk, .int .i64 fz] 77 :: cel b1 #[.int .i64 k, .int .i64 z] 77 :: L) w ∧ (tb = decide (tm.n = 0 ∨ (Bal tm.n tr.n ∧ Bal ts.n (tm.n + tr.n + 1))))) ?_ ?_
    · refine WC.region ?_
      refine WL.r 3 rfl ?_
      by_cases cg1 : y1 = 0
      · refine WL.reb 31 (.bool true) (congrArg Value.bool (decide_eq_true cg1)) ?_
        refine WL.skp rfl rfl rfl rfl ?_
        refine WL.skp rfl rfl rfl rfl ?_
        refine WL.skp rfl rfl rfl rfl ?_
        refine WL.skp rfl rfl rfl rfl ?_
        refine WL.skU rfl rfl rfl ?_
        refine WL.skU rfl rfl rfl ?_
        refine WL.skU rfl rfl rfl ?_
        refine WL.skU rfl rfl rfl ?_
        refine WL.skU rfl rfl rfl ?_
        refine WL.skU rfl rfl rfl ?_
        refine WL.skU rfl rfl rfl ?_
        refine WL.skU rfl rfl rfl ?_
        refine WL.skp rfl rfl rfl rfl ?_
        refine WL.r 1 rfl ?_
        refine WL.nil ?_
        exact ⟨true, rfl, hS, (decide_eq_true (.inl (by rw [hx0.1 cg1]; rfl))).symm⟩
      · refine WL.reb 31 (.bool false) (congrArg Value.bool (decide_eq_false cg1)) ?_
        refine WL.ung rfl rfl rfl ?_
        refine WL.r 1 rfl ?_
        refine WL.ung rfl rfl rfl ?_
        refine WL.r 1 rfl ?_
        refine WL.ung rfl rfl rfl ?_
        refine WL.call rfl rfl (bal_spec (x := (tm.n : Int)) (y := (tr.n : Int)) (hx := (by omega)) (hy := (by omega)) (hS := hS)) rfl ?_
        clear hS; rintro _ w ⟨rfl, hS⟩
        replace hS : St g (Arn a A1 :: cel b2 #[.int .i64 fk, .int .i64 fz] 77 :: cel b1 #[.int .i64 k, .int .i64 z] 77 :: L) w := hS
        refine WL.ung rfl rfl rfl ?_
        refine WL.r 1 rfl ?_
        by_cases cg2 : (tm.n : Int) + 1 ≤ 3 * ((tr.n : Int) + 1) ∧ (tr.n : Int) + 1 ≤ 3 * ((tm.n : Int) + 1)
        · refine WL.reb 35 (.bool true) (congrArg Value.bool (decide_eq_true cg2)) ?_
          refine WL.ung rfl rfl rfl ?_
          refine WL.r 1 rfl ?_
          refine WL.ung rfl rfl rfl ?_
          refine WL.r 1 rfl ?_
          refine WL.ung rfl rfl rfl ?_
          refine WL.call rfl rfl (tr_size (a := a) (A := A1) (R := x1 :: y1 :: r :: R) (i := x1) (t := ts) (hA := f1.ref) (hi := f1.il) (hS := hS)) rfl ?_
          clear hS; rintro _ w ⟨rfl, hS⟩
          replace hS : St g (Arn a A1 :: cel b2 #[.int .i64 fk, .int .i64 fz] 77 :: cel b1 #[.int .i64 k, .int .i64 z] 77 :: L) w := hS
          refine WL.ung rfl rfl rfl ?_
          refine WL.r 1 rfl ?_
          refine WL.ung rfl rfl rfl ?_
          refine WL.r 1 rfl ?_
          refine WL.ung rfl rfl rfl ?_
          refine WL.r 1 rfl ?_
          refine WL.nw 41 rfl (w64 (by omega)) ?_
          refine WL.ung rfl rfl rfl ?_
          refine WL.r 1 rfl ?_
          refine WL.nw 42 rfl (w64 (by omega)) ?_
          refine WL.ung rfl rfl rfl ?_
          refine WL.call rfl rfl (bal_spec (x := (ts.n : Int)) (y := ((tm.n : Int) + (tr.n : Int)) + 1) (hx := (by omega)) (hy := (by omega)) (hS := hS)) rfl ?_
          clear hS; rintro _ w ⟨rfl, hS⟩
          replace hS : St g (Arn a A1 :: cel b2 #[.int .i64 fk, .int .i64 fz] 77 :: cel b1 #[.int .i64 k, .int .i64 z] 77 :: L) w := hS
          refine WL.ung rfl rfl rfl ?_
          refine WL.r 2 rfl ?_
          refine WL.nil ?_
          exact ⟨decide ((ts.n : Int) + 1 ≤ 3 * ((((tm.n : Int) + (tr.n : Int)) + 1) + 1) ∧ (((tm.n : Int) + (tr.n : Int)) + 1) + 1 ≤ 3 * ((ts.n : Int) + 1)), rfl, hS, (dec_congr (by have h9 : tm.n ≠ 0 := fun e => cg1 (hx0.2 (Tr.n0 e)); unfold Bal; omega))⟩
        · refine WL.reb 35 (.bool false) (congrArg Value.bool (decide_eq_false cg2)) ?_
          refine WL.skp rfl rfl rfl rfl ?_
          refine WL.skp rfl rfl rfl rfl ?_
          refine WL.skp rfl rfl rfl rfl ?_
          refine WL.skp rfl rfl rfl rfl ?_
          refine WL.skp rfl rfl rfl rfl ?_
          refine WL.skp rfl rfl rfl rfl ?_
          refine WL.skp rfl rfl rfl rfl ?_
          refine WL.skp rfl rfl rfl rfl ?_
          refine WL.ung rfl rfl rfl ?_
          refine WL.r 2 rfl ?_
          refine WL.nil ?_
          exact ⟨false, rfl, hS, (decide_eq_false (by have h9 : tm.n ≠ 0 := fun e => cg1 (hx0.2 (Tr.n0 e)); unfold Bal; omega)).symm⟩
    clear hS; rintro _ w j ⟨tb, rfl, hS, hb⟩
    refine WC.if_ rfl (fun hc => ?_) (fun hc => ?_)
    · refine WC.seq ?_
      refine WC.plan [([0, 1, 2, 3, 4, 5, 6], some (7, [0, 1, 2])), ([], some (8, [])), ([9], none)] (by kernel_rfl) (by kernel_rfl) ?_
      refine WQ.r 2 rfl ?_
      refine WQ.ldF rfl rfl 1 hS rfl rfl ag_77 ?_
      refine WQ.r 2 rfl ?_
      refine WQ.ldF rfl rfl 2 hS rfl rfl ag_77 ?_
      refine WQ.r 1 rfl ?_
      refine WQ.nil ?_
      intro m1
      replace hS := hS.drewN m1; generalize hwm1 : World.drewN _ _ = w at *; clear hwm1
      refine WL.call rfl rfl (tw_node (a := a) (A := A1) (R := x1 :: R) (l := y1) (r := r) (k := k) (z := z) (tl := tm) (tr := tr) (hA := f1.ref.r3.r3) (hl := f1.ir) (hr := hl1) (hf := (by omega)) (hz := (by simp only [List.length_cons]; omega)) (hS := hS)) rfl ?_
      clear hS; rintro _ w ⟨A2, i1, rfl, hS, f2⟩
      replace hS : St g (Arn a A2 :: cel b2 #[.int .i64 fk, .int .i64 fz] 77 :: cel b1 #[.int .i64 k, .int .i64 z] 77 :: L) w := hS
      refine WL.nil ?_
      refine ⟨by exact ⟨RQ.pure rfl rfl rfl rfl, RQ.pure rfl rfl rfl rfl, RQ.ldF rfl rfl 1 hS rfl rfl ag_77 rfl rfl⟩, ?_⟩
      refine WQ.nil ?_
      intro m2
      replace hS := hS.drewN m2; generalize hwm2 : World.drewN _ _ = w at *; clear hwm2
      refine WL.call rfl rfl (tw_node (a := a) (A := A2) (R := R) (l := x1) (r := i1) (k := fk) (z := fz) (tl := ts) (tr := .node tm k z tr) (hA := f2.ref.sw) (hl := (f2.kp x1 (by simp) ts f1.il)) (hr := f2.is) (hf := (by have := f2.fr; omega)) (hz := (by simp only [Tr.n]; omega)) (hS := hS)) rfl ?_
      clear hS; rintro _ w ⟨A3, i2, rfl, hS, f3⟩
      replace hS : St g (Arn a A3 :: cel b2 #[.int .i64 fk, .int .i64 fz] 77 :: cel b1 #[.int .i64 k, .int .i64 z] 77 :: L) w := hS
      refine WL.nil ?_
      refine ⟨by exact trivial, ?_⟩
      refine WQ.r 1 rfl ?_
      refine WQ.nil ?_
      intro m3
      replace hS := hS.drewN m3; generalize hwm3 : World.drewN _ _ = w at *; clear hwm3
      as_aux_lemma =>
        refine WC.ret ?_
        refine ⟨[.int .u32 i2], rfl, ?_⟩
        replace hS := (hS.sel 3 [0] rfl)
        exact ⟨_, _, rfl, hS, by rw [Tr.litR, if_pos (of_decide_eq_true (hb ▸ hc))]; exact f3.after (f1.ch.trans f2.ch sb1 sb1) sb0 (by omega)⟩
    · refine WC.skip ?_
      refine WC.seq ?_
      refine WC.region ?_
      have hcn := of_decide_eq_false (hb.symm.trans hc); obtain ⟨tx, gk, gz, ty, htm⟩ := not_nil (t := tm) (fun e => hcn (.inl e)); have him : Is A1 (.node tx gk gz ty) y1 := htm ▸ f1.ir; have htn : tm.n = tx.n + ty.n + 1 := (by rw [htm]; rfl)
      refine WL.r 2 rfl ?_
      refine WL.call rfl rfl (tw_open (a := a) (A := A1) (R := x1 :: r :: R) (i := y1) (k := gk) (z := gz) (l := tx) (r := ty) (hA := f1.swap) (hi := him) (hz := (by simp only [List.length_cons]; omega)) (hS := hS)) rfl ?_
      clear hS; rintro _ w ⟨A2, x2, y2, rfl, hS, f2⟩
      replace hS : St g (Arn a A2 :: cel b2 #[.int .i64 fk, .int .i64 fz] 77 :: cel b1 #[.int .i64 k, .int .i64 z] 77 :: L) w := hS
      refine WL.r 4 rfl ?_
      refine WL.new rfl rfl zv_77 hS (fun b3 w hS => ?_)
      refine WL.r 1 rfl ?_
      refine WL.stF rfl rfl rfl 0 hS rfl rfl rfl rfl rfl ag_77 (fun w hS => ?_)
      replace hS : St g (cel b3 #[.int .i64 gk, .int .i64 gz] 77 :: Arn a A2 :: cel b2 #[.int .i64 fk, .int .i64 fz] 77 :: cel b1 #[.int .i64 k, .int .i64 z] 77 :: L) w := hS
      refine WL.r 1 rfl ?_
      refine WL.nil ?_
      refine WC.seq ?_
      refine WC.region ?_
      have hr2 := f2.rng; have hl2 := f2.kp r (by simp) tr hl1; have hs2 := f2.kp x1 (by simp) ts f1.il; have hfr2 := f2.fr
      refine WL.r 2 rfl ?_
      refine WL.ldF rfl rfl 2 hS rfl rfl ag_77 ?_
      refine WL.r 1 rfl ?_
      refine WL.call rfl rfl (tw_node (a := a) (A := A2) (R := y2 :: r :: R) (l := x1) (r := x2) (k := fk) (z := fz) (tl := ts) (tr := tx) (hA := f2.ref.r3) (hl := hs2) (hr := f2.il) (hf := (by omega)) (hz := (by simp only [List.length_cons]; omega)) (hS := (hS.sel 2 [1, 0] rfl))) rfl ?_
      clear hS; rintro _ w ⟨A3, i1, rfl, hS, f3⟩
      replace hS : St g (Arn a A3 :: cel b3 #[.int .i64 gk, .int .i64 gz] 77 :: cel b2 #[.int .i64 fk, .int .i64 fz] 77 :: cel b1 #[.int .i64 k, .int .i64 z] 77 :: L) w := hS
      refine WL.r 1 rfl ?_
      refine WL.nil ?_
      as_aux_lemma =>
        refine WC.seq ?_
        refine WC.plan [([0, 1, 2, 3, 4, 5, 6], some (7, [0, 1, 2])), ([], some (8, [])), ([9], none)] (by kernel_rfl) (by kernel_rfl) ?_
        have hr3 := f3.rng; have hfr3 := f3.fr
        refine WQ.r 2 rfl ?_
        refine WQ.ldF rfl rfl 1 hS rfl rfl ag_77 ?_
        refine WQ.r 2 rfl ?_
        refine WQ.ldF rfl rfl 3 hS rfl rfl ag_77 ?_
        refine WQ.r 1 rfl ?_
        refine WQ.nil ?_
        intro m1
        replace hS := hS.drewN m1; generalize hwm1 : World.drewN _ _ = w at *; clear hwm1
        refine WL.call rfl rfl (tw_node (a := a) (A := A3) (R := i1 :: R) (l := y2) (r := r) (k := k) (z := z) (tl := ty) (tr := tr) (hA := f3.ref.r3.r3) (hl := (f3.kp y2 (by simp) ty f2.ir)) (hr := (f3.kp r (by simp) tr hl2)) (hf := (by omega)) (hz := (by simp only [List.length_cons]; omega)) (hS := hS)) rfl ?_
        clear hS; rintro _ w ⟨A4, i2, rfl, hS, f4⟩
        replace hS : St g (Arn a A4 :: cel b3 #[.int .i64 gk, .int .i64 gz] 77 :: cel b2 #[.int .i64 fk, .int .i64 fz] 77 :: cel b1 #[.int .i64 k, .int .i64 z] 77 :: L) w := hS
        refine WL.nil ?_
        refine ⟨by exact ⟨RQ.pure rfl rfl rfl rfl, RQ.pure rfl rfl rfl rfl, RQ.ldF rfl rfl 1 hS rfl rfl ag_77 rfl rfl⟩, ?_⟩
        refine WQ.nil ?_
        intro m2
        replace hS := hS.drewN m2; generalize hwm2 : World.drewN _ _ = w at *; clear hwm2
        refine WL.call rfl rfl (tw_node (a := a) (A := A4) (R := R) (l := i1) (r := i2) (k := gk) (z := gz) (tl := .node ts fk fz tx) (tr := .node ty k z tr) (hA := f4.ref.sw) (hl := (f4.kp i1 (by simp) _ f3.is)) (hr := f4.is) (hf := (by have := f4.fr; omega)) (hz := (by simp only [Tr.n]; omega)) (hS := hS)) rfl ?_
        clear hS; rintro _ w ⟨A5, i3, rfl, hS, f5⟩
        replace hS : St g (Arn a A5 :: cel b3 #[.int .i64 gk, .int .i64 gz] 77 :: cel b2 #[.int .i64 fk, .int .i64 fz] 77 :: cel b1 #[.int .i64 k, .int .i64 z] 77 :: L) w := hS
        refine WL.nil ?_
        refine ⟨by exact trivial, ?_⟩
        refine WQ.r 1 rfl ?_
        refine WQ.nil ?_
        intro m3
        replace hS := hS.drewN m3; generalize hwm3 : World.drewN _ _ = w at *; clear hwm3
        as_aux_lemma =>
          refine WC.ret ?_
          refine ⟨[.int .u32 i3], rfl, ?_⟩
          replace hS := (hS.sel 4 [0] rfl)
          exact ⟨_, _, rfl, hS, by rw [Tr.litR, if_neg hcn, htm]; exact f5.after ((f1.ch.trans f2.ch sb1 sb2).trans (f3.ch.trans f4.ch sb2 sb1) sb0 sb0) sb0 (by omega)⟩
set_option maxHeartbeats 1000000 in
set_option maxRecDepth 8192 in
theorem tw_bal {g w : World} {L : List HP} (a : Nat) (A : AM) (R : List Int) (l r k z : Int) (tl tr : Tr) (hA : ARf A (l :: r :: R)) (hl : Is A tl l) (hr : Is A tr r) (hf : 3 ≤ A.s.free) (hz : R.length + tl.n + tr.n ≤ 800000000) (hS : St g (Arn a A :: L) w) :
    Sp Tryz.prog 222 [.pointer (some ⟨a, 0, none⟩), .int .u32 l, .agg #[.int .i64 k, .int .i64 z], .int .u32 r] w (fun v w' => ∃ (A2 : AM) (i : Int), v = .int .u32 i ∧ St g (Arn a A2 :: L) w' ∧ (TOp A A2 R i (Tr.bal tl k z tr) 3)) := by
  refine Sp.enter Tryz.func222 rfl (by kernel_rfl) (by kernel_rfl) ?_
  have _ := hz
  refine WC.seq ?_
  refine WC.region ?_
  refine WL.box rfl rfl #[.int .i64 k, .int .i64 z] hS rfl rfl (fun b1 w hS => ?_)
  refine WL.r 1 rfl ?_
  refine WL.nil ?_
  refine WC.seq ?_
  refine WC.region ?_
  refine WL.r 2 rfl ?_
  refine WL.call rfl rfl (tr_size (a := a) (A := A) (R := l :: r :: R) (i := l) (t := tl) (hA := hA) (hi := hl) (hS := (hS.sel 2 [1, 0] rfl))) rfl ?_
  clear hS; rintro _ w ⟨rfl, hS⟩
  replace hS : St g (Arn a A :: cel b1 #[.int .i64 k, .int .i64 z] 77 :: L) w := hS
  refine WL.r 2 rfl ?_
  refine WL.call rfl rfl (tr_size (a := a) (A := A) (R := l :: r :: R) (i := r) (t := tr) (hA := hA) (hi := hr) (hS := hS)) rfl ?_
  clear hS; rintro _ w ⟨rfl, hS⟩
  replace hS : St g (Arn a A :: cel b1 #[.int .i64 k, .int .i64 z] 77 :: L) w := hS
  refine WL.r 2 rfl ?_
  refine WL.nil ?_
  refine WC.seq ?_
  refine WC.block ?_
  refine WC.seq ?_
  refine WC.region ?_
  refine WL.r 2 rfl ?_
  refine WL.call rfl rfl (bal_spec (x := (tl.n : Int)) (y := (tr.n : Int)) (hx := (by omega)) (hy := (by omega)) (hS := hS)) rfl ?_
  clear hS; rintro _ w ⟨rfl, hS⟩
  replace hS : St g (Arn a A :: cel b1 #[.int .i64 k, .int .i64 z] 77 :: L) w := hS
  refine WL.r 1 rfl ?_
  refine WL.nil ?_
  as_aux_lemma =>
    refine WC.ifP rfl (fun hb => ?_) (fun hb => ?_)
    · refine WC.seq ?_
      refine WC.region ?_
      refine WL.r 2 rfl ?_
      refine WL.ldF rfl rfl 1 hS rfl rfl ag_77 ?_
      refine WL.r 1 rfl ?_
      refine WL.call rfl rfl (tw_node (a := a) (A := A) (R := R) (l := l) (r := r) (k := k) (z := z) (tl := tl) (tr := tr) (hA := hA) (hl := hl) (hr := hr) (hf := (by omega)) (hz := (by omega)) (hS := hS)) rfl ?_
      clear hS; rintro _ w ⟨A1, i1, rfl, hS, f1⟩
      replace hS : St g (Arn a A1 :: cel b1 #[.int .i64 k, .int .i64 z] 77 :: L) w := hS
      refine WL.r 1 rfl ?_
      refine WL.nil ?_
      refine WC.ret ?_
      refine ⟨[.int .u32 i1], rfl, ?_⟩
      replace hS := (hS.sel 2 [0] rfl)
      exact ⟨_, _, rfl, hS, by unfold Tr.bal; rw [if_pos (show Bal tl.n tr.n by unfold Bal; omega)]; exact f1.weak (by omega)⟩
    · refine WC.seq ?_
      refine WC.region ?_
      refine WL.r 4 rfl ?_
      refine WL.nil ?_
      refine WC.ifP rfl (fun hlt => ?_) (fun hlt => ?_)
      · refine WC.seq ?_
        refine WC.region ?_
        have hbn : ¬ Bal tl.n tr.n := (by unfold Bal; omega); obtain ⟨tm, fk, fz, ts, htr⟩ := not_nil (t := tr) (by omega); have htn : tr.n = tm.n + ts.n + 1 := (by rw [htr]; rfl); have hr2 : Is A (.node tm fk fz ts) r := htr ▸ hr
        refine WL.r 3 rfl ?_
        refine WL.ldF rfl rfl 1 hS rfl rfl ag_77 ?_
        refine WL.r 1 rfl ?_
        refine WL.call rfl rfl (tw_litL (a := a) (A := A) (R := R) (l := l) (r := r) (k := k) (z := z) (tl := tl) (tm := tm) (ts := ts) (fk := fk) (fz := fz) (hA := hA) (hl := hl) (hr := hr2) (hf := hf) (hz := (by omega)) (hS := hS)) rfl ?_
        clear hS; rintro _ w ⟨A1, i1, rfl, hS, f1⟩
        replace hS : St g (Arn a A1 :: cel b1 #[.int .i64 k, .int .i64 z] 77 :: L) w := hS
        refine WL.r 1 rfl ?_
        refine WL.nil ?_
        refine WC.ret ?_
        refine ⟨[.int .u32 i1], rfl, ?_⟩
        replace hS := (hS.sel 2 [0] rfl)
        exact ⟨_, _, rfl, hS, by unfold Tr.bal; rw [if_neg hbn, if_pos (show tl.n < tr.n by omega), htr]; exact f1⟩
      · refine WC.skip ?_
        refine WC.seq ?_
        refine WC.region ?_
        have hbn : ¬ Bal tl.n tr.n := (by unfold Bal; omega); obtain ⟨ts, fk, fz, tm, htr⟩ := not_nil (t := tl) (by omega); have htn : tl.n = ts.n + tm.n + 1 := (by rw [htr]; rfl); have hl2 : Is A (.node ts fk fz tm) l := htr ▸ hl
        refine WL.r 3 rfl ?_
        refine WL.ldF rfl rfl 1 hS rfl rfl ag_77 ?_
        refine WL.r 1 rfl ?_
        refine WL.call rfl rfl (tw_litR (a := a) (A := A) (R := R) (l := l) (r := r) (k := k) (z := z) (tr := tr) (tm := tm) (ts := ts) (fk := fk) (fz := fz) (hA := hA) (hl := hl2) (hr := hr) (hf := hf) (hz := (by omega)) (hS := hS)) rfl ?_
        clear hS; rintro _ w ⟨A1, i1, rfl, hS, f1⟩
        replace hS : St g (Arn a A1 :: cel b1 #[.int .i64 k, .int .i64 z] 77 :: L) w := hS
        refine WL.r 1 rfl ?_
        refine WL.nil ?_
        refine WC.ret ?_
        refine ⟨[.int .u32 i1], rfl, ?_⟩
        replace hS := (hS.sel 2 [0] rfl)
        exact ⟨_, _, rfl, hS, by unfold Tr.bal; rw [if_neg hbn, if_neg (show ¬ tl.n < tr.n by omega), htr]; exact f1⟩
end Go.Proofs.YtlnlnebibgdjdaaGreat
/-! ## W3 -/
namespace Go.Proofs.YtlnlnebibgdjdaaGreat
open Go Go.V
theorem join_bal {l r : Tr} {k v : Int} (h : Bal l.n r.n) : Tr.join l k v r = .node l k v r := by
  cases l with
  | nil =>
    cases r with
    | nil => rw [Tr.join]
    | node m a b s => rw [Tr.join, if_pos (by simpa [Tr.n] using h)]
  | node s a b m =>
    cases r with
    | nil => rw [Tr.join, if_pos (by simpa [Tr.n] using h)]
    | node m' a' b' s' => rw [Tr.join, if_pos (by simpa [Tr.n] using h)]
theorem join_gt {s m r : Tr} {fk fv k v : Int} (h : ¬ Bal (Tr.node s fk fv m).n r.n) (hg : r.n < (Tr.node s fk fv m).n) : Tr.join (.node s fk fv m) k v r = Tr.bal s fk fv (Tr.join m k v r) ∧ Tr.jc (.node s fk fv m) r = Tr.jc m r + 3 := by
  cases r with
  | nil => rw [Tr.join, if_neg (by simpa [Tr.n] using h), Tr.jc, if_neg (by simpa [Tr.n] using h)]; exact ⟨rfl, rfl⟩
  | node m' a' b' s' =>
    have h2 : m'.n + s'.n < s.n + m.n := by simp only [Tr.n] at hg; omega
    rw [Tr.join, if_neg (by simpa [Tr.n] using h), if_pos h2, Tr.jc, if_neg (by simpa [Tr.n] using h), if_pos h2]; exact ⟨rfl, rfl⟩
theorem join_lt {l m s : Tr} {fk fv k v : Int} (h : ¬ Bal l.n (Tr.node m fk fv s).n) (hg : ¬ (Tr.node m fk fv s).n < l.n) : Tr.join l k v (.node m fk fv s) = Tr.bal (Tr.join l k v m) fk fv s ∧ Tr.jc l (.node m fk fv s) = Tr.jc l m + 3 := by
  cases l with
  | nil => rw [Tr.join, if_neg (by simpa [Tr.n] using h), Tr.jc, if_neg (by simpa [Tr.n] using h)]; exact ⟨rfl, rfl⟩
  | node s' a' b' m' =>
    have h2 : ¬ m.n + s.n < s'.n + m'.n := by simp only [Tr.n] at hg; omega
    rw [Tr.join, if_neg (by simpa [Tr.n] using h), if_neg h2, Tr.jc, if_neg (by simpa [Tr.n] using h), if_neg h2]; exact ⟨rfl, rfl⟩
theorem jc_pos (l r : Tr) : 1 ≤ Tr.jc l r := by
  cases l <;> cases r <;> rw [Tr.jc] <;> (repeat' split) <;> omega
set_option maxHeartbeats 1000000 in
set_option maxRecDepth 8192 in
theorem tw_join_step (nM : Nat) (ih : ∀ mM : Nat, mM < nM → ∀ (g w : World) (L : List HP) (a : Nat) (A : AM) (R : List Int) (l r k z : Int) (tl tr : Tr), (ARf A (l :: r :: R)) → (Is A tl l) → (Is A tr r) → ((Tr.jc tl tr : Int) ≤ A.s.free) → (R.length + tl.n + tr.n ≤ 700000000) → tl.n + tr.n = mM → St g (Arn a A :: L) w → Sp Tryz.prog 187 [.pointer (some ⟨a, 0, none⟩), .int .u32 l, .agg #[.int .i64 k, .int .i64 z], .int .u32 r] w (fun v w' => ∃ (A2 : AM) (i : Int), v = .int .u32 i ∧ St g (Arn a A2 :: L) w' ∧ (TOp A A2 R i (Tr.join tl k z tr) (Tr.jc tl tr)))) {g w : World} {L : List HP} (a : Nat) (A : AM) (R : List Int) (l r k z : Int) (tl tr : Tr) (hA : ARf A (l :: r :: R)) (hl : Is A tl l) (hr : Is A tr r) (hf : (Tr.jc tl tr : Int) ≤ A.s.free) (hz : R.length + tl.n + tr.n ≤ 700000000) (hM : tl.n + tr.n = nM) (hS : St g (Arn a A :: L) w) :
    Sp Tryz.prog 187 [.pointer (some ⟨a, 0, none⟩), .int .u32 l, .agg #[.int .i64 k, .int .i64 z], .int .u32 r] w (fun v w' => ∃ (A2 : AM) (i : Int), v = .int .u32 i ∧ St g (Arn a A2 :: L) w' ∧ (TOp A A2 R i (Tr.join tl k z tr) (Tr.jc tl tr))) := by
  refine Sp.enter Tryz.func187 rfl (by kernel_rfl) (by kernel_rfl) ?_
  have _ := hz
  have _ := hf
  refine WC.seq ?_
  refine WC.region ?_
  refine WL.box rfl rfl #[.int .i64 k, .int .i64 z] hS rfl rfl (fun b1 w hS => ?_)
  refine WL.r 1 rfl ?_
  refine WL.nil ?_
  refine WC.seq ?_
  refine WC.region ?_
  have hjp := jc_pos tl tr
  refine WL.r 2 rfl ?_
  refine WL.call rfl rfl (tr_size (a := a) (A := A) (R := l :: r :: R) (i := l) (t := tl) (hA := hA) (hi := hl) (hS := (hS.sel 2 [1, 0] rfl))) rfl ?_
  clear hS; rintro _ w ⟨rfl, hS⟩
  replace hS : St g (Arn a A :: cel b1 #[.int .i64 k, .int .i64 z] 77 :: L) w := hS
  refine WL.r 2 rfl ?_
  refine WL.call rfl rfl (tr_size (a := a) (A := A) (R := l :: r :: R) (i := r) (t := tr) (hA := hA) (hi := hr) (hS := hS)) rfl ?_
  clear hS; rintro _ w ⟨rfl, hS⟩
  replace hS : St g (Arn a A :: cel b1 #[.int .i64 k, .int .i64 z] 77 :: L) w := hS
  refine WL.r 2 rfl ?_
  refine WL.nil ?_
  refine WC.seq ?_
  refine WC.block ?_
  refine WC.seq ?_
  refine WC.region ?_
  refine WL.r 2 rfl ?_
  refine WL.call rfl rfl (bal_spec (x := (tl.n : Int)) (y := (tr.n : Int)) (hx := (by omega)) (hy := (by omega)) (hS := hS)) rfl ?_
  clear hS; rintro _ w ⟨rfl, hS⟩
  replace hS : St g (Arn a A :: cel b1 #[.int .i64 k, .int .i64 z] 77 :: L) w := hS
  refine WL.r 1 rfl ?_
  refine WL.nil ?_
  as_aux_lemma =>
    refine WC.ifP rfl (fun hb => ?_) (fun hb => ?_)
    · refine WC.seq ?_
      refine WC.region ?_
      refine WL.r 2 rfl ?_
      refine WL.ldF rfl rfl 1 hS rfl rfl ag_77 ?_
      refine WL.r 1 rfl ?_
      refine WL.call rfl rfl (tw_node (a := a) (A := A) (R := R) (l := l) (r := r) (k := k) (z := z) (tl := tl) (tr := tr) (hA := hA) (hl := hl) (hr := hr) (hf := (by omega)) (hz := (by omega)) (hS := hS)) rfl ?_
      clear hS; rintro _ w ⟨A1, i1, rfl, hS, f1⟩
      replace hS : St g (Arn a A1 :: cel b1 #[.int .i64 k, .int .i64 z] 77 :: L) w := hS
      refine WL.r 1 rfl ?_
      refine WL.nil ?_
      refine WC.ret ?_
      refine ⟨[.int .u32 i1], rfl, ?_⟩
      replace hS := (hS.sel 2 [0] rfl)
      exact ⟨_, _, rfl, hS, by have h9 : Bal tl.n tr.n := (by unfold Bal; omega); rw [join_bal h9, Tr.jc_bal h9]; exact f1⟩
    · refine WC.seq ?_
      refine WC.region ?_
      refine WL.r 4 rfl ?_
      refine WL.nil ?_
      refine WC.ifP rfl (fun hlt => ?_) (fun hlt => ?_)
      · refine WC.seq ?_
        refine WC.region ?_
        have hbn : ¬ Bal tl.n tr.n := (by unfold Bal; omega); obtain ⟨ts, fk, fz, tm, htl⟩ := not_nil (t := tl) (by omega); have htn : tl.n = ts.n + tm.n + 1 := (by rw [htl]; rfl); have hl2 : Is A (.node ts fk fz tm) l := htl ▸ hl; have hj := join_gt (k := k) (v := z) (r := tr) (by rw [← htl]; exact hbn) (by rw [← htl]; omega); rw [← htl] at hj
        refine WL.r 2 rfl ?_
        refine WL.call rfl rfl (tw_open (a := a) (A := A) (R := r :: R) (i := l) (k := fk) (z := fz) (l := ts) (r := tm) (hA := hA) (hi := hl2) (hz := (by simp only [List.length_cons]; omega)) (hS := hS)) rfl ?_
        clear hS; rintro _ w ⟨A1, x1, y1, rfl, hS, f1⟩
        replace hS : St g (Arn a A1 :: cel b1 #[.int .i64 k, .int .i64 z] 77 :: L) w := hS
        refine WL.r 4 rfl ?_
        refine WL.new rfl rfl zv_77 hS (fun b2 w hS => ?_)
        refine WL.r 1 rfl ?_
        refine WL.stF rfl rfl rfl 0 hS rfl rfl rfl rfl rfl ag_77 (fun w hS => ?_)
        replace hS : St g (cel b2 #[.int .i64 fk, .int .i64 fz] 77 :: Arn a A1 :: cel b1 #[.int .i64 k, .int .i64 z] 77 :: L) w := hS
        refine WL.r 1 rfl ?_
        refine WL.nil ?_
        refine WC.seq ?_
        refine WC.plan [([0, 1, 2, 3, 4, 5, 6], some (7, [0, 1, 2])), ([], some (8, [])), ([9], none)] (by kernel_rfl) (by kernel_rfl) ?_
        have hr1 := f1.rng; have hr2 := f1.kp r (by simp) tr hr; have hfr1 := f1.fr
        refine WQ.r 2 rfl ?_
        refine WQ.ldF rfl rfl 0 hS rfl rfl ag_77 ?_
        refine WQ.r 2 rfl ?_
        refine WQ.ldF rfl rfl 2 hS rfl rfl ag_77 ?_
        refine WQ.r 1 rfl ?_
        refine WQ.nil ?_
        intro m1
        replace hS := hS.drewN m1; generalize hwm1 : World.drewN _ _ = w at *; clear hwm1
        refine WL.call rfl rfl (ih (tm.n + tr.n) (by omega) _ _ _ a A1 (x1 :: R) y1 r k z tm tr (f1.ref.r3.r3) (f1.ir) (hr2) ((by omega)) ((by simp only [List.length_cons]; omega)) rfl (hS.sel 2 [1, 0] rfl)) rfl ?_
        clear hS; rintro _ w ⟨A2, i1, rfl, hS, f2⟩
        replace hS : St g (Arn a A2 :: cel b2 #[.int .i64 fk, .int .i64 fz] 77 :: cel b1 #[.int .i64 k, .int .i64 z] 77 :: L) w := hS
        refine WL.nil ?_
        refine ⟨by exact ⟨RQ.pure rfl rfl rfl rfl, RQ.pure rfl rfl rfl rfl, RQ.ldF rfl rfl 1 hS rfl rfl ag_77 rfl rfl⟩, ?_⟩
        refine WQ.nil ?_
        intro m2
        replace hS := hS.drewN m2; generalize hwm2 : World.drewN _ _ = w at *; clear hwm2
        refine WL.call rfl rfl (tw_bal (a := a) (A := A2) (R := R) (l := x1) (r := i1) (k := fk) (z := fz) (tl := ts) (tr := Tr.join tm k z tr) (hA := f2.ref.sw) (hl := (f2.kp x1 (by simp) ts f1.il)) (hr := f2.is) (hf := (by have := f2.fr; omega)) (hz := (by rw [(Tr.join_n _ _ _ _).1]; omega)) (hS := hS)) rfl ?_
        clear hS; rintro _ w ⟨A3, i2, rfl, hS, f3⟩
        replace hS : St g (Arn a A3 :: cel b2 #[.int .i64 fk, .int .i64 fz] 77 :: cel b1 #[.int .i64 k, .int .i64 z] 77 :: L) w := hS
        refine WL.nil ?_
        refine ⟨by exact trivial, ?_⟩
        refine WQ.r 1 rfl ?_
        refine WQ.nil ?_
        intro m3
        replace hS := hS.drewN m3; generalize hwm3 : World.drewN _ _ = w at *; clear hwm3
        as_aux_lemma =>
          refine WC.ret ?_
          refine ⟨[.int .u32 i2], rfl, ?_⟩
          replace hS := (hS.sel 3 [0] rfl)
          exact ⟨_, _, rfl, hS, by rw [hj.1, hj.2]; exact f3.after (f1.ch.trans f2.ch sb1 sb1) sb0 (by omega)⟩
      · refine WC.skip ?_
        refine WC.seq ?_
        refine WC.region ?_
        have hbn : ¬ Bal tl.n tr.n := (by unfold Bal; omega); obtain ⟨tm, fk, fz, ts, htr⟩ := not_nil (t := tr) (by omega); have htn : tr.n = tm.n + ts.n + 1 := (by rw [htr]; rfl); have hr2 : Is A (.node tm fk fz ts) r := htr ▸ hr; have hj := join_lt (k := k) (v := z) (l := tl) (by rw [← htr]; exact hbn) (by rw [← htr]; omega); rw [← htr] at hj
        refine WL.r 2 rfl ?_
        refine WL.call rfl rfl (tw_open (a := a) (A := A) (R := l :: R) (i := r) (k := fk) (z := fz) (l := tm) (r := ts) (hA := hA.sw) (hi := hr2) (hz := (by simp only [List.length_cons]; omega)) (hS := hS)) rfl ?_
        clear hS; rintro _ w ⟨A1, x1, y1, rfl, hS, f1⟩
        replace hS : St g (Arn a A1 :: cel b1 #[.int .i64 k, .int .i64 z] 77 :: L) w := hS
        refine WL.r 4 rfl ?_
        refine WL.new rfl rfl zv_77 hS (fun b2 w hS => ?_)
        refine WL.r 1 rfl ?_
        refine WL.stF rfl rfl rfl 0 hS rfl rfl rfl rfl rfl ag_77 (fun w hS => ?_)
        replace hS : St g (cel b2 #[.int .i64 fk, .int .i64 fz] 77 :: Arn a A1 :: cel b1 #[.int .i64 k, .int .i64 z] 77 :: L) w := hS
        refine WL.r 1 rfl ?_
        refine WL.nil ?_
        refine WC.seq ?_
        refine WC.plan [([0, 1, 2, 3, 4, 6, 7], some (5, [0, 6, 7])), ([], some (8, [])), ([9], none)] (by kernel_rfl) (by kernel_rfl) ?_
        have hr1 := f1.rng; have hl2 := f1.kp l (by simp) tl hl; have hfr1 := f1.fr
        refine WQ.r 3 rfl ?_
        refine WQ.ldF rfl rfl 2 hS rfl rfl ag_77 ?_
        refine WQ.r 1 rfl ?_
        refine WQ.ldF rfl rfl 0 hS rfl rfl ag_77 ?_
        refine WQ.r 1 rfl ?_
        refine WQ.nil ?_
        intro m1
        replace hS := hS.drewN m1; generalize hwm1 : World.drewN _ _ = w at *; clear hwm1
        refine WL.call rfl rfl (ih (tl.n + tm.n) (by omega) _ _ _ a A1 (y1 :: R) l x1 k z tl tm (f1.ref.r3) (hl2) (f1.il) ((by omega)) ((by simp only [List.length_cons]; omega)) rfl (hS.sel 2 [1, 0] rfl)) rfl ?_
        clear hS; rintro _ w ⟨A2, i1, rfl, hS, f2⟩
        replace hS : St g (Arn a A2 :: cel b2 #[.int .i64 fk, .int .i64 fz] 77 :: cel b1 #[.int .i64 k, .int .i64 z] 77 :: L) w := hS
        refine WL.nil ?_
        refine ⟨by exact ⟨RQ.pure rfl rfl rfl rfl, RQ.ldF rfl rfl 1 hS rfl rfl ag_77 rfl rfl, RQ.pure rfl rfl rfl rfl⟩, ?_⟩
        refine WQ.nil ?_
        intro m2
        replace hS := hS.drewN m2; generalize hwm2 : World.drewN _ _ = w at *; clear hwm2
        refine WL.call rfl rfl (tw_bal (a := a) (A := A2) (R := R) (l := i1) (r := y1) (k := fk) (z := fz) (tl := Tr.join tl k z tm) (tr := ts) (hA := f2.ref) (hl := f2.is) (hr := (f2.kp y1 (by simp) ts f1.ir)) (hf := (by have := f2.fr; omega)) (hz := (by rw [(Tr.join_n _ _ _ _).1]; omega)) (hS := hS)) rfl ?_
        clear hS; rintro _ w ⟨A3, i2, rfl, hS, f3⟩
        replace hS : St g (Arn a A3 :: cel b2 #[.int .i64 fk, .int .i64 fz] 77 :: cel b1 #[.int .i64 k, .int .i64 z] 77 :: L) w := hS
        refine WL.nil ?_
        refine ⟨by exact trivial, ?_⟩
        refine WQ.r 1 rfl ?_
        refine WQ.nil ?_
        intro m3
        replace hS := hS.drewN m3; generalize hwm3 : World.drewN _ _ = w at *; clear hwm3
        as_aux_lemma =>
          refine WC.ret ?_
          refine ⟨[.int .u32 i2], rfl, ?_⟩
          replace hS := (hS.sel 3 [0] rfl)
          exact ⟨_, _, rfl, hS, by rw [hj.1, hj.2]; exact f3.after (f1.ch.trans f2.ch sb1 sb1) sb0 (by omega)⟩
theorem tw_join_all (nM : Nat) : ∀ (g w : World) (L : List HP) (a : Nat) (A : AM) (R : List Int) (l r k z : Int) (tl tr : Tr), (ARf A (l :: r :: R)) → (Is A tl l) → (Is A tr r) → ((Tr.jc tl tr : Int) ≤ A.s.free) → (R.length + tl.n + tr.n ≤ 700000000) → tl.n + tr.n = nM → St g (Arn a A :: L) w → Sp Tryz.prog 187 [.pointer (some ⟨a, 0, none⟩), .int .u32 l, .agg #[.int .i64 k, .int .i64 z], .int .u32 r] w (fun v w' => ∃ (A2 : AM) (i : Int), v = .int .u32 i ∧ St g (Arn a A2 :: L) w' ∧ (TOp A A2 R i (Tr.join tl k z tr) (Tr.jc tl tr))) := by
  induction nM using Nat.strongRecOn with
  | _ nM ih => intro g w L a A R l r k z tl tr hA hl hr hf hz hM hS; exact tw_join_step nM ih a A R l r k z tl tr hA hl hr hf hz hM hS
theorem tw_join {g w : World} {L : List HP} (a : Nat) (A : AM) (R : List Int) (l r k z : Int) (tl tr : Tr) (hA : ARf A (l :: r :: R)) (hl : Is A tl l) (hr : Is A tr r) (hf : (Tr.jc tl tr : Int) ≤ A.s.free) (hz : R.length + tl.n + tr.n ≤ 700000000) (hS : St g (Arn a A :: L) w) :
    Sp Tryz.prog 187 [.pointer (some ⟨a, 0, none⟩), .int .u32 l, .agg #[.int .i64 k, .int .i64 z], .int .u32 r] w (fun v w' => ∃ (A2 : AM) (i : Int), v = .int .u32 i ∧ St g (Arn a A2 :: L) w' ∧ (TOp A A2 R i (Tr.join tl k z tr) (Tr.jc tl tr))) := tw_join_all _ g w L a A R l r k z tl tr hA hl hr hf hz rfl hS
end Go.Proofs.YtlnlnebibgdjdaaGreat
/-! ## W4 -/
namespace Go.Proofs.YtlnlnebibgdjdaaGreat
open Go Go.V
theorem pop_step {l r : Tr} {k v : Int} (h : r ≠ .nil) : Tr.pop (.node l k v r) = (Tr.join l k v (Tr.pop r).1, (Tr.pop r).2) ∧ Tr.pc (.node l k v r) = Tr.pc r + Tr.jc l (Tr.pop r).1 := by
  cases r with
  | nil => exact absurd rfl h
  | node a b c d => exact ⟨by rw [Tr.pop], by rw [Tr.pc]⟩
theorem cat_step {l r : Tr} (hl : l ≠ .nil) (hr : r ≠ .nil) : Tr.cat l r = Tr.join (Tr.pop l).1 (Tr.pop l).2.1 (Tr.pop l).2.2 r ∧ Tr.cc l r = Tr.pc l + Tr.jc (Tr.pop l).1 r := by
  cases l with
  | nil => exact absurd rfl hl
  | node a b c d =>
    cases r with
    | nil => exact absurd rfl hr
    | node a' b' c' d' => exact ⟨rfl, rfl⟩
theorem cat_nilR {l : Tr} : Tr.cat l .nil = l := by cases l <;> rfl
theorem nil_or {t : Tr} (h : t ≠ .nil) : ∃ l k v r, t = .node l k v r := by
  cases t with
  | nil => exact absurd rfl h
  | node l k v r => exact ⟨l, k, v, r, rfl⟩
set_option maxHeartbeats 1000000 in
set_option maxRecDepth 8192 in
theorem tw_pop_step (nM : Nat) (ih : ∀ mM : Nat, mM < nM → ∀ (g w : World) (L : List HP) (a : Nat) (A : AM) (R : List Int) (i : Int) (t : Tr), (ARf A (i :: R)) → (Is A t i) → (t ≠ .nil) → ((Tr.pc t : Int) ≤ A.s.free) → (R.length + t.n ≤ 650000000) → t.n = mM → St g (Arn a A :: L) w → Sp Tryz.prog 238 [.pointer (some ⟨a, 0, none⟩), .int .u32 i] w (fun v w' => ∃ (A2 : AM) (j : Int), v = .tuple #[.int .u32 j, .agg #[.int .i64 (Tr.pop t).2.1, .int .i64 (Tr.pop t).2.2]] ∧ St g (Arn a A2 :: L) w' ∧ (TOp A A2 R j (Tr.pop t).1 (Tr.pc t)))) {g w : World} {L : List HP} (a : Nat) (A : AM) (R : List Int) (i : Int) (t : Tr) (hA : ARf A (i :: R)) (hi : Is A t i) (hne : t ≠ .nil) (hf : (Tr.pc t : Int) ≤ A.s.free) (hz : R.length + t.n ≤ 650000000) (hM : t.n = nM) (hS : St g (Arn a A :: L) w) :
    Sp Tryz.prog 238 [.pointer (some ⟨a, 0, none⟩), .int .u32 i] w (fun v w' => ∃ (A2 : AM) (j : Int), v = .tuple #[.int .u32 j, .agg #[.int .i64 (Tr.pop t).2.1, .int .i64 (Tr.pop t).2.2]] ∧ St g (Arn a A2 :: L) w' ∧ (TOp A A2 R j (Tr.pop t).1 (Tr.pc t))) := by
  refine Sp.enter Tryz.func238 rfl (by kernel_rfl) (by kernel_rfl) ?_
  have _ := hz
  have _ := hf
  refine WC.seq ?_
  refine WC.region ?_
  refine WL.r 1 rfl ?_
  refine WL.new rfl rfl zv_77 hS (fun b1 w hS => ?_)
  refine WL.nil ?_
  refine WC.seq ?_
  refine WC.region ?_
  obtain ⟨tl, k, z, tr, ht⟩ := nil_or hne; have htn : t.n = tl.n + tr.n + 1 := (by rw [ht]; rfl); have hi2 : Is A (.node tl k z tr) i := ht ▸ hi
  refine WL.r 2 rfl ?_
  refine WL.call rfl rfl (tw_open (a := a) (A := A) (R := R) (i := i) (k := k) (z := z) (l := tl) (r := tr) (hA := hA) (hi := hi2) (hz := (by omega)) (hS := (hS.sel 2 [1, 0] rfl))) rfl ?_
  clear hS; rintro _ w ⟨A1, x1, y1, rfl, hS, f1⟩
  replace hS : St g (Arn a A1 :: cel b1 #[.int .i64 0, .int .i64 0] 77 :: L) w := hS
  refine WL.r 4 rfl ?_
  refine WL.new rfl rfl zv_77 hS (fun b2 w hS => ?_)
  refine WL.r 1 rfl ?_
  refine WL.stF rfl rfl rfl 0 hS rfl rfl rfl rfl rfl ag_77 (fun w hS => ?_)
  replace hS : St g (cel b2 #[.int .i64 k, .int .i64 z] 77 :: Arn a A1 :: cel b1 #[.int .i64 0, .int .i64 0] 77 :: L) w := hS
  refine WL.r 1 rfl ?_
  refine WL.nil ?_
  refine WC.seq ?_
  refine WC.seq ?_
  refine WC.region ?_
  have hr1 := f1.rng; have hx0 := Is.nil_iff f1.ir; have hfr1 := f1.fr
  refine WL.r 2 rfl ?_
  refine WL.nil ?_
  as_aux_lemma =>
    refine WC.ifP rfl (fun hy => ?_) (fun hy => ?_)
    · refine WC.seq ?_
      refine WC.plan [([0, 2], some (1, [0, 2])), ([], some (3, []))] (by kernel_rfl) (by kernel_rfl) ?_
      refine WQ.r 2 rfl ?_
      refine WQ.nil ?_
      intro m1
      replace hS := hS.drewN m1; generalize hwm1 : World.drewN _ _ = w at *; clear hwm1
      refine WL.ldF rfl rfl 0 hS rfl rfl ag_77 ?_
      refine WL.nil ?_
      refine ⟨by exact ⟨RQ.pure rfl rfl rfl rfl, RQ.pure rfl rfl rfl rfl⟩, ?_⟩
      refine WQ.nil ?_
      intro m2
      replace hS := hS.drewN m2; generalize hwm2 : World.drewN _ _ = w at *; clear hwm2
      refine WL.stF rfl rfl rfl 2 hS rfl rfl rfl rfl rfl ag_77 (fun w hS => ?_)
      replace hS : St g (cel b2 #[.int .i64 k, .int .i64 z] 77 :: Arn a A1 :: cel b1 #[.int .i64 k, .int .i64 z] 77 :: L) w := hS
      refine WL.nil ?_
      refine ⟨by exact trivial, ?_⟩
      intro m3
      replace hS := hS.drewN m3; generalize hwm3 : World.drewN _ _ = w at *; clear hwm3
      refine WC.ret ?_
      refine ⟨[.int .u32 x1, .agg #[.int .i64 k, .int .i64 z]], ⟨rfl, ⟨_, rfl, hS.lvF 2 rfl ag_77⟩, trivial⟩, ?_⟩
      replace hS := (hS.sel 3 [1] rfl)
      have hrn := hx0.1 hy; subst hrn; subst hy; subst ht; exact ⟨_, _, rfl, hS, ⟨f1.ref.sw.tail0, f1.il, f1.kp, by have := f1.fr; omega, f1.cap⟩⟩
    · refine WC.skip ?_
      refine WC.seq ?_
      refine WC.region ?_
      have hrn : tr ≠ .nil := (fun e => hy (hx0.2 e)); have hps := pop_step (l := tl) (k := k) (v := z) hrn; rw [← ht] at hps; have hpn := Tr.pop_n tr hrn
      refine WL.r 2 rfl ?_
      refine WL.call rfl rfl (ih (tr.n) (by omega) _ _ _ a A1 (x1 :: R) y1 tr (f1.swap) (f1.ir) (hrn) ((by omega)) ((by simp only [List.length_cons]; omega)) rfl (hS.sel 2 [1, 0] rfl)) rfl ?_
      clear hS; rintro _ w ⟨A2, j1, rfl, hS, f2⟩
      replace hS : St g (Arn a A2 :: cel b2 #[.int .i64 k, .int .i64 z] 77 :: cel b1 #[.int .i64 0, .int .i64 0] 77 :: L) w := hS
      refine WL.r 3 rfl ?_
      refine WL.new rfl rfl zv_77 hS (fun b3 w hS => ?_)
      refine WL.r 1 rfl ?_
      refine WL.stF rfl rfl rfl 0 hS rfl rfl rfl rfl rfl ag_77 (fun w hS => ?_)
      replace hS : St g (cel b3 #[.int .i64 (Tr.pop tr).2.1, .int .i64 (Tr.pop tr).2.2] 77 :: Arn a A2 :: cel b2 #[.int .i64 k, .int .i64 z] 77 :: cel b1 #[.int .i64 0, .int .i64 0] 77 :: L) w := hS
      refine WL.nil ?_
      refine WC.seq ?_
      refine WC.plan [([0, 1, 2, 3, 5], some (4, [5])), ([6], some (7, []))] (by kernel_rfl) (by kernel_rfl) ?_
      refine WQ.r 2 rfl ?_
      refine WQ.ldF rfl rfl 2 hS rfl rfl ag_77 ?_
      refine WQ.r 1 rfl ?_
      refine WQ.ldF rfl rfl 0 hS rfl rfl ag_77 ?_
      refine WQ.nil ?_
      intro m1
      replace hS := hS.drewN m1; generalize hwm1 : World.drewN _ _ = w at *; clear hwm1
      refine WL.call rfl rfl (tw_join (a := a) (A := A2) (R := R) (l := x1) (r := j1) (k := k) (z := z) (tl := tl) (tr := (Tr.pop tr).1) (hA := f2.ref.sw) (hl := (f2.kp x1 (by simp) tl f1.il)) (hr := f2.is) (hf := (by have := f2.fr; omega)) (hz := (by omega)) (hS := (hS.sel 2 [1, 0] rfl))) rfl ?_
      clear hS; rintro _ w ⟨A3, i1, rfl, hS, f3⟩
      replace hS : St g (Arn a A3 :: cel b3 #[.int .i64 (Tr.pop tr).2.1, .int .i64 (Tr.pop tr).2.2] 77 :: cel b2 #[.int .i64 k, .int .i64 z] 77 :: cel b1 #[.int .i64 0, .int .i64 0] 77 :: L) w := hS
      refine WL.nil ?_
      refine ⟨by exact RQ.ldF rfl rfl 1 hS rfl rfl ag_77 rfl rfl, ?_⟩
      refine WQ.r 1 rfl ?_
      refine WQ.nil ?_
      intro m2
      replace hS := hS.drewN m2; generalize hwm2 : World.drewN _ _ = w at *; clear hwm2
      refine WL.stF rfl rfl rfl 3 hS rfl rfl rfl rfl rfl ag_77 (fun w hS => ?_)
      replace hS : St g (Arn a A3 :: cel b3 #[.int .i64 (Tr.pop tr).2.1, .int .i64 (Tr.pop tr).2.2] 77 :: cel b2 #[.int .i64 k, .int .i64 z] 77 :: cel b1 #[.int .i64 (Tr.pop tr).2.1, .int .i64 (Tr.pop tr).2.2] 77 :: L) w := hS
      refine WL.nil ?_
      refine ⟨by exact trivial, ?_⟩
      intro m3
      replace hS := hS.drewN m3; generalize hwm3 : World.drewN _ _ = w at *; clear hwm3
      as_aux_lemma =>
        refine WC.ret ?_
        refine ⟨[.int .u32 i1, .agg #[.int .i64 (Tr.pop tr).2.1, .int .i64 (Tr.pop tr).2.2]], ⟨rfl, ⟨_, rfl, hS.lvF 3 rfl ag_77⟩, trivial⟩, ?_⟩
        replace hS := (hS.sel 4 [0] rfl)
        exact ⟨_, _, by rw [hps.1]; rfl, hS, by rw [hps.1, hps.2]; exact f3.after (f1.ch.trans f2.ch sb0 sb1) sb0 (by omega)⟩
theorem tw_pop_all (nM : Nat) : ∀ (g w : World) (L : List HP) (a : Nat) (A : AM) (R : List Int) (i : Int) (t : Tr), (ARf A (i :: R)) → (Is A t i) → (t ≠ .nil) → ((Tr.pc t : Int) ≤ A.s.free) → (R.length + t.n ≤ 650000000) → t.n = nM → St g (Arn a A :: L) w → Sp Tryz.prog 238 [.pointer (some ⟨a, 0, none⟩), .int .u32 i] w (fun v w' => ∃ (A2 : AM) (j : Int), v = .tuple #[.int .u32 j, .agg #[.int .i64 (Tr.pop t).2.1, .int .i64 (Tr.pop t).2.2]] ∧ St g (Arn a A2 :: L) w' ∧ (TOp A A2 R j (Tr.pop t).1 (Tr.pc t))) := by
  induction nM using Nat.strongRecOn with
  | _ nM ih => intro g w L a A R i t hA hi hne hf hz hM hS; exact tw_pop_step nM ih a A R i t hA hi hne hf hz hM hS
theorem tw_pop {g w : World} {L : List HP} (a : Nat) (A : AM) (R : List Int) (i : Int) (t : Tr) (hA : ARf A (i :: R)) (hi : Is A t i) (hne : t ≠ .nil) (hf : (Tr.pc t : Int) ≤ A.s.free) (hz : R.length + t.n ≤ 650000000) (hS : St g (Arn a A :: L) w) :
    Sp Tryz.prog 238 [.pointer (some ⟨a, 0, none⟩), .int .u32 i] w (fun v w' => ∃ (A2 : AM) (j : Int), v = .tuple #[.int .u32 j, .agg #[.int .i64 (Tr.pop t).2.1, .int .i64 (Tr.pop t).2.2]] ∧ St g (Arn a A2 :: L) w' ∧ (TOp A A2 R j (Tr.pop t).1 (Tr.pc t))) := tw_pop_all _ g w L a A R i t hA hi hne hf hz rfl hS
set_option maxRecDepth 8192 in
theorem tw_cat {g w : World} {L : List HP} (a : Nat) (A : AM) (R : List Int) (l r : Int) (tl tr : Tr) (hA : ARf A (l :: r :: R)) (hl : Is A tl l) (hr : Is A tr r) (hf : (Tr.cc tl tr : Int) ≤ A.s.free) (hz : R.length + tl.n + tr.n ≤ 600000000) (hS : St g (Arn a A :: L) w) :
    Sp Tryz.prog 198 [.pointer (some ⟨a, 0, none⟩), .int .u32 l, .int .u32 r] w (fun v w' => ∃ (A2 : AM) (i : Int), v = .int .u32 i ∧ St g (Arn a A2 :: L) w' ∧ (TOp A A2 R i (Tr.cat tl tr) (Tr.cc tl tr))) := by
  refine Sp.enter Tryz.func198 rfl (by kernel_rfl) (by kernel_rfl) ?_
  have _ := hz
  have _ := hf
  refine WC.seq ?_
  refine WC.region ?_
  refine WL.r 1 rfl ?_
  refine WL.nil ?_
  refine WC.seq ?_
  refine WC.seq ?_
  refine WC.region ?_
  have hl0 := Is.nil_iff hl; have hr0 := Is.nil_iff hr
  refine WL.r 2 rfl ?_
  refine WL.nil ?_
  refine WC.ifP rfl (fun hx => ?_) (fun hx => ?_)
  · refine WC.seq ?_
    refine WC.region ?_
    refine WL.r 2 rfl ?_
    refine WL.nil ?_
    refine WC.ret ?_
    refine ⟨[.int .u32 r], rfl, ?_⟩
    have h9 := hl0.1 hx; subst hx; subst h9; exact ⟨_, _, rfl, hS, ARf.refl hA.tail0 hr⟩
  · refine WC.skip ?_
    refine WC.seq ?_
    refine WC.seq ?_
    refine WC.region ?_
    refine WL.r 2 rfl ?_
    refine WL.nil ?_
    refine WC.ifP rfl (fun hy => ?_) (fun hy => ?_)
    · refine WC.seq ?_
      refine WC.region ?_
      refine WL.r 2 rfl ?_
      refine WL.nil ?_
      refine WC.ret ?_
      refine ⟨[.int .u32 l], rfl, ?_⟩
      have h9 := hr0.1 hy; subst hy; subst h9; exact ⟨_, _, rfl, hS, by rw [cat_nilR]; exact (ARf.refl hA.sw.tail0 hl).weak (Nat.zero_le _)⟩
    · refine WC.skip ?_
      refine WC.seq ?_
      refine WC.region ?_
      have hln : tl ≠ .nil := (fun e => hx (hl0.2 e)); have hcs := cat_step hln (fun e => hy (hr0.2 e)); have hpn := Tr.pop_n tl hln
      refine WL.r 2 rfl ?_
      refine WL.call rfl rfl (tw_pop (a := a) (A := A) (R := r :: R) (i := l) (t := tl) (hA := hA) (hi := hl) (hne := hln) (hf := (by omega)) (hz := (by simp only [List.length_cons]; omega)) (hS := hS)) rfl ?_
      clear hS; rintro _ w ⟨A1, j1, rfl, hS, f1⟩
      replace hS : St g (Arn a A1 :: L) w := hS
      refine WL.r 3 rfl ?_
      refine WL.new rfl rfl zv_77 hS (fun b1 w hS => ?_)
      refine WL.r 1 rfl ?_
      refine WL.stF rfl rfl rfl 0 hS rfl rfl rfl rfl rfl ag_77 (fun w hS => ?_)
      replace hS : St g (cel b1 #[.int .i64 (Tr.pop tl).2.1, .int .i64 (Tr.pop tl).2.2] 77 :: Arn a A1 :: L) w := hS
      refine WL.nil ?_
      as_aux_lemma =>
        refine WC.seq ?_
        refine WC.region ?_
        refine WL.r 2 rfl ?_
        refine WL.ldF rfl rfl 0 hS rfl rfl ag_77 ?_
        refine WL.r 1 rfl ?_
        refine WL.call rfl rfl (tw_join (a := a) (A := A1) (R := R) (l := j1) (r := r) (k := (Tr.pop tl).2.1) (z := (Tr.pop tl).2.2) (tl := (Tr.pop tl).1) (tr := tr) (hA := f1.ref) (hl := f1.is) (hr := (f1.kp r (by simp) tr hr)) (hf := (by have := f1.fr; omega)) (hz := (by omega)) (hS := (hS.sel 2 [1, 0] rfl))) rfl ?_
        clear hS; rintro _ w ⟨A2, i1, rfl, hS, f2⟩
        replace hS : St g (Arn a A2 :: cel b1 #[.int .i64 (Tr.pop tl).2.1, .int .i64 (Tr.pop tl).2.2] 77 :: L) w := hS
        refine WL.r 1 rfl ?_
        refine WL.nil ?_
        refine WC.ret ?_
        refine ⟨[.int .u32 i1], rfl, ?_⟩
        replace hS := (hS.sel 2 [0] rfl)
        exact ⟨_, _, rfl, hS, by rw [hcs.1, hcs.2]; exact f2.after f1.ch sb1 (by omega)⟩
set_option maxHeartbeats 1000000 in
set_option maxRecDepth 8192 in
theorem tw_ins_step (nM : Nat) (ih : ∀ mM : Nat, mM < nM → ∀ (g w : World) (L : List HP) (a : Nat) (A : AM) (R : List Int) (i k z : Int) (t : Tr), (ARf A (i :: R)) → (Is A t i) → ((Tr.ic k z t : Int) ≤ A.s.free) → (R.length + t.n ≤ 600000000) → t.n = mM → St g (Arn a A :: L) w → Sp Tryz.prog 129 [.pointer (some ⟨a, 0, none⟩), .int .u32 i, .agg #[.int .i64 k, .int .i64 z]] w (fun v w' => ∃ (A2 : AM) (j : Int), v = .int .u32 j ∧ St g (Arn a A2 :: L) w' ∧ (TOp A A2 R j (Tr.ins k z t) (Tr.ic k z t)))) {g w : World} {L : List HP} (a : Nat) (A : AM) (R : List Int) (i k z : Int) (t : Tr) (hA : ARf A (i :: R)) (hi : Is A t i) (hf : (Tr.ic k z t : Int) ≤ A.s.free) (hz : R.length + t.n ≤ 600000000) (hM : t.n = nM) (hS : St g (Arn a A :: L) w) :
    Sp Tryz.prog 129 [.pointer (some ⟨a, 0, none⟩), .int .u32 i, .agg #[.int .i64 k, .int .i64 z]] w (fun v w' => ∃ (A2 : AM) (j : Int), v = .int .u32 j ∧ St g (Arn a A2 :: L) w' ∧ (TOp A A2 R j (Tr.ins k z t) (Tr.ic k z t))) := by
  refine Sp.enter Tryz.func129 rfl (by kernel_rfl) (by kernel_rfl) ?_
  have _ := hz
  have _ := hf
  refine WC.seq ?_
  refine WC.region ?_
  refine WL.box rfl rfl #[.int .i64 k, .int .i64 z] hS rfl rfl (fun b1 w hS => ?_)
  refine WL.r 1 rfl ?_
  refine WL.nil ?_
  refine WC.seq ?_
  refine WC.seq ?_
  refine WC.region ?_
  have hx0 := Is.nil_iff hi
  refine WL.r 2 rfl ?_
  refine WL.nil ?_
  refine WC.ifP rfl (fun hx => ?_) (fun hx => ?_)
  · refine WC.seq ?_
    refine WC.region ?_
    have h9 := hx0.1 hx; subst h9; have hA0 : ARf A (0 :: 0 :: R) := (by rw [hx] at hA; exact hA.cons0 (by simp; omega)); have hf1 : Tr.ic k z .nil = 1 := rfl
    refine WL.r 1 rfl ?_
    refine WL.ldF rfl rfl 0 hS rfl rfl ag_77 ?_
    refine WL.call rfl rfl (tw_node (a := a) (A := A) (R := R) (l := 0) (r := 0) (k := k) (z := z) (tl := .nil) (tr := .nil) (hA := hA0) (hl := rfl) (hr := rfl) (hf := (by omega)) (hz := (by simp only [Tr.n]; omega)) (hS := (hS.sel 2 [1, 0] rfl))) rfl ?_
    clear hS; rintro _ w ⟨A1, i1, rfl, hS, f1⟩
    replace hS : St g (Arn a A1 :: cel b1 #[.int .i64 k, .int .i64 z] 77 :: L) w := hS
    refine WL.r 1 rfl ?_
    refine WL.nil ?_
    refine WC.ret ?_
    refine ⟨[.int .u32 i1], rfl, ?_⟩
    replace hS := (hS.sel 2 [0] rfl)
    exact ⟨_, _, rfl, hS, f1⟩
  · refine WC.skip ?_
    refine WC.seq ?_
    refine WC.region ?_
    obtain ⟨tl, fk, fz, tr, ht⟩ := nil_or (t := t) (fun e => hx (hx0.2 e)); have htn : t.n = tl.n + tr.n + 1 := (by rw [ht]; rfl); have hi2 : Is A (.node tl fk fz tr) i := ht ▸ hi
    refine WL.r 2 rfl ?_
    refine WL.call rfl rfl (tw_open (a := a) (A := A) (R := R) (i := i) (k := fk) (z := fz) (l := tl) (r := tr) (hA := hA) (hi := hi2) (hz := (by omega)) (hS := (hS.sel 2 [1, 0] rfl))) rfl ?_
    clear hS; rintro _ w ⟨A1, x1, y1, rfl, hS, f1⟩
    replace hS : St g (Arn a A1 :: cel b1 #[.int .i64 k, .int .i64 z] 77 :: L) w := hS
    refine WL.r 4 rfl ?_
    refine WL.new rfl rfl zv_77 hS (fun b2 w hS => ?_)
    refine WL.r 1 rfl ?_
    refine WL.stF rfl rfl rfl 0 hS rfl rfl rfl rfl rfl ag_77 (fun w hS => ?_)
    replace hS : St g (cel b2 #[.int .i64 fk, .int .i64 fz] 77 :: Arn a A1 :: cel b1 #[.int .i64 k, .int .i64 z] 77 :: L) w := hS
    refine WL.r 1 rfl ?_
    refine WL.nil ?_
    as_aux_lemma =>
      refine WC.seq ?_
      refine WC.block ?_
      refine WC.seq ?_
      refine WC.region ?_
      have hr1 := f1.rng; have hfr1 := f1.fr
      refine WL.run 6 [.int .i64 k, .int .i64 fk] rfl (by exact ⟨hS.ld 2 rfl rfl, hS.ld 0 rfl rfl⟩) ?_
      refine WL.nil ?_
      refine WC.ifP rfl (fun hlt => ?_) (fun hlt => ?_)
      · refine WC.seq ?_
        refine WC.plan [([0, 1, 2, 3, 5, 6], some (4, [0, 5, 6])), ([], some (7, [])), ([8], none)] (by kernel_rfl) (by kernel_rfl) ?_
        have hie : Tr.ic k z t = Tr.ic k z tl + Tr.jc (Tr.ins k z tl) tr := (by rw [ht, Tr.ic, if_pos hlt]); have hne : Tr.ins k z t = Tr.join (Tr.ins k z tl) fk fz tr := (by rw [ht, Tr.ins, if_pos hlt]); have hin := Tr.ins_n k z tl
        refine WQ.r 3 rfl ?_
        refine WQ.ldF rfl rfl 2 hS rfl rfl ag_77 ?_
        refine WQ.ldF rfl rfl 0 hS rfl rfl ag_77 ?_
        refine WQ.r 1 rfl ?_
        refine WQ.nil ?_
        intro m1
        replace hS := hS.drewN m1; generalize hwm1 : World.drewN _ _ = w at *; clear hwm1
        refine WL.call rfl rfl (ih (tl.n) (by omega) _ _ _ a A1 (y1 :: R) x1 k z tl (f1.ref) (f1.il) ((by omega)) ((by simp only [List.length_cons]; omega)) rfl (hS.sel 2 [1, 0] rfl)) rfl ?_
        clear hS; rintro _ w ⟨A2, j1, rfl, hS, f2⟩
        replace hS : St g (Arn a A2 :: cel b2 #[.int .i64 fk, .int .i64 fz] 77 :: cel b1 #[.int .i64 k, .int .i64 z] 77 :: L) w := hS
        refine WL.nil ?_
        refine ⟨by exact ⟨RQ.pure rfl rfl rfl rfl, RQ.ldF rfl rfl 1 hS rfl rfl ag_77 rfl rfl, RQ.pure rfl rfl rfl rfl⟩, ?_⟩
        refine WQ.nil ?_
        intro m2
        replace hS := hS.drewN m2; generalize hwm2 : World.drewN _ _ = w at *; clear hwm2
        refine WL.call rfl rfl (tw_join (a := a) (A := A2) (R := R) (l := j1) (r := y1) (k := fk) (z := fz) (tl := Tr.ins k z tl) (tr := tr) (hA := f2.ref) (hl := f2.is) (hr := (f2.kp y1 (by simp) tr f1.ir)) (hf := (by have := f2.fr; omega)) (hz := (by split at hin <;> omega)) (hS := hS)) rfl ?_
        clear hS; rintro _ w ⟨A3, i1, rfl, hS, f3⟩
        replace hS : St g (Arn a A3 :: cel b2 #[.int .i64 fk, .int .i64 fz] 77 :: cel b1 #[.int .i64 k, .int .i64 z] 77 :: L) w := hS
        refine WL.nil ?_
        refine ⟨by exact trivial, ?_⟩
        refine WQ.r 1 rfl ?_
        refine WQ.nil ?_
        intro m3
        replace hS := hS.drewN m3; generalize hwm3 : World.drewN _ _ = w at *; clear hwm3
        as_aux_lemma =>
          refine WC.ret ?_
          refine ⟨[.int .u32 i1], rfl, ?_⟩
          replace hS := (hS.sel 3 [0] rfl)
          exact ⟨_, _, rfl, hS, by rw [hne, hie]; exact f3.after (f1.ch.trans f2.ch sb0 sb1) sb0 (by omega)⟩
      · refine WC.seq ?_
        refine WC.region ?_
        refine WL.run 6 [.int .i64 k, .int .i64 fk] rfl (by exact ⟨hS.ld 2 rfl rfl, hS.ld 0 rfl rfl⟩) ?_
        refine WL.nil ?_
        refine WC.ifP rfl (fun hgt => ?_) (fun hgt => ?_)
        · refine WC.seq ?_
          refine WC.plan [([0, 1, 2, 3, 4, 5], some (6, [0, 1, 2])), ([], some (7, [])), ([8], none)] (by kernel_rfl) (by kernel_rfl) ?_
          have hie : Tr.ic k z t = Tr.ic k z tr + Tr.jc tl (Tr.ins k z tr) := (by rw [ht, Tr.ic, if_neg hlt, if_pos hgt]); have hne : Tr.ins k z t = Tr.join tl fk fz (Tr.ins k z tr) := (by rw [ht, Tr.ins, if_neg hlt, if_pos hgt]); have hin := Tr.ins_n k z tr
          refine WQ.r 2 rfl ?_
          refine WQ.ldF rfl rfl 0 hS rfl rfl ag_77 ?_
          refine WQ.r 2 rfl ?_
          refine WQ.ldF rfl rfl 2 hS rfl rfl ag_77 ?_
          refine WQ.nil ?_
          intro m1
          replace hS := hS.drewN m1; generalize hwm1 : World.drewN _ _ = w at *; clear hwm1
          refine WL.call rfl rfl (ih (tr.n) (by omega) _ _ _ a A1 (x1 :: R) y1 k z tr (f1.swap) (f1.ir) ((by omega)) ((by simp only [List.length_cons]; omega)) rfl (hS.sel 2 [1, 0] rfl)) rfl ?_
          clear hS; rintro _ w ⟨A2, j1, rfl, hS, f2⟩
          replace hS : St g (Arn a A2 :: cel b2 #[.int .i64 fk, .int .i64 fz] 77 :: cel b1 #[.int .i64 k, .int .i64 z] 77 :: L) w := hS
          refine WL.nil ?_
          refine ⟨by exact ⟨RQ.pure rfl rfl rfl rfl, RQ.pure rfl rfl rfl rfl, RQ.ldF rfl rfl 1 hS rfl rfl ag_77 rfl rfl⟩, ?_⟩
          refine WQ.nil ?_
          intro m2
          replace hS := hS.drewN m2; generalize hwm2 : World.drewN _ _ = w at *; clear hwm2
          refine WL.call rfl rfl (tw_join (a := a) (A := A2) (R := R) (l := x1) (r := j1) (k := fk) (z := fz) (tl := tl) (tr := Tr.ins k z tr) (hA := f2.ref.sw) (hl := (f2.kp x1 (by simp) tl f1.il)) (hr := f2.is) (hf := (by have := f2.fr; omega)) (hz := (by split at hin <;> omega)) (hS := hS)) rfl ?_
          clear hS; rintro _ w ⟨A3, i1, rfl, hS, f3⟩
          replace hS : St g (Arn a A3 :: cel b2 #[.int .i64 fk, .int .i64 fz] 77 :: cel b1 #[.int .i64 k, .int .i64 z] 77 :: L) w := hS
          refine WL.nil ?_
          refine ⟨by exact trivial, ?_⟩
          refine WQ.r 1 rfl ?_
          refine WQ.nil ?_
          intro m3
          replace hS := hS.drewN m3; generalize hwm3 : World.drewN _ _ = w at *; clear hwm3
          as_aux_lemma =>
            refine WC.ret ?_
            refine ⟨[.int .u32 i1], rfl, ?_⟩
            replace hS := (hS.sel 3 [0] rfl)
            exact ⟨_, _, rfl, hS, by rw [hne, hie]; exact f3.after (f1.ch.trans f2.ch sb0 sb1) sb0 (by omega)⟩
        · refine WC.skip ?_
          refine WC.seq ?_
          refine WC.region ?_
          have hie : Tr.ic k z t = 1 := (by rw [ht, Tr.ic, if_neg hlt, if_neg hgt]); have hne : Tr.ins k z t = .node tl k z tr := (by rw [ht, Tr.ins, if_neg hlt, if_neg hgt])
          refine WL.r 2 rfl ?_
          refine WL.ldF rfl rfl 2 hS rfl rfl ag_77 ?_
          refine WL.r 1 rfl ?_
          refine WL.call rfl rfl (tw_node (a := a) (A := A1) (R := R) (l := x1) (r := y1) (k := k) (z := z) (tl := tl) (tr := tr) (hA := f1.ref) (hl := f1.il) (hr := f1.ir) (hf := (by omega)) (hz := (by omega)) (hS := (hS.sel 2 [1, 0] rfl))) rfl ?_
          clear hS; rintro _ w ⟨A2, i1, rfl, hS, f2⟩
          replace hS : St g (Arn a A2 :: cel b2 #[.int .i64 fk, .int .i64 fz] 77 :: cel b1 #[.int .i64 k, .int .i64 z] 77 :: L) w := hS
          refine WL.r 1 rfl ?_
          refine WL.nil ?_
          as_aux_lemma =>
            refine WC.ret ?_
            refine ⟨[.int .u32 i1], rfl, ?_⟩
            replace hS := (hS.sel 3 [0] rfl)
            exact ⟨_, _, rfl, hS, by rw [hne, hie]; exact f2.after f1.ch sb0 (by omega)⟩
theorem tw_ins_all (nM : Nat) : ∀ (g w : World) (L : List HP) (a : Nat) (A : AM) (R : List Int) (i k z : Int) (t : Tr), (ARf A (i :: R)) → (Is A t i) → ((Tr.ic k z t : Int) ≤ A.s.free) → (R.length + t.n ≤ 600000000) → t.n = nM → St g (Arn a A :: L) w → Sp Tryz.prog 129 [.pointer (some ⟨a, 0, none⟩), .int .u32 i, .agg #[.int .i64 k, .int .i64 z]] w (fun v w' => ∃ (A2 : AM) (j : Int), v = .int .u32 j ∧ St g (Arn a A2 :: L) w' ∧ (TOp A A2 R j (Tr.ins k z t) (Tr.ic k z t))) := by
  induction nM using Nat.strongRecOn with
  | _ nM ih => intro g w L a A R i k z t hA hi hf hz hM hS; exact tw_ins_step nM ih a A R i k z t hA hi hf hz hM hS
theorem tw_ins {g w : World} {L : List HP} (a : Nat) (A : AM) (R : List Int) (i k z : Int) (t : Tr) (hA : ARf A (i :: R)) (hi : Is A t i) (hf : (Tr.ic k z t : Int) ≤ A.s.free) (hz : R.length + t.n ≤ 600000000) (hS : St g (Arn a A :: L) w) :
    Sp Tryz.prog 129 [.pointer (some ⟨a, 0, none⟩), .int .u32 i, .agg #[.int .i64 k, .int .i64 z]] w (fun v w' => ∃ (A2 : AM) (j : Int), v = .int .u32 j ∧ St g (Arn a A2 :: L) w' ∧ (TOp A A2 R j (Tr.ins k z t) (Tr.ic k z t))) := tw_ins_all _ g w L a A R i k z t hA hi hf hz rfl hS
set_option maxHeartbeats 1000000 in
set_option maxRecDepth 8192 in
theorem tw_del_step (nM : Nat) (ih : ∀ mM : Nat, mM < nM → ∀ (g w : World) (L : List HP) (a : Nat) (A : AM) (R : List Int) (i k : Int) (t : Tr), (ARf A (i :: R)) → (Is A t i) → ((Tr.dc k t : Int) ≤ A.s.free) → (R.length + t.n ≤ 550000000) → t.n = mM → St g (Arn a A :: L) w → Sp Tryz.prog 158 [.pointer (some ⟨a, 0, none⟩), .int .u32 i, .int .i64 k] w (fun v w' => ∃ (A2 : AM) (j : Int), v = .int .u32 j ∧ St g (Arn a A2 :: L) w' ∧ (TOp A A2 R j (Tr.del k t) (Tr.dc k t)))) {g w : World} {L : List HP} (a : Nat) (A : AM) (R : List Int) (i k : Int) (t : Tr) (hA : ARf A (i :: R)) (hi : Is A t i) (hf : (Tr.dc k t : Int) ≤ A.s.free) (hz : R.length + t.n ≤ 550000000) (hM : t.n = nM) (hS : St g (Arn a A :: L) w) :
    Sp Tryz.prog 158 [.pointer (some ⟨a, 0, none⟩), .int .u32 i, .int .i64 k] w (fun v w' => ∃ (A2 : AM) (j : Int), v = .int .u32 j ∧ St g (Arn a A2 :: L) w' ∧ (TOp A A2 R j (Tr.del k t) (Tr.dc k t))) := by
  refine Sp.enter Tryz.func158 rfl (by kernel_rfl) (by kernel_rfl) ?_
  have _ := hz
  have _ := hf
  refine WC.seq ?_
  refine WC.region ?_
  refine WL.r 1 rfl ?_
  refine WL.nil ?_
  refine WC.seq ?_
  refine WC.seq ?_
  refine WC.region ?_
  have hx0 := Is.nil_iff hi
  refine WL.r 2 rfl ?_
  refine WL.nil ?_
  refine WC.ifP rfl (fun hx => ?_) (fun hx => ?_)
  · refine WC.seq ?_
    refine WC.region ?_
    refine WL.r 1 rfl ?_
    refine WL.nil ?_
    refine WC.ret ?_
    refine ⟨[.int .u32 0], rfl, ?_⟩
    have h9 := hx0.1 hx; subst hx; subst h9; exact ⟨_, _, rfl, hS, ARf.refl hA hi⟩
  · refine WC.skip ?_
    refine WC.seq ?_
    refine WC.region ?_
    obtain ⟨tl, fk, fz, tr, ht⟩ := nil_or (t := t) (fun e => hx (hx0.2 e)); have htn : t.n = tl.n + tr.n + 1 := (by rw [ht]; rfl); have hi2 : Is A (.node tl fk fz tr) i := ht ▸ hi
    refine WL.r 2 rfl ?_
    refine WL.call rfl rfl (tw_open (a := a) (A := A) (R := R) (i := i) (k := fk) (z := fz) (l := tl) (r := tr) (hA := hA) (hi := hi2) (hz := (by omega)) (hS := hS)) rfl ?_
    clear hS; rintro _ w ⟨A1, x1, y1, rfl, hS, f1⟩
    replace hS : St g (Arn a A1 :: L) w := hS
    refine WL.r 4 rfl ?_
    refine WL.new rfl rfl zv_77 hS (fun b1 w hS => ?_)
    refine WL.r 1 rfl ?_
    refine WL.stF rfl rfl rfl 0 hS rfl rfl rfl rfl rfl ag_77 (fun w hS => ?_)
    replace hS : St g (cel b1 #[.int .i64 fk, .int .i64 fz] 77 :: Arn a A1 :: L) w := hS
    refine WL.r 1 rfl ?_
    refine WL.nil ?_
    as_aux_lemma =>
      refine WC.seq ?_
      refine WC.block ?_
      refine WC.seq ?_
      refine WC.region ?_
      have hr1 := f1.rng; have hfr1 := f1.fr
      refine WL.run 5 [.int .i64 fk] rfl (by exact hS.ld 0 rfl rfl) ?_
      refine WL.nil ?_
      refine WC.ifP rfl (fun hlt => ?_) (fun hlt => ?_)
      · refine WC.seq ?_
        refine WC.plan [([0, 1, 2, 3, 5, 6], some (4, [0, 5, 6])), ([], some (7, [])), ([8], none)] (by kernel_rfl) (by kernel_rfl) ?_
        have hie : Tr.dc k t = Tr.dc k tl + Tr.jc (Tr.del k tl) tr := (by rw [ht, Tr.dc, if_pos hlt]); have hne : Tr.del k t = Tr.join (Tr.del k tl) fk fz tr := (by rw [ht, Tr.del, if_pos hlt]); have hin := Tr.del_n k tl
        refine WQ.r 4 rfl ?_
        refine WQ.ldF rfl rfl 0 hS rfl rfl ag_77 ?_
        refine WQ.r 1 rfl ?_
        refine WQ.nil ?_
        intro m1
        replace hS := hS.drewN m1; generalize hwm1 : World.drewN _ _ = w at *; clear hwm1
        refine WL.call rfl rfl (ih (tl.n) (by omega) _ _ _ a A1 (y1 :: R) x1 k tl (f1.ref) (f1.il) ((by omega)) ((by simp only [List.length_cons]; omega)) rfl (hS.sel 2 [1, 0] rfl)) rfl ?_
        clear hS; rintro _ w ⟨A2, j1, rfl, hS, f2⟩
        replace hS : St g (Arn a A2 :: cel b1 #[.int .i64 fk, .int .i64 fz] 77 :: L) w := hS
        refine WL.nil ?_
        refine ⟨by exact ⟨RQ.pure rfl rfl rfl rfl, RQ.ldF rfl rfl 1 hS rfl rfl ag_77 rfl rfl, RQ.pure rfl rfl rfl rfl⟩, ?_⟩
        refine WQ.nil ?_
        intro m2
        replace hS := hS.drewN m2; generalize hwm2 : World.drewN _ _ = w at *; clear hwm2
        refine WL.call rfl rfl (tw_join (a := a) (A := A2) (R := R) (l := j1) (r := y1) (k := fk) (z := fz) (tl := Tr.del k tl) (tr := tr) (hA := f2.ref) (hl := f2.is) (hr := (f2.kp y1 (by simp) tr f1.ir)) (hf := (by have := f2.fr; omega)) (hz := (by split at hin <;> omega)) (hS := hS)) rfl ?_
        clear hS; rintro _ w ⟨A3, i1, rfl, hS, f3⟩
        replace hS : St g (Arn a A3 :: cel b1 #[.int .i64 fk, .int .i64 fz] 77 :: L) w := hS
        refine WL.nil ?_
        refine ⟨by exact trivial, ?_⟩
        refine WQ.r 1 rfl ?_
        refine WQ.nil ?_
        intro m3
        replace hS := hS.drewN m3; generalize hwm3 : World.drewN _ _ = w at *; clear hwm3
        as_aux_lemma =>
          refine WC.ret ?_
          refine ⟨[.int .u32 i1], rfl, ?_⟩
          replace hS := (hS.sel 2 [0] rfl)
          exact ⟨_, _, rfl, hS, by rw [hne, hie]; exact f3.after (f1.ch.trans f2.ch sb0 sb1) sb0 (by omega)⟩
      · refine WC.seq ?_
        refine WC.region ?_
        refine WL.run 5 [.int .i64 fk] rfl (by exact hS.ld 0 rfl rfl) ?_
        refine WL.nil ?_
        refine WC.ifP rfl (fun hgt => ?_) (fun hgt => ?_)
        · refine WC.seq ?_
          refine WC.plan [([0, 1, 2, 3, 4, 5], some (6, [0, 1, 2])), ([], some (7, [])), ([8], none)] (by kernel_rfl) (by kernel_rfl) ?_
          have hie : Tr.dc k t = Tr.dc k tr + Tr.jc tl (Tr.del k tr) := (by rw [ht, Tr.dc, if_neg hlt, if_pos hgt]); have hne : Tr.del k t = Tr.join tl fk fz (Tr.del k tr) := (by rw [ht, Tr.del, if_neg hlt, if_pos hgt]); have hin := Tr.del_n k tr
          refine WQ.r 2 rfl ?_
          refine WQ.ldF rfl rfl 0 hS rfl rfl ag_77 ?_
          refine WQ.r 3 rfl ?_
          refine WQ.nil ?_
          intro m1
          replace hS := hS.drewN m1; generalize hwm1 : World.drewN _ _ = w at *; clear hwm1
          refine WL.call rfl rfl (ih (tr.n) (by omega) _ _ _ a A1 (x1 :: R) y1 k tr (f1.swap) (f1.ir) ((by omega)) ((by simp only [List.length_cons]; omega)) rfl (hS.sel 2 [1, 0] rfl)) rfl ?_
          clear hS; rintro _ w ⟨A2, j1, rfl, hS, f2⟩
          replace hS : St g (Arn a A2 :: cel b1 #[.int .i64 fk, .int .i64 fz] 77 :: L) w := hS
          refine WL.nil ?_
          refine ⟨by exact ⟨RQ.pure rfl rfl rfl rfl, RQ.pure rfl rfl rfl rfl, RQ.ldF rfl rfl 1 hS rfl rfl ag_77 rfl rfl⟩, ?_⟩
          refine WQ.nil ?_
          intro m2
          replace hS := hS.drewN m2; generalize hwm2 : World.drewN _ _ = w at *; clear hwm2
          refine WL.call rfl rfl (tw_join (a := a) (A := A2) (R := R) (l := x1) (r := j1) (k := fk) (z := fz) (tl := tl) (tr := Tr.del k tr) (hA := f2.ref.sw) (hl := (f2.kp x1 (by simp) tl f1.il)) (hr := f2.is) (hf := (by have := f2.fr; omega)) (hz := (by split at hin <;> omega)) (hS := hS)) rfl ?_
          clear hS; rintro _ w ⟨A3, i1, rfl, hS, f3⟩
          replace hS : St g (Arn a A3 :: cel b1 #[.int .i64 fk, .int .i64 fz] 77 :: L) w := hS
          refine WL.nil ?_
          refine ⟨by exact trivial, ?_⟩
          refine WQ.r 1 rfl ?_
          refine WQ.nil ?_
          intro m3
          replace hS := hS.drewN m3; generalize hwm3 : World.drewN _ _ = w at *; clear hwm3
          as_aux_lemma =>
            refine WC.ret ?_
            refine ⟨[.int .u32 i1], rfl, ?_⟩
            replace hS := (hS.sel 2 [0] rfl)
            exact ⟨_, _, rfl, hS, by rw [hne, hie]; exact f3.after (f1.ch.trans f2.ch sb0 sb1) sb0 (by omega)⟩
        · refine WC.skip ?_
          refine WC.seq ?_
          refine WC.region ?_
          have hie : Tr.dc k t = Tr.cc tl tr := (by rw [ht, Tr.dc, if_neg hlt, if_neg hgt]); have hne : Tr.del k t = Tr.cat tl tr := (by rw [ht, Tr.del, if_neg hlt, if_neg hgt])
          refine WL.r 3 rfl ?_
          refine WL.call rfl rfl (tw_cat (a := a) (A := A1) (R := R) (l := x1) (r := y1) (tl := tl) (tr := tr) (hA := f1.ref) (hl := f1.il) (hr := f1.ir) (hf := (by omega)) (hz := (by omega)) (hS := (hS.sel 2 [1, 0] rfl))) rfl ?_
          clear hS; rintro _ w ⟨A2, i1, rfl, hS, f2⟩
          replace hS : St g (Arn a A2 :: cel b1 #[.int .i64 fk, .int .i64 fz] 77 :: L) w := hS
          refine WL.r 1 rfl ?_
          refine WL.nil ?_
          refine WC.ret ?_
          refine ⟨[.int .u32 i1], rfl, ?_⟩
          replace hS := (hS.sel 2 [0] rfl)
          exact ⟨_, _, rfl, hS, by rw [hne, hie]; exact f2.after f1.ch sb0 (by omega)⟩
theorem tw_del_all (nM : Nat) : ∀ (g w : World) (L : List HP) (a : Nat) (A : AM) (R : List Int) (i k : Int) (t : Tr), (ARf A (i :: R)) → (Is A t i) → ((Tr.dc k t : Int) ≤ A.s.free) → (R.length + t.n ≤ 550000000) → t.n = nM → St g (Arn a A :: L) w → Sp Tryz.prog 158 [.pointer (some ⟨a, 0, none⟩), .int .u32 i, .int .i64 k] w (fun v w' => ∃ (A2 : AM) (j : Int), v = .int .u32 j ∧ St g (Arn a A2 :: L) w' ∧ (TOp A A2 R j (Tr.del k t) (Tr.dc k t))) := by
  induction nM using Nat.strongRecOn with
  | _ nM ih => intro g w L a A R i k t hA hi hf hz hM hS; exact tw_del_step nM ih a A R i k t hA hi hf hz hM hS
theorem tw_del {g w : World} {L : List HP} (a : Nat) (A : AM) (R : List Int) (i k : Int) (t : Tr) (hA : ARf A (i :: R)) (hi : Is A t i) (hf : (Tr.dc k t : Int) ≤ A.s.free) (hz : R.length + t.n ≤ 550000000) (hS : St g (Arn a A :: L) w) :
    Sp Tryz.prog 158 [.pointer (some ⟨a, 0, none⟩), .int .u32 i, .int .i64 k] w (fun v w' => ∃ (A2 : AM) (j : Int), v = .int .u32 j ∧ St g (Arn a A2 :: L) w' ∧ (TOp A A2 R j (Tr.del k t) (Tr.dc k t))) := tw_del_all _ g w L a A R i k t hA hi hf hz rfl hS
set_option maxRecDepth 8192 in
theorem tw_hold {g w : World} {L : List HP} (a : Nat) (A : AM) (R : List Int) (i : Int) (hA : ARf A R) (hi : i = 0 ∨ (1 ≤ i ∧ A.s.ok i = true)) (hz : R.length ≤ 900000000) (hS : St g (Arn a A :: L) w) :
    Sp Tryz.prog 125 [.pointer (some ⟨a, 0, none⟩), .int .u32 i] w (fun v w' => v = .int .u32 i ∧ St g (Arn a (A.ret i) :: L) w' ∧ (ARf (A.ret i) (i :: R))) := by
  refine Sp.enter Tryz.func125 rfl (by kernel_rfl) (by kernel_rfl) ?_
  have _ := hz
  refine WC.seq ?_
  refine WC.region ?_
  refine WL.r 1 rfl ?_
  refine WL.nil ?_
  refine WC.seq ?_
  refine WC.region ?_
  have hri := hA.okrng hi
  refine WL.r 2 rfl ?_
  refine WL.call rfl rfl (ar_retain (a := a) (A := A) (i := i) (hA := hA.toAWf) (hi := (by omega)) (hS := hS)) rfl ?_
  clear hS; rintro _ w ⟨rfl, hS⟩
  replace hS : St g (Arn a (A.ret i) :: L) w := hS
  refine WL.nil ?_
  refine WC.seq ?_
  refine WC.region ?_
  refine WL.r 2 rfl ?_
  refine WL.nil ?_
  refine WC.ret ?_
  refine ⟨[.int .u32 i], rfl, ?_⟩
  exact ⟨rfl, hS, (AM.ret_eq hA hi (by omega)).1⟩
set_option maxRecDepth 8192 in
theorem tw_room {g w : World} {L : List HP} (a : Nat) (A : AM) (n : Int) (hA : AWf A) (hS : St g (Arn a A :: L) w) :
    Sp Tryz.prog 126 [.pointer (some ⟨a, 0, none⟩), .int .i64 n] w (fun v w' => v = .bool (decide (0 ≤ n ∧ n ≤ A.s.free)) ∧ St g (Arn a A :: L) w') := by
  refine Sp.enter Tryz.func126 rfl (by kernel_rfl) (by kernel_rfl) ?_
  refine WC.seq ?_
  refine WC.region ?_
  refine WL.r 1 rfl ?_
  refine WL.nil ?_
  refine WC.seq ?_
  refine WC.region ?_
  refine WL.r 3 rfl ?_
  by_cases cg1 : 0 ≤ n
  · refine WL.reb 7 (.bool true) (congrArg Value.bool (decide_eq_true cg1)) ?_
    refine WL.ung rfl rfl rfl ?_
    refine WL.r 1 rfl ?_
    refine WL.ung rfl rfl rfl ?_
    refine WL.call rfl rfl (ar_free (a := a) (A := A) (hA := hA) (hS := hS)) rfl ?_
    clear hS; rintro _ w ⟨rfl, hS⟩
    replace hS : St g (Arn a A :: L) w := hS
    refine WL.ung rfl rfl rfl ?_
    refine WL.r 1 rfl ?_
    refine WL.ung rfl rfl rfl ?_
    refine WL.r 3 rfl ?_
    refine WL.nil ?_
    refine WC.ret ?_
    refine ⟨[.bool (decide (n ≤ A.s.free))], rfl, ?_⟩
    first | exact ⟨congrArg Value.bool (dec_congr (by omega)), hS⟩ | exact ⟨congrArg Value.bool (decide_eq_false (by omega)).symm, hS⟩
  · refine WL.reb 7 (.bool false) (congrArg Value.bool (decide_eq_false cg1)) ?_
    refine WL.skp rfl rfl rfl rfl ?_
    refine WL.skp rfl rfl rfl rfl ?_
    refine WL.skp rfl rfl rfl rfl ?_
    refine WL.skp rfl rfl rfl rfl ?_
    refine WL.r 2 rfl ?_
    refine WL.nil ?_
    refine WC.ret ?_
    refine ⟨[.bool false], rfl, ?_⟩
    first | exact ⟨congrArg Value.bool (dec_congr (by omega)), hS⟩ | exact ⟨congrArg Value.bool (decide_eq_false (by omega)).symm, hS⟩
end Go.Proofs.YtlnlnebibgdjdaaGreat
/-! ## W5 -/
namespace Go.Proofs.YtlnlnebibgdjdaaGreat
open Go Go.V
set_option maxRecDepth 8192 in
theorem lk_get {g w : World} {L : List HP} (a : Nat) (A : AM) (R : List Int) (i k : Int) (t : Tr) (hA : ARf A R) (hi : Is A t i) (hS : St g (Arn a A :: L) w) :
    Sp Tryz.prog 98 [.pointer (some ⟨a, 0, none⟩), .int .u32 i, .int .i64 k] w (fun v w' => v = .tuple #[.int .i64 ((Tr.get k t).getD 0), .bool (Tr.get k t).isSome] ∧ St g (Arn a A :: L) w') := by
  refine Sp.enter Tryz.func98 rfl (by kernel_rfl) (by kernel_rfl) ?_
  refine WC.seq ?_
  refine WC.region ?_
  refine WL.r 2 rfl ?_
  refine WL.nil ?_
  refine WC.seq ?_
  refine WC.seq ?_
  refine WC.region ?_
  refine WL.r 2 rfl ?_
  refine WL.nil ?_
  refine WC.block ?_
  refine WC.loop [0, 2, 8] (fun kM vs w => ∃ (j : Int) (u : Tr), vs = [.pointer (some ⟨a, 0, none⟩), .int .i64 k, .int .u32 j] ∧ St g (Arn a A :: L) w ∧ (Is A u j) ∧ (Tr.get k u = Tr.get k t) ∧ (u.n) = kM) (t.n) ⟨i, t, rfl, hS, (hi), (rfl), rfl⟩ ?_
  clear hS; rintro _ _ w j ⟨j, u, rfl, hS, hu, hg, rfl⟩
  refine WC.seq ?_
  refine WC.seq ?_
  refine WC.region ?_
  refine WL.r 2 rfl ?_
  refine WL.nil ?_
  refine WC.ifP rfl (fun cd1 => ?_) (fun cd1 => ?_)
  · refine WC.skip ?_
    refine WC.block ?_
    refine WC.seq ?_
    refine WC.region ?_
    obtain ⟨ul, uk, uz, ur, hue⟩ := nil_or (t := u) (fun e => cd1 ((Is.nil_iff hu).2 e)); have hu2 : Is A (.node ul uk uz ur) j := hue ▸ hu; have hrj := hA.okrng hu.ref; have hlr := hA.okrng hu2.2.2.2.2.1.ref; have hrr := hA.okrng hu2.2.2.2.2.2.ref; have hun : u.n = ul.n + ur.n + 1 := (by rw [hue]; rfl)
    refine WL.r 2 rfl ?_
    refine WL.call rfl rfl (ar_node (a := a) (A := A) (i := j) (hA := hA.toAWf) (hi := (by omega)) (hio := hu2.2.1) (hS := hS)) rfl ?_
    clear hS; rintro _ w ⟨rfl, hS⟩
    replace hS : St g (Arn a A :: L) w := hS
    refine WL.r 3 rfl ?_
    refine WL.new rfl rfl zv_165 hS (fun b1 w hS => ?_)
    refine WL.stF rfl rfl rfl 0 hS rfl rfl rfl rfl rfl ag_165 (fun w hS => ?_)
    replace hS : St g (cel b1 #[.int .i64 (A.nd j).key, .int .i64 (A.nd j).val, .int .u32 (A.nd j).lf, .int .u32 (A.nd j).rg, .int .i64 (A.nd j).size, .int .i64 (A.nd j).sum, .int .i64 (A.nd j).mn, .int .i64 (A.nd j).mx] 165 :: Arn a A :: L) w := hS
    refine WL.r 1 rfl ?_
    refine WL.nil ?_
    as_aux_lemma =>
      refine WC.block ?_
      refine WC.seq ?_
      refine WC.region ?_
      refine WL.r 3 rfl ?_
      refine WL.nil ?_
      refine WC.ifF rfl rfl ?_
      refine WC.seq ?_
      refine WC.region ?_
      refine WL.run 5 [.int .i64 (A.nd j).key] rfl (by exact hS.ld 0 rfl rfl) ?_
      refine WL.nil ?_
      refine WC.ifP rfl (fun hlt => ?_) (fun hlt => ?_)
      · refine WC.region ?_
        refine WL.run 3 [.int .u32 (A.nd j).lf] rfl (by exact hS.ld 0 rfl rfl) ?_
        refine WL.nil ?_
        exact ⟨_, by omega, (A.nd j).lf, ul, rfl, (hS.sel 1 [] rfl), (hu2.2.2.2.2.1), (by rw [← hg, hue, Tr.get, if_pos (by rw [← hu2.2.2.1]; exact hlt)]), rfl⟩
      · refine WC.seq ?_
        refine WC.region ?_
        refine WL.run 5 [.int .i64 (A.nd j).key] rfl (by exact hS.ld 0 rfl rfl) ?_
        refine WL.nil ?_
        refine WC.ifP rfl (fun hgt => ?_) (fun hgt => ?_)
        · refine WC.region ?_
          refine WL.run 3 [.int .u32 (A.nd j).rg] rfl (by exact hS.ld 0 rfl rfl) ?_
          refine WL.nil ?_
          exact ⟨_, by omega, (A.nd j).rg, ur, rfl, (hS.sel 1 [] rfl), (hu2.2.2.2.2.2), (by rw [← hg, hue, Tr.get, if_neg (by rw [← hu2.2.2.1]; exact hlt), if_pos (by rw [← hu2.2.2.1]; exact hgt)]), rfl⟩
        · refine WC.seq ?_
          refine WC.region ?_
          refine WL.run 4 [.int .i64 (A.nd j).val] rfl (by exact hS.ld 0 rfl rfl) ?_
          refine WL.nil ?_
          refine WC.ret ?_
          refine ⟨[.int .i64 (A.nd j).val, .bool true], ⟨rfl, rfl⟩, ?_⟩
          replace hS := (hS.sel 1 [] rfl)
          have hgv : Tr.get k t = some (A.nd j).val := (by rw [← hg, hue, Tr.get, if_neg (by rw [← hu2.2.2.1]; exact hlt), if_neg (by rw [← hu2.2.2.1]; exact hgt), hu2.2.2.2.1]); exact ⟨by rw [hgv]; rfl, hS⟩
  · refine WC.exit ?_
    refine WC.seq ?_
    refine WC.region ?_
    refine WL.r 2 rfl ?_
    refine WL.nil ?_
    refine WC.ret ?_
    refine ⟨[.int .i64 0, .bool false], ⟨rfl, rfl⟩, ?_⟩
    have hgv : Tr.get k t = none := (by rw [← hg, (Is.nil_iff hu).1 (Classical.not_not.1 cd1)]; rfl); exact ⟨by rw [hgv]; rfl, hS⟩
theorem wt_step {h : Nat} (hw : Tr.wt h ≤ 2147483648) : IntKind.i64.wrap ((Tr.wt h : Int) + ((Tr.wt h : Int) + 2) / 3) = (Tr.wt (h + 1) : Int) := by
  rw [w64 (by omega), show Tr.wt (h + 1) = Tr.wt h + (Tr.wt h + 2) / 3 from rfl]; omega
theorem mxA_stop {keys h : Nat} (hh : h < 80) (hs : keys + 1 < Tr.wt (h + 1)) : Tr.mxA keys (80 - h) h = h := by
  rw [show 80 - h = (80 - (h + 1)) + 1 by omega, Tr.mxA, if_pos hs]
theorem mxA_go {keys h : Nat} (hh : h < 80) (hs : ¬ keys + 1 < Tr.wt (h + 1)) : Tr.mxA keys (80 - (h + 1)) (h + 1) = Tr.mxA keys (80 - h) h := by
  rw [show 80 - h = (80 - (h + 1)) + 1 by omega, Tr.mxA, if_neg hs]
theorem wt_small {h : Nat} (hw : Tr.wt h ≤ 2147483648) : Tr.wt (h + 1) ≤ 3000000000 := by
  rw [show Tr.wt (h + 1) = Tr.wt h + (Tr.wt h + 2) / 3 from rfl]; omega
set_option maxRecDepth 8192 in
theorem mx_height {g w : World} {L : List HP} (keys : Nat) (hk : keys ≤ 2147483647) (hS : St g (L) w) :
    Sp Tryz.prog 220 [.int .i64 (keys : Int)] w (fun v w' => v = .int .i64 (Tr.mxH keys : Int) ∧ St g (L) w') := by
  refine Sp.enter Tryz.func220 rfl (by kernel_rfl) (by kernel_rfl) ?_
  have _ := hk
  refine WC.seq ?_
  refine WC.region ?_
  refine WL.r 1 rfl ?_
  refine WL.nil ?_
  refine WC.seq ?_
  refine WC.seq ?_
  refine WC.region ?_
  refine WL.r 2 rfl ?_
  refine WL.rG 4 rfl (fun j => ?_)
  refine WL.prop 10 rfl (bor (dd _) (dd _)) ?_
  refine WL.nil ?_
  refine WC.ifF rfl (decide_eq_false ((by omega))) ?_
  refine WC.skip ?_
  refine WC.seq ?_
  refine WC.region ?_
  refine WL.r 2 rfl ?_
  refine WL.nil ?_
  refine WC.seq ?_
  refine WC.block ?_
  refine WC.loop [0, 2, 3, 4] (fun kM vs w => ∃ (h : Nat), vs = [.int .i64 (keys : Int), .int .i64 0, .int .i64 (h : Int), .int .i64 (Tr.wt h : Int)] ∧ St g (L) w ∧ (h ≤ 80) ∧ (Tr.wt h ≤ keys + 1) ∧ (Tr.mxA keys (80 - h) h = Tr.mxH keys) ∧ (80 - h) = kM) (80 - 0) ⟨0, rfl, hS, (by omega), (by simp [Tr.wt]), (rfl), rfl⟩ ?_
  clear hS; rintro _ _ w j ⟨h, rfl, hS, hh, hw, hm, rfl⟩
  refine WC.seq ?_
  refine WC.seq ?_
  refine WC.region ?_
  refine WL.r 2 rfl ?_
  refine WL.nil ?_
  as_aux_lemma =>
    refine WC.ifP rfl (fun cd1 => ?_) (fun cd1 => ?_)
    · refine WC.skip ?_
      refine WC.block ?_
      refine WC.seq ?_
      refine WC.region ?_
      have hws := wt_small (h := h) (by omega)
      refine WL.r 3 rfl ?_
      refine WL.nw 15 rfl (w64 (by omega)) ?_
      refine WL.r 1 rfl ?_
      refine WL.reb 16 (.int .i64 (((Tr.wt h : Int) + 2) / 3)) (congrArg (Value.int .i64) (quo_i64 (p := (Tr.wt h : Int) + 2) (q := 3) (by omega))) ?_
      refine WL.r 1 rfl ?_
      refine WL.reb 17 (.int .i64 (Tr.wt (h + 1) : Int)) (congrArg (Value.int .i64) (by exact wt_step (by omega))) ?_
      refine WL.r 1 rfl ?_
      refine WL.nil ?_
      refine WC.seq ?_
      refine WC.seq ?_
      refine WC.region ?_
      refine WL.r 2 rfl ?_
      refine WL.nw 19 rfl (w64 (by omega)) ?_
      refine WL.r 2 rfl ?_
      refine WL.nil ?_
      refine WC.ifP rfl (fun cd2 => ?_) (fun cd2 => ?_)
      · refine WC.exit ?_
        refine WC.seq ?_
        refine WC.region ?_
        refine WL.r 2 rfl ?_
        refine WL.nil ?_
        as_aux_lemma =>
          refine WC.ret ?_
          refine ⟨[.int .i64 (h : Int)], rfl, ?_⟩
          exact ⟨congrArg (fun n : Nat => Value.int .i64 n) ((mxA_stop (keys := keys) (by omega) (by omega)).symm.trans hm), hS⟩
      · refine WC.skip ?_
        refine WC.region ?_
        refine WL.r 2 rfl ?_
        refine WL.nw 23 rfl (w64 (by omega)) ?_
        refine WL.r 1 rfl ?_
        refine WL.nil ?_
        exact ⟨_, by omega, h + 1, rfl, hS, (by omega), (by omega), (by rw [mxA_go (by omega) (by omega)]; exact hm), rfl⟩
    · refine WC.exit ?_
      refine WC.seq ?_
      refine WC.region ?_
      refine WL.r 2 rfl ?_
      refine WL.nil ?_
      refine WC.ret ?_
      refine ⟨[.int .i64 (h : Int)], rfl, ?_⟩
      exact ⟨congrArg (fun n : Nat => Value.int .i64 n) (by rw [← hm, show 80 - h = 0 by omega]; rfl), hS⟩
set_option maxRecDepth 8192 in
theorem rs_valid {g w : World} {L : List HP} (l : List Int) (b : Option Addr) (c : Nat) (hl : l.length ≤ 10) (hS : St g (Sh 3 1 (i64s l) b c :: L) w) :
    Sp Tryz.prog 184 [.slice b (List.length (i64s l)) c] w (fun v w' => v = .bool (l.all fun n => decide (0 ≤ n ∧ n ≤ 65536)) ∧ St g (Sh 3 1 (i64s l) b c :: L) w') := by
  refine Sp.enter Tryz.func184 rfl (by kernel_rfl) (by kernel_rfl) ?_
  have _ := hl
  refine WC.seq ?_
  refine WC.region ?_
  refine WL.r 1 rfl ?_
  refine WL.nil ?_
  refine WC.seq ?_
  refine WC.seq ?_
  refine WC.region ?_
  have hll := i64s_len l
  refine WL.r 3 rfl ?_
  refine WL.nil ?_
  refine WC.block ?_
  refine WC.loop [5, 6, 7] (fun kM vs w => ∃ (k : Nat), vs = [.slice b (List.length (i64s l)) c, .int .i64 (List.length (i64s l) : Int), .int .i64 (k : Int)] ∧ St g (Sh 3 1 (i64s l) b c :: L) w ∧ (k ≤ l.length) ∧ (∀ x ∈ l.take k, 0 ≤ x ∧ x ≤ 65536) ∧ (l.length - k) = kM) ((List.length l) - 0) ⟨0, rfl, hS, (Nat.zero_le _), (by simp), rfl⟩ ?_
  clear hS; rintro _ _ w j ⟨k, rfl, hS, hk, ha, rfl⟩
  refine WC.seq ?_
  refine WC.region ?_
  have hll := i64s_len l
  refine WL.r 1 rfl ?_
  refine WL.nil ?_
  refine WC.seq ?_
  refine WC.ifP rfl (fun cd1 => ?_) (fun cd1 => ?_)
  · refine WC.skip ?_
    refine WC.seq ?_
    refine WC.block ?_
    refine WC.seq ?_
    refine WC.region ?_
    obtain ⟨x, hx⟩ : ∃ x, l[k]? = some x := ⟨_, List.getElem?_eq_getElem (by omega)⟩
    refine WL.ix rfl rfl (i := (k : Int)) (k) el_56 rfl rfl (by omega) (by omega) (hS.rdS 0 rfl (i64s_at hx)).1 ?_
    refine WL.run 2 [.int .i64 x] rfl (by exact (hS.rdS 0 rfl (i64s_at hx)).2 0 _ rfl) ?_
    refine WL.nil ?_
    as_aux_lemma =>
      refine WC.seq ?_
      refine WC.region ?_
      refine WL.r 2 rfl ?_
      refine WL.rG 4 rfl (fun j => ?_)
      refine WL.prop 16 rfl (bor (dd _) (dd _)) ?_
      refine WL.nil ?_
      refine WC.ifP rfl (fun cd2 => ?_) (fun cd2 => ?_)
      · refine WC.seq ?_
        refine WC.region ?_
        refine WL.r 1 rfl ?_
        refine WL.nil ?_
        refine WC.ret ?_
        refine ⟨[.bool false], rfl, ?_⟩
        exact ⟨congrArg Value.bool (by rw [Eq.comm, List.all_eq_false]; exact ⟨x, List.mem_of_getElem? hx, by simp; omega⟩), hS⟩
      · refine WC.skip ?_
        refine WC.region ?_
        refine WL.r 1 rfl ?_
        refine WL.nw 17 rfl (w64 (by omega)) ?_
        refine WL.r 1 rfl ?_
        refine WL.nil ?_
        exact ⟨_, by omega, k + 1, rfl, hS, (by omega), (by rw [List.take_add_one, hx]; intro y hy; rcases List.mem_append.1 hy with hy | hy; exact ha y hy; simp at hy; subst hy; omega), rfl⟩
  · refine WC.exit ?_
    refine WC.seq ?_
    refine WC.region ?_
    refine WL.r 1 rfl ?_
    refine WL.nil ?_
    as_aux_lemma =>
      refine WC.ret ?_
      refine ⟨[.bool true], rfl, ?_⟩
      exact ⟨congrArg Value.bool (by rw [Eq.comm, List.all_eq_true]; intro y hy; rw [List.take_of_length_le (by omega)] at ha; exact decide_eq_true (ha y hy)), hS⟩
theorem mul_rng {f x : Int} (hf : 0 ≤ f ∧ f ≤ 100) (hx : 0 ≤ x ∧ x ≤ 1000) : -9223372036854775808 ≤ f * x ∧ f * x ≤ 9223372036854775807 := by
  have h1 : 0 ≤ f * x := Int.mul_nonneg hf.1 hx.1
  have h2 : f * x ≤ 100 * 1000 := Int.mul_le_mul hf.2 hx.2 hx.1 (by omega)
  omega
set_option maxRecDepth 8192 in
theorem rs_path {g w : World} {L : List HP} (f : Int) (n : Nat) (hf : 0 ≤ f ∧ f ≤ 100) (hn : n ≤ 2147483647) (hS : St g (L) w) :
    Sp Tryz.prog 185 [.int .i64 f, .int .i64 (n : Int)] w (fun v w' => v = .int .i64 (f * ((Tr.mxH n : Int) + 2)) ∧ St g (L) w') := by
  refine Sp.enter Tryz.func185 rfl (by kernel_rfl) (by kernel_rfl) ?_
  refine WC.seq ?_
  refine WC.region ?_
  refine WL.r 1 rfl ?_
  refine WL.nil ?_
  refine WC.seq ?_
  refine WC.region ?_
  refine WL.r 2 rfl ?_
  refine WL.call rfl rfl (mx_height (keys := n) (hk := hn) (hS := hS)) rfl ?_
  clear hS; rintro _ w ⟨rfl, hS⟩
  replace hS : St g (L) w := hS
  refine WL.r 1 rfl ?_
  refine WL.reb 8 (.int .i64 ((Tr.mxH n : Int) + 2)) (congrArg (Value.int .i64) (by have := Tr.mxH_le n; rw [w64 (by omega)])) ?_
  refine WL.r 1 rfl ?_
  refine WL.reb 9 (.int .i64 (f * ((Tr.mxH n : Int) + 2))) (congrArg (Value.int .i64) (by have := Tr.mxH_le n; exact w64 (mul_rng hf (by omega)))) ?_
  refine WL.r 1 rfl ?_
  refine WL.nil ?_
  refine WC.ret ?_
  refine ⟨[.int .i64 (f * ((Tr.mxH n : Int) + 2))], rfl, ?_⟩
  exact ⟨rfl, hS⟩
end Go.Proofs.YtlnlnebibgdjdaaGreat
/-! ## Tx4 -/
namespace Go.Proofs.YtlnlnebibgdjdaaGreat
open Go Go.V Go.RowKit Go.Maps
set_option maxRecDepth 8192 in
theorem rs_apply {g w : World} {L : List HP} (n m : Nat) (hn : n + m ≤ 65536) (hS : St g (L) w) :
    Sp Tryz.prog 172 [.int .i64 (n : Int), .int .i64 (m : Int)] w (fun v w' => v = .int .i64 ((n : Int) + m + 4 * ((Tr.mxH (n + m) : Int) + 2)) ∧ St g (L) w') := by
  refine Sp.enter Tryz.func172 rfl (by kernel_rfl) (by kernel_rfl) ?_
  have _ := hn
  refine WC.seq ?_
  refine WC.region ?_
  refine WL.r 1 rfl ?_
  refine WL.nil ?_
  refine WC.seq ?_
  refine WC.seq ?_
  refine WC.region ?_
  refine WL.r 2 rfl ?_
  refine WL.lit rfl rfl (i64s [(n : Int), (m : Int)]) el_56 hS (by exact ⟨rfl, rfl, rfl, rfl⟩) (i64s_ok _) rfl (by decide) (fun b1 w hS => ?_)
  replace hS := (hS.at_ 0 rfl).share
  replace hS : St g (Sh 3 1 (i64s [(n : Int), (m : Int)]) (some ⟨b1, 0, none⟩) (List.length (i64s [(n : Int), (m : Int)])) :: L) w := hS
  refine WL.call rfl rfl (rs_valid (l := [(n : Int), (m : Int)]) (b := some ⟨b1, 0, none⟩) (c := List.length (i64s [(n : Int), (m : Int)])) (hl := (by simp)) (hS := hS)) rfl ?_
  clear hS; rintro _ w ⟨rfl, hS⟩
  replace hS : St g (Sh 3 1 (i64s [(n : Int), (m : Int)]) (some ⟨b1, 0, none⟩) (List.length (i64s [(n : Int), (m : Int)])) :: L) w := hS
  refine WL.r 1 rfl ?_
  refine WL.nil ?_
  refine WC.ifF rfl (by simp; omega) ?_
  refine WC.skip ?_
  refine WC.seq ?_
  refine WC.region ?_
  have hmx := Tr.mxH_le (n + m)
  refine WL.r 3 rfl ?_
  refine WL.nw 12 rfl (w64 (by omega)) ?_
  refine WL.r 3 rfl ?_
  refine WL.reb 15 (.int .i64 ((n + m : Nat) : Int)) (congrArg (Value.int .i64) (by rw [w64 (by omega)]; omega)) ?_
  refine WL.call rfl rfl (rs_path (f := 4) (n := (n + m : Nat)) (hf := (by omega)) (hn := (by omega)) (hS := hS)) rfl ?_
  clear hS; rintro _ w ⟨rfl, hS⟩
  replace hS : St g (Sh 3 1 (i64s [(n : Int), (m : Int)]) (some ⟨b1, 0, none⟩) (List.length (i64s [(n : Int), (m : Int)])) :: L) w := hS
  refine WL.r 1 rfl ?_
  refine WL.nw 17 rfl (w64 (by omega)) ?_
  refine WL.r 1 rfl ?_
  refine WL.nil ?_
  as_aux_lemma =>
    refine WC.ret ?_
    refine ⟨[.int .i64 (((n : Int) + (m : Int)) + (4 * ((Tr.mxH (n + m : Nat) : Int) + 2)))], rfl, ?_⟩
    replace hS := (hS.sel 1 [] rfl)
    exact ⟨rfl, hS⟩
def wNeed (t : Tr) (e : Int × Bool × Int) : Bool := (e.2.1 != (Tr.get e.1 t).isSome) || (e.2.1 && decide ((Tr.get e.1 t).getD 0 ≠ e.2.2))
def wWork (t : Tr) (M : Wrs) : Wrs := M.filter (wNeed t)
def wOne (u : Tr) (e : Int × Bool × Int) : Tr := if e.2.1 then Tr.ins e.1 e.2.2 u else Tr.del e.1 u
def wCost (u : Tr) (e : Int × Bool × Int) : Nat := if e.2.1 then Tr.ic e.1 e.2.2 u else Tr.dc e.1 u
def wAll (W : Wrs) (t : Tr) : Tr := W.foldl wOne t
def wSum : Wrs → Tr → Nat
  | [], _ => 0
  | e :: l, t => wCost t e + wSum l (wOne t e)
theorem wAll_snoc {W : Wrs} {k : Nat} {e : Int × Bool × Int} {t : Tr} (h : W[k]? = some e) : wAll (W.take (k + 1)) t = wOne (wAll (W.take k) t) e := by
  unfold wAll; rw [List.take_add_one, h, List.foldl_append]; rfl
theorem wSum_app (e : Int × Bool × Int) : ∀ (W : Wrs) (t : Tr), wSum (W ++ [e]) t = wSum W t + wCost (wAll W t) e
  | [], t => by simp [wSum, wAll]
  | f :: l, t => by
    have h := wSum_app e l (wOne t f)
    show wCost t f + wSum (l ++ [e]) (wOne t f) = wCost t f + wSum l (wOne t f) + wCost (wAll l (wOne t f)) e
    omega
theorem wSum_snoc {W : Wrs} {k : Nat} {e : Int × Bool × Int} {t : Tr} (h : W[k]? = some e) : wSum (W.take (k + 1)) t = wSum (W.take k) t + wCost (wAll (W.take k) t) e := by
  rw [List.take_add_one, h]; exact wSum_app e _ t
theorem wOne_n (u : Tr) (e : Int × Bool × Int) : (wOne u e).n ≤ u.n + 1 := by
  unfold wOne
  split
  · have := Tr.ins_n e.1 e.2.2 u; split at this <;> omega
  · have := Tr.del_n e.1 u; split at this <;> omega
theorem wAll_n : ∀ (W : Wrs) (t : Tr), (wAll W t).n ≤ t.n + W.length
  | [], t => Nat.le_refl _
  | e :: l, t => by
    have h1 := wAll_n l (wOne t e)
    have h2 := wOne_n t e
    show (wAll l (wOne t e)).n ≤ t.n + (l.length + 1)
    omega
theorem drop_lt {S : Kvs} {k : Nat} {p : Int × Int → Prop} (h : ¬ ∀ s ∈ S.drop k, p s) : k < S.length := by
  rcases Nat.lt_or_ge k S.length with h1 | h1
  · exact h1
  · exact (h (by rw [List.drop_eq_nil_of_le h1]; intro s hs; cases hs)).elim
theorem drop_next {S : Kvs} {k : Nat} {p : Int × Int → Prop} {e : Int × Int} (h : ¬ ∀ s ∈ S.drop k, p s) (he : S[k]? = some e) (hp : p e) : ¬ ∀ s ∈ S.drop (k + 1), p s := fun hq => h (by
  obtain ⟨hl, rfl⟩ := List.getElem?_eq_some_iff.1 he
  rw [List.drop_eq_getElem_cons hl]
  intro s hs
  rcases List.mem_cons.1 hs with rfl | hs
  · exact hp
  · exact hq s hs)
set_option maxRecDepth 8192 in
theorem tx_conflict {g w : World} {L : List HP} (x a : Nat) (rt : Int) (xs : List WE) (q : Nat) (S : Kvs) (A : AM) (R : List Int) (hd : Int) (ts th : Tr) (hA : ARf A R) (hts : Is A ts rt) (hth : Is A th hd) (hss : Srt ts.ls) (hsh : Srt th.ls) (hn : ts.n + th.n ≤ 60000) (hSl : S.length ≤ 100000) (hcf : ¬ ∀ s ∈ S, inR s.1 s.2 (dif ts.ls th.ls) = []) (hS : St g (Tx x a rt xs q S :: Arn a A :: L) w) :
    Sp Tryz.prog 109 [.pointer (some ⟨x, 0, none⟩), .int .u32 hd] w (fun v w' => v = .tuple #[.int .u32 0, .int .i64 10] ∧ St g (Tx x a rt xs q S :: Arn a A :: L) w') := by
  refine Sp.enter Tryz.func109 rfl (by kernel_rfl) (by kernel_rfl) ?_
  have _ := hSl
  have _ := hn
  refine WC.seq ?_
  refine WC.region ?_
  refine WL.r 2 rfl ?_
  refine WL.nil ?_
  refine WC.seq ?_
  refine WC.seq ?_
  refine WC.region ?_
  obtain ⟨⟨xm, xu, xc⟩, hS⟩ := St.exOpen (f := txF x a rt xs q S) hS
  replace hS : St g (cel x #[.pointer (some ⟨a, 0, none⟩), .int .u32 rt, .bool false, .map (some xm), .slice xu (List.length (en2 S)) xc] 202 :: blk xm (.map (mE (List.map wK xs)) q) :: Own 113 2 (en2 S) xu xc :: Arn a A :: L) w := hS
  have hll := en2_len S
  refine WL.run 4 [.bool false] rfl (by exact hS.ld 0 rfl rfl) ?_
  refine WL.nil ?_
  refine WC.ifF rfl rfl ?_
  refine WC.skip ?_
  refine WC.seq ?_
  refine WC.seq ?_
  refine WC.region ?_
  refine WL.run 6 [.slice xu (List.length (en2 S)) xc] rfl (by exact hS.ld 0 rfl rfl) ?_
  refine WL.nil ?_
  refine WC.block ?_
  refine WC.loop [0, 1, 24, 25, 26] (fun kM vs w => ∃ (k : Nat), vs = [.pointer (some ⟨x, 0, none⟩), .int .u32 hd, .slice xu (List.length (en2 S)) xc, .int .i64 (List.length (en2 S) : Int), .int .i64 (k : Int)] ∧ St g (cel x #[.pointer (some ⟨a, 0, none⟩), .int .u32 rt, .bool false, .map (some xm), .slice xu (List.length (en2 S)) xc] 202 :: blk xm (.map (mE (List.map wK xs)) q) :: Own 113 2 (en2 S) xu xc :: Arn a A :: L) w ∧ (¬ ∀ s ∈ S.drop k, inR s.1 s.2 (dif ts.ls th.ls) = []) ∧ (S.length - k) = kM) ((List.length S) - 0) ⟨0, rfl, hS, (hcf), rfl⟩ ?_
  clear hS; rintro _ _ w j ⟨k, rfl, hS, hk, rfl⟩
  refine WC.seq ?_
  refine WC.region ?_
  refine WL.r 1 rfl ?_
  refine WL.nil ?_
  as_aux_lemma =>
    refine WC.seq ?_
    refine WC.ifT rfl (decide_eq_true ((by have := drop_lt hk; omega))) ?_
    refine WC.skip ?_
    refine WC.seq ?_
    refine WC.block ?_
    refine WC.seq ?_
    refine WC.region ?_
    obtain ⟨e, he⟩ : ∃ e, S[k]? = some e := ⟨_, List.getElem?_eq_getElem (drop_lt hk)⟩; have hlt := drop_lt hk
    refine WL.ix rfl rfl (i := (k : Int)) (k) el_103 rfl rfl (by omega) (by omega) (hS.rdO 2 rfl (en2_at he)).1 ?_
    refine WL.ldC rfl rfl [.int .i64 e.1, .int .i64 e.2] ag_113 rfl (hS.rdO 2 rfl (en2_at he)).2 ?_
    refine WL.new rfl rfl zv_113 hS (fun b1 w hS => ?_)
    refine WL.stF rfl rfl rfl 0 hS rfl rfl rfl rfl rfl ag_113 (fun w hS => ?_)
    replace hS : St g (cel b1 #[.int .i64 e.1, .int .i64 e.2] 113 :: cel x #[.pointer (some ⟨a, 0, none⟩), .int .u32 rt, .bool false, .map (some xm), .slice xu (List.length (en2 S)) xc] 202 :: blk xm (.map (mE (List.map wK xs)) q) :: Own 113 2 (en2 S) xu xc :: Arn a A :: L) w := hS
    refine WL.nil ?_
    refine WC.seq ?_
    refine WC.plan [([0, 4, 8, 9, 11, 1, 5, 10, 12, 2, 6, 3, 7], some (13, [])), ([14, 15], none)] (by kernel_rfl) (by kernel_rfl) ?_
    refine WQ.run 13 [.int .i64 e.1, .int .i64 e.2, .pointer (some ⟨a, 0, none⟩), .int .u32 rt] rfl (by exact ⟨hS.ld 0 rfl rfl, hS.ld 0 rfl rfl, hS.ld 1 rfl rfl, hS.ld 1 rfl rfl⟩) ?_
    refine WQ.nil ?_
    intro m1
    replace hS := hS.drewN m1; generalize hwm1 : World.drewN _ _ = w at *; clear hwm1
    refine WL.call rfl rfl (df_range (a := a) (A := A) (R := R) (x := rt) (y := hd) (lo := e.1) (hi := e.2) (tx := ts) (ty := th) (hA := hA) (hx := hts) (hy := hth) (hsx := hss) (hsy := hsh) (hl := (by omega)) (hS := (hS.sel 5 [4, 0, 0, 0, 0] rfl))) rfl ?_
    clear hS; rintro _ w ⟨a1, c1, rfl, hS⟩
    replace hS : St g (Own 82 4 (ch4 (inR e.1 e.2 (dif ts.ls th.ls))) a1 c1 :: Arn a A :: cel b1 #[.int .i64 e.1, .int .i64 e.2] 113 :: cel x #[.pointer (some ⟨a, 0, none⟩), .int .u32 rt, .bool false, .map (some xm), .slice xu (List.length (en2 S)) xc] 202 :: blk xm (.map (mE (List.map wK xs)) q) :: Own 113 2 (en2 S) xu xc :: L) w := hS
    refine WL.nil ?_
    refine ⟨by exact trivial, ?_⟩
    refine WQ.r 2 rfl ?_
    refine WQ.nil ?_
    intro m2
    replace hS := hS.drewN m2; generalize hwm2 : World.drewN _ _ = w at *; clear hwm2
    as_aux_lemma =>
      refine WC.ifP rfl (fun hc => ?_) (fun hc => ?_)
      · refine WC.seq ?_
        refine WC.region ?_
        refine WL.r 2 rfl ?_
        refine WL.nil ?_
        refine WC.ret ?_
        replace hS := St.exClose (f := txF x a rt xs q S) (L := Own 82 4 (ch4 (inR e.1 e.2 (dif ts.ls th.ls))) a1 c1 :: Arn a A :: cel b1 #[.int .i64 e.1, .int .i64 e.2] 113 :: L) ⟨xm, xu, xc⟩ ((hS.sel 6 [3, 3, 3, 0, 0, 0] rfl))
        replace hS : St g (Tx x a rt xs q S :: Own 82 4 (ch4 (inR e.1 e.2 (dif ts.ls th.ls))) a1 c1 :: Arn a A :: cel b1 #[.int .i64 e.1, .int .i64 e.2] 113 :: L) w := hS
        refine ⟨[.int .u32 0, .int .i64 10], ⟨rfl, rfl⟩, ?_⟩
        replace hS := (hS.sel 4 [0, 1] rfl)
        exact ⟨rfl, hS⟩
      · refine WC.skip ?_
        refine WC.region ?_
        refine WL.r 1 rfl ?_
        refine WL.nw 46 rfl (w64 (by omega)) ?_
        refine WL.r 1 rfl ?_
        refine WL.nil ?_
        exact ⟨_, by omega, k + 1, rfl, (hS.sel 6 [3, 3, 3, 1] rfl), (drop_next hk he (List.length_eq_zero_iff.1 (by have := ch4_len (inR e.1 e.2 (dif ts.ls th.ls)); omega))), rfl⟩
end Go.Proofs.YtlnlnebibgdjdaaGreat
/-! ## W6 -/
namespace Go.Proofs.YtlnlnebibgdjdaaGreat
open Go Go.V
theorem TOp.held {A B : AM} {R : List Int} {i j : Int} {t : Tr} {c : Nat} (h : TOp (A.ret i) B R j t c) : TOp A B R j t c :=
  ⟨h.ref, h.is, (Kp.ret A i R).trans h.kp, by have := h.fr; rw [(AM.ret_same _ _).1] at this; exact this, by rw [h.cap, (AM.ret_same _ _).1]⟩
theorem get_of {k z : Int} {t : Tr} (h1 : (Tr.get k t).isSome = true) (h2 : (Tr.get k t).getD 0 = z) : Tr.get k t = some z := by
  cases hg : Tr.get k t with
  | none => rw [hg] at h1; cases h1
  | some y => rw [hg] at h2; rw [show y = z from h2]
end Go.Proofs.YtlnlnebibgdjdaaGreat
/-! ## Tx5 -/
namespace Go.Proofs.YtlnlnebibgdjdaaGreat
open Go Go.V Go.RowKit Go.Maps
theorem wC_k (e : Int × Bool × Int) : (wC e).2.1 = e.1 := by unfold wC; split <;> rfl
theorem wC_3 (e : Int × Bool × Int) : decide ((wC e).1 = 3) = e.2.1 := by
  unfold wC
  cases e.2.1 <;> rfl
theorem wC_v {e : Int × Bool × Int} (h : e.2.1 = true) : (wC e).2.2.2 = e.2.2 := by unfold wC; rw [if_pos h]
theorem need_iff {t : Tr} {e : Int × Bool × Int} : ((¬ ((decide ((wC e).1 = 3) == (Tr.get (wC e).2.1 t).isSome) = true)) ∨ ((wC e).1 = 3 ∧ (Tr.get (wC e).2.1 t).getD 0 ≠ (wC e).2.2.2)) ↔ wNeed t e = true := by
  rw [wC_3, wC_k]
  have h3 : ((wC e).1 = 3) ↔ e.2.1 = true := by rw [← wC_3]; exact decide_eq_true_iff.symm
  rw [h3]
  unfold wNeed
  cases hp : e.2.1 with
  | false => cases (Tr.get e.1 t).isSome <;> simp
  | true => rw [wC_v hp]; cases (Tr.get e.1 t).isSome <;> simp
theorem wWork_len (t : Tr) (M : Wrs) : (wWork t M).length ≤ M.length := List.length_filter_le _ _
theorem wWork_in {t : Tr} {M : Wrs} {k : Nat} {e : Int × Bool × Int} (h : M[k]? = some e) (hn : wNeed t e = true) : wWork t (M.take (k + 1)) = wWork t (M.take k) ++ [e] := by
  unfold wWork; rw [List.take_add_one, h, List.filter_append]; simp [hn]
theorem wWork_out {t : Tr} {M : Wrs} {k : Nat} {e : Int × Bool × Int} (h : M[k]? = some e) (hn : wNeed t e = false) : wWork t (M.take (k + 1)) = wWork t (M.take k) := by
  unfold wWork; rw [List.take_add_one, h, List.filter_append]; simp [hn]
theorem wp_t {e : Int × Bool × Int} (h : (wC e).1 = 3) : e.2.1 = true := by rw [← wC_3]; exact decide_eq_true h
theorem wp_f {e : Int × Bool × Int} (h : ¬ (wC e).1 = 3) : e.2.1 = false := by rw [← wC_3]; exact decide_eq_false h
theorem wCost_ins {e : Int × Bool × Int} {u : Tr} {f : Int} (h : (wC e).1 = 3) (hc : (wCost u e : Int) ≤ f) : (Tr.ic (wC e).2.1 (wC e).2.2.2 u : Int) ≤ f := by
  unfold wCost at hc
  rw [if_pos (wp_t h)] at hc
  rw [wC_k, wC_v (wp_t h)]; exact hc
theorem wCost_del {e : Int × Bool × Int} {u : Tr} {f : Int} (h : ¬ (wC e).1 = 3) (hc : (wCost u e : Int) ≤ f) : (Tr.dc (wC e).2.1 u : Int) ≤ f := by
  unfold wCost at hc
  rw [if_neg (by rw [wp_f h]; decide)] at hc
  rw [wC_k]; exact hc
theorem step_ins {A B C : AM} {R : List Int} {o j : Int} {W : Wrs} {k : Nat} {e : Int × Bool × Int} {t : Tr} (he : W[k]? = some e) (h : (wC e).1 = 3) (hT : TOp A B R o (wAll (W.take k) t) (wSum (W.take k) t)) (f : TOp B C R j (Tr.ins (wC e).2.1 (wC e).2.2.2 (wAll (W.take k) t)) (Tr.ic (wC e).2.1 (wC e).2.2.2 (wAll (W.take k) t))) : TOp A C R j (wAll (W.take (k + 1)) t) (wSum (W.take (k + 1)) t) := by
  rw [wC_k, wC_v (wp_t h)] at f
  rw [wAll_snoc he, wSum_snoc he]
  unfold wOne wCost
  rw [if_pos (wp_t h), if_pos (wp_t h)]
  exact f.after hT.ch sb0 (Nat.le_refl _)
theorem step_del {A B C : AM} {R : List Int} {o j : Int} {W : Wrs} {k : Nat} {e : Int × Bool × Int} {t : Tr} (he : W[k]? = some e) (h : ¬ (wC e).1 = 3) (hT : TOp A B R o (wAll (W.take k) t) (wSum (W.take k) t)) (f : TOp B C R j (Tr.del (wC e).2.1 (wAll (W.take k) t)) (Tr.dc (wC e).2.1 (wAll (W.take k) t))) : TOp A C R j (wAll (W.take (k + 1)) t) (wSum (W.take (k + 1)) t) := by
  have hp : ¬ e.2.1 = true := by rw [wp_f h]; decide
  rw [wC_k] at f
  rw [wAll_snoc he, wSum_snoc he]
  unfold wOne wCost
  rw [if_neg hp, if_neg hp]
  exact f.after hT.ch sb0 (Nat.le_refl _)
theorem TOp.fin {A B C : AM} {R : List Int} {r o : Int} {u : Tr} {c : Nat} (h : TOp A B (r :: R) o u c) (k : Rl B C (o :: R)) : TOp A C R o u c :=
  ⟨k.ref, k.kp o (by simp) u h.is, (h.kp.sub sb1).trans (k.kp.sub sb1), by have := h.fr; have := k.fr; omega, by rw [k.cap, h.cap]⟩
set_option maxHeartbeats 4000000 in
set_option maxRecDepth 8192 in
theorem tx_commit {g w : World} {L : List HP} (x a : Nat) (rt : Int) (xs : List WE) (q : Nat) (S : Kvs) (M : Wrs) (A : AM) (R : List Int) (hd : Int) (ts th : Tr) (hW : WOk xs q M) (hA : ARf A (rt :: R)) (hts : Is A ts rt) (hth : Is A th hd) (hss : Srt ts.ls) (hsh : Srt th.ls) (hn : ts.n + th.n ≤ 60000) (hSl : S.length ≤ 100000) (hR : R.length ≤ 500000000) (hno : ∀ s ∈ S, inR s.1 s.2 (dif ts.ls th.ls) = []) (hrm : wWork th M = [] ∨ ((th.n : Int) + M.length + 4 * ((Tr.mxH (th.n + M.length) : Int) + 2)) ≤ A.s.free) (hcs : ∀ (k : Nat) (e : Int × Bool × Int) (B : AM) (o : Int), (wWork th M)[k]? = some e → TOp A B (rt :: R) o (wAll ((wWork th M).take k) th) (wSum ((wWork th M).take k) th) → (wCost (wAll ((wWork th M).take k) th) e : Int) ≤ B.s.free) (hS : St g (Tx x a rt xs q S :: Arn a A :: L) w) :
    Sp Tryz.prog 109 [.pointer (some ⟨x, 0, none⟩), .int .u32 hd] w (fun v w' => ∃ (A2 : AM) (i : Int) (xm : Nat) (xu : Option Addr) (xc : Nat), v = .tuple #[.int .u32 i, .int .i64 0] ∧ St g (cel x #[.pointer (some ⟨a, 0, none⟩), .int .u32 rt, .bool true, .map (some xm), .slice xu (List.length (en2 S)) xc] 202 :: Arn a A2 :: L) w' ∧ (TOp A A2 R i (wAll (wWork th M) th) (wSum (wWork th M) th))) := by
  refine Sp.enter Tryz.func109 rfl (by kernel_rfl) (by kernel_rfl) ?_
  have _ := hR
  have _ := hSl
  have _ := hn
  refine WC.seq ?_
  refine WC.region ?_
  refine WL.r 2 rfl ?_
  refine WL.nil ?_
  refine WC.seq ?_
  refine WC.seq ?_
  refine WC.region ?_
  obtain ⟨⟨xm, xu, xc⟩, hS⟩ := St.exOpen (f := txF x a rt xs q S) hS
  replace hS : St g (cel x #[.pointer (some ⟨a, 0, none⟩), .int .u32 rt, .bool false, .map (some xm), .slice xu (List.length (en2 S)) xc] 202 :: blk xm (.map (mE (List.map wK xs)) q) :: Own 113 2 (en2 S) xu xc :: Arn a A :: L) w := hS
  have hll := en2_len S; have hml := hW.len; have hmn := hW.k.num
  refine WL.run 4 [.bool false] rfl (by exact hS.ld 0 rfl rfl) ?_
  refine WL.nil ?_
  refine WC.ifF rfl rfl ?_
  refine WC.skip ?_
  refine WC.seq ?_
  refine WC.seq ?_
  refine WC.region ?_
  refine WL.run 6 [.slice xu (List.length (en2 S)) xc] rfl (by exact hS.ld 0 rfl rfl) ?_
  refine WL.nil ?_
  refine WC.block ?_
  refine WC.loop [0, 1, 24, 25, 26] (fun kM vs w => ∃ (k : Nat), vs = [.pointer (some ⟨x, 0, none⟩), .int .u32 hd, .slice xu (List.length (en2 S)) xc, .int .i64 (List.length (en2 S) : Int), .int .i64 (k : Int)] ∧ St g (cel x #[.pointer (some ⟨a, 0, none⟩), .int .u32 rt, .bool false, .map (some xm), .slice xu (List.length (en2 S)) xc] 202 :: blk xm (.map (mE (List.map wK xs)) q) :: Own 113 2 (en2 S) xu xc :: Arn a A :: L) w ∧ (k ≤ S.length) ∧ (S.length - k) = kM) ((List.length S) - 0) ⟨0, rfl, hS, (Nat.zero_le _), rfl⟩ ?_
  clear hS; rintro _ _ w j ⟨k, rfl, hS, hk, rfl⟩
  refine WC.seq ?_
  refine WC.region ?_
  refine WL.r 1 rfl ?_
  refine WL.nil ?_
  as_aux_lemma =>
    refine WC.seq ?_
    refine WC.ifP rfl (fun cd1 => ?_) (fun cd1 => ?_)
    · refine WC.skip ?_
      refine WC.seq ?_
      refine WC.block ?_
      refine WC.seq ?_
      refine WC.region ?_
      obtain ⟨e, he⟩ : ∃ e, S[k]? = some e := ⟨_, List.getElem?_eq_getElem (by omega)⟩; have h0 := hno e (List.mem_of_getElem? he)
      refine WL.ix rfl rfl (i := (k : Int)) (k) el_103 rfl rfl (by omega) (by omega) (hS.rdO 2 rfl (en2_at he)).1 ?_
      refine WL.ldC rfl rfl [.int .i64 e.1, .int .i64 e.2] ag_113 rfl (hS.rdO 2 rfl (en2_at he)).2 ?_
      refine WL.new rfl rfl zv_113 hS (fun b1 w hS => ?_)
      refine WL.stF rfl rfl rfl 0 hS rfl rfl rfl rfl rfl ag_113 (fun w hS => ?_)
      replace hS : St g (cel b1 #[.int .i64 e.1, .int .i64 e.2] 113 :: cel x #[.pointer (some ⟨a, 0, none⟩), .int .u32 rt, .bool false, .map (some xm), .slice xu (List.length (en2 S)) xc] 202 :: blk xm (.map (mE (List.map wK xs)) q) :: Own 113 2 (en2 S) xu xc :: Arn a A :: L) w := hS
      refine WL.nil ?_
      refine WC.seq ?_
      refine WC.plan [([0, 4, 8, 9, 11, 1, 5, 10, 12, 2, 6, 3, 7], some (13, [])), ([14, 15], none)] (by kernel_rfl) (by kernel_rfl) ?_
      refine WQ.run 13 [.int .i64 e.1, .int .i64 e.2, .pointer (some ⟨a, 0, none⟩), .int .u32 rt] rfl (by exact ⟨hS.ld 0 rfl rfl, hS.ld 0 rfl rfl, hS.ld 1 rfl rfl, hS.ld 1 rfl rfl⟩) ?_
      refine WQ.nil ?_
      intro m1
      replace hS := hS.drewN m1; generalize hwm1 : World.drewN _ _ = w at *; clear hwm1
      refine WL.call rfl rfl (df_range (a := a) (A := A) (R := rt :: R) (x := rt) (y := hd) (lo := e.1) (hi := e.2) (tx := ts) (ty := th) (hA := hA) (hx := hts) (hy := hth) (hsx := hss) (hsy := hsh) (hl := (by omega)) (hS := (hS.sel 5 [4, 0, 0, 0, 0] rfl))) rfl ?_
      clear hS; rintro _ w ⟨a1, c1, rfl, hS⟩
      replace hS : St g (Own 82 4 (ch4 (inR e.1 e.2 (dif ts.ls th.ls))) a1 c1 :: Arn a A :: cel b1 #[.int .i64 e.1, .int .i64 e.2] 113 :: cel x #[.pointer (some ⟨a, 0, none⟩), .int .u32 rt, .bool false, .map (some xm), .slice xu (List.length (en2 S)) xc] 202 :: blk xm (.map (mE (List.map wK xs)) q) :: Own 113 2 (en2 S) xu xc :: L) w := hS
      refine WL.nil ?_
      refine ⟨by exact trivial, ?_⟩
      refine WQ.r 2 rfl ?_
      refine WQ.nil ?_
      intro m2
      replace hS := hS.drewN m2; generalize hwm2 : World.drewN _ _ = w at *; clear hwm2
      as_aux_lemma =>
        refine WC.ifF rfl (decide_eq_false ((by rw [h0]; decide))) ?_
        refine WC.skip ?_
        refine WC.region ?_
        refine WL.r 1 rfl ?_
        refine WL.nw 46 rfl (w64 (by omega)) ?_
        refine WL.r 1 rfl ?_
        refine WL.nil ?_
        exact ⟨_, by omega, k + 1, rfl, (hS.sel 6 [3, 3, 3, 1] rfl), (by omega), rfl⟩
    · refine WC.exit ?_
      refine WC.seq ?_
      refine WC.region ?_
      replace hS := St.exClose (f := txF x a rt xs q S) (L := Arn a A :: L) ⟨xm, xu, xc⟩ (hS)
      replace hS : St g (Tx x a rt xs q S :: Arn a A :: L) w := hS
      refine WL.r 1 rfl ?_
      refine WL.nil ?_
      refine WC.seq ?_
      refine WC.seq ?_
      refine WC.region ?_
      have hcl := ch4_len (M.map wC); have hmp : (M.map wC).length = M.length := List.length_map ..
      refine WL.r 1 rfl ?_
      refine WL.call rfl rfl (tx_writes (x := x) (a := a) (rt := rt) (xs := xs) (q := q) (S := S) (M := M) (hW := hW) (hS := hS)) rfl ?_
      clear hS; rintro _ w ⟨a1, c1, rfl, hS⟩
      replace hS : St g (Own 82 4 (ch4 (M.map wC)) a1 c1 :: Tx x a rt xs q S :: Arn a A :: L) w := hS
      refine WL.r 2 rfl ?_
      refine WL.nil ?_
      refine WC.block ?_
      replace hS := hS.nil_ 82 4
      refine WC.loop [0, 1, 8, 48, 49, 50] (fun kM vs w => ∃ (k2 : Nat) (acc : List (Int × Int × Int × Int)) (u : Option Addr) (d : Nat), vs = [.pointer (some ⟨x, 0, none⟩), .int .u32 hd, .slice u (List.length (ch4 acc)) d, .slice a1 (List.length (ch4 (M.map wC))) c1, .int .i64 (List.length (ch4 (M.map wC)) : Int), .int .i64 (k2 : Int)] ∧ St g (Own 82 4 (ch4 acc) u d :: Own 82 4 (ch4 (M.map wC)) a1 c1 :: Tx x a rt xs q S :: Arn a A :: L) w ∧ (k2 ≤ M.length) ∧ (acc = (wWork th (M.take k2)).map wC) ∧ (M.length - k2) = kM) ((List.length M) - 0) ⟨0, [], none, 0, rfl, hS, (Nat.zero_le _), (rfl), rfl⟩ ?_
      clear hS; rintro _ _ w j ⟨k2, acc, u, d, rfl, hS, hk2, hac, rfl⟩
      refine WC.seq ?_
      refine WC.region ?_
      have hcl := ch4_len (M.map wC); have hmp : (M.map wC).length = M.length := List.length_map ..
      refine WL.r 1 rfl ?_
      refine WL.nil ?_
      as_aux_lemma =>
        refine WC.seq ?_
        refine WC.ifP rfl (fun cd2 => ?_) (fun cd2 => ?_)
        · refine WC.skip ?_
          refine WC.seq ?_
          refine WC.block ?_
          refine WC.seq ?_
          refine WC.region ?_
          obtain ⟨e, he⟩ : ∃ e, M[k2]? = some e := ⟨_, List.getElem?_eq_getElem (by omega)⟩; have hz : (M.map wC)[k2]? = some (wC e) := (by rw [List.getElem?_map, he]; rfl); have hwl := wWork_len th (M.take k2); have htl := List.length_take_le k2 M; have hacl : acc.length ≤ k2 := (by rw [hac, List.length_map]; omega); have hal := ch4_len acc
          refine WL.ix rfl rfl (i := (k2 : Int)) (k2) el_179 rfl rfl (by omega) (by omega) (hS.rdO 1 rfl (ch4_at hz)).1 ?_
          refine WL.ldC rfl rfl [.int .i64 (wC e).1, .int .i64 (wC e).2.1, .int .i64 (wC e).2.2.1, .int .i64 (wC e).2.2.2] ag_82 rfl (hS.rdO 1 rfl (ch4_at hz)).2 ?_
          refine WL.new rfl rfl zv_82 hS (fun b1 w hS => ?_)
          refine WL.stF rfl rfl rfl 0 hS rfl rfl rfl rfl rfl ag_82 (fun w hS => ?_)
          replace hS : St g (cel b1 #[.int .i64 (wC e).1, .int .i64 (wC e).2.1, .int .i64 (wC e).2.2.1, .int .i64 (wC e).2.2.2] 82 :: Own 82 4 (ch4 acc) u d :: Own 82 4 (ch4 (M.map wC)) a1 c1 :: Tx x a rt xs q S :: Arn a A :: L) w := hS
          refine WL.nil ?_
          refine WC.seq ?_
          refine WC.plan [([0, 4, 5, 1, 6, 2, 3], some (7, [])), ([8, 9, 10, 11, 12], none)] (by kernel_rfl) (by kernel_rfl) ?_
          obtain ⟨⟨xm, xu, xc⟩, hS⟩ := St.exOpen (f := txF x a rt xs q S) (hS.at_ 3 rfl)
          replace hS : St g (cel x #[.pointer (some ⟨a, 0, none⟩), .int .u32 rt, .bool false, .map (some xm), .slice xu (List.length (en2 S)) xc] 202 :: blk xm (.map (mE (List.map wK xs)) q) :: Own 113 2 (en2 S) xu xc :: cel b1 #[.int .i64 (wC e).1, .int .i64 (wC e).2.1, .int .i64 (wC e).2.2.1, .int .i64 (wC e).2.2.2] 82 :: Own 82 4 (ch4 acc) u d :: Own 82 4 (ch4 (M.map wC)) a1 c1 :: Arn a A :: L) w := hS
          refine WQ.run 7 [.int .i64 (wC e).2.1, .pointer (some ⟨a, 0, none⟩)] rfl (by exact ⟨hS.ld 3 rfl rfl, hS.ld 0 rfl rfl⟩) ?_
          refine WQ.nil ?_
          intro m1
          replace hS := hS.drewN m1; generalize hwm1 : World.drewN _ _ = w at *; clear hwm1
          refine WL.call rfl rfl (lk_get (a := a) (A := A) (R := rt :: R) (i := hd) (k := (wC e).2.1) (t := th) (hA := hA) (hi := hth) (hS := (hS.sel 7 [6, 0, 0, 0, 0, 0, 0] rfl))) rfl ?_
          clear hS; rintro _ w ⟨rfl, hS⟩
          replace hS : St g (Arn a A :: cel x #[.pointer (some ⟨a, 0, none⟩), .int .u32 rt, .bool false, .map (some xm), .slice xu (List.length (en2 S)) xc] 202 :: blk xm (.map (mE (List.map wK xs)) q) :: Own 113 2 (en2 S) xu xc :: cel b1 #[.int .i64 (wC e).1, .int .i64 (wC e).2.1, .int .i64 (wC e).2.2.1, .int .i64 (wC e).2.2.2] 82 :: Own 82 4 (ch4 acc) u d :: Own 82 4 (ch4 (M.map wC)) a1 c1 :: L) w := hS
          refine WL.nil ?_
          refine ⟨by exact trivial, ?_⟩
          refine WQ.r 5 rfl ?_
          refine WQ.nil ?_
          intro m2
          replace hS := hS.drewN m2; generalize hwm2 : World.drewN _ _ = w at *; clear hwm2
          as_aux_lemma =>
            refine WC.seq ?_
            refine WC.region ?_
            refine WL.run 4 [.int .i64 (wC e).1] rfl (by exact hS.ld 4 rfl rfl) ?_
            refine WL.nil ?_
            refine WC.seq ?_
            refine WC.region ?_
            refine WL.r 3 rfl ?_
            refine WL.runG 9 [.int .i64 (wC e).2.2.2] rfl (by exact (fun _ => hS.ld 4 rfl rfl)) (fun j => ?_)
            refine WL.prop 79 rfl (bor (bnot (dv _)) (band (dd _) (dd _))) ?_
            refine WL.nil ?_
            refine WC.ifP rfl (fun hnd => ?_) (fun hnd => ?_)
            · refine WC.region ?_
              refine WL.r 1 rfl ?_
              refine WL.ldF rfl rfl 4 hS rfl rfl ag_82 ?_
              refine WL.lit rfl rfl (ch4 [((wC e).1, (wC e).2.1, (wC e).2.2.1, (wC e).2.2.2)]) el_179 hS (by exact ⟨rfl, rfl⟩) (ch4_ok _) rfl (by decide) (fun b2 w hS => ?_)
              refine WL.app rfl rfl 6 (ch4 (acc ++ [((wC e).1, (wC e).2.1, (wC e).2.2.1, (wC e).2.2.2)])) el_179 hS rfl (hS.srcO 0 rfl) (ch4_app _ _).symm (Rm.of (by first | omega | (simp <;> omega)) (by decide)) rfl rfl (fun a2 c2 w hS => ?_)
              replace hS : St g (Own 82 4 (ch4 [((wC e).1, (wC e).2.1, (wC e).2.2.1, (wC e).2.2.2)]) (some ⟨b2, 0, none⟩) (List.length (ch4 [((wC e).1, (wC e).2.1, (wC e).2.2.1, (wC e).2.2.2)])) :: Arn a A :: cel x #[.pointer (some ⟨a, 0, none⟩), .int .u32 rt, .bool false, .map (some xm), .slice xu (List.length (en2 S)) xc] 202 :: blk xm (.map (mE (List.map wK xs)) q) :: Own 113 2 (en2 S) xu xc :: cel b1 #[.int .i64 (wC e).1, .int .i64 (wC e).2.1, .int .i64 (wC e).2.2.1, .int .i64 (wC e).2.2.2] 82 :: Own 82 4 (ch4 (acc ++ [((wC e).1, (wC e).2.1, (wC e).2.2.1, (wC e).2.2.2)])) a2 c2 :: Own 82 4 (ch4 (M.map wC)) a1 c1 :: L) w := hS
              refine WL.r 1 rfl ?_
              refine WL.nil ?_
              refine WC.region ?_
              refine WL.r 1 rfl ?_
              refine WL.nw 84 rfl (w64 (by omega)) ?_
              refine WL.r 1 rfl ?_
              refine WL.nil ?_
              replace hS := St.exClose (f := txF x a rt xs q S) (L := Own 82 4 (ch4 [((wC e).1, (wC e).2.1, (wC e).2.2.1, (wC e).2.2.2)]) (some ⟨b2, 0, none⟩) (List.length (ch4 [((wC e).1, (wC e).2.1, (wC e).2.2.1, (wC e).2.2.2)])) :: Arn a A :: cel b1 #[.int .i64 (wC e).1, .int .i64 (wC e).2.1, .int .i64 (wC e).2.2.1, .int .i64 (wC e).2.2.2] 82 :: Own 82 4 (ch4 (acc ++ [((wC e).1, (wC e).2.1, (wC e).2.2.1, (wC e).2.2.2)])) a2 c2 :: Own 82 4 (ch4 (M.map wC)) a1 c1 :: L) ⟨xm, xu, xc⟩ ((hS.sel 5 [2, 2, 2, 0, 0] rfl))
              replace hS : St g (Tx x a rt xs q S :: Own 82 4 (ch4 [((wC e).1, (wC e).2.1, (wC e).2.2.1, (wC e).2.2.2)]) (some ⟨b2, 0, none⟩) (List.length (ch4 [((wC e).1, (wC e).2.1, (wC e).2.2.1, (wC e).2.2.2)])) :: Arn a A :: cel b1 #[.int .i64 (wC e).1, .int .i64 (wC e).2.1, .int .i64 (wC e).2.2.1, .int .i64 (wC e).2.2.2] 82 :: Own 82 4 (ch4 (acc ++ [((wC e).1, (wC e).2.1, (wC e).2.2.1, (wC e).2.2.2)])) a2 c2 :: Own 82 4 (ch4 (M.map wC)) a1 c1 :: L) w := hS
              exact ⟨_, by omega, k2 + 1, acc ++ [wC e], a2, c2, rfl, (hS.sel 6 [4, 4, 0, 1] rfl), (by omega), (by rw [wWork_in he (need_iff.1 hnd), List.map_append, ← hac]; rfl), rfl⟩
            · refine WC.skip ?_
              refine WC.region ?_
              refine WL.r 1 rfl ?_
              refine WL.nw 84 rfl (w64 (by omega)) ?_
              refine WL.r 1 rfl ?_
              refine WL.nil ?_
              replace hS := St.exClose (f := txF x a rt xs q S) (L := Arn a A :: cel b1 #[.int .i64 (wC e).1, .int .i64 (wC e).2.1, .int .i64 (wC e).2.2.1, .int .i64 (wC e).2.2.2] 82 :: Own 82 4 (ch4 acc) u d :: Own 82 4 (ch4 (M.map wC)) a1 c1 :: L) ⟨xm, xu, xc⟩ ((hS.sel 4 [1, 1, 1, 0] rfl))
              replace hS : St g (Tx x a rt xs q S :: Arn a A :: cel b1 #[.int .i64 (wC e).1, .int .i64 (wC e).2.1, .int .i64 (wC e).2.2.1, .int .i64 (wC e).2.2.2] 82 :: Own 82 4 (ch4 acc) u d :: Own 82 4 (ch4 (M.map wC)) a1 c1 :: L) w := hS
              exact ⟨_, by omega, k2 + 1, acc, u, d, rfl, (hS.sel 5 [3, 3, 0, 0] rfl), (by omega), (by rw [wWork_out he (by have := mt need_iff.2 hnd; simpa using this)]; exact hac), rfl⟩
        · refine WC.exit ?_
          refine WC.seq ?_
          refine WC.seq ?_
          refine WC.plan [([0, 1, 2, 3, 4, 8, 12, 14, 5, 9, 15, 6, 10, 16, 7, 11, 17], some (13, [4, 5, 6, 7, 14, 15, 16, 17])), ([18], some (19, [4, 5, 6, 7])), ([], some (20, [])), ([21, 22], none)] (by kernel_rfl) (by kernel_rfl) ?_
          obtain ⟨⟨xm, xu, xc⟩, hS⟩ := St.exOpen (f := txF x a rt xs q S) (hS.at_ 2 rfl)
          replace hS : St g (cel x #[.pointer (some ⟨a, 0, none⟩), .int .u32 rt, .bool false, .map (some xm), .slice xu (List.length (en2 S)) xc] 202 :: blk xm (.map (mE (List.map wK xs)) q) :: Own 113 2 (en2 S) xu xc :: Own 82 4 (ch4 acc) u d :: Own 82 4 (ch4 (M.map wC)) a1 c1 :: Arn a A :: L) w := hS
          have hke : acc = (wWork th M).map wC := (by rw [hac, List.take_of_length_le (by omega)]); have hal := ch4_len acc; have hal2 : acc.length = (wWork th M).length := (by rw [hke, List.length_map]); have hwl := wWork_len th M
          refine WQ.r 4 rfl ?_
          by_cases cg1 : 0 < (List.length (ch4 acc) : Int)
          · refine WQ.reb 88 (.bool true) (congrArg Value.bool (decide_eq_true cg1)) ?_
            refine WQ.ung rfl rfl rfl ?_
            refine WQ.r 1 rfl ?_
            refine WQ.ung rfl rfl rfl ?_
            refine WQ.r 1 rfl ?_
            refine WQ.ung rfl rfl rfl ?_
            refine WQ.r 1 rfl ?_
            refine WQ.ung rfl rfl rfl ?_
            refine WQ.r 1 rfl ?_
            refine WQ.ung rfl rfl rfl ?_
            refine WQ.r 1 rfl ?_
            refine WQ.ung rfl rfl rfl ?_
            refine WQ.r 1 rfl ?_
            refine WQ.ung rfl rfl rfl ?_
            refine WQ.r 1 rfl ?_
            refine WQ.ung rfl rfl rfl ?_
            refine WQ.r 1 rfl ?_
            refine WQ.ung rfl rfl rfl ?_
            refine WQ.r 1 rfl ?_
            refine WQ.ung rfl rfl rfl ?_
            refine WQ.r 1 rfl ?_
            refine WQ.ung rfl rfl rfl ?_
            refine WQ.run 1 [.pointer (some ⟨a, 0, none⟩)] rfl (by exact hS.ld 0 rfl rfl) ?_
            refine WQ.ung rfl rfl rfl ?_
            refine WQ.run 1 [.pointer (some ⟨a, 0, none⟩)] rfl (by exact hS.ld 0 rfl rfl) ?_
            refine WQ.ung rfl rfl rfl ?_
            refine WQ.run 1 [.map (some xm)] rfl (by exact hS.ld 0 rfl rfl) ?_
            refine WQ.nil ?_
            intro m1
            replace hS := hS.drewN m1; generalize hwm1 : World.drewN _ _ = w at *; clear hwm1
            refine WL.ung rfl rfl rfl ?_
            refine WL.call rfl rfl (tr_size (a := a) (A := A) (R := rt :: R) (i := hd) (t := th) (hA := hA) (hi := hth) (hS := (hS.sel 6 [5, 0, 0, 0, 0, 0] rfl))) rfl ?_
            clear hS; rintro _ w ⟨rfl, hS⟩
            replace hS : St g (Arn a A :: cel x #[.pointer (some ⟨a, 0, none⟩), .int .u32 rt, .bool false, .map (some xm), .slice xu (List.length (en2 S)) xc] 202 :: blk xm (.map (mE (List.map wK xs)) q) :: Own 113 2 (en2 S) xu xc :: Own 82 4 (ch4 acc) u d :: Own 82 4 (ch4 (M.map wC)) a1 c1 :: L) w := hS
            refine WL.nil ?_
            refine ⟨by exact ⟨RQ.ung rfl rfl rfl (RQ.pure rfl rfl rfl rfl), RQ.ung rfl rfl rfl (RQ.pure rfl rfl rfl rfl), RQ.ung rfl rfl rfl (RQ.pure rfl rfl rfl rfl), RQ.ung rfl rfl rfl (RQ.load rfl rfl rfl rfl (hS.ld 1 rfl rfl)), RQ.ung rfl rfl rfl (RQ.pure rfl rfl rfl rfl), RQ.ung rfl rfl rfl (RQ.pure rfl rfl rfl rfl), RQ.ung rfl rfl rfl (RQ.pure rfl rfl rfl rfl), RQ.ung rfl rfl rfl (RQ.load rfl rfl rfl rfl (hS.ld 1 rfl rfl))⟩, ?_⟩
            refine WQ.ung rfl rfl rfl ?_
            refine WQ.lenM rfl rfl mt_200 2 hS rfl rfl ?_
            refine WQ.nil ?_
            intro m2
            replace hS := hS.drewN m2; generalize hwm2 : World.drewN _ _ = w at *; clear hwm2
            refine WL.ung rfl rfl rfl ?_
            refine WL.call rfl rfl (rs_apply (n := th.n) (m := Array.size (mE (List.map wK xs))) (hn := (by rw [mE_size, List.length_map]; omega)) (hS := hS)) rfl ?_
            clear hS; rintro _ w ⟨rfl, hS⟩
            replace hS : St g (Arn a A :: cel x #[.pointer (some ⟨a, 0, none⟩), .int .u32 rt, .bool false, .map (some xm), .slice xu (List.length (en2 S)) xc] 202 :: blk xm (.map (mE (List.map wK xs)) q) :: Own 113 2 (en2 S) xu xc :: Own 82 4 (ch4 acc) u d :: Own 82 4 (ch4 (M.map wC)) a1 c1 :: L) w := hS
            refine WL.nil ?_
            refine ⟨by exact ⟨RQ.ung rfl rfl rfl (RQ.pure rfl rfl rfl rfl), RQ.ung rfl rfl rfl (RQ.pure rfl rfl rfl rfl), RQ.ung rfl rfl rfl (RQ.pure rfl rfl rfl rfl), RQ.ung rfl rfl rfl (RQ.load rfl rfl rfl rfl (hS.ld 1 rfl rfl))⟩, ?_⟩
            refine WQ.nil ?_
            intro m3
            replace hS := hS.drewN m3; generalize hwm3 : World.drewN _ _ = w at *; clear hwm3
            refine WL.ung rfl rfl rfl ?_
            refine WL.call rfl rfl (tw_room (a := a) (A := A) (n := (th.n : Int) + (Array.size (mE (List.map wK xs))) + 4 * ((Tr.mxH (th.n + (Array.size (mE (List.map wK xs)))) : Int) + 2)) (hA := hA.toAWf) (hS := hS)) rfl ?_
            clear hS; rintro _ w ⟨rfl, hS⟩
            replace hS : St g (Arn a A :: cel x #[.pointer (some ⟨a, 0, none⟩), .int .u32 rt, .bool false, .map (some xm), .slice xu (List.length (en2 S)) xc] 202 :: blk xm (.map (mE (List.map wK xs)) q) :: Own 113 2 (en2 S) xu xc :: Own 82 4 (ch4 acc) u d :: Own 82 4 (ch4 (M.map wC)) a1 c1 :: L) w := hS
            refine WL.nil ?_
            refine ⟨by exact trivial, ?_⟩
            refine WQ.ung rfl rfl rfl ?_
            refine WQ.r 1 rfl ?_
            refine WQ.prop 106 rfl (bnot (dd _)) ?_
            refine WQ.r 1 rfl ?_
            refine WQ.nil ?_
            intro m4
            replace hS := hS.drewN m4; generalize hwm4 : World.drewN _ _ = w at *; clear hwm4
            as_aux_lemma =>
              refine WC.ifF rfl (decide_eq_false ((by have hsz : (mE (List.map wK xs)).size = M.length := (by rw [mE_size, List.length_map, hml]); rw [hsz]; rcases hrm with h | h; (rw [h] at hal2; simp only [List.length_nil] at hal2; omega); exact Classical.not_not.2 ⟨by omega, h⟩))) ?_
              refine WC.skip ?_
              refine WC.seq ?_
              refine WC.region ?_
              refine WL.run 5 [.pointer (some ⟨a, 0, none⟩)] rfl (by exact hS.ld 1 rfl rfl) ?_
              refine WL.call rfl rfl (tw_hold (a := a) (A := A) (R := rt :: R) (i := hd) (hA := hA) (hi := hth.ref) (hz := (by simp only [List.length_cons]; omega)) (hS := hS)) rfl ?_
              clear hS; rintro _ w ⟨rfl, hS, f1⟩
              replace hS : St g (Arn a (A.ret hd) :: cel x #[.pointer (some ⟨a, 0, none⟩), .int .u32 rt, .bool false, .map (some xm), .slice xu (List.length (en2 S)) xc] 202 :: blk xm (.map (mE (List.map wK xs)) q) :: Own 113 2 (en2 S) xu xc :: Own 82 4 (ch4 acc) u d :: Own 82 4 (ch4 (M.map wC)) a1 c1 :: L) w := hS
              refine WL.r 1 rfl ?_
              refine WL.nil ?_
              refine WC.seq ?_
              refine WC.seq ?_
              refine WC.region ?_
              refine WL.r 3 rfl ?_
              refine WL.nil ?_
              refine WC.block ?_
              refine WC.loop [0, 14, 114, 115, 116] (fun kM vs w => ∃ (k3 : Nat) (B : AM) (o : Int), vs = [.pointer (some ⟨x, 0, none⟩), .int .u32 o, .slice u (List.length (ch4 acc)) d, .int .i64 (List.length (ch4 acc) : Int), .int .i64 (k3 : Int)] ∧ St g (Arn a B :: cel x #[.pointer (some ⟨a, 0, none⟩), .int .u32 rt, .bool false, .map (some xm), .slice xu (List.length (en2 S)) xc] 202 :: blk xm (.map (mE (List.map wK xs)) q) :: Own 113 2 (en2 S) xu xc :: Own 82 4 (ch4 acc) u d :: Own 82 4 (ch4 (M.map wC)) a1 c1 :: L) w ∧ (k3 ≤ (wWork th M).length) ∧ (TOp A B (rt :: R) o (wAll ((wWork th M).take k3) th) (wSum ((wWork th M).take k3) th)) ∧ ((wWork th M).length - k3) = kM) ((List.length (wWork th M)) - 0) ⟨0, A.ret hd, hd, rfl, hS, (Nat.zero_le _), (TOp.held (ARf.refl f1 (hth.ret hd))), rfl⟩ ?_
              clear hS; rintro _ _ w j ⟨k3, B, o, rfl, hS, hk3, hT, rfl⟩
              refine WC.seq ?_
              refine WC.region ?_
              refine WL.r 1 rfl ?_
              refine WL.nil ?_
              refine WC.seq ?_
              refine WC.ifP rfl (fun cd3 => ?_) (fun cd3 => ?_)
              · refine WC.skip ?_
                as_aux_lemma =>
                  refine WC.seq ?_
                  refine WC.block ?_
                  refine WC.seq ?_
                  refine WC.region ?_
                  obtain ⟨e3, he3⟩ : ∃ e, (wWork th M)[k3]? = some e := ⟨_, List.getElem?_eq_getElem (by omega)⟩; have hz3 : acc[k3]? = some (wC e3) := (by rw [hke, List.getElem?_map, he3]; rfl); have hc3 := hcs k3 e3 B o he3 hT; have hwn := wAll_n ((wWork th M).take k3) th; have htl3 := List.length_take_le k3 (wWork th M)
                  refine WL.ix rfl rfl (i := (k3 : Int)) (k3) el_179 rfl rfl (by omega) (by omega) (hS.rdO 4 rfl (ch4_at hz3)).1 ?_
                  refine WL.ldC rfl rfl [.int .i64 (wC e3).1, .int .i64 (wC e3).2.1, .int .i64 (wC e3).2.2.1, .int .i64 (wC e3).2.2.2] ag_82 rfl (hS.rdO 4 rfl (ch4_at hz3)).2 ?_
                  refine WL.new rfl rfl zv_82 hS (fun b1 w hS => ?_)
                  refine WL.stF rfl rfl rfl 0 hS rfl rfl rfl rfl rfl ag_82 (fun w hS => ?_)
                  replace hS : St g (cel b1 #[.int .i64 (wC e3).1, .int .i64 (wC e3).2.1, .int .i64 (wC e3).2.2.1, .int .i64 (wC e3).2.2.2] 82 :: Arn a B :: cel x #[.pointer (some ⟨a, 0, none⟩), .int .u32 rt, .bool false, .map (some xm), .slice xu (List.length (en2 S)) xc] 202 :: blk xm (.map (mE (List.map wK xs)) q) :: Own 113 2 (en2 S) xu xc :: Own 82 4 (ch4 acc) u d :: Own 82 4 (ch4 (M.map wC)) a1 c1 :: L) w := hS
                  refine WL.nil ?_
                  refine WC.seq ?_
                  refine WC.region ?_
                  refine WL.run 3 [.int .i64 (wC e3).1] rfl (by exact hS.ld 0 rfl rfl) ?_
                  refine WL.nil ?_
                  refine WC.ifP rfl (fun hp => ?_) (fun hp => ?_)
                  · refine WC.plan [([0, 4, 5, 7, 1, 6, 8, 2, 3], some (9, [0, 1, 2, 3, 4])), ([], some (10, [])), ([], some (11, []))] (by kernel_rfl) (by kernel_rfl) ?_
                    refine WQ.run 9 [.int .i64 (wC e3).2.1, .int .i64 (wC e3).2.2.2, .pointer (some ⟨a, 0, none⟩)] rfl (by exact ⟨hS.ld 0 rfl rfl, hS.ld 0 rfl rfl, hS.ld 2 rfl rfl⟩) ?_
                    refine WQ.nil ?_
                    intro m5
                    replace hS := hS.drewN m5; generalize hwm5 : World.drewN _ _ = w at *; clear hwm5
                    refine WL.build rfl rfl (cs := [.int .i64 (wC e3).2.1, .int .i64 (wC e3).2.2.2]) zv_77 rfl rfl ?_
                    refine WL.nil ?_
                    refine ⟨by exact ⟨RQ.pure rfl rfl rfl rfl, RQ.pure rfl rfl rfl rfl, RQ.pure rfl rfl rfl rfl, RQ.load rfl rfl rfl rfl (hS.ld 2 rfl rfl), RQ.pure rfl rfl rfl rfl⟩, ?_⟩
                    refine WQ.nil ?_
                    intro m6
                    replace hS := hS.drewN m6; generalize hwm6 : World.drewN _ _ = w at *; clear hwm6
                    refine WL.call rfl rfl (tw_ins (a := a) (A := B) (R := rt :: R) (i := o) (k := (wC e3).2.1) (z := (wC e3).2.2.2) (t := wAll ((wWork th M).take k3) th) (hA := hT.ref) (hi := hT.is) (hf := (wCost_ins hp hc3)) (hz := (by simp only [List.length_cons]; omega)) (hS := (hS.sel 2 [1, 0] rfl))) rfl ?_
                    clear hS; rintro _ w ⟨A1, j1, rfl, hS, f2⟩
                    replace hS : St g (Arn a A1 :: cel b1 #[.int .i64 (wC e3).1, .int .i64 (wC e3).2.1, .int .i64 (wC e3).2.2.1, .int .i64 (wC e3).2.2.2] 82 :: cel x #[.pointer (some ⟨a, 0, none⟩), .int .u32 rt, .bool false, .map (some xm), .slice xu (List.length (en2 S)) xc] 202 :: blk xm (.map (mE (List.map wK xs)) q) :: Own 113 2 (en2 S) xu xc :: Own 82 4 (ch4 acc) u d :: Own 82 4 (ch4 (M.map wC)) a1 c1 :: L) w := hS
                    refine WL.nil ?_
                    refine ⟨by exact trivial, ?_⟩
                    refine WQ.nil ?_
                    intro m7
                    replace hS := hS.drewN m7; generalize hwm7 : World.drewN _ _ = w at *; clear hwm7
                    refine WL.r 1 rfl ?_
                    refine WL.nil ?_
                    refine ⟨by exact trivial, ?_⟩
                    intro m8
                    replace hS := hS.drewN m8; generalize hwm8 : World.drewN _ _ = w at *; clear hwm8
                    as_aux_lemma =>
                      refine WC.region ?_
                      refine WL.r 1 rfl ?_
                      refine WL.nw 142 rfl (w64 (by omega)) ?_
                      refine WL.r 1 rfl ?_
                      refine WL.nil ?_
                      exact ⟨_, by omega, k3 + 1, A1, j1, rfl, (hS.sel 2 [0] rfl), (by omega), (step_ins he3 hp hT f2), rfl⟩
                  · refine WC.plan [([0, 4, 5, 1, 6, 2, 3], some (7, [])), ([8], none)] (by kernel_rfl) (by kernel_rfl) ?_
                    refine WQ.run 7 [.int .i64 (wC e3).2.1, .pointer (some ⟨a, 0, none⟩)] rfl (by exact ⟨hS.ld 0 rfl rfl, hS.ld 2 rfl rfl⟩) ?_
                    refine WQ.nil ?_
                    intro m5
                    replace hS := hS.drewN m5; generalize hwm5 : World.drewN _ _ = w at *; clear hwm5
                    refine WL.call rfl rfl (tw_del (a := a) (A := B) (R := rt :: R) (i := o) (k := (wC e3).2.1) (t := wAll ((wWork th M).take k3) th) (hA := hT.ref) (hi := hT.is) (hf := (wCost_del hp hc3)) (hz := (by simp only [List.length_cons]; omega)) (hS := (hS.sel 2 [1, 0] rfl))) rfl ?_
                    clear hS; rintro _ w ⟨A1, j1, rfl, hS, f2⟩
                    replace hS : St g (Arn a A1 :: cel b1 #[.int .i64 (wC e3).1, .int .i64 (wC e3).2.1, .int .i64 (wC e3).2.2.1, .int .i64 (wC e3).2.2.2] 82 :: cel x #[.pointer (some ⟨a, 0, none⟩), .int .u32 rt, .bool false, .map (some xm), .slice xu (List.length (en2 S)) xc] 202 :: blk xm (.map (mE (List.map wK xs)) q) :: Own 113 2 (en2 S) xu xc :: Own 82 4 (ch4 acc) u d :: Own 82 4 (ch4 (M.map wC)) a1 c1 :: L) w := hS
                    refine WL.nil ?_
                    refine ⟨by exact trivial, ?_⟩
                    refine WQ.r 1 rfl ?_
                    refine WQ.nil ?_
                    intro m6
                    replace hS := hS.drewN m6; generalize hwm6 : World.drewN _ _ = w at *; clear hwm6
                    as_aux_lemma =>
                      refine WC.region ?_
                      refine WL.r 1 rfl ?_
                      refine WL.nw 142 rfl (w64 (by omega)) ?_
                      refine WL.r 1 rfl ?_
                      refine WL.nil ?_
                      exact ⟨_, by omega, k3 + 1, A1, j1, rfl, (hS.sel 2 [0] rfl), (by omega), (step_del he3 hp hT f2), rfl⟩
              · refine WC.exit ?_
                as_aux_lemma =>
                  refine WC.seq ?_
                  refine WC.region ?_
                  replace hS := St.exClose (f := txF x a rt xs q S) (L := Arn a B :: Own 82 4 (ch4 acc) u d :: Own 82 4 (ch4 (M.map wC)) a1 c1 :: L) ⟨xm, xu, xc⟩ ((hS.sel 4 [1, 1, 1, 0] rfl))
                  replace hS : St g (Tx x a rt xs q S :: Arn a B :: Own 82 4 (ch4 acc) u d :: Own 82 4 (ch4 (M.map wC)) a1 c1 :: L) w := hS
                  refine WL.r 1 rfl ?_
                  refine WL.call rfl rfl (tx_end (x := x) (a := a) (rt := rt) (xs := xs) (q := q) (S := S) (A := B) (R := o :: R) (hA := hT.ref.sw) (hR := (by simp only [List.length_cons]; omega)) (hS := hS)) rfl ?_
                  clear hS; rintro _ w ⟨A1, xm1, xu1, xc1, rfl, hS, f2⟩
                  replace hS : St g (cel x #[.pointer (some ⟨a, 0, none⟩), .int .u32 rt, .bool true, .map (some xm1), .slice xu1 (List.length (en2 S)) xc1] 202 :: Arn a A1 :: Own 82 4 (ch4 acc) u d :: Own 82 4 (ch4 (M.map wC)) a1 c1 :: L) w := hS
                  refine WL.nil ?_
                  refine WC.seq ?_
                  refine WC.region ?_
                  refine WL.r 3 rfl ?_
                  refine WL.nil ?_
                  refine WC.ret ?_
                  refine ⟨[.int .u32 o, .int .i64 0], ⟨rfl, rfl⟩, ?_⟩
                  replace hS := (hS.sel 4 [0, 0] rfl)
                  have hk9 : (wWork th M).take k3 = wWork th M := List.take_of_length_le (by omega); rw [hk9] at hT; exact ⟨_, _, _, _, _, rfl, hS, TOp.fin hT f2⟩
          · refine WQ.reb 88 (.bool false) (congrArg Value.bool (decide_eq_false cg1)) ?_
            refine WQ.skp rfl rfl rfl rfl ?_
            refine WQ.skp rfl rfl rfl rfl ?_
            refine WQ.skp rfl rfl rfl rfl ?_
            refine WQ.skp rfl rfl rfl rfl ?_
            refine WQ.skp rfl rfl rfl rfl ?_
            refine WQ.skp rfl rfl rfl rfl ?_
            refine WQ.skp rfl rfl rfl rfl ?_
            refine WQ.skp rfl rfl rfl rfl ?_
            refine WQ.skp rfl rfl rfl rfl ?_
            refine WQ.skp rfl rfl rfl rfl ?_
            refine WQ.skp rfl rfl rfl rfl ?_
            refine WQ.skp rfl rfl rfl rfl ?_
            refine WQ.skp rfl rfl rfl rfl ?_
            refine WQ.nil ?_
            intro m1
            replace hS := hS.drewN m1; generalize hwm1 : World.drewN _ _ = w at *; clear hwm1
            refine WL.skp rfl rfl rfl rfl ?_
            refine WL.nil ?_
            refine ⟨by exact ⟨RQ.skp rfl rfl rfl rfl rfl rfl, RQ.skp rfl rfl rfl rfl rfl rfl, RQ.skp rfl rfl rfl rfl rfl rfl, RQ.skp rfl rfl rfl rfl rfl rfl, RQ.skp rfl rfl rfl rfl rfl rfl, RQ.skp rfl rfl rfl rfl rfl rfl, RQ.skp rfl rfl rfl rfl rfl rfl, RQ.skp rfl rfl rfl rfl rfl rfl⟩, ?_⟩
            refine WQ.skp rfl rfl rfl rfl ?_
            refine WQ.nil ?_
            intro m2
            replace hS := hS.drewN m2; generalize hwm2 : World.drewN _ _ = w at *; clear hwm2
            refine WL.skp rfl rfl rfl rfl ?_
            refine WL.nil ?_
            refine ⟨by exact ⟨RQ.skp rfl rfl rfl rfl rfl rfl, RQ.skp rfl rfl rfl rfl rfl rfl, RQ.skp rfl rfl rfl rfl rfl rfl, RQ.skp rfl rfl rfl rfl rfl rfl⟩, ?_⟩
            refine WQ.nil ?_
            intro m3
            replace hS := hS.drewN m3; generalize hwm3 : World.drewN _ _ = w at *; clear hwm3
            refine WL.skp rfl rfl rfl rfl ?_
            refine WL.nil ?_
            refine ⟨by exact trivial, ?_⟩
            refine WQ.skp rfl rfl rfl rfl ?_
            refine WQ.r 1 rfl ?_
            refine WQ.nil ?_
            intro m4
            replace hS := hS.drewN m4; generalize hwm4 : World.drewN _ _ = w at *; clear hwm4
            as_aux_lemma =>
              refine WC.ifF rfl rfl ?_
              refine WC.skip ?_
              refine WC.seq ?_
              refine WC.region ?_
              refine WL.run 5 [.pointer (some ⟨a, 0, none⟩)] rfl (by exact hS.ld 0 rfl rfl) ?_
              refine WL.call rfl rfl (tw_hold (a := a) (A := A) (R := rt :: R) (i := hd) (hA := hA) (hi := hth.ref) (hz := (by simp only [List.length_cons]; omega)) (hS := (hS.sel 6 [5, 0, 0, 0, 0, 0] rfl))) rfl ?_
              clear hS; rintro _ w ⟨rfl, hS, f1⟩
              replace hS : St g (Arn a (A.ret hd) :: cel x #[.pointer (some ⟨a, 0, none⟩), .int .u32 rt, .bool false, .map (some xm), .slice xu (List.length (en2 S)) xc] 202 :: blk xm (.map (mE (List.map wK xs)) q) :: Own 113 2 (en2 S) xu xc :: Own 82 4 (ch4 acc) u d :: Own 82 4 (ch4 (M.map wC)) a1 c1 :: L) w := hS
              refine WL.r 1 rfl ?_
              refine WL.nil ?_
              refine WC.seq ?_
              refine WC.seq ?_
              refine WC.region ?_
              refine WL.r 3 rfl ?_
              refine WL.nil ?_
              refine WC.block ?_
              refine WC.loop [0, 14, 114, 115, 116] (fun kM vs w => ∃ (k3 : Nat) (B : AM) (o : Int), vs = [.pointer (some ⟨x, 0, none⟩), .int .u32 o, .slice u (List.length (ch4 acc)) d, .int .i64 (List.length (ch4 acc) : Int), .int .i64 (k3 : Int)] ∧ St g (Arn a B :: cel x #[.pointer (some ⟨a, 0, none⟩), .int .u32 rt, .bool false, .map (some xm), .slice xu (List.length (en2 S)) xc] 202 :: blk xm (.map (mE (List.map wK xs)) q) :: Own 113 2 (en2 S) xu xc :: Own 82 4 (ch4 acc) u d :: Own 82 4 (ch4 (M.map wC)) a1 c1 :: L) w ∧ (k3 ≤ (wWork th M).length) ∧ (TOp A B (rt :: R) o (wAll ((wWork th M).take k3) th) (wSum ((wWork th M).take k3) th)) ∧ ((wWork th M).length - k3) = kM) ((List.length (wWork th M)) - 0) ⟨0, A.ret hd, hd, rfl, hS, (Nat.zero_le _), (TOp.held (ARf.refl f1 (hth.ret hd))), rfl⟩ ?_
              clear hS; rintro _ _ w j ⟨k3, B, o, rfl, hS, hk3, hT, rfl⟩
              refine WC.seq ?_
              refine WC.region ?_
              refine WL.r 1 rfl ?_
              refine WL.nil ?_
              refine WC.seq ?_
              refine WC.ifP rfl (fun cd3 => ?_) (fun cd3 => ?_)
              · refine WC.skip ?_
                as_aux_lemma =>
                  refine WC.seq ?_
                  refine WC.block ?_
                  refine WC.seq ?_
                  refine WC.region ?_
                  obtain ⟨e3, he3⟩ : ∃ e, (wWork th M)[k3]? = some e := ⟨_, List.getElem?_eq_getElem (by omega)⟩; have hz3 : acc[k3]? = some (wC e3) := (by rw [hke, List.getElem?_map, he3]; rfl); have hc3 := hcs k3 e3 B o he3 hT; have hwn := wAll_n ((wWork th M).take k3) th; have htl3 := List.length_take_le k3 (wWork th M)
                  refine WL.ix rfl rfl (i := (k3 : Int)) (k3) el_179 rfl rfl (by omega) (by omega) (hS.rdO 4 rfl (ch4_at hz3)).1 ?_
                  refine WL.ldC rfl rfl [.int .i64 (wC e3).1, .int .i64 (wC e3).2.1, .int .i64 (wC e3).2.2.1, .int .i64 (wC e3).2.2.2] ag_82 rfl (hS.rdO 4 rfl (ch4_at hz3)).2 ?_
                  refine WL.new rfl rfl zv_82 hS (fun b1 w hS => ?_)
                  refine WL.stF rfl rfl rfl 0 hS rfl rfl rfl rfl rfl ag_82 (fun w hS => ?_)
                  replace hS : St g (cel b1 #[.int .i64 (wC e3).1, .int .i64 (wC e3).2.1, .int .i64 (wC e3).2.2.1, .int .i64 (wC e3).2.2.2] 82 :: Arn a B :: cel x #[.pointer (some ⟨a, 0, none⟩), .int .u32 rt, .bool false, .map (some xm), .slice xu (List.length (en2 S)) xc] 202 :: blk xm (.map (mE (List.map wK xs)) q) :: Own 113 2 (en2 S) xu xc :: Own 82 4 (ch4 acc) u d :: Own 82 4 (ch4 (M.map wC)) a1 c1 :: L) w := hS
                  refine WL.nil ?_
                  refine WC.seq ?_
                  refine WC.region ?_
                  refine WL.run 3 [.int .i64 (wC e3).1] rfl (by exact hS.ld 0 rfl rfl) ?_
                  refine WL.nil ?_
                  refine WC.ifP rfl (fun hp => ?_) (fun hp => ?_)
                  · refine WC.plan [([0, 4, 5, 7, 1, 6, 8, 2, 3], some (9, [0, 1, 2, 3, 4])), ([], some (10, [])), ([], some (11, []))] (by kernel_rfl) (by kernel_rfl) ?_
                    refine WQ.run 9 [.int .i64 (wC e3).2.1, .int .i64 (wC e3).2.2.2, .pointer (some ⟨a, 0, none⟩)] rfl (by exact ⟨hS.ld 0 rfl rfl, hS.ld 0 rfl rfl, hS.ld 2 rfl rfl⟩) ?_
                    refine WQ.nil ?_
                    intro m5
                    replace hS := hS.drewN m5; generalize hwm5 : World.drewN _ _ = w at *; clear hwm5
                    refine WL.build rfl rfl (cs := [.int .i64 (wC e3).2.1, .int .i64 (wC e3).2.2.2]) zv_77 rfl rfl ?_
                    refine WL.nil ?_
                    refine ⟨by exact ⟨RQ.pure rfl rfl rfl rfl, RQ.pure rfl rfl rfl rfl, RQ.pure rfl rfl rfl rfl, RQ.load rfl rfl rfl rfl (hS.ld 2 rfl rfl), RQ.pure rfl rfl rfl rfl⟩, ?_⟩
                    refine WQ.nil ?_
                    intro m6
                    replace hS := hS.drewN m6; generalize hwm6 : World.drewN _ _ = w at *; clear hwm6
                    refine WL.call rfl rfl (tw_ins (a := a) (A := B) (R := rt :: R) (i := o) (k := (wC e3).2.1) (z := (wC e3).2.2.2) (t := wAll ((wWork th M).take k3) th) (hA := hT.ref) (hi := hT.is) (hf := (wCost_ins hp hc3)) (hz := (by simp only [List.length_cons]; omega)) (hS := (hS.sel 2 [1, 0] rfl))) rfl ?_
                    clear hS; rintro _ w ⟨A1, j1, rfl, hS, f2⟩
                    replace hS : St g (Arn a A1 :: cel b1 #[.int .i64 (wC e3).1, .int .i64 (wC e3).2.1, .int .i64 (wC e3).2.2.1, .int .i64 (wC e3).2.2.2] 82 :: cel x #[.pointer (some ⟨a, 0, none⟩), .int .u32 rt, .bool false, .map (some xm), .slice xu (List.length (en2 S)) xc] 202 :: blk xm (.map (mE (List.map wK xs)) q) :: Own 113 2 (en2 S) xu xc :: Own 82 4 (ch4 acc) u d :: Own 82 4 (ch4 (M.map wC)) a1 c1 :: L) w := hS
                    refine WL.nil ?_
                    refine ⟨by exact trivial, ?_⟩
                    refine WQ.nil ?_
                    intro m7
                    replace hS := hS.drewN m7; generalize hwm7 : World.drewN _ _ = w at *; clear hwm7
                    refine WL.r 1 rfl ?_
                    refine WL.nil ?_
                    refine ⟨by exact trivial, ?_⟩
                    intro m8
                    replace hS := hS.drewN m8; generalize hwm8 : World.drewN _ _ = w at *; clear hwm8
                    as_aux_lemma =>
                      refine WC.region ?_
                      refine WL.r 1 rfl ?_
                      refine WL.nw 142 rfl (w64 (by omega)) ?_
                      refine WL.r 1 rfl ?_
                      refine WL.nil ?_
                      exact ⟨_, by omega, k3 + 1, A1, j1, rfl, (hS.sel 2 [0] rfl), (by omega), (step_ins he3 hp hT f2), rfl⟩
                  · refine WC.plan [([0, 4, 5, 1, 6, 2, 3], some (7, [])), ([8], none)] (by kernel_rfl) (by kernel_rfl) ?_
                    refine WQ.run 7 [.int .i64 (wC e3).2.1, .pointer (some ⟨a, 0, none⟩)] rfl (by exact ⟨hS.ld 0 rfl rfl, hS.ld 2 rfl rfl⟩) ?_
                    refine WQ.nil ?_
                    intro m5
                    replace hS := hS.drewN m5; generalize hwm5 : World.drewN _ _ = w at *; clear hwm5
                    refine WL.call rfl rfl (tw_del (a := a) (A := B) (R := rt :: R) (i := o) (k := (wC e3).2.1) (t := wAll ((wWork th M).take k3) th) (hA := hT.ref) (hi := hT.is) (hf := (wCost_del hp hc3)) (hz := (by simp only [List.length_cons]; omega)) (hS := (hS.sel 2 [1, 0] rfl))) rfl ?_
                    clear hS; rintro _ w ⟨A1, j1, rfl, hS, f2⟩
                    replace hS : St g (Arn a A1 :: cel b1 #[.int .i64 (wC e3).1, .int .i64 (wC e3).2.1, .int .i64 (wC e3).2.2.1, .int .i64 (wC e3).2.2.2] 82 :: cel x #[.pointer (some ⟨a, 0, none⟩), .int .u32 rt, .bool false, .map (some xm), .slice xu (List.length (en2 S)) xc] 202 :: blk xm (.map (mE (List.map wK xs)) q) :: Own 113 2 (en2 S) xu xc :: Own 82 4 (ch4 acc) u d :: Own 82 4 (ch4 (M.map wC)) a1 c1 :: L) w := hS
                    refine WL.nil ?_
                    refine ⟨by exact trivial, ?_⟩
                    refine WQ.r 1 rfl ?_
                    refine WQ.nil ?_
                    intro m6
                    replace hS := hS.drewN m6; generalize hwm6 : World.drewN _ _ = w at *; clear hwm6
                    as_aux_lemma =>
                      refine WC.region ?_
                      refine WL.r 1 rfl ?_
                      refine WL.nw 142 rfl (w64 (by omega)) ?_
                      refine WL.r 1 rfl ?_
                      refine WL.nil ?_
                      exact ⟨_, by omega, k3 + 1, A1, j1, rfl, (hS.sel 2 [0] rfl), (by omega), (step_del he3 hp hT f2), rfl⟩
              · refine WC.exit ?_
                as_aux_lemma =>
                  refine WC.seq ?_
                  refine WC.region ?_
                  replace hS := St.exClose (f := txF x a rt xs q S) (L := Arn a B :: Own 82 4 (ch4 acc) u d :: Own 82 4 (ch4 (M.map wC)) a1 c1 :: L) ⟨xm, xu, xc⟩ ((hS.sel 4 [1, 1, 1, 0] rfl))
                  replace hS : St g (Tx x a rt xs q S :: Arn a B :: Own 82 4 (ch4 acc) u d :: Own 82 4 (ch4 (M.map wC)) a1 c1 :: L) w := hS
                  refine WL.r 1 rfl ?_
                  refine WL.call rfl rfl (tx_end (x := x) (a := a) (rt := rt) (xs := xs) (q := q) (S := S) (A := B) (R := o :: R) (hA := hT.ref.sw) (hR := (by simp only [List.length_cons]; omega)) (hS := hS)) rfl ?_
                  clear hS; rintro _ w ⟨A1, xm1, xu1, xc1, rfl, hS, f2⟩
                  replace hS : St g (cel x #[.pointer (some ⟨a, 0, none⟩), .int .u32 rt, .bool true, .map (some xm1), .slice xu1 (List.length (en2 S)) xc1] 202 :: Arn a A1 :: Own 82 4 (ch4 acc) u d :: Own 82 4 (ch4 (M.map wC)) a1 c1 :: L) w := hS
                  refine WL.nil ?_
                  refine WC.seq ?_
                  refine WC.region ?_
                  refine WL.r 3 rfl ?_
                  refine WL.nil ?_
                  refine WC.ret ?_
                  refine ⟨[.int .u32 o, .int .i64 0], ⟨rfl, rfl⟩, ?_⟩
                  replace hS := (hS.sel 4 [0, 0] rfl)
                  have hk9 : (wWork th M).take k3 = wWork th M := List.take_of_length_le (by omega); rw [hk9] at hT; exact ⟨_, _, _, _, _, rfl, hS, TOp.fin hT f2⟩
end Go.Proofs.YtlnlnebibgdjdaaGreat
