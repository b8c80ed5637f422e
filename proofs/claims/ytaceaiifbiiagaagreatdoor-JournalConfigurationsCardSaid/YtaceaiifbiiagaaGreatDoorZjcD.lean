/-
  The row of JournalConfigurations: for every input the law returns true, and the arguments read as before.
  Conditions: none.
-/
import Derived.Test.YtaceaiifbiiagaaGreatDoorZjcC
import Derived.Test.YtaceaiifbiiagaaGreatDoorJjcg
import Derived.Test.YtaceaiifbiiagaaGreatDoorJjcq
/-! ## Jb -/
namespace Go.Proofs.YtaceaiifbiiagaaGreatDoor
open Go Go.V Go.RowKit Go.Maps
def rec1 (h : Int) : List Int := [1] ++ be4 (crc (eAn (ansH h)))
attribute [local irreducible] crc eAn frm
theorem frm_len {p : List Int} (h : p.length ≤ 1048576) : (frm p).length ≤ p.length + 14 := by
  have h1 := varint_len 10 p.length (by omega) (by omega)
  have h2 : (frm p).length = (varint p.length).length + p.length + 4 := by unfold frm frh; rw [List.length_append, List.length_append, be4_len]
  omega
theorem ap_57 : ArP Tryz.prog 57 4 5 := ⟨by kernel_rfl, by kernel_rfl⟩
set_option maxRecDepth 8192 in
theorem jn_new_bad {g w : World} {L : List HP} (sl cv cc cx : Int) (hc : ¬ CfgOk sl cv cc cx) (hS : St g (L) w) :
    Sp Tryz.prog 5 [.agg #[.int .i64 sl, .int .i64 cv, .int .i64 cc, .int .i64 cx]] w (fun v w' => v = .tuple #[.pointer none, .int .i64 1] ∧ St g (L) w') := by
  refine Sp.enter Tryz.func5 rfl (by kernel_rfl) (by kernel_rfl) ?_
  refine WC.seq <| WC.region <| WL.box rfl rfl #[.int .i64 sl, .int .i64 cv, .int .i64 cc, .int .i64 cx] hS rfl rfl (fun b1 w hS => ?_)
  refine WL.r 2 rfl <| WL.nil <| WC.seq <| WC.region <| WL.ldF rfl rfl 0 hS rfl rfl ag_23 <| WL.call rfl rfl (st_new_bad (sl := sl) (cv := cv) (cc := cc) (cx := cx) (hc := hc) (hS := hS)) rfl ?_
  clear hS; rintro _ w ⟨rfl, hS⟩
  replace hS : St g (cel b1 #[.int .i64 sl, .int .i64 cv, .int .i64 cc, .int .i64 cx] 23 :: L) w := hS
  refine WL.r 5 rfl <| WL.nil <| WC.seq <| WC.seq <| WC.region <| WL.r 2 rfl <| WL.nil <| WC.ifT rfl (decide_eq_true ((by decide))) ?_
  refine WC.seq <| WC.region <| WL.r 3 rfl <| WL.nil <| WC.ret ?_
  refine ⟨[.pointer none, .int .i64 1], ⟨rfl, rfl⟩, ?_⟩
  replace hS := (hS.sel 1 [] rfl)
  exact ⟨rfl, hS⟩
set_option maxHeartbeats 400000 in
set_option maxRecDepth 8192 in
theorem jn_new_ok {g w : World} {L : List HP} (sl cv cc cx : Int) (hc : CfgOk sl cv cc cx) (hS : St g (L) w) :
    Sp Tryz.prog 5 [.agg #[.int .i64 sl, .int .i64 cv, .int .i64 cc, .int .i64 cx]] w (fun v w' => ∃ (j p s a : Nat), v = .tuple #[.pointer (some ⟨j, 0, none⟩), .int .i64 0] ∧ St g (Jrn j p s a (VM.new cv.toNat) [] :: Arn a (AM.new sl.toNat) :: L) w') := by
  refine Sp.enter Tryz.func5 rfl (by kernel_rfl) (by kernel_rfl) ?_
  refine WC.seq <| WC.region <| WL.box rfl rfl #[.int .i64 sl, .int .i64 cv, .int .i64 cc, .int .i64 cx] hS rfl rfl (fun b1 w hS => ?_)
  refine WL.r 2 rfl <| WL.nil <| WC.seq <| WC.region <| WL.ldF rfl rfl 0 hS rfl rfl ag_23 <| WL.call rfl rfl (st_new_ok (sl := sl) (cv := cv) (cc := cc) (cx := cx) (hc := hc) (hS := hS)) rfl ?_
  clear hS; rintro _ w ⟨p1, s1, a1, rfl, hS⟩
  replace hS : St g (Sto p1 s1 a1 (VM.new cv.toNat) :: Arn a1 (AM.new sl.toNat) :: cel b1 #[.int .i64 sl, .int .i64 cv, .int .i64 cc, .int .i64 cx] 23 :: L) w := hS
  refine WL.r 5 rfl <| WL.nil <| WC.seq <| WC.seq <| WC.region <| WL.r 2 rfl <| WL.nil <| WC.ifF rfl (decide_eq_false ((by decide))) ?_
  refine WC.skip <| WC.seq <| WC.region ?_
  replace hS : St g (Own 5 1 (by8 []) none 0 :: Sto p1 s1 a1 (VM.new cv.toNat) :: Arn a1 (AM.new sl.toNat) :: cel b1 #[.int .i64 sl, .int .i64 cv, .int .i64 cc, .int .i64 cx] 23 :: L) w := hS.nil_ 5 1
  refine WL.r 1 rfl <| WL.build rfl rfl (cs := [.pointer (some ⟨p1, 0, none⟩), .slice none 0 0]) zv_54 rfl rfl <| WL.box rfl rfl #[.pointer (some ⟨p1, 0, none⟩), .slice none 0 0] hS rfl rfl (fun b2 w hS => ?_)
  refine WL.r 2 rfl <| WL.nil ?_
  as_aux_lemma =>
  refine WC.ret ?_
  replace hS := St.exClose (f := jrF b2 p1 s1 a1 (VM.new cv.toNat) []) (L := Arn a1 (AM.new sl.toNat) :: cel b1 #[.int .i64 sl, .int .i64 cv, .int .i64 cc, .int .i64 cx] 23 :: L) ⟨none, 0⟩ ((hS.sel 3 [0, 1, 0] rfl))
  replace hS := hS.n3 L (a0 := Jrn b2 p1 s1 a1 (VM.new cv.toNat) []) rfl
  refine ⟨[.pointer (some ⟨b2, 0, none⟩), .int .i64 0], ⟨rfl, rfl⟩, ?_⟩
  replace hS := (hS.sel 3 [0, 0] rfl)
  exact ⟨_, _, _, _, rfl, hS⟩
set_option maxRecDepth 8192 in
theorem seal_1 {g w : World} {L : List HP} (h : Int) (hh : 0 ≤ h ∧ h ≤ 18446744073709551615) (hS : St g (L) w) :
    Sp Tryz.prog 15 [.agg #[.int .i64 0, .int .u64 h, .int .i64 0, .bool false, .int .i64 0, .int .i64 0, .int .i64 0, .int .i64 0, .int .i64 0, .int .i64 0, .int .i64 0, .slice none 0 0, .slice none 0 0, .slice none 0 0, .slice none 0 0]] w (fun v w' => v = .agg #[.int .u8 (IntKind.u8.wrap (crc (eAn (ansH h)) / 16777216)), .int .u8 (IntKind.u8.wrap (crc (eAn (ansH h)) / 65536)), .int .u8 (IntKind.u8.wrap (crc (eAn (ansH h)) / 256)), .int .u8 (IntKind.u8.wrap (crc (eAn (ansH h))))] ∧ St g (L) w') := by
  refine Sp.enter Tryz.func15 rfl (by kernel_rfl) (by kernel_rfl) ?_
  refine WC.seq <| WC.region <| WL.box rfl rfl #[.int .i64 0, .int .u64 h, .int .i64 0, .bool false, .int .i64 0, .int .i64 0, .int .i64 0, .int .i64 0, .int .i64 0, .int .i64 0, .int .i64 0, .slice none 0 0, .slice none 0 0, .slice none 0 0, .slice none 0 0] hS rfl rfl (fun b1 w hS => ?_)
  refine WL.new rfl rfl zv_57 hS (fun b2 w hS => ?_)
  refine WL.nil <| WC.seq <| WC.region ?_
  replace hS : St g (Sh 5 1 (by8 (ansH h).bytes) none 0 :: Sh 39 2 (en2 (ansH h).ents) none 0 :: Sh 121 4 (ch4 (ansH h).chs) none 0 :: Sh 2 1 (i64s (ansH h).keys) none 0 :: cel b2 #[.int .u8 0, .int .u8 0, .int .u8 0, .int .u8 0] 57 :: cel b1 #[.int .i64 0, .int .u64 h, .int .i64 0, .bool false, .int .i64 0, .int .i64 0, .int .i64 0, .int .i64 0, .int .i64 0, .int .i64 0, .int .i64 0, .slice none 0 0, .slice none 0 0, .slice none 0 0, .slice none 0 0] 46 :: L) w := (((hS.nilS 2 1).nilS 121 4).nilS 39 2).nilS 5 1
  refine WL.ldF rfl rfl 5 hS rfl rfl ag_46 <| WL.call rfl rfl (appA0 (x := ansH h) (hw := ansH_w hh) (hS := hS)) rfl ?_
  clear hS; rintro _ w ⟨a1, c1, rfl, hS⟩
  replace hS : St g (Own 5 1 (by8 (eAn (ansH h))) a1 c1 :: Sh 5 1 (by8 (ansH h).bytes) none 0 :: Sh 39 2 (en2 (ansH h).ents) none 0 :: Sh 121 4 (ch4 (ansH h).chs) none 0 :: Sh 2 1 (i64s (ansH h).keys) none 0 :: cel b2 #[.int .u8 0, .int .u8 0, .int .u8 0, .int .u8 0] 57 :: cel b1 #[.int .i64 0, .int .u64 h, .int .i64 0, .bool false, .int .i64 0, .int .i64 0, .int .i64 0, .int .i64 0, .int .i64 0, .int .i64 0, .int .i64 0, .slice none 0 0, .slice none 0 0, .slice none 0 0, .slice none 0 0] 46 :: L) w := hS
  replace hS := (hS.at_ 0 rfl).share
  replace hS := hS.n7 L (a0 := Sh 5 1 (by8 (eAn (ansH h))) a1 c1) rfl
  refine WL.call rfl rfl (fr_sum (bs := eAn (ansH h)) (hb := eAn_B8 (fun _ h => by cases h)) (hl := (by have := eAn_len2 (ansH_w hh); omega)) (hS := hS)) rfl ?_
  clear hS; rintro _ w ⟨rfl, hS⟩
  replace hS := hS.n7 L rfl
  refine WL.r 1 rfl <| WL.nil <| WC.seq <| WC.region <| WL.r 2 rfl <| WL.reb 8 (.int .u32 ((crc (eAn (ansH h))) / 16777216)) (congrArg (Value.int .u32) (by rfl)) ?_
  refine WL.r 1 rfl <| WL.r 2 rfl <| WL.reb 11 (.int .u32 ((crc (eAn (ansH h))) / 65536)) (congrArg (Value.int .u32) (by rfl)) ?_
  refine WL.r 1 rfl <| WL.r 2 rfl <| WL.reb 14 (.int .u32 ((crc (eAn (ansH h))) / 256)) (congrArg (Value.int .u32) (by rfl)) ?_
  refine WL.r 1 rfl <| WL.r 2 rfl <| WL.buildA rfl rfl (cs := [.int .u8 (IntKind.u8.wrap ((crc (eAn (ansH h))) / 16777216)), .int .u8 (IntKind.u8.wrap ((crc (eAn (ansH h))) / 65536)), .int .u8 (IntKind.u8.wrap ((crc (eAn (ansH h))) / 256)), .int .u8 (IntKind.u8.wrap (crc (eAn (ansH h))))]) ar_57 zv_57 rfl <| WL.stF (vs := #[.int .u8 (IntKind.u8.wrap ((crc (eAn (ansH h))) / 16777216)), .int .u8 (IntKind.u8.wrap ((crc (eAn (ansH h))) / 65536)), .int .u8 (IntKind.u8.wrap ((crc (eAn (ansH h))) / 256)), .int .u8 (IntKind.u8.wrap (crc (eAn (ansH h))))]) rfl rfl rfl 5 hS rfl rfl rfl rfl (Eq.trans (b := 4) rfl rfl) ag_57 (fun w hS => ?_)
  replace hS := hS.n7 L (a5 := cel b2 #[.int .u8 (IntKind.u8.wrap ((crc (eAn (ansH h))) / 16777216)), .int .u8 (IntKind.u8.wrap ((crc (eAn (ansH h))) / 65536)), .int .u8 (IntKind.u8.wrap ((crc (eAn (ansH h))) / 256)), .int .u8 (IntKind.u8.wrap (crc (eAn (ansH h))))] 57) rfl
  refine WL.nil ?_
  as_aux_lemma =>
  refine WC.ret ?_
  refine ⟨[.agg #[.int .u8 (IntKind.u8.wrap ((crc (eAn (ansH h))) / 16777216)), .int .u8 (IntKind.u8.wrap ((crc (eAn (ansH h))) / 65536)), .int .u8 (IntKind.u8.wrap ((crc (eAn (ansH h))) / 256)), .int .u8 (IntKind.u8.wrap (crc (eAn (ansH h))))]], ⟨⟨_, rfl, hS.lvF 5 rfl ag_57⟩, trivial⟩, ?_⟩
  replace hS := (hS.sel 7 [] rfl)
  exact ⟨rfl, hS⟩
set_option maxHeartbeats 400000 in
set_option maxRecDepth 8192 in
theorem jn_do_1 {g w : World} {L : List HP} (j p s a : Nat) (V : VM) (A : AM) (R lg : List Int) (hV : VI V A R) (hrm : 0 < V.room) (hla : V.last < 1000000000) (hlen : R.length ≤ 900000000) (hlg : lg.length ≤ 1000000) (hS : St g (Jrn j p s a V lg :: Arn a A :: L) w) :
    Sp Tryz.prog 10 [.pointer (some ⟨j, 0, none⟩), .agg #[.int .i64 1, .int .u64 0, .int .u64 0, .int .i64 0, .int .i64 0, .int .i64 0, .int .i64 0, .int .i64 0, .bool false, .string ⟨#[]⟩, .slice none 0 0, .slice none 0 0, .slice none 0 0]] w (fun v w' => ∃ (V2 : VM), v = .agg #[.int .i64 0, .int .u64 V.T.newH, .int .i64 0, .bool false, .int .i64 0, .int .i64 0, .int .i64 0, .int .i64 0, .int .i64 0, .int .i64 0, .int .i64 0, .slice none 0 0, .slice none 0 0, .slice none 0 0, .slice none 0 0] ∧ St g (Jrn j p s a V2 (lg ++ frm (rec1 V.T.newH)) :: Arn a A :: L) w' ∧ (VI V2 A R) ∧ (Com V 0 [] V2)) := by
  refine Sp.enter Tryz.func10 rfl (by kernel_rfl) (by kernel_rfl) ?_
  have _ := hlg
  refine WC.seq <| WC.region <| WL.box rfl rfl #[.int .i64 1, .int .u64 0, .int .u64 0, .int .i64 0, .int .i64 0, .int .i64 0, .int .i64 0, .int .i64 0, .bool false, .string ⟨#[]⟩, .slice none 0 0, .slice none 0 0, .slice none 0 0] hS rfl rfl (fun b1 w hS => ?_)
  refine WL.new rfl rfl zv_46 hS (fun b2 w hS => ?_)
  refine WL.nil <| WC.seq <| WC.tree (.two [0, 4, 1, 2, 3] 5 [] (.one [] 6 [0, 1, 2, 3, 4] (.one [] 7 [] .nil)) 6 [0, 1, 2, 3, 4] (.one [] 5 [] (.one [] 7 [] .nil))) (by kernel_rfl) (by kernel_rfl) ?_
  obtain ⟨⟨ju, jc⟩, hS⟩ := St.exOpen (f := jrF j p s a V lg) (hS.at_ 2 rfl)
  replace hS := hS.n6 L (a0 := cel j #[.pointer (some ⟨p, 0, none⟩), .slice ju (List.length (by8 lg)) jc] 54) (a1 := Sto p s a V) (a2 := Own 5 1 (by8 lg) ju jc) (a3 := cel b2 #[.int .i64 0, .int .u64 0, .int .i64 0, .bool false, .int .i64 0, .int .i64 0, .int .i64 0, .int .i64 0, .int .i64 0, .int .i64 0, .int .i64 0, .slice none 0 0, .slice none 0 0, .slice none 0 0, .slice none 0 0] 46) (a4 := cel b1 #[.int .i64 1, .int .u64 0, .int .u64 0, .int .i64 0, .int .i64 0, .int .i64 0, .int .i64 0, .int .i64 0, .bool false, .string ⟨#[]⟩, .slice none 0 0, .slice none 0 0, .slice none 0 0] 49) rfl
  refine WQ.r 1 rfl <| WQ.ldF rfl rfl 4 hS rfl rfl ag_49 <| WQ.run 3 [.pointer (some ⟨p, 0, none⟩)] rfl (by exact hS.ld 0 rfl rfl) ?_
  refine WQ.nil ?_
  intro m1
  replace hS := hS.drewN m1; generalize hwm1 : World.drewN _ _ = w at *; clear hwm1
  refine ⟨?_, ?_⟩
  · refine WL.call rfl rfl (do_1 (R := R) (hV := hV) (hrm := hrm) (hla := hla) (hlen := hlen) (hS := (hS.sel 6 [1, 4, 0, 0, 0, 0] rfl))) rfl ?_
    clear hS; rintro _ w ⟨V1, rfl, hS, f1, f2⟩
    replace hS := hS.n6 L (a0 := Sto p s a V1) rfl
    refine WL.nil ?_
    refine ⟨by exact trivial, ?_⟩
    refine WQ.nil ?_
    intro m2
    replace hS := hS.drewN m2; generalize hwm2 : World.drewN _ _ = w at *; clear hwm2
    refine WL.new rfl rfl zv_46 hS (fun b3 w hS => ?_)
    refine WL.nil ?_
    refine ⟨by exact ⟨RQ.pure rfl rfl rfl rfl, RQ.pure rfl rfl rfl rfl, RQ.pure rfl rfl rfl rfl, RQ.load rfl rfl rfl rfl (hS.ld 3 rfl rfl), RQ.ldF rfl rfl 6 hS rfl rfl ag_49 rfl rfl⟩, ?_⟩
    refine WQ.nil ?_
    intro m3
    replace hS := hS.drewN m3; generalize hwm3 : World.drewN _ _ = w at *; clear hwm3
    refine WL.stF rfl rfl rfl 0 hS rfl rfl rfl rfl rfl ag_46 (fun w hS => ?_)
    replace hS := hS.n7 L (a0 := cel b3 #[.int .i64 0, .int .u64 V.T.newH, .int .i64 0, .bool false, .int .i64 0, .int .i64 0, .int .i64 0, .int .i64 0, .int .i64 0, .int .i64 0, .int .i64 0, .slice none 0 0, .slice none 0 0, .slice none 0 0, .slice none 0 0] 46) rfl
    refine WL.nil ?_
    refine ⟨by exact trivial, ?_⟩
    intro m4
    replace hS := hS.drewN m4; generalize hwm4 : World.drewN _ _ = w at *; clear hwm4
    as_aux_lemma =>
    refine WC.seq <| WC.region ?_
    have had := Com.add1 hV f2 hrm; have hrng := had.rng
    refine WL.ldF rfl rfl 6 hS rfl rfl ag_49 <| WL.call rfl rfl (append_1   (hS := hS)) rfl ?_
    clear hS; rintro _ w ⟨a1, c1, rfl, hS⟩
    replace hS := hS.n8 L (a0 := Own 5 1 (by8 [1]) a1 c1) rfl
    refine WL.r 5 rfl <| WL.nil <| WC.seq <| WC.seq <| WC.region <| WL.r 2 rfl <| WL.nil <| WC.ifF rfl (decide_eq_false ((by decide))) ?_
    refine WC.skip <| WC.seq <| WC.region <| WL.ldF rfl rfl 1 hS rfl rfl ag_46 <| WL.call rfl rfl (seal_1 (h := V.T.newH) (hh := hrng) (hS := hS)) rfl ?_
    clear hS; rintro _ w ⟨rfl, hS⟩
    replace hS := hS.n8 L rfl
    refine WL.new rfl rfl zv_57 hS (fun b4 w hS => ?_)
    refine WL.stF (vs := #[.int .u8 (IntKind.u8.wrap (crc (eAn (ansH V.T.newH)) / 16777216)), .int .u8 (IntKind.u8.wrap (crc (eAn (ansH V.T.newH)) / 65536)), .int .u8 (IntKind.u8.wrap (crc (eAn (ansH V.T.newH)) / 256)), .int .u8 (IntKind.u8.wrap (crc (eAn (ansH V.T.newH))))]) rfl rfl rfl 0 hS rfl rfl rfl rfl (Eq.trans (b := 4) rfl rfl) ag_57 (fun w hS => ?_)
    replace hS := hS.n9 L (a0 := cel b4 #[.int .u8 (IntKind.u8.wrap (crc (eAn (ansH V.T.newH)) / 16777216)), .int .u8 (IntKind.u8.wrap (crc (eAn (ansH V.T.newH)) / 65536)), .int .u8 (IntKind.u8.wrap (crc (eAn (ansH V.T.newH)) / 256)), .int .u8 (IntKind.u8.wrap (crc (eAn (ansH V.T.newH))))] 57) rfl
    replace hS := St.celShare (e := 5) (size := 1) (ls := by8 (be4 (crc (eAn (ansH V.T.newH))))) (hS.at_ 0 rfl) rfl (by8_ok _)
    replace hS := hS.n9 L (a0 := Sh 5 1 (by8 (be4 (crc (eAn (ansH V.T.newH))))) (some ⟨b4, 0, none⟩) (List.length (by8 (be4 (crc (eAn (ansH V.T.newH))))))) rfl
    refine WL.nil ?_
    as_aux_lemma =>
    refine WC.seq <| WC.region ?_
    have hb0 := be4_len (crc (eAn (ansH V.T.newH))); have hb1 := by8_len (be4 (crc (eAn (ansH V.T.newH)))); have hb2 : ([1] ++ be4 (crc (eAn (ansH V.T.newH)))).length = 5 := rfl; have hb3 := by8_len ([1] ++ be4 (crc (eAn (ansH V.T.newH)))); have hb4 := frm_len (p := [1] ++ be4 (crc (eAn (ansH V.T.newH)))) (by omega); have hb5 := by8_len (frm ([1] ++ be4 (crc (eAn (ansH V.T.newH))))); have hb7 : (frm (1 :: be4 (crc (eAn (ansH V.T.newH))))).length ≤ 19 := (by have h9 := hb4; rw [hb2] at h9; exact h9)
    refine WL.r 1 rfl <| WL.slA (be4 (crc (eAn (ansH V.T.newH)))) rfl rfl ap_57 rfl rfl <| WL.app rfl rfl 1 (by8 ([1] ++ (be4 (crc (eAn (ansH V.T.newH)))))) el_24 hS rfl (hS.srcS 0 rfl) (by8_app _ _).symm (Rm.of (by first | omega | (simp <;> omega)) (by decide)) rfl rfl (fun a2 c2 w hS => ?_)
    replace hS := hS.n9 L (a1 := Own 5 1 (by8 ([1] ++ (be4 (crc (eAn (ansH V.T.newH)))))) a2 c2) rfl
    replace hS := (hS.at_ 1 rfl).share
    replace hS := hS.n9 L (a0 := Sh 5 1 (by8 ([1] ++ (be4 (crc (eAn (ansH V.T.newH)))))) a2 c2) rfl
    refine WL.call rfl rfl (fr_app (p := [1] ++ (be4 (crc (eAn (ansH V.T.newH))))) (hb := B8.app (fun x hx => by rw [List.mem_singleton.1 hx]; decide) (be4_B8 _)) (hl := (by omega)) (hS := hS)) rfl ?_
    clear hS; rintro _ w ⟨a3, c3, rfl, hS⟩
    replace hS := hS.n10 L (a0 := Own 5 1 (by8 (frm ([1] ++ (be4 (crc (eAn (ansH V.T.newH))))))) a3 c3) rfl
    refine WL.r 5 rfl <| WL.nil <| WC.seq <| WC.region ?_
    have hll := by8_len lg
    refine WL.run 6 [.slice ju (List.length (by8 lg)) jc] rfl (by exact hS.ld 6 rfl rfl) ?_
    refine WL.app rfl rfl 7 (by8 (lg ++ (frm ([1] ++ (be4 (crc (eAn (ansH V.T.newH)))))))) el_24 hS rfl (hS.srcO 0 rfl) (by8_app _ _).symm (Rm.of (by first | omega | (simp <;> omega)) (by decide)) rfl rfl (fun a4 c4 w hS => ?_)
    replace hS := hS.n10 L (a7 := Own 5 1 (by8 (lg ++ (frm ([1] ++ (be4 (crc (eAn (ansH V.T.newH)))))))) a4 c4) rfl
    refine WL.r 2 rfl <| WL.st rfl rfl rfl 6 hS rfl rfl rfl rfl rfl rfl (fun w hS => ?_)
    replace hS := hS.n10 L (a6 := cel j #[.pointer (some ⟨p, 0, none⟩), .slice a4 (List.length (by8 (lg ++ (frm ([1] ++ (be4 (crc (eAn (ansH V.T.newH))))))))) c4] 54) rfl
    refine WL.nil <| WC.seq <| WC.region <| WL.ldF rfl rfl 3 hS rfl rfl ag_46 <| WL.stF rfl rfl rfl 8 hS rfl rfl rfl rfl rfl ag_46 (fun w hS => ?_)
    replace hS := hS.n10 L (a8 := cel b2 #[.int .i64 0, .int .u64 V.T.newH, .int .i64 0, .bool false, .int .i64 0, .int .i64 0, .int .i64 0, .int .i64 0, .int .i64 0, .int .i64 0, .int .i64 0, .slice none 0 0, .slice none 0 0, .slice none 0 0, .slice none 0 0] 46) rfl
    refine WL.nil ?_
    as_aux_lemma =>
    refine WC.ret ?_
    replace hS := St.exClose (f := jrF j p s a V1 (lg ++ frm ([1] ++ be4 (crc (eAn (ansH V.T.newH)))))) (L := Own 5 1 (by8 (frm ([1] ++ (be4 (crc (eAn (ansH V.T.newH))))))) a3 c3 :: Sh 5 1 (by8 ([1] ++ (be4 (crc (eAn (ansH V.T.newH)))))) a2 c2 :: Sh 5 1 (by8 (be4 (crc (eAn (ansH V.T.newH))))) (some ⟨b4, 0, none⟩) (List.length (by8 (be4 (crc (eAn (ansH V.T.newH)))))) :: cel b3 #[.int .i64 0, .int .u64 V.T.newH, .int .i64 0, .bool false, .int .i64 0, .int .i64 0, .int .i64 0, .int .i64 0, .int .i64 0, .int .i64 0, .int .i64 0, .slice none 0 0, .slice none 0 0, .slice none 0 0, .slice none 0 0] 46 :: Arn a A :: cel b2 #[.int .i64 0, .int .u64 V.T.newH, .int .i64 0, .bool false, .int .i64 0, .int .i64 0, .int .i64 0, .int .i64 0, .int .i64 0, .int .i64 0, .int .i64 0, .slice none 0 0, .slice none 0 0, .slice none 0 0, .slice none 0 0] 46 :: cel b1 #[.int .i64 1, .int .u64 0, .int .u64 0, .int .i64 0, .int .i64 0, .int .i64 0, .int .i64 0, .int .i64 0, .bool false, .string ⟨#[]⟩, .slice none 0 0, .slice none 0 0, .slice none 0 0] 49 :: L) ⟨a4, c4⟩ ((hS.sel 8 [6, 4, 5, 0, 0, 0, 0, 0] rfl))
    replace hS := hS.n8 L (a0 := Jrn j p s a V1 (lg ++ frm ([1] ++ be4 (crc (eAn (ansH V.T.newH)))))) rfl
    refine ⟨[.agg #[.int .i64 0, .int .u64 V.T.newH, .int .i64 0, .bool false, .int .i64 0, .int .i64 0, .int .i64 0, .int .i64 0, .int .i64 0, .int .i64 0, .int .i64 0, .slice none 0 0, .slice none 0 0, .slice none 0 0, .slice none 0 0]], ⟨⟨_, rfl, hS.lvF 6 rfl ag_46⟩, trivial⟩, ?_⟩
    replace hS := (hS.sel 8 [0, 4] rfl)
    exact ⟨_, rfl, hS, f1, f2⟩
  · refine WL.new rfl rfl zv_46 hS (fun b3 w hS => ?_)
    refine WL.nil ?_
    refine ⟨by exact ⟨RQ.pure rfl rfl rfl rfl, RQ.pure rfl rfl rfl rfl, RQ.pure rfl rfl rfl rfl, RQ.load rfl rfl rfl rfl (hS.ld 1 rfl rfl), RQ.ldF rfl rfl 5 hS rfl rfl ag_49 rfl rfl⟩, ?_⟩
    refine WQ.nil ?_
    intro m2
    replace hS := hS.drewN m2; generalize hwm2 : World.drewN _ _ = w at *; clear hwm2
    refine WL.call rfl rfl (do_1 (R := R) (hV := hV) (hrm := hrm) (hla := hla) (hlen := hlen) (hS := (hS.sel 7 [2, 5, 0, 0, 0, 0, 0] rfl))) rfl ?_
    clear hS; rintro _ w ⟨V1, rfl, hS, f1, f2⟩
    replace hS := hS.n7 L (a0 := Sto p s a V1) (a2 := cel b3 #[.int .i64 0, .int .u64 0, .int .i64 0, .bool false, .int .i64 0, .int .i64 0, .int .i64 0, .int .i64 0, .int .i64 0, .int .i64 0, .int .i64 0, .slice none 0 0, .slice none 0 0, .slice none 0 0, .slice none 0 0] 46) rfl
    refine WL.nil ?_
    refine ⟨by exact trivial, ?_⟩
    refine WQ.nil ?_
    intro m3
    replace hS := hS.drewN m3; generalize hwm3 : World.drewN _ _ = w at *; clear hwm3
    refine WL.stF rfl rfl rfl 2 hS rfl rfl rfl rfl rfl ag_46 (fun w hS => ?_)
    replace hS := hS.n7 L (a2 := cel b3 #[.int .i64 0, .int .u64 V.T.newH, .int .i64 0, .bool false, .int .i64 0, .int .i64 0, .int .i64 0, .int .i64 0, .int .i64 0, .int .i64 0, .int .i64 0, .slice none 0 0, .slice none 0 0, .slice none 0 0, .slice none 0 0] 46) rfl
    refine WL.nil ?_
    refine ⟨by exact trivial, ?_⟩
    intro m4
    replace hS := hS.drewN m4; generalize hwm4 : World.drewN _ _ = w at *; clear hwm4
    as_aux_lemma =>
    refine WC.seq <| WC.region ?_
    have had := Com.add1 hV f2 hrm; have hrng := had.rng
    refine WL.ldF rfl rfl 6 hS rfl rfl ag_49 <| WL.call rfl rfl (append_1   (hS := hS)) rfl ?_
    clear hS; rintro _ w ⟨a1, c1, rfl, hS⟩
    replace hS := hS.n8 L (a0 := Own 5 1 (by8 [1]) a1 c1) rfl
    refine WL.r 5 rfl <| WL.nil <| WC.seq <| WC.seq <| WC.region <| WL.r 2 rfl <| WL.nil <| WC.ifF rfl (decide_eq_false ((by decide))) ?_
    refine WC.skip <| WC.seq <| WC.region <| WL.ldF rfl rfl 3 hS rfl rfl ag_46 <| WL.call rfl rfl (seal_1 (h := V.T.newH) (hh := hrng) (hS := hS)) rfl ?_
    clear hS; rintro _ w ⟨rfl, hS⟩
    replace hS := hS.n8 L rfl
    refine WL.new rfl rfl zv_57 hS (fun b4 w hS => ?_)
    refine WL.stF (vs := #[.int .u8 (IntKind.u8.wrap (crc (eAn (ansH V.T.newH)) / 16777216)), .int .u8 (IntKind.u8.wrap (crc (eAn (ansH V.T.newH)) / 65536)), .int .u8 (IntKind.u8.wrap (crc (eAn (ansH V.T.newH)) / 256)), .int .u8 (IntKind.u8.wrap (crc (eAn (ansH V.T.newH))))]) rfl rfl rfl 0 hS rfl rfl rfl rfl (Eq.trans (b := 4) rfl rfl) ag_57 (fun w hS => ?_)
    replace hS := hS.n9 L (a0 := cel b4 #[.int .u8 (IntKind.u8.wrap (crc (eAn (ansH V.T.newH)) / 16777216)), .int .u8 (IntKind.u8.wrap (crc (eAn (ansH V.T.newH)) / 65536)), .int .u8 (IntKind.u8.wrap (crc (eAn (ansH V.T.newH)) / 256)), .int .u8 (IntKind.u8.wrap (crc (eAn (ansH V.T.newH))))] 57) rfl
    replace hS := St.celShare (e := 5) (size := 1) (ls := by8 (be4 (crc (eAn (ansH V.T.newH))))) (hS.at_ 0 rfl) rfl (by8_ok _)
    replace hS := hS.n9 L (a0 := Sh 5 1 (by8 (be4 (crc (eAn (ansH V.T.newH))))) (some ⟨b4, 0, none⟩) (List.length (by8 (be4 (crc (eAn (ansH V.T.newH))))))) rfl
    refine WL.nil ?_
    as_aux_lemma =>
    refine WC.seq <| WC.region ?_
    have hb0 := be4_len (crc (eAn (ansH V.T.newH))); have hb1 := by8_len (be4 (crc (eAn (ansH V.T.newH)))); have hb2 : ([1] ++ be4 (crc (eAn (ansH V.T.newH)))).length = 5 := rfl; have hb3 := by8_len ([1] ++ be4 (crc (eAn (ansH V.T.newH)))); have hb4 := frm_len (p := [1] ++ be4 (crc (eAn (ansH V.T.newH)))) (by omega); have hb5 := by8_len (frm ([1] ++ be4 (crc (eAn (ansH V.T.newH))))); have hb7 : (frm (1 :: be4 (crc (eAn (ansH V.T.newH))))).length ≤ 19 := (by have h9 := hb4; rw [hb2] at h9; exact h9)
    refine WL.r 1 rfl <| WL.slA (be4 (crc (eAn (ansH V.T.newH)))) rfl rfl ap_57 rfl rfl <| WL.app rfl rfl 1 (by8 ([1] ++ (be4 (crc (eAn (ansH V.T.newH)))))) el_24 hS rfl (hS.srcS 0 rfl) (by8_app _ _).symm (Rm.of (by first | omega | (simp <;> omega)) (by decide)) rfl rfl (fun a2 c2 w hS => ?_)
    replace hS := hS.n9 L (a1 := Own 5 1 (by8 ([1] ++ (be4 (crc (eAn (ansH V.T.newH)))))) a2 c2) rfl
    replace hS := (hS.at_ 1 rfl).share
    replace hS := hS.n9 L (a0 := Sh 5 1 (by8 ([1] ++ (be4 (crc (eAn (ansH V.T.newH)))))) a2 c2) rfl
    refine WL.call rfl rfl (fr_app (p := [1] ++ (be4 (crc (eAn (ansH V.T.newH))))) (hb := B8.app (fun x hx => by rw [List.mem_singleton.1 hx]; decide) (be4_B8 _)) (hl := (by omega)) (hS := hS)) rfl ?_
    clear hS; rintro _ w ⟨a3, c3, rfl, hS⟩
    replace hS := hS.n10 L (a0 := Own 5 1 (by8 (frm ([1] ++ (be4 (crc (eAn (ansH V.T.newH))))))) a3 c3) rfl
    refine WL.r 5 rfl <| WL.nil <| WC.seq <| WC.region ?_
    have hll := by8_len lg
    refine WL.run 6 [.slice ju (List.length (by8 lg)) jc] rfl (by exact hS.ld 6 rfl rfl) ?_
    refine WL.app rfl rfl 7 (by8 (lg ++ (frm ([1] ++ (be4 (crc (eAn (ansH V.T.newH)))))))) el_24 hS rfl (hS.srcO 0 rfl) (by8_app _ _).symm (Rm.of (by first | omega | (simp <;> omega)) (by decide)) rfl rfl (fun a4 c4 w hS => ?_)
    replace hS := hS.n10 L (a7 := Own 5 1 (by8 (lg ++ (frm ([1] ++ (be4 (crc (eAn (ansH V.T.newH)))))))) a4 c4) rfl
    refine WL.r 2 rfl <| WL.st rfl rfl rfl 6 hS rfl rfl rfl rfl rfl rfl (fun w hS => ?_)
    replace hS := hS.n10 L (a6 := cel j #[.pointer (some ⟨p, 0, none⟩), .slice a4 (List.length (by8 (lg ++ (frm ([1] ++ (be4 (crc (eAn (ansH V.T.newH))))))))) c4] 54) rfl
    refine WL.nil <| WC.seq <| WC.region <| WL.ldF rfl rfl 5 hS rfl rfl ag_46 <| WL.stF rfl rfl rfl 8 hS rfl rfl rfl rfl rfl ag_46 (fun w hS => ?_)
    replace hS := hS.n10 L (a8 := cel b2 #[.int .i64 0, .int .u64 V.T.newH, .int .i64 0, .bool false, .int .i64 0, .int .i64 0, .int .i64 0, .int .i64 0, .int .i64 0, .int .i64 0, .int .i64 0, .slice none 0 0, .slice none 0 0, .slice none 0 0, .slice none 0 0] 46) rfl
    refine WL.nil ?_
    as_aux_lemma =>
    refine WC.ret ?_
    replace hS := St.exClose (f := jrF j p s a V1 (lg ++ frm ([1] ++ be4 (crc (eAn (ansH V.T.newH)))))) (L := Own 5 1 (by8 (frm ([1] ++ (be4 (crc (eAn (ansH V.T.newH))))))) a3 c3 :: Sh 5 1 (by8 ([1] ++ (be4 (crc (eAn (ansH V.T.newH)))))) a2 c2 :: Sh 5 1 (by8 (be4 (crc (eAn (ansH V.T.newH))))) (some ⟨b4, 0, none⟩) (List.length (by8 (be4 (crc (eAn (ansH V.T.newH)))))) :: Arn a A :: cel b3 #[.int .i64 0, .int .u64 V.T.newH, .int .i64 0, .bool false, .int .i64 0, .int .i64 0, .int .i64 0, .int .i64 0, .int .i64 0, .int .i64 0, .int .i64 0, .slice none 0 0, .slice none 0 0, .slice none 0 0, .slice none 0 0] 46 :: cel b2 #[.int .i64 0, .int .u64 V.T.newH, .int .i64 0, .bool false, .int .i64 0, .int .i64 0, .int .i64 0, .int .i64 0, .int .i64 0, .int .i64 0, .int .i64 0, .slice none 0 0, .slice none 0 0, .slice none 0 0, .slice none 0 0] 46 :: cel b1 #[.int .i64 1, .int .u64 0, .int .u64 0, .int .i64 0, .int .i64 0, .int .i64 0, .int .i64 0, .int .i64 0, .bool false, .string ⟨#[]⟩, .slice none 0 0, .slice none 0 0, .slice none 0 0] 49 :: L) ⟨a4, c4⟩ ((hS.sel 8 [6, 3, 5, 0, 0, 0, 0, 0] rfl))
    replace hS := hS.n8 L (a0 := Jrn j p s a V1 (lg ++ frm ([1] ++ be4 (crc (eAn (ansH V.T.newH)))))) rfl
    refine ⟨[.agg #[.int .i64 0, .int .u64 V.T.newH, .int .i64 0, .bool false, .int .i64 0, .int .i64 0, .int .i64 0, .int .i64 0, .int .i64 0, .int .i64 0, .int .i64 0, .slice none 0 0, .slice none 0 0, .slice none 0 0, .slice none 0 0]], ⟨⟨_, rfl, hS.lvF 6 rfl ag_46⟩, trivial⟩, ?_⟩
    replace hS := (hS.sel 8 [0, 3] rfl)
    exact ⟨_, rfl, hS, f1, f2⟩
set_option maxRecDepth 8192 in
theorem jn_log {g w : World} {L : List HP} (j p s a : Nat) (V : VM) (lg : List Int) (hlg : lg.length ≤ 1000000) (hS : St g (Jrn j p s a V lg :: L) w) :
    Sp Tryz.prog 9 [.pointer (some ⟨j, 0, none⟩)] w (fun v w' => ∃ (a2 : Option Addr) (c2 : Nat), v = .slice a2 (List.length (by8 lg)) c2 ∧ St g (Own 5 1 (by8 lg) a2 c2 :: Jrn j p s a V lg :: L) w') := by
  refine Sp.enter Tryz.func9 rfl (by kernel_rfl) (by kernel_rfl) ?_
  have _ := hlg
  refine WC.seq <| WC.region ?_
  have hll := by8_len lg
  obtain ⟨⟨ju, jc⟩, hS⟩ := St.exOpen (f := jrF j p s a V lg) hS
  replace hS : St g (cel j #[.pointer (some ⟨p, 0, none⟩), .slice ju (List.length (by8 lg)) jc] 54 :: Sto p s a V :: Own 5 1 (by8 lg) ju jc :: L) w := hS
  refine WL.r 1 rfl <| WL.nil <| WC.seq <| WC.region <| WL.run 4 [.slice ju (List.length (by8 lg)) jc] rfl (by exact hS.ld 0 rfl rfl) ?_
  replace hS := hS.nil_ 5 1
  refine WL.app rfl rfl 0 (by8 lg) el_24 hS rfl (hS.srcO 3 rfl) (List.nil_append _) (Rm.of (by first | omega | (simp <;> omega)) (by decide)) rfl rfl (fun a1 c1 w hS => ?_)
  replace hS := hS.n4 L (a0 := Own 5 1 (by8 lg) a1 c1) rfl
  refine WL.r 1 rfl <| WL.nil <| WC.ret ?_
  replace hS := St.exClose (f := jrF j p s a V lg) (L := Own 5 1 (by8 lg) a1 c1 :: L) ⟨ju, jc⟩ ((hS.sel 4 [1, 1, 1, 0] rfl))
  replace hS := hS.n2 L (a0 := Jrn j p s a V lg) rfl
  refine ⟨[.slice a1 (List.length (by8 lg)) c1], rfl, ?_⟩
  replace hS := (hS.sel 2 [1, 0] rfl)
  exact ⟨_, _, rfl, hS⟩
set_option maxHeartbeats 400000 in
set_option maxRecDepth 8192 in
theorem jn_replay_1 {g w : World} {L : List HP} (jb p s a : Nat) (V : VM) (A : AM) (R lg : List Int) (ua : Option Addr) (uc : Nat) (h : Int) (hV : VI V A R) (hh : V.T.newH = h) (hrm : 0 < V.room) (hla : V.last < 1000000000) (hlen : R.length ≤ 900000000) (hlg : lg.length ≤ 1000000) (hS : St g (Jrn jb p s a V lg :: Arn a A :: Sh 5 1 (by8 (rec1 h)) ua uc :: L) w) :
    Sp Tryz.prog 21 [.pointer (some ⟨jb, 0, none⟩), .slice ua (List.length (by8 (rec1 h))) uc] w (fun v w' => ∃ (V2 : VM), v = .int .i64 0 ∧ St g (Jrn jb p s a V2 (lg ++ frm (rec1 h)) :: Arn a A :: Sh 5 1 (by8 (rec1 h)) ua uc :: L) w' ∧ (VI V2 A R) ∧ (Com V 0 [] V2)) := by
  refine Sp.enter Tryz.func21 rfl (by kernel_rfl) (by kernel_rfl) ?_
  refine WC.seq <| WC.region <| WL.r 1 rfl <| WL.nil <| WC.seq <| WC.region ?_
  have hrl : (by8 (rec1 V.T.newH)).length = 5 := rfl
  subst hh
  refine WL.r 3 rfl <| WL.nw 12 rfl (w64 (by omega)) ?_
  refine WL.r 1 rfl <| WL.nil <| WC.seq <| WC.region <| WL.r 1 rfl <| WL.call rfl rfl (next_1 (bs := rec1 V.T.newH) (p := 0) (hl := (Nat.le_of_ble_eq_true rfl)) (hp := rfl) (hS := (hS.sel 3 [2, 0, 0] rfl))) rfl ?_
  clear hS; rintro _ w ⟨rfl, hS⟩
  replace hS := hS.n3 L (a0 := Sh 5 1 (by8 (rec1 V.T.newH)) ua uc) rfl
  refine WL.r 4 rfl <| WL.new rfl rfl zv_49 hS (fun b1 w hS => ?_)
  refine WL.stF rfl rfl rfl 0 hS rfl rfl rfl rfl rfl ag_49 (fun w hS => ?_)
  replace hS := hS.n4 L (a0 := cel b1 #[.int .i64 1, .int .u64 0, .int .u64 0, .int .i64 0, .int .i64 0, .int .i64 0, .int .i64 0, .int .i64 0, .bool false, .string ⟨#[]⟩, .slice none 0 0, .slice none 0 0, .slice none 0 0] 49) rfl
  refine WL.r 2 rfl <| WL.nil ?_
  as_aux_lemma =>
  refine WC.seq <| WC.seq <| WC.region <| WL.r 2 rfl <| WL.rG 5 rfl (fun j => ?_)
  refine WL.prop 25 rfl (bor (dd _) (dd _)) <| WL.nil <| WC.ifF rfl (decide_eq_false ((by rw [hrl]; decide))) ?_
  refine WC.skip <| WC.seq <| WC.seq <| WC.region ?_
  have hb8 := be4_B8 (crc (eAn (ansH V.T.newH)))
  refine WL.r 1 rfl <| WL.ldF rfl rfl 0 hS rfl rfl ag_49 <| WL.call rfl rfl (jn_do_1 (R := R) (hV := hV) (hrm := hrm) (hla := hla) (hlen := hlen) (hlg := hlg) (hS := (hS.sel 4 [2, 2, 0, 0] rfl))) rfl ?_
  clear hS; rintro _ w ⟨V1, rfl, hS, f1, f2⟩
  replace hS := hS.n4 L (a0 := Jrn jb p s a V1 (lg ++ frm (rec1 V.T.newH))) rfl
  refine WL.call rfl rfl (seal_1 (h := V.T.newH) (hh := (Com.add1 hV f2 hrm).rng) (hS := hS)) rfl ?_
  clear hS; rintro _ w ⟨rfl, hS⟩
  replace hS := hS.n4 L rfl
  refine WL.new rfl rfl zv_57 hS (fun b2 w hS => ?_)
  refine WL.stF (vs := #[.int .u8 (IntKind.u8.wrap (crc (eAn (ansH V.T.newH)) / 16777216)), .int .u8 (IntKind.u8.wrap (crc (eAn (ansH V.T.newH)) / 65536)), .int .u8 (IntKind.u8.wrap (crc (eAn (ansH V.T.newH)) / 256)), .int .u8 (IntKind.u8.wrap (crc (eAn (ansH V.T.newH))))]) rfl rfl rfl 0 hS rfl rfl rfl rfl (Eq.trans (b := 4) rfl rfl) ag_57 (fun w hS => ?_)
  replace hS := hS.n5 L (a0 := cel b2 #[.int .u8 (IntKind.u8.wrap (crc (eAn (ansH V.T.newH)) / 16777216)), .int .u8 (IntKind.u8.wrap (crc (eAn (ansH V.T.newH)) / 65536)), .int .u8 (IntKind.u8.wrap (crc (eAn (ansH V.T.newH)) / 256)), .int .u8 (IntKind.u8.wrap (crc (eAn (ansH V.T.newH))))] 57) rfl
  replace hS := St.celShare (e := 5) (size := 1) (ls := by8 (be4 (crc (eAn (ansH V.T.newH))))) (hS.at_ 0 rfl) rfl (by8_ok _)
  replace hS := hS.n5 L (a0 := Sh 5 1 (by8 (be4 (crc (eAn (ansH V.T.newH))))) (some ⟨b2, 0, none⟩) (List.length (by8 (be4 (crc (eAn (ansH V.T.newH))))))) rfl
  refine WL.nil ?_
  as_aux_lemma =>
  refine WC.seq <| WC.plan [([0, 2, 3, 1, 4, 5, 6], none)] (by kernel_rfl) (by kernel_rfl) ?_
  refine WQ.slA (be4 (crc (eAn (ansH V.T.newH)))) rfl rfl ap_57 rfl rfl <| WQ.r 2 rfl <| WQ.toS rfl rfl Tryz.underlying24 Tryz.underlying9 Tryz.underlying5 (fun m => (hS.drewN m).srcS 0 rfl) (by assumption) rfl ?_
  refine WQ.slLo rfl rfl (v := (List.length (by8 (rec1 V.T.newH)) : Int) - 4) 4 (1) (by8 (be4 (crc (eAn (ansH V.T.newH))))) el_24 hS rfl rfl rfl (by omega) (by omega) rfl (fun a1 qa1 hS => ?_)
  replace hS := hS.n6 L (a0 := Sh 5 1 (by8 (be4 (crc (eAn (ansH V.T.newH))))) a1 (uc - 1)) rfl
  refine WQ.toS rfl rfl Tryz.underlying24 Tryz.underlying9 Tryz.underlying5 (fun m => (hS.drewN m).srcS 0 rfl) (by assumption) rfl ?_
  refine WQ.r 1 rfl <| WQ.nil ?_
  intro m1
  replace hS := hS.drewN m1; generalize hwm1 : World.drewN _ _ = w at *; clear hwm1
  refine WC.ifP rfl (fun cd1 => ?_) (fun cd1 => ?_)
  · refine WC.seq <| WC.region <| WL.r 1 rfl <| WL.nil <| WC.ret ?_
    refine ⟨[.int .i64 9], rfl, ?_⟩
    replace hS := (hS.sel 5 [2, 2] rfl)
    exact (cd1 rfl).elim
  · refine WC.skip <| WC.seq <| WC.region <| WL.r 1 rfl <| WL.nil <| WC.ret ?_
    refine ⟨[.int .i64 0], rfl, ?_⟩
    replace hS := (hS.sel 5 [2, 2] rfl)
    exact ⟨_, rfl, hS, f1, f2⟩
end Go.Proofs.YtaceaiifbiiagaaGreatDoor
/-! ## Jc -/
namespace Go.Proofs.YtaceaiifbiiagaaGreatDoor
open Go Go.V Go.RowKit Go.Maps
theorem uv_five (l : List Int) : uv (5 :: l) = (5, 1, 0) := by
  unfold uv
  rw [uvGo_end (by omega) (by omega)]
  rfl
theorem r1_len (h : Int) : (rec1 h).length = 5 := rfl
theorem frh_r1 (h : Int) : frh (rec1 h) = 5 :: rec1 h := by
  unfold frh; rw [r1_len, varint_lt (by omega)]; rfl
theorem frm_r1 (h : Int) : frm (rec1 h) = 5 :: (rec1 h ++ be4 (crc (5 :: rec1 h))) := by
  unfold frm; rw [frh_r1]; rfl
theorem frm_r1_len (h : Int) : (frm (rec1 h)).length = 10 := by
  rw [frm_r1, List.length_cons, List.length_append, r1_len, be4_len]
theorem t6 (h : Int) : (frm (rec1 h)).take 6 = 5 :: rec1 h := by
  rw [frm_r1, List.take_succ_cons, List.take_left' (r1_len h)]
theorem t10 (h : Int) : ((frm (rec1 h)).take 10).drop 6 = be4 (crc (5 :: rec1 h)) := by
  rw [List.take_of_length_le (by rw [frm_r1_len]; omega), frm_r1, List.drop_succ_cons, List.drop_left' (r1_len h)]
theorem fnx_r1 (h : Int) : fnx (frm (rec1 h)) 0 = (rec1 h, 10, 0) := by
  have e : uv ((frm (rec1 h)).drop 0) = (5, 1, 0) := by rw [List.drop_zero, frm_r1]; exact uv_five _
  have hB : fnB (frm (rec1 h)) 0 = 1 := by unfold fnB; rw [e]; rfl
  have hE : fnE (frm (rec1 h)) 0 = 6 := by unfold fnE; rw [hB, e]; rfl
  rw [fnx_ok (by rw [e]) (by rw [e]; decide) (by rw [hE, frm_r1_len]; decide) (by rw [hE, t10, t6]; rfl), hE, hB, t6]; rfl
theorem fnx_r1e (h : Int) : (fnx (frm (rec1 h)) 10).2.2 ≠ 0 := by
  have e : uv ((frm (rec1 h)).drop 10) = (0, 0, 12) := by rw [List.drop_eq_nil_of_le (by rw [frm_r1_len]; omega)]; rfl
  rw [fnx_bad (by rw [e]; decide), e]; decide
theorem fsp_r1 (h : Int) : (fsp (frm (rec1 h)) ((frm (rec1 h)).length + 1) 0).1 = [rec1 h] := by
  rw [frm_r1_len, fsp_go (by rw [fnx_r1]), fnx_r1]
  show rec1 h :: (fsp (frm (rec1 h)) 10 10).1 = _
  rw [fsp_end (fnx_r1e h)]
theorem cut_len (h : Int) : ((frm (rec1 h)).take 9).length = 9 := by rw [List.length_take, frm_r1_len]; rfl
theorem fsp_cut (h : Int) : (fsp ((frm (rec1 h)).take 9) (((frm (rec1 h)).take 9).length + 1) 0).1 = [] := by
  have e : uv (((frm (rec1 h)).take 9).drop 0) = (5, 1, 0) := by rw [List.drop_zero, frm_r1, List.take_succ_cons]; exact uv_five _
  have hB : fnB ((frm (rec1 h)).take 9) 0 = 1 := by unfold fnB; rw [e]; rfl
  have hE : fnE ((frm (rec1 h)).take 9) 0 = 6 := by unfold fnE; rw [hB, e]; rfl
  rw [cut_len, fsp_end (by rw [fnx_12 (by rw [e]) (by rw [e]; decide) (by rw [hE, cut_len]; decide)]; decide)]
theorem fsp_no : (fsp [] (([] : List Int).length + 1) 0).1 = [] := rfl
theorem one_rec {zs1 : List BsE} {l : List (List Int)} {r : List Int} {k : Nat} (h : zs1.map BsE.bs = l) (hz : l = [] ∨ l = [r]) (hk : k < zs1.length) : k = 0 ∧ zs1.length = 1 ∧ ∃ za zc, zs1[k]? = some ⟨r, za, zc⟩ := by
  subst h
  cases zs1 with
  | nil => cases hk
  | cons z zs =>
    rcases hz with h | h
    · cases h
    · simp only [List.map_cons, List.cons.injEq, List.map_eq_nil_iff] at h
      obtain ⟨h1, rfl⟩ := h
      obtain ⟨zb, za, zc⟩ := z
      have h2 : k = 0 := by simp at hk; omega
      subst h2; subst h1
      exact ⟨rfl, rfl, _, _, rfl⟩
set_option maxRecDepth 8192 in
theorem perf_bad {g w : World} {L : List HP} (sl cv cc cx : Int) (hc : ¬ CfgOk sl cv cc cx) (hS : St g (L) w) :
    Sp Tryz.prog 12 [.agg #[.int .i64 sl, .int .i64 cv, .int .i64 cc, .int .i64 cx], .slice none 0 0] w (fun v w' => v = .tuple #[.pointer none, .int .i64 0, .int .i64 1] ∧ St g (L) w') := by
  refine Sp.enter Tryz.func12 rfl (by kernel_rfl) (by kernel_rfl) ?_
  refine WC.seq <| WC.region <| WL.box rfl rfl #[.int .i64 sl, .int .i64 cv, .int .i64 cc, .int .i64 cx] hS rfl rfl (fun b1 w hS => ?_)
  refine WL.r 3 rfl <| WL.nil <| WC.seq <| WC.region <| WL.ldF rfl rfl 0 hS rfl rfl ag_23 <| WL.call rfl rfl (jn_new_bad (sl := sl) (cv := cv) (cc := cc) (cx := cx) (hc := hc) (hS := hS)) rfl ?_
  clear hS; rintro _ w ⟨rfl, hS⟩
  replace hS : St g (cel b1 #[.int .i64 sl, .int .i64 cv, .int .i64 cc, .int .i64 cx] 23 :: L) w := hS
  refine WL.r 5 rfl <| WL.nil <| WC.seq <| WC.seq <| WC.region <| WL.r 2 rfl <| WL.nil <| WC.ifT rfl (decide_eq_true ((by decide))) ?_
  refine WC.seq <| WC.region <| WL.r 4 rfl <| WL.nil <| WC.ret ?_
  refine ⟨[.pointer none, .int .i64 0, .int .i64 1], ⟨rfl, rfl, rfl⟩, ?_⟩
  replace hS := (hS.sel 1 [] rfl)
  exact ⟨rfl, hS⟩
set_option maxRecDepth 8192 in
theorem perf {g w : World} {L : List HP} (sl cv cc cx : Int) (bs : List Int) (ba : Option Addr) (bc : Nat) (hc : CfgOk sl cv cc cx) (hl : bs.length ≤ 100000000) (hb : B8 bs) (hz : (fsp bs (bs.length + 1) 0).1 = [] ∨ (fsp bs (bs.length + 1) 0).1 = [rec1 4294967297]) (hS : St g (Sh 5 1 (by8 bs) ba bc :: L) w) :
    Sp Tryz.prog 12 [.agg #[.int .i64 sl, .int .i64 cv, .int .i64 cc, .int .i64 cx], .slice ba (List.length (by8 bs)) bc] w (fun v w' => ∃ (jb p s a : Nat) (V : VM) (A : AM) (lg : List Int), v = .tuple #[.pointer (some ⟨jb, 0, none⟩), .int .i64 ((fsp bs ((List.length bs) + 1) 0).1.length : Int), .int .i64 0] ∧ St g (Jrn jb p s a V lg :: Arn a A :: Sh 5 1 (by8 bs) ba bc :: L) w' ∧ ((fsp bs (bs.length + 1) 0).1 = [] → lg = [])) := by
  refine Sp.enter Tryz.func12 rfl (by kernel_rfl) (by kernel_rfl) ?_
  refine WC.seq <| WC.region <| WL.box rfl rfl #[.int .i64 sl, .int .i64 cv, .int .i64 cc, .int .i64 cx] hS rfl rfl (fun b1 w hS => ?_)
  refine WL.r 3 rfl <| WL.nil <| WC.seq <| WC.region ?_
  obtain ⟨h1, h2, h3, h4⟩ := id hc
  refine WL.ldF rfl rfl 0 hS rfl rfl ag_23 <| WL.call rfl rfl (jn_new_ok (sl := sl) (cv := cv) (cc := cc) (cx := cx) (hc := hc) (hS := hS)) rfl ?_
  clear hS; rintro _ w ⟨j1, p1, s1, a1, rfl, hS⟩
  replace hS := hS.n4 L (a0 := Jrn j1 p1 s1 a1 (VM.new cv.toNat) []) (a1 := Arn a1 (AM.new sl.toNat)) (a2 := cel b1 #[.int .i64 sl, .int .i64 cv, .int .i64 cc, .int .i64 cx] 23) rfl
  refine WL.r 5 rfl <| WL.nil <| WC.seq <| WC.seq <| WC.region <| WL.r 2 rfl <| WL.nil <| WC.ifF rfl (decide_eq_false ((by decide))) ?_
  refine WC.skip <| WC.seq <| WC.region <| WL.r 1 rfl <| WL.call rfl rfl (fr_split  (hl := hl) (hb := hb) (hS := (hS.sel 4 [3, 0, 0, 0] rfl))) rfl ?_
  clear hS; rintro _ w ⟨zs1, a2, c1, rfl, hS, f1⟩
  replace hS := hS.n6 L (a0 := Own 24 1 (enB zs1) a2 c1) (a1 := Shs beF zs1) rfl
  refine WL.r 5 rfl <| WL.nil ?_
  as_aux_lemma =>
  refine WC.seq <| WC.seq <| WC.region <| WL.r 3 rfl <| WL.nil <| WC.block <| WC.loop [7, 9, 27, 28, 29] (fun kM vs w => ∃ (k : Nat) (V : VM) (lg : List Int), vs = [.pointer (some ⟨j1, 0, none⟩), .slice a2 (List.length (enB zs1)) c1, .slice a2 (List.length (enB zs1)) c1, .int .i64 (List.length (enB zs1) : Int), .int .i64 (k : Int)] ∧ St g (Own 24 1 (enB zs1) a2 c1 :: Shs beF zs1 :: Sh 5 1 (by8 bs) ba bc :: Jrn j1 p1 s1 a1 V lg :: Arn a1 (AM.new sl.toNat) :: cel b1 #[.int .i64 sl, .int .i64 cv, .int .i64 cc, .int .i64 cx] 23 :: L) w ∧ ((k = 0 ∧ V = VM.new cv.toNat ∧ lg = []) ∨ (k = 1 ∧ zs1.length = 1)) ∧ (zs1.length - k) = kM) ((List.length zs1) - 0) ⟨0, VM.new cv.toNat, [], rfl, hS, (.inl ⟨rfl, rfl, rfl⟩), rfl⟩ ?_
  clear hS; rintro _ _ w j ⟨k, V, lg, rfl, hS, hk, rfl⟩
  refine WC.seq <| WC.region <| WL.r 1 rfl <| WL.nil <| WC.seq <| WC.ifP rfl (fun cd1 => ?_) (fun cd1 => ?_)
  · refine WC.skip <| WC.seq <| WC.block <| WC.seq <| WC.region <| WL.r 1 rfl ?_
    have hel := enB_len zs1; have hV0 := VI.new (slots := sl.toNat) (cap := cv.toNat) (by omega) (by omega); have hr0 := room_new (n := cv.toNat); have hn0 := newH_new (n := cv.toNat) (by omega); obtain ⟨hk0, hz1, za, zc, hzk⟩ := one_rec f1 hz (k := k) (by omega); obtain ⟨_, hVV, hlg0⟩ := hk.resolve_right (fun h => by omega)
    refine WL.ix rfl rfl (i := (k : Int)) (k) el_71 rfl rfl (by omega) (by omega) (hS.rdO 0 rfl (enB_at hzk)).1 ?_
    refine WL.run 3 [.slice za (List.length (by8 (rec1 4294967297))) zc] rfl (by exact (hS.rdO 0 rfl (enB_at hzk)).2 0 _ rfl) ?_
    refine WL.nil <| WC.seq <| WC.region ?_
    replace hS : St g (Sh 5 1 (by8 (rec1 4294967297)) za zc :: Own 24 1 (enB zs1) a2 c1 :: Shs beF zs1 :: Sh 5 1 (by8 bs) ba bc :: Jrn j1 p1 s1 a1 V lg :: Arn a1 (AM.new sl.toNat) :: cel b1 #[.int .i64 sl, .int .i64 cv, .int .i64 cc, .int .i64 cx] 23 :: L) w := hS.shsGet 1 rfl (List.mem_of_getElem? hzk)
    subst hVV
    subst hlg0
    refine WL.r 2 rfl <| WL.call rfl rfl (jn_replay_1 (V := VM.new cv.toNat) (A := AM.new sl.toNat) (R := []) (lg := []) (h := 4294967297) (hV := hV0) (hh := hn0) (hrm := (by rw [hr0]; omega)) (hla := (by show (0 : Int) < 1000000000; decide)) (hlen := (by decide)) (hlg := (by decide)) (hS := (hS.sel 6 [4, 4, 0, 0, 0, 0] rfl))) rfl ?_
    clear hS; rintro _ w ⟨V1, rfl, hS, f2, f3⟩
    replace hS := hS.n7 L (a0 := Jrn j1 p1 s1 a1 V1 ([] ++ frm (rec1 4294967297))) (a2 := Sh 5 1 (by8 (rec1 4294967297)) za zc) rfl
    refine WL.r 1 rfl <| WL.nil ?_
    as_aux_lemma =>
    refine WC.seq <| WC.region <| WL.r 2 rfl <| WL.nil <| WC.ifF rfl (decide_eq_false ((by decide))) ?_
    refine WC.skip <| WC.region <| WL.r 1 rfl <| WL.nw 41 rfl (w64 (by omega)) ?_
    refine WL.r 1 rfl <| WL.nil ?_
    exact ⟨_, by omega, k + 1, V1, [] ++ frm (rec1 4294967297), rfl, (hS.sel 6 [3, 3, 3, 0, 0] rfl), (.inr ⟨by omega, hz1⟩), rfl⟩
  · refine WC.exit <| WC.seq <| WC.region <| WL.r 6 rfl <| WL.nil <| WC.ret ?_
    refine ⟨[.pointer (some ⟨j1, 0, none⟩), .int .i64 (List.length (enB zs1) : Int), .int .i64 0], ⟨rfl, rfl, rfl⟩, ?_⟩
    replace hS := (hS.sel 6 [3, 3, 2] rfl)
    have hel := enB_len zs1; have e9 : (enB zs1).length = (fsp bs (bs.length + 1) 0).1.length := (by rw [enB_len, ← f1, List.length_map]); have e8 : zs1.length = (fsp bs (bs.length + 1) 0).1.length := (by rw [← f1, List.length_map]); rw [← e9]; exact ⟨_, _, _, _, _, _, _, rfl, hS, fun h => by rw [h] at e8; have e7 : zs1.length = 0 := e8; exact (hk.resolve_right (fun h => by omega)).2.2⟩
set_option maxRecDepth 8192 in
theorem rec_bad {g w : World} {L : List HP} (sl cv cc cx : Int) (hc : ¬ CfgOk sl cv cc cx) (hS : St g (L) w) :
    Sp Tryz.prog 6 [.agg #[.int .i64 sl, .int .i64 cv, .int .i64 cc, .int .i64 cx], .slice none 0 0] w (fun v w' => v = .tuple #[.pointer none, .int .i64 0, .int .i64 1] ∧ St g (L) w') := by
  refine Sp.enter Tryz.func6 rfl (by kernel_rfl) (by kernel_rfl) ?_
  refine WC.seq <| WC.region <| WL.box rfl rfl #[.int .i64 sl, .int .i64 cv, .int .i64 cc, .int .i64 cx] hS rfl rfl (fun b1 w hS => ?_)
  refine WL.r 3 rfl <| WL.nil <| WC.seq <| WC.region <| WL.ldF rfl rfl 0 hS rfl rfl ag_23 <| WL.r 1 rfl <| WL.call rfl rfl (perf_bad (sl := sl) (cv := cv) (cc := cc) (cx := cx) (hc := hc) (hS := hS)) rfl ?_
  clear hS; rintro _ w ⟨rfl, hS⟩
  replace hS : St g (cel b1 #[.int .i64 sl, .int .i64 cv, .int .i64 cc, .int .i64 cx] 23 :: L) w := hS
  refine WL.r 7 rfl <| WL.nil <| WC.seq <| WC.seq <| WC.region <| WL.r 2 rfl <| WL.nil <| WC.ifT rfl (decide_eq_true ((by decide))) ?_
  refine WC.seq <| WC.region <| WL.r 4 rfl <| WL.nil ?_
  as_aux_lemma =>
  refine WC.ret ?_
  refine ⟨[.pointer none, .int .i64 0, .int .i64 1], ⟨rfl, rfl, rfl⟩, ?_⟩
  replace hS := (hS.sel 1 [] rfl)
  exact ⟨rfl, hS⟩
set_option maxRecDepth 8192 in
theorem rec {g w : World} {L : List HP} (sl cv cc cx : Int) (bs : List Int) (ba : Option Addr) (bc : Nat) (hc : CfgOk sl cv cc cx) (hl : bs.length ≤ 100000000) (hb : B8 bs) (hz : (fsp bs (bs.length + 1) 0).1 = [] ∨ (fsp bs (bs.length + 1) 0).1 = [rec1 4294967297]) (hS : St g (Sh 5 1 (by8 bs) ba bc :: L) w) :
    Sp Tryz.prog 6 [.agg #[.int .i64 sl, .int .i64 cv, .int .i64 cc, .int .i64 cx], .slice ba (List.length (by8 bs)) bc] w (fun v w' => ∃ (jb p s a : Nat) (V : VM) (A : AM) (lg : List Int), v = .tuple #[.pointer (some ⟨jb, 0, none⟩), .int .i64 ((fsp bs ((List.length bs) + 1) 0).1.length : Int), .int .i64 0] ∧ St g (Jrn jb p s a V lg :: Arn a A :: Sh 5 1 (by8 bs) ba bc :: L) w' ∧ ((fsp bs (bs.length + 1) 0).1 = [] → lg = [])) := by
  refine Sp.enter Tryz.func6 rfl (by kernel_rfl) (by kernel_rfl) ?_
  refine WC.seq <| WC.region <| WL.box rfl rfl #[.int .i64 sl, .int .i64 cv, .int .i64 cc, .int .i64 cx] hS rfl rfl (fun b1 w hS => ?_)
  refine WL.r 3 rfl <| WL.nil <| WC.seq <| WC.region <| WL.ldF rfl rfl 0 hS rfl rfl ag_23 <| WL.r 1 rfl <| WL.call rfl rfl (perf (sl := sl) (cv := cv) (cc := cc) (cx := cx) (hc := hc) (hl := hl) (hb := hb) (hz := hz) (hS := (hS.sel 2 [1, 0] rfl))) rfl ?_
  clear hS; rintro _ w ⟨jb1, p1, s1, a1, V1, A1, lg1, rfl, hS, f1⟩
  replace hS := hS.n4 L (a0 := Jrn jb1 p1 s1 a1 V1 lg1) (a1 := Arn a1 A1) (a3 := cel b1 #[.int .i64 sl, .int .i64 cv, .int .i64 cc, .int .i64 cx] 23) rfl
  refine WL.r 7 rfl <| WL.nil <| WC.seq <| WC.seq <| WC.region <| WL.r 2 rfl <| WL.nil <| WC.ifF rfl (decide_eq_false ((by decide))) ?_
  refine WC.skip <| WC.seq <| WC.region <| WL.r 5 rfl <| WL.nil ?_
  as_aux_lemma =>
  refine WC.ret ?_
  refine ⟨[.pointer (some ⟨jb1, 0, none⟩), .int .i64 ((fsp bs ((List.length bs) + 1) 0).1.length : Int), .int .i64 0], ⟨rfl, rfl, rfl⟩, ?_⟩
  replace hS := (hS.sel 4 [0, 0, 0] rfl)
  exact ⟨_, _, _, _, _, _, _, rfl, hS, f1⟩
set_option maxRecDepth 8192 in
theorem ver_bad {g w : World} {L : List HP} (sl cv cc cx : Int) (hc : ¬ CfgOk sl cv cc cx) (hS : St g (L) w) :
    Sp Tryz.prog 7 [.agg #[.int .i64 sl, .int .i64 cv, .int .i64 cc, .int .i64 cx], .slice none 0 0] w (fun v w' => v = .tuple #[.int .i64 0, .int .i64 1] ∧ St g (L) w') := by
  refine Sp.enter Tryz.func7 rfl (by kernel_rfl) (by kernel_rfl) ?_
  refine WC.seq <| WC.region <| WL.box rfl rfl #[.int .i64 sl, .int .i64 cv, .int .i64 cc, .int .i64 cx] hS rfl rfl (fun b1 w hS => ?_)
  refine WL.r 2 rfl <| WL.nil <| WC.seq <| WC.region <| WL.ldF rfl rfl 0 hS rfl rfl ag_23 <| WL.r 1 rfl <| WL.call rfl rfl (perf_bad (sl := sl) (cv := cv) (cc := cc) (cx := cx) (hc := hc) (hS := hS)) rfl ?_
  clear hS; rintro _ w ⟨rfl, hS⟩
  replace hS : St g (cel b1 #[.int .i64 sl, .int .i64 cv, .int .i64 cc, .int .i64 cx] 23 :: L) w := hS
  refine WL.r 7 rfl <| WL.nil <| WC.seq <| WC.region <| WL.r 4 rfl <| WL.nil <| WC.ret ?_
  refine ⟨[.int .i64 0, .int .i64 1], ⟨rfl, rfl⟩, ?_⟩
  replace hS := (hS.sel 1 [] rfl)
  exact ⟨rfl, hS⟩
set_option maxRecDepth 8192 in
theorem ver {g w : World} {L : List HP} (sl cv cc cx : Int) (bs : List Int) (ba : Option Addr) (bc : Nat) (hc : CfgOk sl cv cc cx) (hl : bs.length ≤ 100000000) (hb : B8 bs) (hz : (fsp bs (bs.length + 1) 0).1 = [] ∨ (fsp bs (bs.length + 1) 0).1 = [rec1 4294967297]) (hS : St g (Sh 5 1 (by8 bs) ba bc :: L) w) :
    Sp Tryz.prog 7 [.agg #[.int .i64 sl, .int .i64 cv, .int .i64 cc, .int .i64 cx], .slice ba (List.length (by8 bs)) bc] w (fun v w' => v = .tuple #[.int .i64 ((fsp bs ((List.length bs) + 1) 0).1.length : Int), .int .i64 0] ∧ St g (Sh 5 1 (by8 bs) ba bc :: L) w') := by
  refine Sp.enter Tryz.func7 rfl (by kernel_rfl) (by kernel_rfl) ?_
  refine WC.seq <| WC.region <| WL.box rfl rfl #[.int .i64 sl, .int .i64 cv, .int .i64 cc, .int .i64 cx] hS rfl rfl (fun b1 w hS => ?_)
  refine WL.r 2 rfl <| WL.nil <| WC.seq <| WC.region <| WL.ldF rfl rfl 0 hS rfl rfl ag_23 <| WL.r 1 rfl <| WL.call rfl rfl (perf (sl := sl) (cv := cv) (cc := cc) (cx := cx) (hc := hc) (hl := hl) (hb := hb) (hz := hz) (hS := (hS.sel 2 [1, 0] rfl))) rfl ?_
  clear hS; rintro _ w ⟨jb1, p1, s1, a1, V1, A1, lg1, rfl, hS, f1⟩
  replace hS := hS.n4 L (a0 := Jrn jb1 p1 s1 a1 V1 lg1) (a1 := Arn a1 A1) (a3 := cel b1 #[.int .i64 sl, .int .i64 cv, .int .i64 cc, .int .i64 cx] 23) rfl
  refine WL.r 7 rfl <| WL.nil <| WC.seq <| WC.region <| WL.r 4 rfl <| WL.nil <| WC.ret ?_
  refine ⟨[.int .i64 ((fsp bs ((List.length bs) + 1) 0).1.length : Int), .int .i64 0], ⟨rfl, rfl⟩, ?_⟩
  replace hS := (hS.sel 4 [2] rfl)
  exact ⟨rfl, hS⟩
set_option maxRecDepth 8192 in
theorem awake33 {g w : World} {L : List HP} (hS : St g (L) w) :
    Sp Tryz.prog 4 [] w (fun v w' => v = .bool true ∧ St g (L) w') := by
  refine Sp.enter Tryz.func4 rfl (by kernel_rfl) (by kernel_rfl) ?_
  refine WC.seq <| WC.region <| WL.r 1 rfl <| WL.nil <| WC.seq <| WC.region <| WL.build rfl rfl (cs := [.int .i64 9, .int .i64 9, .int .i64 1, .int .i64 1]) zv_23 rfl rfl <| WL.new rfl rfl zv_23 hS (fun b1 w hS => ?_)
  refine WL.stF rfl rfl rfl 0 hS rfl rfl rfl rfl rfl ag_23 (fun w hS => ?_)
  replace hS : St g (cel b1 #[.int .i64 9, .int .i64 9, .int .i64 1, .int .i64 1] 23 :: L) w := hS
  refine WL.nil <| WC.seq <| WC.region <| WL.ldF rfl rfl 0 hS rfl rfl ag_23 <| WL.call rfl rfl (jn_new_ok (sl := 9) (cv := 9) (cc := 1) (cx := 1) (hc := (by unfold CfgOk; omega)) (hS := hS)) rfl ?_
  clear hS; rintro _ w ⟨j1, p1, s1, a1, rfl, hS⟩
  replace hS := hS.n3 L (a0 := Jrn j1 p1 s1 a1 (VM.new 9) []) (a1 := Arn a1 (AM.new 9)) rfl
  refine WL.r 5 rfl <| WL.nil <| WC.seq <| WC.seq <| WC.region <| WL.r 2 rfl <| WL.rG 4 rfl (fun j => ?_)
  refine WL.nil ?_
  as_aux_lemma =>
  refine WC.ifF rfl rfl <| WC.skip <| WC.seq <| WC.region ?_
  have hV0 := VI.new (slots := 9) (cap := 9) (by omega) (by omega); have hr0 := room_new (n := 9)
  refine WL.r 1 rfl <| WL.build rfl rfl (cs := [.int .i64 1, .int .u64 0, .int .u64 0, .int .i64 0, .int .i64 0, .int .i64 0, .int .i64 0, .int .i64 0, .bool false, .string ⟨#[]⟩, .slice none 0 0, .slice none 0 0, .slice none 0 0]) zv_49 rfl rfl <| WL.call rfl rfl (jn_do_1 (V := VM.new 9) (A := AM.new 9) (R := []) (lg := []) (hV := hV0) (hrm := (by rw [hr0]; decide)) (hla := (by decide)) (hlen := (by decide)) (hlg := (by decide)) (hS := hS)) rfl ?_
  clear hS; rintro _ w ⟨V1, rfl, hS, f1, f2⟩
  replace hS := hS.n3 L (a0 := Jrn j1 p1 s1 a1 V1 ([] ++ frm (rec1 (VM.new 9).T.newH))) rfl
  refine WL.new rfl rfl zv_46 hS (fun b2 w hS => ?_)
  refine WL.stF rfl rfl rfl 0 hS rfl rfl rfl rfl rfl ag_46 (fun w hS => ?_)
  replace hS := hS.n4 L (a0 := cel b2 #[.int .i64 0, .int .u64 (VM.new 9).T.newH, .int .i64 0, .bool false, .int .i64 0, .int .i64 0, .int .i64 0, .int .i64 0, .int .i64 0, .int .i64 0, .int .i64 0, .slice none 0 0, .slice none 0 0, .slice none 0 0, .slice none 0 0] 46) rfl
  refine WL.nil <| WC.seq <| WC.region ?_
  replace hS := hS.n4 L (a1 := Jrn j1 p1 s1 a1 V1 (frm (rec1 4294967297))) rfl
  refine WL.r 1 rfl <| WL.call rfl rfl (jn_log (lg := frm (rec1 4294967297)) (hlg := (by rw [frm_r1_len]; decide)) (hS := (hS.sel 2 [1, 0] rfl))) rfl ?_
  clear hS; rintro _ w ⟨a2, c1, rfl, hS⟩
  replace hS := hS.n5 L (a0 := Own 5 1 (by8 (frm (rec1 4294967297))) a2 c1) rfl
  refine WL.r 1 rfl <| WL.nil <| WC.seq <| WC.seq <| WC.region ?_
  have hbl := by8_len (frm (rec1 4294967297)); have hb10 := frm_r1_len 4294967297; have hb8 : B8 (frm (rec1 4294967297)) := (by rw [frm_r1]; exact B8.app (l := [5]) (fun x hx => by rw [List.mem_singleton.1 hx]; decide) (B8.app (B8.app (l := [1]) (fun x hx => by rw [List.mem_singleton.1 hx]; decide) (be4_B8 _)) (be4_B8 _))); have hz1 := fsp_r1 4294967297; have hz0 := fsp_cut 4294967297
  refine WL.run 3 [.int .i64 0] rfl (by exact hS.ld 2 rfl rfl) ?_
  refine WL.rG 5 rfl (fun j => ?_)
  refine WL.prop 36 rfl (bor (dd _) (dd _)) <| WL.nil ?_
  as_aux_lemma =>
  refine WC.ifF rfl (decide_eq_false ((by omega))) ?_
  refine WC.skip <| WC.seq <| WC.region <| WL.ldF rfl rfl 4 hS rfl rfl ag_23 <| WL.r 1 rfl ?_
  replace hS := (hS.at_ 0 rfl).share
  replace hS := hS.n5 L (a0 := Sh 5 1 (by8 (frm (rec1 4294967297))) a2 c1) rfl
  refine WL.call rfl rfl (rec (sl := 9) (cv := 9) (cc := 1) (cx := 1) (bs := frm (rec1 4294967297)) (hc := (by unfold CfgOk; omega)) (hl := (by omega)) (hb := hb8) (hz := .inr hz1) (hS := hS)) rfl ?_
  clear hS; rintro _ w ⟨jb1, p2, s2, a3, V2, A1, lg1, rfl, hS, f3⟩
  replace hS := hS.n7 L (a0 := Jrn jb1 p2 s2 a3 V2 lg1) (a1 := Arn a3 A1) rfl
  refine WL.r 7 rfl <| WL.nil <| WC.seq <| WC.plan [([0, 1, 2, 3, 4, 5], some (6, [])), ([7, 8, 9, 10, 11, 12, 13], none)] (by kernel_rfl) (by kernel_rfl) ?_
  refine WQ.ldF rfl rfl 6 hS rfl rfl ag_23 <| WQ.r 4 rfl <| WQ.nw 49 rfl (w64 (by omega)) ?_
  refine WQ.slHi rfl rfl (v := (List.length (by8 (frm (rec1 4294967297))) : Int) - 1) 2 (9) (by8 ((frm (rec1 4294967297)).take 9)) el_24 hS rfl rfl rfl (by omega) (by omega) (by8_take _ _) (fun a4 qa4 hS => ?_)
  replace hS := hS.n8 L (a0 := Sh 5 1 (by8 ((frm (rec1 4294967297)).take 9)) a4 c1) rfl
  refine WQ.nil ?_
  intro m1
  replace hS := hS.drewN m1; generalize hwm1 : World.drewN _ _ = w at *; clear hwm1
  refine WL.call rfl rfl (rec (sl := 9) (cv := 9) (cc := 1) (cx := 1) (bs := (frm (rec1 4294967297)).take 9) (hc := (by unfold CfgOk; omega)) (hl := (by rw [cut_len]; decide)) (hb := (fun x hx => hb8 x (List.mem_of_mem_take hx))) (hz := .inl hz0) (hS := hS)) rfl ?_
  clear hS; rintro _ w ⟨jb2, p3, s3, a5, V3, A2, lg2, rfl, hS, f4⟩
  replace hS := hS.n10 L (a0 := Jrn jb2 p3 s3 a5 V3 lg2) (a1 := Arn a5 A2) rfl
  refine WL.nil ?_
  refine ⟨by exact trivial, ?_⟩
  refine WQ.r 7 rfl <| WQ.nil ?_
  intro m2
  replace hS := hS.drewN m2; generalize hwm2 : World.drewN _ _ = w at *; clear hwm2
  as_aux_lemma =>
  refine WC.seq <| WC.region <| WL.r 2 rfl <| WL.rG 13 rfl (fun j => ?_)
  refine WL.prop 68 rfl (band (band (band (dd _) (dd _)) (dd _)) (dd _)) <| WL.nil <| WC.ret ?_
  refine ⟨[.bool (bif (bif (bif (decide (0 = 0)) then (decide (0 = 0)) else false) then (decide (((fsp (frm (rec1 4294967297)) ((List.length (frm (rec1 4294967297))) + 1) 0).1.length : Int) = 1)) else false) then (decide (((fsp ((frm (rec1 4294967297)).take 9) ((List.length ((frm (rec1 4294967297)).take 9)) + 1) 0).1.length : Int) = 0)) else false)], rfl, ?_⟩
  replace hS := (hS.sel 10 [] rfl)
  exact ⟨(by rw [hz1, hz0]; rfl), hS⟩
set_option maxRecDepth 8192 in
theorem law_jc_long {g w : World} {L : List HP} (sl cv cc cx : Int) (tn tc : Nat) (ta : Option Addr) (hlong : 100 < tn) (hS : St g (L) w) :
    Sp Tryz.prog 3 [.agg #[.int .i64 sl, .int .i64 cv, .int .i64 cc, .int .i64 cx], .slice ta tn tc] w (fun v w' => v = .bool true ∧ St g (L) w') := by
  refine Sp.enter Tryz.func3 rfl (by kernel_rfl) (by kernel_rfl) ?_
  have _ := hlong
  refine WC.seq <| WC.region <| WL.box rfl rfl #[.int .i64 sl, .int .i64 cv, .int .i64 cc, .int .i64 cx] hS rfl rfl (fun b1 w hS => ?_)
  refine WL.r 1 rfl <| WL.nil <| WC.seq <| WC.seq <| WC.region <| WL.r 3 rfl <| WL.nil <| WC.ifT rfl (decide_eq_true ((by omega))) ?_
  refine WC.seq <| WC.region <| WL.call rfl rfl (awake33   (hS := hS)) rfl ?_
  clear hS; rintro _ w ⟨rfl, hS⟩
  replace hS : St g (cel b1 #[.int .i64 sl, .int .i64 cv, .int .i64 cc, .int .i64 cx] 23 :: L) w := hS
  refine WL.r 1 rfl <| WL.nil <| WC.ret ?_
  refine ⟨[.bool true], rfl, ?_⟩
  replace hS := (hS.sel 1 [] rfl)
  exact ⟨rfl, hS⟩
set_option maxRecDepth 8192 in
theorem law_jc_bad {g w : World} {L : List HP} (sl cv cc cx : Int) (tn tc : Nat) (ta : Option Addr) (hc : ¬ CfgOk sl cv cc cx) (hlong : ¬ 100 < tn) (hS : St g (L) w) :
    Sp Tryz.prog 3 [.agg #[.int .i64 sl, .int .i64 cv, .int .i64 cc, .int .i64 cx], .slice ta tn tc] w (fun v w' => v = .bool true ∧ St g (L) w') := by
  refine Sp.enter Tryz.func3 rfl (by kernel_rfl) (by kernel_rfl) ?_
  have _ := hlong
  refine WC.seq <| WC.region <| WL.box rfl rfl #[.int .i64 sl, .int .i64 cv, .int .i64 cc, .int .i64 cx] hS rfl rfl (fun b1 w hS => ?_)
  refine WL.r 1 rfl <| WL.nil <| WC.seq <| WC.seq <| WC.region <| WL.r 3 rfl <| WL.nil <| WC.ifF rfl (decide_eq_false ((by omega))) ?_
  refine WC.skip <| WC.seq <| WC.region <| WL.ldF rfl rfl 0 hS rfl rfl ag_23 <| WL.call rfl rfl (jn_new_bad (sl := sl) (cv := cv) (cc := cc) (cx := cx) (hc := hc) (hS := hS)) rfl ?_
  clear hS; rintro _ w ⟨rfl, hS⟩
  replace hS : St g (cel b1 #[.int .i64 sl, .int .i64 cv, .int .i64 cc, .int .i64 cx] 23 :: L) w := hS
  refine WL.r 5 rfl <| WL.nil <| WC.seq <| WC.region <| WL.ldF rfl rfl 0 hS rfl rfl ag_23 <| WL.call rfl rfl (rec_bad (sl := sl) (cv := cv) (cc := cc) (cx := cx) (hc := hc) (hS := hS)) rfl ?_
  clear hS; rintro _ w ⟨rfl, hS⟩
  replace hS := hS.n1 L rfl
  refine WL.r 7 rfl <| WL.nil ?_
  as_aux_lemma =>
  refine WC.seq <| WC.region <| WL.ldF rfl rfl 0 hS rfl rfl ag_23 <| WL.call rfl rfl (ver_bad (sl := sl) (cv := cv) (cc := cc) (cx := cx) (hc := hc) (hS := hS)) rfl ?_
  clear hS; rintro _ w ⟨rfl, hS⟩
  replace hS := hS.n1 L rfl
  refine WL.r 5 rfl <| WL.nil <| WC.seq <| WC.seq <| WC.region <| WL.ldF rfl rfl 0 hS rfl rfl ag_23 <| WL.call rfl rfl (cfg_ok (sl := sl) (cv := cv) (cc := cc) (cx := cx)  (hS := hS)) rfl ?_
  clear hS; rintro _ w ⟨ok1, rfl, hS, f1⟩
  replace hS := hS.n1 L rfl
  refine WL.r 1 rfl <| WL.nil <| WC.ifT rfl (by rw [f1, decide_eq_false hc]; rfl) ?_
  refine WC.seq <| WC.region <| WL.call rfl rfl (awake33   (hS := hS)) rfl ?_
  clear hS; rintro _ w ⟨rfl, hS⟩
  replace hS := hS.n1 L rfl
  refine WL.r 1 rfl <| WL.ung rfl rfl rfl <| WL.r 1 rfl <| WL.ung rfl rfl rfl <| WL.r 3 rfl <| WL.ung rfl rfl rfl <| WL.r 1 rfl <| WL.ung rfl rfl rfl <| WL.r 3 rfl <| WL.ung rfl rfl rfl <| WL.r 1 rfl <| WL.ung rfl rfl rfl ?_
  refine WL.r 2 rfl <| WL.rG 17 rfl (fun j => ?_)
  refine WL.prop 63 rfl (band (band (band (band (dd _) (dd _)) (dd _)) (dd _)) (dd _)) <| WL.nil ?_
  as_aux_lemma =>
  refine WC.ret ?_
  refine ⟨[.bool (bif (bif (bif (bif (decide (0 = 0)) then (decide (0 = 0)) else false) then (decide (1 = 1)) else false) then (decide (1 = 1)) else false) then (decide (1 = 1)) else false)], rfl, ?_⟩
  replace hS := (hS.sel 1 [] rfl)
  exact ⟨rfl, hS⟩
set_option maxRecDepth 8192 in
theorem law_jc_ok {g w : World} {L : List HP} (sl cv cc cx : Int) (tn tc : Nat) (ta : Option Addr) (hc : CfgOk sl cv cc cx) (hlong : ¬ 100 < tn) (hS : St g (L) w) :
    Sp Tryz.prog 3 [.agg #[.int .i64 sl, .int .i64 cv, .int .i64 cc, .int .i64 cx], .slice ta tn tc] w (fun v w' => v = .bool true ∧ St g (L) w') := by
  refine Sp.enter Tryz.func3 rfl (by kernel_rfl) (by kernel_rfl) ?_
  have _ := hlong
  refine WC.seq <| WC.region <| WL.box rfl rfl #[.int .i64 sl, .int .i64 cv, .int .i64 cc, .int .i64 cx] hS rfl rfl (fun b1 w hS => ?_)
  refine WL.r 1 rfl <| WL.nil <| WC.seq <| WC.seq <| WC.region <| WL.r 3 rfl <| WL.nil <| WC.ifF rfl (decide_eq_false ((by omega))) ?_
  refine WC.skip <| WC.seq <| WC.region <| WL.ldF rfl rfl 0 hS rfl rfl ag_23 <| WL.call rfl rfl (jn_new_ok (sl := sl) (cv := cv) (cc := cc) (cx := cx) (hc := hc) (hS := hS)) rfl ?_
  clear hS; rintro _ w ⟨j1, p1, s1, a1, rfl, hS⟩
  replace hS : St g (Jrn j1 p1 s1 a1 (VM.new cv.toNat) [] :: Arn a1 (AM.new sl.toNat) :: cel b1 #[.int .i64 sl, .int .i64 cv, .int .i64 cc, .int .i64 cx] 23 :: L) w := hS
  refine WL.r 5 rfl <| WL.nil <| WC.seq <| WC.region ?_
  replace hS : St g (Sh 5 1 (by8 []) none 0 :: Jrn j1 p1 s1 a1 (VM.new cv.toNat) [] :: Arn a1 (AM.new sl.toNat) :: cel b1 #[.int .i64 sl, .int .i64 cv, .int .i64 cc, .int .i64 cx] 23 :: L) w := hS.nilS 5 1
  refine WL.ldF rfl rfl 3 hS rfl rfl ag_23 <| WL.call rfl rfl (rec (sl := sl) (cv := cv) (cc := cc) (cx := cx) (bs := []) (hc := hc) (hl := (by decide)) (hb := (fun _ h => by cases h)) (hz := .inl fsp_no) (hS := hS)) rfl ?_
  clear hS; rintro _ w ⟨jb1, p2, s2, a2, V1, A1, lg1, rfl, hS, f1⟩
  replace hS := hS.n6 L (a0 := Jrn jb1 p2 s2 a2 V1 lg1) (a1 := Arn a2 A1) (a2 := Sh 5 1 (by8 []) none 0) rfl
  refine WL.r 7 rfl <| WL.nil ?_
  as_aux_lemma =>
  refine WC.seq <| WC.region ?_
  obtain rfl := f1 fsp_no
  refine WL.ldF rfl rfl 5 hS rfl rfl ag_23 <| WL.call rfl rfl (ver (sl := sl) (cv := cv) (cc := cc) (cx := cx) (bs := []) (hc := hc) (hl := (by decide)) (hb := (fun _ h => by cases h)) (hz := .inl fsp_no) (hS := (hS.sel 3 [2, 0, 0] rfl))) rfl ?_
  clear hS; rintro _ w ⟨rfl, hS⟩
  replace hS := hS.n6 L (a1 := Jrn jb1 p2 s2 a2 V1 []) rfl
  refine WL.r 5 rfl <| WL.nil <| WC.seq <| WC.seq <| WC.region <| WL.ldF rfl rfl 5 hS rfl rfl ag_23 <| WL.call rfl rfl (cfg_ok (sl := sl) (cv := cv) (cc := cc) (cx := cx)  (hS := hS)) rfl ?_
  clear hS; rintro _ w ⟨ok1, rfl, hS, f2⟩
  replace hS := hS.n6 L rfl
  refine WL.r 1 rfl <| WL.nil <| WC.ifF rfl (by rw [f2, decide_eq_true hc]; decide) ?_
  refine WC.skip <| WC.seq <| WC.region <| WL.call rfl rfl (awake33   (hS := hS)) rfl ?_
  clear hS; rintro _ w ⟨rfl, hS⟩
  replace hS := hS.n6 L rfl
  refine WL.r 1 rfl <| WL.ung rfl rfl rfl <| WL.r 1 rfl <| WL.ung rfl rfl rfl <| WL.r 3 rfl <| WL.reb 69 (.bool true) (congrArg Value.bool (decide_eq_true (by decide))) ?_
  refine WL.ung rfl rfl rfl <| WL.r 1 rfl <| WL.ung rfl rfl rfl <| WL.r 3 rfl <| WL.reb 73 (.bool true) (congrArg Value.bool (decide_eq_true (by decide))) ?_
  refine WL.ung rfl rfl rfl <| WL.r 1 rfl <| WL.ung rfl rfl rfl <| WL.r 3 rfl <| WL.reb 77 (.bool true) (congrArg Value.bool (decide_eq_true (by decide))) ?_
  refine WL.ung rfl rfl rfl <| WL.r 1 rfl <| WL.ung rfl rfl rfl <| WL.r 3 rfl <| WL.ung rfl rfl rfl <| WL.r 1 rfl <| WL.ung rfl rfl rfl <| WL.r 3 rfl <| WL.ung rfl rfl rfl <| WL.r 1 rfl <| WL.ung rfl rfl rfl <| WL.r 3 rfl ?_
  refine WL.reb 89 (.bool true) (congrArg Value.bool (decide_eq_true (rfl))) <| WL.ung rfl rfl rfl <| WL.r 1 rfl <| WL.ung rfl rfl rfl <| WL.r 3 rfl <| WL.reb 93 (.bool true) (congrArg Value.bool (decide_eq_true (rfl))) <| WL.ung rfl rfl rfl <| WL.r 1 rfl <| WL.ung rfl rfl rfl <| WL.call rfl rfl (jn_log (lg := []) (hlg := (Nat.zero_le _)) (hS := (hS.sel 2 [1, 0] rfl))) rfl ?_
  clear hS; rintro _ w ⟨a3, c1, rfl, hS⟩
  replace hS := hS.n7 L (a0 := Own 5 1 (by8 []) a3 c1) rfl
  refine WL.ung rfl rfl rfl <| WL.r 1 rfl <| WL.ung rfl rfl rfl <| WL.r 3 rfl <| WL.reb 99 (.bool true) (congrArg Value.bool (decide_eq_true (rfl))) <| WL.ung rfl rfl rfl <| WL.r 1 rfl <| WL.ung rfl rfl rfl <| WL.call rfl rfl (jn_log (V := VM.new cv.toNat) (lg := []) (hlg := (Nat.zero_le _)) (hS := (hS.sel 5 [4, 0, 0, 0, 0] rfl))) rfl ?_
  clear hS; rintro _ w ⟨a4, c2, rfl, hS⟩
  replace hS := hS.n8 L (a0 := Own 5 1 (by8 []) a4 c2) rfl
  refine WL.ung rfl rfl rfl <| WL.r 1 rfl <| WL.ung rfl rfl rfl <| WL.r 3 rfl <| WL.nil ?_
  as_aux_lemma =>
  refine WC.ret ?_
  refine ⟨[.bool (decide ((List.length (by8 []) : Int) = 0))], rfl, ?_⟩
  replace hS := (hS.sel 8 [] rfl)
  exact ⟨rfl, hS⟩
set_option maxRecDepth 8192 in
theorem law_jc {g w : World} {L : List HP} (sl cv cc cx : Int) (tn tc : Nat) (ta : Option Addr) (hS : St g (L) w) :
    Sp Tryz.prog 3 [.agg #[.int .i64 sl, .int .i64 cv, .int .i64 cc, .int .i64 cx], .slice ta tn tc] w (fun v w' => v = .bool true ∧ St g (L) w') := by
  by_cases hlong : 100 < tn
  · exact law_jc_long sl cv cc cx tn tc ta hlong hS
  · by_cases hc : CfgOk sl cv cc cx
    · exact law_jc_ok sl cv cc cx tn tc ta hc hlong hS
    · exact law_jc_bad sl cv cc cx tn tc ta hc hlong hS
end Go.Proofs.YtaceaiifbiiagaaGreatDoor
/-! ## Argc -/
namespace Go.Proofs.YtaceaiifbiiagaaGreatDoor
open Go Go.V Go.RowKit
set_option maxRecDepth 100000
theorem rdf_23 {H : Type} {enc : TypeId × Value → H} {w : World} {cs : List Value} (h : Rdc enc Tryz.prog w 23 cs) : ∃ c0 c1 c2 c3 : Value, cs = [c0, c1, c2, c3] ∧ Rdc enc Tryz.prog w 3 [c0] ∧ Rdc enc Tryz.prog w 3 [c1] ∧ Rdc enc Tryz.prog w 3 [c2] ∧ Rdc enc Tryz.prog w 3 [c3] := by
  obtain ⟨hl, hf⟩ := Rdc.struct h Tryz.underlying23
  rw [show Tryz.prog.cellsOf 23 = 4 by kernel_rfl] at hl
  match cs, hl with
  | [c0, c1, c2, c3], _ =>
    have f0 : Rdc enc Tryz.prog w 3 (([c0, c1, c2, c3].drop 0).take (Tryz.prog.cellsOf 3)) := hf 0 _ rfl
    rw [show Tryz.prog.cellsOf 3 = 1 by kernel_rfl] at f0
    have f1 : Rdc enc Tryz.prog w 3 (([c0, c1, c2, c3].drop 1).take (Tryz.prog.cellsOf 3)) := hf 1 _ rfl
    rw [show Tryz.prog.cellsOf 3 = 1 by kernel_rfl] at f1
    have f2 : Rdc enc Tryz.prog w 3 (([c0, c1, c2, c3].drop 2).take (Tryz.prog.cellsOf 3)) := hf 2 _ rfl
    rw [show Tryz.prog.cellsOf 3 = 1 by kernel_rfl] at f2
    have f3 : Rdc enc Tryz.prog w 3 (([c0, c1, c2, c3].drop 3).take (Tryz.prog.cellsOf 3)) := hf 3 _ rfl
    rw [show Tryz.prog.cellsOf 3 = 1 by kernel_rfl] at f3
    exact ⟨c0, c1, c2, c3, rfl, f0, f1, f2, f3⟩
section
variable {H : Type} {enc : TypeId × Value → H} {w : World} {cs : List Value}
theorem rd_int (h : Rdc enc Tryz.prog w 3 cs) : ∃ n, cs = [.int .i64 n] ∧ I64 n := by
  obtain ⟨n, h1, h2, h3⟩ := h.int (k := .i64) (by kernel_rfl)
  exact ⟨n, h1, h2, h3⟩
theorem rd_cfg (h : Rdc enc Tryz.prog w 23 cs) : ∃ x : Int × Int × Int × Int, cs = [.int .i64 x.1, .int .i64 x.2.1, .int .i64 x.2.2.1, .int .i64 x.2.2.2] ∧ I64 x.1 ∧ I64 x.2.1 ∧ I64 x.2.2.1 ∧ I64 x.2.2.2 := by
  obtain ⟨c0, c1, c2, c3, rfl, h0, h1, h2, h3⟩ := rdf_23 h
  obtain ⟨a, e0, w0⟩ := rd_int h0
  obtain ⟨b, e1, w1⟩ := rd_int h1
  obtain ⟨c, e2, w2⟩ := rd_int h2
  obtain ⟨d, e3, w3⟩ := rd_int h3
  cases e0; cases e1; cases e2; cases e3
  exact ⟨(a, b, c, d), rfl, w0, w1, w2, w3⟩
end
end Go.Proofs.YtaceaiifbiiagaaGreatDoor
/-! ## Argd -/
namespace Go.Proofs.YtaceaiifbiiagaaGreatDoor
open Go Go.V Go.RowKit
set_option maxRecDepth 100000
section
variable {H : Type} {enc : TypeId × Value → H} {w : World} {cs : List Value}
theorem rd_u8 (h : Rdc enc Tryz.prog w 5 cs) : ∃ n, cs = [.int .u8 n] ∧ 0 ≤ n ∧ n ≤ 255 := by
  obtain ⟨n, h1, h2, h3⟩ := h.int (k := .u8) (by kernel_rfl)
  exact ⟨n, h1, h2, h3⟩
theorem one1 {x : List Value} {v : Value} (h : x = [v]) (h1 : v.oneCell' = true) : x.length = 1 ∧ ∀ u ∈ x, u.oneCell' = true := by
  subst h; exact ⟨rfl, fun u hu => by simp at hu; subst hu; exact h1⟩
theorem rd_bytes (h : Rdc enc Tryz.prog w 24 cs) : ∃ (l : List Int) (a : Option Addr) (c : Nat), cs = [.slice a (by8 l).length c] ∧ B8 l ∧ l.length ≤ maxLen ∧ ∀ e, Hw w (Sh e 1 (by8 l) a c) := by
  obtain ⟨a, c, ls, h1, h2, h3, h4⟩ := Rdc.slice (e := 5) (size := 1) h (by kernel_rfl) (by kernel_rfl) (by decide) (fun x hx => by
    obtain ⟨n, hn, _⟩ := rd_u8 hx
    exact one1 hn rfl)
  obtain ⟨m, rfl, hm⟩ := map_of (fun x : Int => [Value.int .u8 x]) (fun x => 0 ≤ x ∧ x ≤ 255) ls (fun x hx => by
    obtain ⟨n, hn, hb⟩ := rd_u8 (h3 x hx)
    exact ⟨n, hn, hb⟩)
  exact ⟨m, a, c, h1, hm, by simpa using h2, h4⟩
end
end Go.Proofs.YtaceaiifbiiagaaGreatDoor
/-! ## Jjc -/
namespace Go.Proofs.YtaceaiifbiiagaaGreatDoor
open Go Go.V Go.RowKit Go.ChangeShapes Go.WideShapes
set_option maxRecDepth 100000
theorem jcf_calls {H : Type} {enc : TypeId × Value → H} {W : World} {base : Nat} {args : List Value} (h : AOk enc Tryz.prog W base [23, 24] args) :
    Calls Tryz.prog 3 args.toArray W fun e W' => e = .returned (.bool true) ∧ Below W.heap.size W W' := by
  obtain ⟨v0, vs0, rfl, k0, r0, h⟩ := h.cons
  obtain ⟨v1, vs1, rfl, k1, r1, h⟩ := h.cons
  obtain rfl := h.nil
  obtain ⟨x0, e0, _⟩ := rd_cfg r0
  obtain ⟨l1, a1, c1, e1, _, _, _⟩ := rd_bytes r1
  obtain rfl := okv_agg k0 Tryz.underlying23 e0
  obtain rfl := okv_one (okv_slice k1 Tryz.underlying24) e1
  have hS := St.start W
  exact law_calls (law_jc x0.1 x0.2.1 x0.2.2.1 x0.2.2.2 (by8 l1).length c1 a1 hS)
theorem jcf_own : ownKnob Tryz.prog.godebug = none := by kernel_rfl
theorem jcf_lifted (os : Os) (started : os.Started) (H : Type) (enc : TypeId × Value → H) :
    ReturnsInHanded {} Tryz.checked os 3 .any (fun w args => (Rows.journalConfigurationsSpec.pre enc Tryz.prog Tryz.f3 Rows.journalConfigurationsRow.domain false w args ∧ laidMetH Tryz.prog Rows.journalConfigurationsRow.laid w) ∧ sizedMet enc Tryz.prog Tryz.f3 (OpenSpec.ofChange Rows.journalConfigurationsSpec) false w args)
      (Rows.journalConfigurationsSpec.post enc Tryz.prog Tryz.f3 false true false false) := by
  refine returnsInHanded_of_change_and (C := Tryz.checked) (X := fun w _ => laidMetH Tryz.prog Rows.journalConfigurationsRow.laid w) (fun _ _ _ hh h => h.of_heap hh) jcf_own started (by kernel_rfl) Tryz.func3
    (ChangeSpec.witness_shaped (enc := enc) (C := Tryz.checked) (os := os) (X := fun w _ => laidMetH Tryz.prog Rows.journalConfigurationsRow.laid w) false (World.laidAll Tryz.prog os Rows.journalConfigurationsRow.laid) #[.agg #[.int .i64 0, .int .i64 0, .int .i64 0, .int .i64 0], .slice none 0 0] 8 (World.laidAll_os _ _ _)
      (World.shaped_of_ZipB (by kernel_rfl) (by kernel_rfl)) (by kernel_rfl) (by kernel_rfl) (by kernel_rfl)
      (by rw [MakeChecks.laidMetH_plain _ _ _ (by kernel_rfl)]; exact laidMet_laidAll _ (by kernel_rfl) (by kernel_rfl))) ?_
  intro W base args ds gs before hval0 hW _ _ hL _
  have hval : ∀ (j : Nat) t v, Tryz.f3.params[j]? = some t → args[j]? = some v → Value.okWide Tryz.prog W .any base t v := hval0
  have hW0 := hW
  obtain ⟨p, q, hA0, _⟩ := hW
  have hA : DataW.TrodAll enc Tryz.prog W 0 (fun _ => true) true Tryz.f3.params.toList args.toList ds p := hA0
  rw [Tryz.params3] at hA hval
  clear hA0 hval0 hL
  have hc := jcf_calls (AOk.args hA hval)
  rw [Array.toArray_toList] at hc
  refine hc.mono fun e W' ⟨he, hb⟩ => ⟨_, he, ?_⟩
  refine law_post rfl hW0 (by kernel_rfl) ?_ (by kernel_rfl) Tryz.underlying4 ?_ hb
  · exact fun t ht => by
      simp only [Tryz.params3, List.mem_cons, List.not_mem_nil, or_false] at ht
      rcases ht with rfl | rfl <;> exact ⟨by kernel_rfl, of_decide_eq_true (by kernel_rfl)⟩
  · intro hd
    match ds, hd with
    | [d1, d2], _ => exact ⟨rfl, rfl, rfl⟩
theorem jcf_row : Rows.JournalConfigurationsSaid :=
  OpenClaim.holds_of_wide 3 Tryz.f3 rfl rfl rfl rfl rfl rfl rfl ⟨rfl, rfl, rfl, rfl, rfl⟩ rfl rfl rfl rfl rfl (by kernel_rfl) Tryz.func3 jcf_closed
    (of_decide_eq_true (by kernel_rfl)) (by unfold Func.isWrapper; first | (rw [if_pos (by decide +kernel)]; kernel_rfl) | (rw [if_neg (by decide +kernel)]; exact ⟨rfl, rfl⟩))
    (fun os started H enc _ => jcf_lifted os started H enc)
theorem jcf_holds : Rows.JournalConfigurationsCardSaid :=
  Claim7.holds_tied_plain_at .later [] [.data, .pinned] true (true, "b959df02c7bbd8685dbb0204f377663f64702a5669acad1acc8b8a219f73d092") false jcf_row (fun _ h => by cases h) (by kernel_rfl) (fun _ h => by cases h) journalConfigurations_row_tie rfl ⟨rfl, rfl⟩ (by kernel_rfl) rfl
    (fun f fn hf hfn => by
      obtain rfl : f = 3 := Option.some.inj ((show Tryz.prog.funcNamed "versionmap/versionmaplaw33.JournalConfigurations" = some 3 by kernel_rfl).symm.trans hf) |>.symm
      obtain rfl : fn = Tryz.f3 := (Option.some.inj (Tryz.func3.symm.trans hfn)).symm
      exact ⟨jcf_looks, fun j t ht => by
        rw [Tryz.params3] at ht
        have hm : t ∈ [23, 24] := by simpa using Array.mem_of_getElem? ht
        have hall : ([23, 24].all fun u => !Tryz.prog.wantsStandIn u) = true := by kernel_rfl
        exact (show Tryz.prog.wantsStandIn t = false by simpa using List.all_eq_true.1 hall t hm)⟩)
    jcf_goes
end Go.Proofs.YtaceaiifbiiagaaGreatDoor
