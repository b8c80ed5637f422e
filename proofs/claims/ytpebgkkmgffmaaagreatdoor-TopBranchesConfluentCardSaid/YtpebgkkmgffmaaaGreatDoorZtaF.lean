/-
  What the proof of Jtb stands on, part 6.
  Conditions: none.
-/
import Derived.Test.YtpebgkkmgffmaaaGreatDoorZtaE
set_option maxRecDepth 8192
namespace Go.Proofs.YtpebgkkmgffmaaaGreatDoor
open Go Go.V Go.RowKit Go.Maps
set_option maxHeartbeats 8000000
set_option maxRecDepth 8192
variable{g w:World}{L:List HP}
theorem QM(oc h b k vv lo hi n:Int)(es:Zl)(ea:Option Addr)(ec:Nat)(hc:QD (opG oc h b k vv lo hi n es))(hl:es.length≤1000)(Z:St g (Sh 32 2 (Zm es) ea ec::L) w) :
  Zr g L 136 [.agg (qO oc h b k vv lo hi n (.slice ea (Zm es).length ec))] w fun rV=>rV (.bool true) [Sh 32 2 (Zm es) ea ec]:=by
 refine(CY (opG oc h b k vv lo hi n es) none ea none 0 ec 0 (by show es.length≤_;omega) (Nat.zero_le _) (fun _ h=>(by cases h)) (((Z.nilS 181 4).nilS 5 1).sel 3 [0,1,0] rfl)).mono fun v w' h=>?_
 obtain⟨ok,h1,h2,h3⟩:=h
 have h4:ok=true:=h3.2 ((Zp1 _).1 hc)
 subst h4
 exact⟨h1,h2.sel 3 [1] rfl⟩
theorem Zim(oc h b k vv lo hi n:Int)(ea:Option Addr)(el ec:Nat)(hc:oc=1∨oc=2∨oc=3∨oc=7)(Z:St g (L) w) :
  Zr g L 137 [.agg (qO oc h b k vv lo hi n (.slice ea el ec))] w fun rV=>rV (.bool false) []:=by
 refine Sp.en Tryz.func137 ?_
 have _:=hc
 refine Zsp fun b1 w Z=>?_
 refine Zsm rfl (decide_eq_false ((by omega))) ?_
 refine Zsm rfl (decide_eq_false ((by omega))) ?_
 refine Zsm rfl (decide_eq_false ((by omega))) ?_
 refine Zsm rfl (decide_eq_false ((by omega))) ?_
 refine Zsm rfl (decide_eq_false ((by omega))) ?_
 refine Zsm rfl (decide_eq_false ((by omega))) ?_
 refine Zsm rfl (decide_eq_false ((by omega))) ?_
 replace Z:=(Z.sel 1 [] rfl)
 exact⟨rfl,Z⟩
theorem Zpe(h b k vv lo hi:Int)(ea:Option Addr)(el ec:Nat)(Z:St g (L) w) :
  Zr g L 137 [.agg (qO 10 h b k vv lo hi 3 (.slice ea el ec))] w fun rV=>rV (.bool false) []:=by
 refine Sp.en Tryz.func137 ?_
 refine Zsp fun b1 w Z=>?_
 refine Zs7 5 [.I 3] rfl (by exact(fun _=>Z.ld 0 rfl rfl)) (fun j=>?_)
 refine Zsx 19 rfl (X2 (dd _) (dd _)) ?_
 refine Sz ?_
 replace Z:=(Z.sel 1 [] rfl)
 exact⟨rfl,Z⟩
theorem kd_v2(Z:St g (L) w) :
  Zr g L 138 [.I 2] w fun rV=>rV (.string ⟨#[118,32]⟩) []:=by
 refine Sp.en Tryz.func138 ?_
 exact⟨rfl,Z⟩
theorem kd_v3(Z:St g (L) w) :
  Zr g L 138 [.I 3] w fun rV=>rV (.string ⟨#[118,32]⟩) []:=by
 refine Sp.en Tryz.func138 ?_
 exact⟨rfl,Z⟩
theorem kd_v(oc:Int)(hc:oc=2∨oc=3)(Z:St g (L) w) :
  Zr g L 138 [.I oc] w fun rV=>rV (.string ⟨#[118,32]⟩) []:=by
 rcases hc with rfl|rfl
 ·exact kd_v2 Z
 exact kd_v3 Z
theorem kd_10(Z:St g (L) w) :
  Zr g L 138 [.I 10] w fun rV=>rV (.string ⟨#[118,118]⟩) []:=by
 refine Sp.en Tryz.func138 ?_
 as_aux_lemma =>
 refine Sz ?_
 exact⟨rfl,Z⟩
theorem kd_n(oc:Int)(hc:oc=1∨oc=7)(Z:St g (L) w) :
  Zr g L 138 [.I oc] w fun rV=>rV (.string ⟨#[32,32]⟩) []:=by
 refine Sp.en Tryz.func138 ?_
 have _:=hc
 refine Zsm rfl (decide_eq_false ((by omega))) ?_
 refine Zsm rfl (decide_eq_false ((by omega))) ?_
 refine Zsm rfl (decide_eq_false ((by omega))) ?_
 refine Zsm rfl (decide_eq_false ((by omega))) ?_
 refine Zsm rfl (decide_eq_false ((by omega))) ?_
 refine Zsm rfl (decide_eq_false ((by omega))) ?_
 refine Zsm rfl (decide_eq_false ((by omega))) ?_
 refine Zsm rfl (decide_eq_false ((by omega))) ?_
 refine Zsm rfl (decide_eq_false ((by omega))) ?_
 refine Zsm rfl (decide_eq_false ((by omega))) ?_
 refine Zsm rfl (decide_eq_false ((by omega))) ?_
 refine Zsm rfl (decide_eq_false ((by omega))) ?_
 refine Zsm rfl (decide_eq_false ((by omega))) ?_
 refine Zsm rfl (decide_eq_false ((by omega))) ?_
 refine Zs8 rfl (decide_eq_false ((by omega))) ?_
 as_aux_lemma =>
 refine Sz ?_
 refine Zsm rfl (decide_eq_false ((by omega))) ?_
 refine Zsm rfl (decide_eq_false ((by omega))) ?_
 refine Zsm rfl (decide_eq_false ((by omega))) ?_
 refine Zsm rfl (decide_eq_false ((by omega))) ?_
 refine Zsm rfl (decide_eq_false ((by omega))) ?_
 refine Zsm rfl (decide_eq_false ((by omega))) ?_
 refine Zsm rfl (decide_eq_false ((by omega))) ?_
 refine Zsm rfl (decide_eq_false ((by omega))) ?_
 refine Zsm rfl (decide_eq_false ((by omega))) ?_
 refine Zsm rfl (decide_eq_false ((by omega))) ?_
 refine Zsm rfl (decide_eq_false ((by omega))) ?_
 refine Zsm rfl (decide_eq_false ((by omega))) ?_
 refine Zsm rfl (decide_eq_false ((by omega))) ?_
 refine Zsm rfl (decide_eq_false ((by omega))) ?_
 refine Zsm rfl (decide_eq_false ((by omega))) ?_
 refine Zs8 rfl (decide_eq_false ((by omega))) ?_
 as_aux_lemma =>
 refine Sz ?_
 exact⟨rfl,Z⟩
theorem cr_m1(Z:St g (L) w) :
  Zr g L 140 [.I 1] w fun rV=>rV (.bool true) []:=by
 refine Sp.en Tryz.func140 ?_
 exact⟨rfl,Z⟩
theorem cr_m3(Z:St g (L) w) :
  Zr g L 140 [.I 3] w fun rV=>rV (.bool true) []:=by
 refine Sp.en Tryz.func140 ?_
 exact⟨rfl,Z⟩
theorem cr_m7(Z:St g (L) w) :
  Zr g L 140 [.I 7] w fun rV=>rV (.bool true) []:=by
 refine Sp.en Tryz.func140 ?_
 exact⟨rfl,Z⟩
theorem Zro(Z:St g (L) w) :
  Zr g L 140 [.I 10] w fun rV=>rV (.bool true) []:=by
 refine Sp.en Tryz.func140 ?_
 exact⟨rfl,Z⟩
theorem Zqp(oc:Int)(hc:oc=1∨oc=3∨oc=7∨oc=10)(Z:St g (L) w) :
  Zr g L 140 [.I oc] w fun rV=>rV (.bool true) []:=by
 rcases hc with rfl|rfl|rfl|rfl
 ·exact cr_m1 Z
 ·exact cr_m3 Z
 ·exact cr_m7 Z
 exact Zro Z
theorem cr_n(Z:St g (L) w) :
  Zr g L 140 [.I 2] w fun rV=>rV (.bool false) []:=by
 refine Sp.en Tryz.func140 ?_
 exact⟨rfl,Z⟩
theorem Znj(m:Nat)(z:RSt)(h:Int)(hz:ROk z)(hh:0≤h∧h≤18446744073709551615)(hn:z.T.s.opn h=true)(Z:St g (Xp m z::L) w) :
  Zr g L 139 [.P m,.U h,.int .u8 118] w fun rV=>rV (.I 0) [Xp m z]:=by
 refine Sp.en Tryz.func139 ?_
 obtain⟨⟨ga,oa,va,gb,ob,vb,gc,oc,vc,gd,od,vd⟩,Z⟩:=St.exOpen Z
 replace Z:=Z.z
 refine Sz ?_
 refine Zse (Uk z h hz hh hn (Z.sel 2 [1,0] rfl)) fun w Z=>?_
 replace Z:=St.cl (f:=QE m z) ⟨_,_,_,_,_,_,_,_,_,_,_,_⟩ (Z.sel 2 [1,0] rfl)
 replace Z:=Z.z
 refine Sz ?_
 exact⟨rfl,Z⟩
theorem Zm9(m:Nat)(h:Int)(Z:St g (L) w) :
  Zr g L 139 [.P m,.U h,.int .u8 32] w fun rV=>rV (.I 0) []:=by
 refine Sp.en Tryz.func139 ?_
 exact⟨rfl,Z⟩
theorem Zee(m:Nat)(z:RSt)(co:Int)(es:Zl)(ea:Option Addr)(ec:Nat)(hz:ROk z)(hc:co=1∨co=7)(hok:QD (opG co 0 0 0 0 0 0 0 es))(hl:es.length≤1000)(hrm:1≤z.room)(Z:St g (Xp m z::Sh 32 2 (Zm es) ea ec::L) w) :
  Zr g L 48 [.P m,.agg (qO co 0 0 0 0 0 0 0 (.slice ea (Zm es).length ec))] w fun rV=>rV (.I 0) [Xp m z,Sh 32 2 (Zm es) ea ec]:=by
 refine Sp.en Tryz.func48 ?_
 have _:=hrm
 refine Zsp fun b1 w Z=>?_
 refine Zse (QM co 0 0 0 0 0 0 0 _ _ _ hok hl (Z.sel 3 [2,0,0] rfl)) fun w Z=>?_
 refine Zse (Zim co 0 0 0 0 0 0 0 ea (Zm es).length ec (by omega) Z) fun w Z=>?_
 refine Zse (kd_n co hc Z) fun w Z=>?_
 refine Zsg [([0,1,3,2],some (4,[0,1,2])),([],some (5,[])),([6],none)] ?_
 refine Qd fun w Z=>?_
 refine Zt2 rfl rfl (v:=0) (0) rfl rfl rfl (by omega) (show(sb _)[0]?=some 32 from rfl) ?_
 refine Sz ?_
 refine Qd fun w Z=>?_
 refine Zse (Zm9 m 0 Z) fun w Z=>?_
 refine Qd fun w Z=>?_
 refine Zsg [([0,1,3,2],some (4,[0,1,2])),([],some (5,[])),([6],none)] ?_
 refine Qd fun w Z=>?_
 refine Zt2 rfl rfl (v:=1) (1) rfl rfl rfl (by omega) (show(sb _)[1]?=some 32 from rfl) ?_
 refine Sz ?_
 refine Qd fun w Z=>?_
 refine Zse (Zm9 m 0 Z) fun w Z=>?_
 refine Qd fun w Z=>?_
 as_aux_lemma =>
 obtain⟨⟨ga,oa,va,gb,ob,vb,gc,oc,vc,gd,od,vd⟩,Z⟩:=St.exOpen (Z.at_ 2 rfl)
 replace Z:=Z.z
 refine Sz ?_
 refine Zse (Zqp co (by omega) Z) fun w Z=>?_
 refine Zse (QU z hz (Z.sel 2 [1,0] rfl)) fun w Z=>?_
 refine Zsm rfl (decide_eq_false ((by omega))) ?_
 replace Z:=St.cl (f:=QE m z) ⟨_,_,_,_,_,_,_,_,_,_,_,_⟩ (Z.sel 2 [1,0] rfl)
 replace Z:=Z.z
 refine Sz ?_
 replace Z:=(Z.sel 3 [0,0] rfl)
 exact⟨rfl,Z⟩
theorem Zoa(m:Nat)(z:RSt)(h k vv:Int)(hz:ROk z)(hok:QD (opG 2 h 0 k vv 0 0 0 []))(hh:0≤h∧h≤18446744073709551615)(hn:z.T.s.opn h=true)(hrm:1≤z.room)(Z:St g (Xp m z::L) w) :
  Zr g L 48 [.P m,.agg (qO 2 h 0 k vv 0 0 0 .N)] w fun rV=>rV (.I 0) [Xp m z]:=by
 refine Sp.en Tryz.func48 ?_
 have _:=hrm
 refine Zsp fun b1 w Z=>?_
 replace Z:=Z.nilS 32 2
 replace Z:=Z.z
 refine Zse (QM 2 h 0 k vv 0 0 0 [] _ _ hok (by decide) Z) fun w Z=>?_
 refine Zse (Zim 2 h 0 k vv 0 0 0 none 0 0 (by decide) Z) fun w Z=>?_
 refine Zse (kd_v 2 (by decide) Z) fun w Z=>?_
 refine Zsg [([0,1,3,2],some (4,[0,1,2])),([],some (5,[])),([6],none)] ?_
 refine Qd fun w Z=>?_
 refine Zt2 rfl rfl (v:=0) (0) rfl rfl rfl (by omega) (show(sb _)[0]?=some 118 from rfl) ?_
 refine Sz ?_
 refine Qd fun w Z=>?_
 refine Zse (Znj _ _ h hz hh hn (Z.sel 3 [2,0,0] rfl)) fun w Z=>?_
 refine Qd fun w Z=>?_
 refine Zsg [([0,1,3,2],some (4,[0,1,2])),([],some (5,[])),([6],none)] ?_
 refine Qd fun w Z=>?_
 refine Zt2 rfl rfl (v:=1) (1) rfl rfl rfl (by omega) (show(sb _)[1]?=some 32 from rfl) ?_
 refine Sz ?_
 refine Qd fun w Z=>?_
 refine Zse (Zm9 m 0 Z) fun w Z=>?_
 refine Qd fun w Z=>?_
 as_aux_lemma =>
 refine Sz ?_
 refine Zse (cr_n Z) fun w Z=>?_
 replace Z:=(Z.sel 3 [0] rfl)
 exact⟨rfl,Z⟩
theorem Zlg(m:Nat)(z:RSt)(h k vv:Int)(hz:ROk z)(hok:QD (opG 3 h 0 k vv 0 0 0 []))(hh:0≤h∧h≤18446744073709551615)(hn:z.T.s.opn h=true)(hrm:1≤z.room)(Z:St g (Xp m z::L) w) :
  Zr g L 48 [.P m,.agg (qO 3 h 0 k vv 0 0 0 .N)] w fun rV=>rV (.I 0) [Xp m z]:=by
 refine Sp.en Tryz.func48 ?_
 have _:=hrm
 refine Zsp fun b1 w Z=>?_
 replace Z:=Z.nilS 32 2
 replace Z:=Z.z
 refine Zse (QM 3 h 0 k vv 0 0 0 [] _ _ hok (by decide) Z) fun w Z=>?_
 refine Zse (Zim 3 h 0 k vv 0 0 0 none 0 0 (by decide) Z) fun w Z=>?_
 refine Zse (kd_v 3 (by decide) Z) fun w Z=>?_
 refine Zsg [([0,1,3,2],some (4,[0,1,2])),([],some (5,[])),([6],none)] ?_
 refine Qd fun w Z=>?_
 refine Zt2 rfl rfl (v:=0) (0) rfl rfl rfl (by omega) (show(sb _)[0]?=some 118 from rfl) ?_
 refine Sz ?_
 refine Qd fun w Z=>?_
 refine Zse (Znj _ _ h hz hh hn (Z.sel 3 [2,0,0] rfl)) fun w Z=>?_
 refine Qd fun w Z=>?_
 refine Zsg [([0,1,3,2],some (4,[0,1,2])),([],some (5,[])),([6],none)] ?_
 refine Qd fun w Z=>?_
 refine Zt2 rfl rfl (v:=1) (1) rfl rfl rfl (by omega) (show(sb _)[1]?=some 32 from rfl) ?_
 refine Sz ?_
 refine Qd fun w Z=>?_
 refine Zse (Zm9 m 0 Z) fun w Z=>?_
 refine Qd fun w Z=>?_
 as_aux_lemma =>
 obtain⟨⟨ga,oa,va,gb,ob,vb,gc,oc,vc,gd,od,vd⟩,Z⟩:=St.exOpen Z
 replace Z:=Z.z
 refine Sz ?_
 refine Zse (Zqp 3 (by decide) Z) fun w Z=>?_
 refine Zse (QU z hz (Z.sel 2 [1,0] rfl)) fun w Z=>?_
 refine Zsm rfl (decide_eq_false ((by omega))) ?_
 replace Z:=St.cl (f:=QE m z) ⟨_,_,_,_,_,_,_,_,_,_,_,_⟩ (Z.sel 2 [1,0] rfl)
 replace Z:=Z.z
 refine Sz ?_
 replace Z:=(Z.sel 3 [0] rfl)
 exact⟨rfl,Z⟩
theorem C3(m:Nat)(z:RSt)(h b:Int)(hz:ROk z)(hh:0≤h∧h≤18446744073709551615)(hn:z.T.s.opn h=true)(hb:0≤b∧b≤18446744073709551615)(hm:z.T.s.opn b=true)(hrm:1≤z.room)(Z:St g (Xp m z::L) w) :
  Zr g L 48 [.P m,.agg (qO 10 h b 0 0 0 0 3 .N)] w fun rV=>rV (.I 0) [Xp m z]:=by
 refine Sp.en Tryz.func48 ?_
 have _:=hrm
 refine Zsp fun b1 w Z=>?_
 replace Z:=Z.nilS 32 2
 replace Z:=Z.z
 refine Zse (QM 10 h b 0 0 0 0 3 [] _ _ (CX h b) (by decide) Z) fun w Z=>?_
 refine Zse (Zpe h b 0 0 0 0 none 0 0 Z) fun w Z=>?_
 refine Zse (kd_10 Z) fun w Z=>?_
 refine Zsg [([0,1,3,2],some (4,[0,1,2])),([],some (5,[])),([6],none)] ?_
 refine Qd fun w Z=>?_
 refine Zt2 rfl rfl (v:=0) (0) rfl rfl rfl (by omega) (show(sb _)[0]?=some 118 from rfl) ?_
 refine Sz ?_
 refine Qd fun w Z=>?_
 refine Zse (Znj _ _ h hz hh hn (Z.sel 3 [2,0,0] rfl)) fun w Z=>?_
 refine Qd fun w Z=>?_
 refine Zsg [([0,1,3,2],some (4,[0,1,2])),([],some (5,[])),([6],none)] ?_
 refine Qd fun w Z=>?_
 refine Zt2 rfl rfl (v:=1) (1) rfl rfl rfl (by omega) (show(sb _)[1]?=some 118 from rfl) ?_
 refine Sz ?_
 refine Qd fun w Z=>?_
 refine Zse (Znj _ _ b hz hb hm Z) fun w Z=>?_
 refine Qd fun w Z=>?_
 as_aux_lemma =>
 obtain⟨⟨ga,oa,va,gb,ob,vb,gc,oc,vc,gd,od,vd⟩,Z⟩:=St.exOpen Z
 replace Z:=Z.z
 refine Sz ?_
 refine Zse (Zqp 10 (by decide) Z) fun w Z=>?_
 refine Zse (QU z hz (Z.sel 2 [1,0] rfl)) fun w Z=>?_
 refine Zsm rfl (decide_eq_false ((by omega))) ?_
 replace Z:=St.cl (f:=QE m z) ⟨_,_,_,_,_,_,_,_,_,_,_,_⟩ (Z.sel 2 [1,0] rfl)
 replace Z:=Z.z
 refine Sz ?_
 replace Z:=(Z.sel 3 [0] rfl)
 exact⟨rfl,Z⟩
theorem Df(m:Nat)(z:RSt)(vv n:Int)(fd:Bool)(xe:Zl)(xa:Option Addr)(xc:Nat)(ps:List Int)(pa:Option Addr)(pc:Nat)(hz:ROk z)(hhs:∀y∈ps,0≤y∧y≤18446744073709551615)(hpl:ps.length≤2)(hpv:ZY ps→(∀y∈ps,z.T.s.opn y=true)→ZY (List.map z.T.val ps)∧∀y∈ps,ZB z.B (z.T.val y)=true)(Z:St g (Xp m z::Sh 32 2 (Zm xe) xa xc::Sh 23 1 (Zv ps) pa pc::L) w) :
  Cp g L 147 [.P m,.agg (qA 0 0 vv fd n .N),.slice xa (Zm xe).length xc,.slice pa (Zv ps).length pc] w fun rV=>∃(z2:RSt),rV (.agg (qA 0 (ZS z.T z.room ps) vv fd n .N)) [Xp m z2,Sh 32 2 (Zm xe) xa xc,Sh 23 1 (Zv ps) pa pc] (UN z ⟨xe,xa,xc⟩ ps z2):=by
 refine Sp.en Tryz.func147 ?_
 refine Zsp fun b1 w Z=>?_
 refine Zsk fun b2 w Z=>?_
 obtain⟨⟨ga,oa,va,gb,ob,vb,gc,oc,vc,gd,od,vd⟩,Z⟩:=St.exOpen (Z.at_ 2 rfl)
 replace Z:=Z.z
 refine Sz ?_
 refine Zsy (Zpq z _ _ _ _ _ _ hz hhs hpl hpv (Z.sel 10 [1,7,7,0,0,0,0,0,0,0] rfl)) fun w z1 Z f1=>?_
 refine Zsk fun b3 w Z=>?_
 refine Zsh fun w Z=>?_
 refine Zut (ds:=#[.I z1.cap,.I z1.T.s.cap,.slice z1.ra (Za z1.T.s.rel).length z1.rc,.I (z1.T.s.fresh+1),.slice z1.ga (Za (z1.T.s.gen.drop 1)).length z1.gc,.slice z1.oa (Zk (z1.T.s.used.drop 1)).length z1.oc,.slice z1.va (Za (z1.T.vals.drop 1)).length z1.vc,.I z1.cap,.slice z1.pa (ZL z1.P).length z1.pc,.slice z1.ba (Zk z1.B).length z1.bc,.slice z1.la (Yz z1.LL).length z1.lc,.N,.I (TM.new 1).s.cap,.slice none (Za (TM.new 1).s.rel).length 0,.I ((TM.new 1).s.fresh+1),.slice ga (List.length (Za ((TM.new 1).s.gen.drop 1))) gc,.slice oa (List.length (Zk ((TM.new 1).s.used.drop 1))) oc,.slice va (List.length (Za ((TM.new 1).vals.drop 1))) vc,.I (TM.new 1).s.cap,.slice none (Za (TM.new 1).s.rel).length 0,.I ((TM.new 1).s.fresh+1),.slice gb (List.length (Za ((TM.new 1).s.gen.drop 1))) gd,.slice ob (List.length (Zk ((TM.new 1).s.used.drop 1))) od,.slice vb (List.length (Za ((TM.new 1).vals.drop 1))) vd,.N,.N]) rfl rfl rfl 4 Z rfl rfl rfl rfl (Nat.le_of_ble_eq_true rfl) rfl ag_83.h (fun w Z=>?_)
 replace Z:=Z.z
 refine Sz ?_
 refine Zss fun w Z=>?_
 refine Zsh fun w Z=>?_
 replace Z:=St.cl (f:=QE m z1) ⟨_,_,_,_,_,_,_,_,_,_,_,_⟩ (Z.sel 9 [4,1,3,3,3,3,0,0,0] rfl)
 replace Z:=Z.z
 refine Sz ?_
 replace Z:=(Z.sel 6 [0,1,1] rfl)
 exact⟨_,rfl,Z,f1⟩
theorem asc9(es:Zl)(ea:Option Addr)(ec:Nat)(hs:Srt es)(hl:es.length≤1000)(Z:St g (Sh 32 2 (Zm es) ea ec::L) w) :
  Zr g L 148 [.slice ea (Zm es).length ec] w fun rV=>rV (.bool true) [Sh 32 2 (Zm es) ea ec]:=by
 refine Sp.en Tryz.func148 ?_
 have _:=hl
 have hll:=Zu es
 refine Sz ?_
 refine Zst [0] [3] (fun kM vs jS=>∃(k:Nat),vs=[.I ((k:Int)+1)]∧jS []∧(es.length-k)=kM) rfl ⟨0,rfl,Z,rfl⟩ ?_
 rintro _ _ w j ⟨k,rfl,Z,rfl⟩
 replace Z:=Z.z
 have hll:=Zu es
 refine Sz ?_
 refine Zsi (fun cd1=>?_) fun cd1=>?_
 ·refine Zsg [([0,1,5,6,2,7,3,8,4,9,10,11],none)] ?_
  obtain⟨x,hx⟩:∃e,es[k+1]?=some e:=⟨_,List.getElem?_eq_getElem (by omega)⟩;obtain⟨y,hy⟩:∃e,es[k]?=some e:=⟨_,List.getElem?_eq_getElem (by omega)⟩;have hxy:=Zfy hs hy hx (by omega)
  refine Qz ?_
  refine Zsj rfl rfl (i:=(k:Int)+1) (k+1) el_22 rfl rfl (by omega) (by omega) (Z.rdS 0 rfl (Zd hx)).1 ?_
  refine Qz ?_
  refine Zsj rfl rfl (i:=((k:Int)+1)-1) (k) el_22 rfl rfl (by omega) (by omega) (Z.rdS 0 rfl (Zd hy)).1 ?_
  refine Zsn 1 [.I x.1] rfl (by exact(Z.rdS 0 rfl (Zd hx)).2 0 _ rfl) ?_
  refine Qz ?_
  refine Zsn 1 [.I y.1] rfl (by exact(Z.rdS 0 rfl (Zd hy)).2 0 _ rfl) ?_
  refine Qd fun w Z=>?_
  refine Zsm rfl (decide_eq_false ((by omega))) ?_
  exact⟨_,by omega,rfl,k+1,rfl,Z,rfl⟩
 exact⟨rfl,Z⟩
theorem Zkj(m:Nat)(z:RSt)(fr:Int)(l:Zl)(la:Option Addr)(lc:Nat)(hz:ROk z)(hll:l.length≤1000)(Z:St g (Xp m z::Sh 32 2 (Zm l) la lc::L) w) :
  Cp g L 53 [.P m,.agg (qO 1 0 0 0 0 0 0 0 .N),.slice la (Zm l).length lc,.I fr] w fun rV=>∃(z2:RSt),rV (.agg (qA 0 (ZS z.T z.room []) 0 false 0 .N)) [Xp m z2] (UN z ⟨[],none,0⟩ [] z2):=by
 refine Sp.en Tryz.func53 ?_
 have _:=hll
 refine Zsp fun b1 w Z=>?_
 refine Zsk fun b2 w Z=>?_
 refine Zse (Xh _ _ _ 0 (by omega) (Z.sel 4 [3,0,0,0] rfl)) fun w Z=>?_
 refine Zs1 rfl rfl (Zv [0]) el_47 Z (by exact⟨rfl,rfl⟩) (YG _) rfl (Nat.le_of_ble_eq_true rfl) (fun b3 w Z=>?_)
 refine Sz ?_
 refine Zs4 rfl rfl (cs:=[.I 0,.U 0,.I 0,.bool false,.I 0,.I 0,.I 0,.I 0,.I 0,.I 0,.I 0,.N,.N,.N,.N]) zv_39.h rfl rfl ?_
 replace Z:=Z.nilS 32 2
 replace Z:=Z.z
 replace Z:=Z.nilS 23 1
 replace Z:=Z.z
 refine Zt8 (Df _ _ 0 0 false [] _ _ [] _ _ hz (fun _ h=>by cases h) (by decide) (fun h _=>⟨Z5,fun _ h=>by cases h⟩) (Z.sel 7 [6,1,0,0,0,0,0] rfl)) fun w z1 Z f1=>?_
 refine Zsh fun w Z=>?_
 replace Z:=(Z.sel 7 [0] rfl)
 exact⟨_,rfl,Z,f1⟩
theorem Zfr(m:Nat)(z:RSt)(fr:Int)(es:Zl)(ea:Option Addr)(ec:Nat)(l:Zl)(la:Option Addr)(lc:Nat)(hz:ROk z)(hs:Srt es)(hl:es.length≤1000)(hf:(es.length:Int)≤fr)(hll:l.length≤1000)(Z:St g (Xp m z::Sh 32 2 (Zm l) la lc::Sh 32 2 (Zm es) ea ec::L) w) :
  Cp g L 53 [.P m,.agg (qO 7 0 0 0 0 0 0 0 (.slice ea (Zm es).length ec)),.slice la (Zm l).length lc,.I fr] w fun rV=>∃(z2:RSt),rV (.agg (qA 0 (ZS z.T z.room []) 0 false 0 .N)) [Xp m z2,Sh 32 2 (Zm es) ea ec] (UN z ⟨es,ea,ec⟩ [] z2):=by
 refine Sp.en Tryz.func53 ?_
 have _:=hf
 refine Zsp fun b1 w Z=>?_
 refine Zsk fun b2 w Z=>?_
 refine Zse (Xh _ _ _ 0 (by omega) (Z.sel 4 [3,0,0,0] rfl)) fun w Z=>?_
 refine Zs1 rfl rfl (Zv [0]) el_47 Z (by exact⟨rfl,rfl⟩) (YG _) rfl (Nat.le_of_ble_eq_true rfl) (fun b3 w Z=>?_)
 refine Sz ?_
 refine Zse (asc9 _ _ _ hs hl (Z.sel 6 [5,0,0,0,0,0] rfl)) fun w Z=>?_
 have hll:=Zu es
 refine Sz ?_
 refine Zsm rfl (decide_eq_false ((by omega))) ?_
 refine Zs4 rfl rfl (cs:=[.I 0,.U 0,.I 0,.bool false,.I 0,.I 0,.I 0,.I 0,.I 0,.I 0,.I 0,.N,.N,.N,.N]) zv_39.h rfl rfl ?_
 replace Z:=Z.nilS 23 1
 replace Z:=Z.z
 refine Sz ?_
 refine Zt8 (Df _ _ 0 0 false _ _ _ [] _ _ hz (fun _ h=>by cases h) (by decide) (fun h _=>⟨Z5,fun _ h=>by cases h⟩) (Z.sel 7 [6,1,0,0,0,0,0] rfl)) fun w z1 Z f1=>?_
 refine Zsh fun w Z=>?_
 replace Z:=(Z.sel 7 [0,0] rfl)
 exact⟨_,rfl,Z,f1⟩
theorem Zn5(m:Nat)(z:RSt)(fr hd k vv:Int)(l:Zl)(la:Option Addr)(lc:Nat)(hz:ROk z)(hh:0≤hd∧hd≤18446744073709551615)(hlv:z.T.s.opn hd=true→ZB z.B (z.T.val hd)=true)(hs:Srt l)(hl:l.length≤1000)(hf:4*((Tr.mxH (l.length+1):Int)+2)≤fr)(Z:St g (Xp m z::Sh 32 2 (Zm l) la lc::L) w) :
  Cp g L 53 [.P m,.agg (qO 3 hd 0 k vv 0 0 0 .N),.slice la (Zm l).length lc,.I fr] w fun rV=>∃(z2:RSt)(xa:Option Addr)(xc:Nat),rV (.agg (qA 0 (ZS z.T z.room [hd]) ((Zo k l).getD 0) ((Zo k l).isSome) 0 .N)) [Xp m z2,Sh 32 2 (Zm l) la lc] (UN z ⟨Zs k vv l,xa,xc⟩ [hd] z2):=by
 refine Sp.en Tryz.func53 ?_
 have _:=hf
 have _:=hl
 refine Zsp fun b1 w Z=>?_
 refine Zsk fun b2 w Z=>?_
 have hll:=Zu l;have hmx9:Tr.mxH ((Zm l).length+1)=Tr.mxH (l.length+1):=(by rw[hll])
 refine Sz ?_
 refine Zse (Xh _ _ _ k (by omega) (Z.sel 4 [3,0,0,0] rfl)) fun w Z=>?_
 refine Zs1 rfl rfl (Zv [hd]) el_47 Z (by exact⟨rfl,rfl⟩) (YG _) rfl (Nat.le_of_ble_eq_true rfl) (fun b3 w Z=>?_)
 refine Sz ?_
 refine Zs4 rfl rfl (cs:=[.I 0,.U 0,.I ((Zo k l).getD 0),.bool (Zo k l).isSome,.I 0,.I 0,.I 0,.I 0,.I 0,.I 0,.I 0,.N,.N,.N,.N]) zv_39.h rfl rfl<|Zsk fun b4 w Z=>?_
 refine Zsh fun w Z=>?_
 by_cases cg1:(Zo k l).isSome=true
 ·refine Zsf 77 (.bool true) (congrArg Value.bool cg1) ?_
  refine Sz ?_
  by_cases cg2:¬(((Zo k l).getD 0)=vv)
  ·refine Zsf 83 (.bool true) (congrArg Value.bool (decide_eq_true cg2)) ?_
   refine Sz ?_
   refine Zse (Zie (Zm l).length (by omega) Z) fun w Z=>?_
   as_aux_lemma =>
   refine Zsm rfl (decide_eq_false ((by omega))) ?_
   refine Zsg [([0,1,2,3,5,8,4,6],some (7,[0,1,8])),([],some (9,[])),([],some (10,[]))] ?_
   refine Qz ?_
   refine Ztj rfl rfl (cs:=[.I k,.I vv]) zv_32.h rfl rfl ?_
   refine Qd fun w Z=>?_
   refine Zsz (Yn _ _ _ k vv hs (by omega) (Z.sel 3 [2,0,0] rfl)) fun w a1 c1 Z=>?_
   refine Qd fun w Z=>?_
   replace Z:=(Z.at_ 0 rfl).share
   replace Z:=Z.z
   replace Z:=(Z.at_ 3 rfl).share
   replace Z:=Z.z
   refine Zsy (Df _ _ ((Zo k l).getD 0) 0 (Zo k l).isSome (Zs k vv l) _ _ [hd] (some ⟨b3,0,none⟩) (Zv [hd]).length hz (fun q hq=>by rw[List.mem_singleton.1 hq];exact hh) (by simp) (fun h1 h2=>⟨YK _,fun q hq=>by rw[List.mem_singleton.1 hq];exact hlv (h2 hd (by simp))⟩) (Z.sel 7 [6,1,0,0,0,0,0] rfl)) fun w z1 Z f1=>?_
   refine Qd fun w Z=>?_
   refine Zsh fun w Z=>?_
   refine Qd fun w Z=>?_
   replace Z:=(Z.sel 7 [0,2] rfl)
   exact⟨_,_,_,rfl,Z,f1⟩
  refine Zsf 83 (.bool false) (congrArg Value.bool (decide_eq_false cg2)) ?_
  as_aux_lemma =>
  refine Sz ?_
  refine Zsg [([0,1,2,3,5,8,4,6],some (7,[0,1,8])),([],some (9,[])),([],some (10,[]))] ?_
  refine Qz ?_
  refine Ztj rfl rfl (cs:=[.I k,.I vv]) zv_32.h rfl rfl ?_
  refine Qd fun w Z=>?_
  refine Zsz (Yn _ _ _ k vv hs (by omega) (Z.sel 3 [2,0,0] rfl)) fun w a1 c1 Z=>?_
  refine Qd fun w Z=>?_
  replace Z:=(Z.at_ 0 rfl).share
  replace Z:=Z.z
  replace Z:=(Z.at_ 3 rfl).share
  replace Z:=Z.z
  refine Zsy (Df _ _ ((Zo k l).getD 0) 0 (Zo k l).isSome (Zs k vv l) _ _ [hd] (some ⟨b3,0,none⟩) (Zv [hd]).length hz (fun q hq=>by rw[List.mem_singleton.1 hq];exact hh) (by simp) (fun h1 h2=>⟨YK _,fun q hq=>by rw[List.mem_singleton.1 hq];exact hlv (h2 hd (by simp))⟩) (Z.sel 7 [6,1,0,0,0,0,0] rfl)) fun w z1 Z f1=>?_
  refine Qd fun w Z=>?_
  refine Zsh fun w Z=>?_
  refine Qd fun w Z=>?_
  replace Z:=(Z.sel 7 [0,2] rfl)
  exact⟨_,_,_,rfl,Z,f1⟩
 refine Zsf 77 (.bool false) (congrArg Value.bool (Bool.eq_false_iff.2 cg1)) ?_
 refine Sz ?_
 refine Zse (Zie (Zm l).length (by omega) Z) fun w Z=>?_
 as_aux_lemma =>
 refine Zsm rfl (decide_eq_false ((by omega))) ?_
 refine Zsg [([0,1,2,3,5,8,4,6],some (7,[0,1,8])),([],some (9,[])),([],some (10,[]))] ?_
 refine Qz ?_
 refine Ztj rfl rfl (cs:=[.I k,.I vv]) zv_32.h rfl rfl ?_
 refine Qd fun w Z=>?_
 refine Zsz (Yn _ _ _ k vv hs (by omega) (Z.sel 3 [2,0,0] rfl)) fun w a1 c1 Z=>?_
 refine Qd fun w Z=>?_
 replace Z:=(Z.at_ 0 rfl).share
 replace Z:=Z.z
 replace Z:=(Z.at_ 3 rfl).share
 replace Z:=Z.z
 refine Zsy (Df _ _ ((Zo k l).getD 0) 0 (Zo k l).isSome (Zs k vv l) _ _ [hd] (some ⟨b3,0,none⟩) (Zv [hd]).length hz (fun q hq=>by rw[List.mem_singleton.1 hq];exact hh) (by simp) (fun h1 h2=>⟨YK _,fun q hq=>by rw[List.mem_singleton.1 hq];exact hlv (h2 hd (by simp))⟩) (Z.sel 7 [6,1,0,0,0,0,0] rfl)) fun w z1 Z f1=>?_
 refine Qd fun w Z=>?_
 refine Zsh fun w Z=>?_
 refine Qd fun w Z=>?_
 replace Z:=(Z.sel 7 [0,2] rfl)
 exact⟨_,_,_,rfl,Z,f1⟩
end Go.Proofs.YtpebgkkmgffmaaaGreatDoor
namespace Go.Proofs.YtpebgkkmgffmaaaGreatDoor
open Go Go.V Go.RowKit
theorem Q_{a b:Option Int}(h:(bif a.isSome==b.isSome then decide (a.getD 0=b.getD 0) else false)=true):a=b:=by
 cases a<;>cases b<;>simp_all
theorem U1{a b:Option Int}(h:a=b):(bif a.isSome==b.isSome then decide (a.getD 0=b.getD 0) else false)=true:=by
 subst h;simp
set_option maxHeartbeats 8000000
set_option maxRecDepth 8192
variable{g w:World}{L:List HP}
theorem conf9(b o t:Zl)(ua ub uc:Option Addr)(da db dc:Nat)(hlb:b.length≤1000)(hlo:o.length≤1000)(hlt:t.length≤1000)(hap:Apart b o t)(Z:St g (Sh 32 2 (Zm b) ua da::Sh 32 2 (Zm o) ub db::Sh 32 2 (Zm t) uc dc::L) w) :
  Zr g L 157 [.slice ua (Zm b).length da,.slice ub (Zm o).length db,.slice uc (Zm t).length dc] w fun rV=>rV (.N) [Sh 32 2 (Zm b) ua da,Sh 32 2 (Zm o) ub db,Sh 32 2 (Zm t) uc dc]:=by
 refine Sp.en Tryz.func157 ?_
 refine Zsz (VQ _ _ _ _ _ _ _ _ _ hlb hlo hlt Z) fun w a1 c1 Z=>?_
 have hke:=Zf (YN b o t);have hkl:=Dz b o t
 refine Sz ?_
 refine Zst [0,1,2,6,8] [7,9] (fun kM vs jS=>∃(p:Nat),vs=[.N,.I (p:Int)]∧jS []∧(p≤(YN b o t).length)∧((YN b o t).length-p)=kM) rfl ⟨0,rfl,Z,(Nat.zero_le _),rfl⟩ ?_
 rintro _ _ w j ⟨p,rfl,Z,hp,rfl⟩
 replace Z:=Z.z
 refine Sz ?_
 refine Zsr rfl (fun cd1=>?_) (fun cd1=>?_)
 ·obtain⟨x,hx⟩:∃x,(YN b o t)[p]?=some x:=⟨_,List.getElem?_eq_getElem (by omega)⟩
  refine Sz ?_
  refine Zsq rfl rfl (i:=(p:Int)) (p) el_36 rfl rfl (by omega) (by omega) (Z.rdO 0 rfl (Zc hx)).1 ?_
  refine Zsv 1 [.I x] rfl (by exact(Z.rdO 0 rfl (Zc hx)).2 0 _ rfl) ?_
  refine Zse (Xh _ _ _ x (by omega) (Z.sel 2 [1,0] rfl)) fun w Z=>?_
  refine Zsq rfl rfl (i:=(p:Int)) (p) el_36 rfl rfl (by omega) (by omega) (Z.rdO 1 rfl (Zc hx)).1 ?_
  refine Zsv 1 [.I x] rfl (by exact(Z.rdO 1 rfl (Zc hx)).2 0 _ rfl) ?_
  refine Zse (Xh _ _ _ x (by omega) (Z.sel 3 [2,0,0] rfl)) fun w Z=>?_
  refine Zsq rfl rfl (i:=(p:Int)) (p) el_36 rfl rfl (by omega) (by omega) (Z.rdO 2 rfl (Zc hx)).1 ?_
  refine Zsv 1 [.I x] rfl (by exact(Z.rdO 2 rfl (Zc hx)).2 0 _ rfl) ?_
  refine Zse (Xh _ _ _ x (by omega) (Z.sel 4 [3,0,0,0] rfl)) fun w Z=>?_
  refine Ztd 27 rfl (fun j=>?_)
  refine Zsx 83 rfl (Zy (Zy (Jy (Zy (dv _) (dd _))) (Jy (Zy (dv _) (dd _)))) (Jy (Zy (dv _) (dd _)))) ?_
  refine Sz ?_
  refine Zs8 rfl (decide_eq_false ((by rcases hap x with e|e<;>rw[e]<;>simp))) ?_
  as_aux_lemma =>
  refine Sz ?_
  exact⟨_,by omega,rfl,p+1,rfl,(Z.sel 4 [3,2,1,0] rfl),(by omega),rfl⟩
 refine Sz ?_
 replace Z:=(Z.sel 1 [] rfl)
 exact⟨rfl,Z⟩
theorem mrgd9(b o t:Zl)(ua ub uc:Option Addr)(da db dc:Nat)(k:Int)(hlb:b.length≤1000)(hlo:o.length≤1000)(hlt:t.length≤1000)(hap:Apart b o t)(hb:Srt b)(ho:Srt o)(ht:Srt t)(Z:St g (Sh 32 2 (Zm b) ua da::Sh 32 2 (Zm o) ub db::Sh 32 2 (Zm t) uc dc::L) w) :
  Zr g L 292 [.slice ua (Zm b).length da,.slice ub (Zm o).length db,.slice uc (Zm t).length dc,.I k,.I 3] w fun rV=>rV (.tuple #[.I ((Zo k (Z4 b t o)).getD 0),.bool (Zo k (Z4 b t o)).isSome]) [Sh 32 2 (Zm b) ua da,Sh 32 2 (Zm o) ub db,Sh 32 2 (Zm t) uc dc]:=by
 refine Sp.en Tryz.func292 ?_
 have _:=hlt
 have _:=hlo
 have _:=hlb
 have hmg:=XV hb ht ho k
 refine Sz ?_
 refine Zse (Xh _ _ _ k (by omega) Z) fun w Z=>?_
 refine Zse (Xh _ _ _ k (by omega) (Z.sel 2 [1,0] rfl)) fun w Z=>?_
 refine Zse (Xh _ _ _ k (by omega) (Z.sel 3 [2,0,0] rfl)) fun w Z=>?_
 refine Ztd 5 rfl (fun j=>?_)
 refine Zsx 44 rfl (Zy (dv _) (dd _)) ?_
 refine Sz ?_
 refine Ztl (fun h1=>?_) fun h1=>?_
 ·refine Zs0 rfl h1 ?_
  replace Z:=(Z.sel 3 [2,1,0] rfl)
  have h9:Zo k (Z4 b t o)=Zo k o:=(by rw[hmg];first|rw[if_pos (Q_ h1)]|(rw[←Q_ h1];split<;>rfl));rw[h9];exact⟨rfl,Z⟩
 refine Ztd 5 rfl (fun j=>?_)
 refine Zsx 52 rfl (Zy (dv _) (dd _)) ?_
 refine Sz ?_
 refine Ztl (fun h1=>?_) fun h1=>?_
 ·replace Z:=(Z.sel 3 [2,1,0] rfl)
  have h9:Zo k (Z4 b t o)=Zo k o:=(by rw[hmg];first|rw[if_pos (Q_ h1)]|(rw[←Q_ h1];split<;>rfl));rw[h9];exact⟨rfl,Z⟩
 refine Ztd 5 rfl (fun j=>?_)
 refine Zsx 63 rfl (Zy (dv _) (dd _)) ?_
 refine Sz ?_
 refine Ztl (fun h2=>?_) fun h2=>?_
 ·replace Z:=(Z.sel 3 [2,1,0] rfl)
  have h9:Zo k (Z4 b t o)=Zo k t:=(by rw[hmg];split;(rename_i e;rw[←Q_ h2,e]);rfl);rw[h9];exact⟨rfl,Z⟩
 refine Ztd 6 rfl (fun j=>?_)
 refine Zsx 79 rfl (Zy (Zy (dd _) (dv _)) (dv _)) ?_
 as_aux_lemma =>
 refine Sz ?_
 refine Zsm rfl (by simp) ?_
 refine Ztd 3 rfl (fun j=>?_)
 refine Zsx 90 rfl (Zy (dd _) (dv _)) ?_
 refine Sz ?_
 refine Zsm rfl (by simp) ?_
 replace Z:=(Z.sel 3 [2,1,0] rfl)
 exact absurd (hap k) (fun h=>h.elim (fun e=>by first|(rw[U1 e] at h2;cases h2)|(rw[U1 e.symm] at h2;cases h2)) (fun e=>by first|(rw[U1 e] at h1;cases h1)|(rw[U1 e.symm] at h1;cases h1)))
theorem Znv{M:Zl}{ks:List Int}{p:Nat}{k:Int}(h:ks[p]?=some k)(hs:(Zo k M).isSome=true):UQ M (ks.take (p+1))=UQ M (ks.take p)++[(k,(Zo k M).getD 0)]:=by
 rw[Dv h]
 cases hg:Zo k M with
 |none=>rw[hg] at hs;cases hs
 |some v=>rfl
theorem Ziv{M:Zl}{ks:List Int}{p:Nat}{k:Int}(h:ks[p]?=some k)(hs:¬(Zo k M).isSome=true):UQ M (ks.take (p+1))=UQ M (ks.take p):=by
 rw[Dv h]
 cases hg:Zo k M with
 |none=>exact List.append_nil _
 |some v=>rw[hg] at hs;exact absurd rfl hs
theorem Zhf{b o t:Zl}(hb:Srt b)(ho:Srt o)(ht:Srt t):∀x∈Z4 b t o,x.1∈YN b o t:=fun x hx=>by
 have h1:=(ZN (Y2 (b:=b) (t:=t) ho) (k:=x.1) (v:=x.2)).2 hx
 rw[XV hb ht ho] at h1
 rw[Zej]
 split at h1
 ·exact .inr (.inl ⟨_,(ZN ho).1 h1,rfl⟩)
 exact .inr (.inr ⟨_,(ZN ht).1 h1,rfl⟩)
theorem mrg9(b o t:Zl)(ua ub uc:Option Addr)(da db dc:Nat)(hlb:b.length≤1000)(hlo:o.length≤1000)(hlt:t.length≤1000)(hap:Apart b o t)(hb:Srt b)(ho:Srt o)(ht:Srt t)(Z:St g (Sh 32 2 (Zm b) ua da::Sh 32 2 (Zm o) ub db::Sh 32 2 (Zm t) uc dc::L) w) :
  Zr g L 158 [.slice ua (Zm b).length da,.slice ub (Zm o).length db,.slice uc (Zm t).length dc,.I 3] w fun rV=>∃(a2:Option Addr)(c2:Nat),rV (.slice a2 (Zm (Z4 b t o)).length c2) [Zp 32 2 (Zm (Z4 b t o)) a2 c2,Sh 32 2 (Zm b) ua da,Sh 32 2 (Zm o) ub db,Sh 32 2 (Zm t) uc dc]:=by
 refine Sp.en Tryz.func158 ?_
 refine Zsz (VQ _ _ _ _ _ _ _ _ _ hlb hlo hlt Z) fun w a1 c1 Z=>?_
 have hke:=Zf (YN b o t);have hkl:=Dz b o t
 replace Z:=Z.nil_ 32 2
 refine Sz ?_
 refine Zst [0,1,2,3,8,10] [9,11] (fun kM vs jS=>∃(p:Nat)(acc:Zl)(va:Option Addr)(vc:Nat),vs=[.slice va (Zm acc).length vc,.I (p:Int)]∧jS [Zp 32 2 (Zm acc) va vc]∧(p≤(YN b o t).length)∧(acc=UQ (Z4 b t o) ((YN b o t).take p))∧((YN b o t).length-p)=kM) rfl ⟨0,[],none,0,rfl,Z,(Nat.zero_le _),rfl,rfl⟩ ?_
 rintro _ _ w j ⟨p,acc,va,vc,rfl,Z,hp,ha,rfl⟩
 replace Z:=Z.z
 refine Sz ?_
 refine Zsr rfl (fun cd1=>?_) (fun cd1=>?_)
 ·obtain⟨x,hx⟩:∃x,(YN b o t)[p]?=some x:=⟨_,List.getElem?_eq_getElem (by omega)⟩;have hal:acc.length≤4000:=(by have:=Zgd (Z4 b t o) ((YN b o t).take p);rw[←ha,List.length_take] at this;omega);have hae:=Zu acc
  refine Sz ?_
  refine Zsq rfl rfl (i:=(p:Int)) (p) el_36 rfl rfl (by omega) (by omega) (Z.rdO 1 rfl (Zc hx)).1 ?_
  refine Zsv 1 [.I x] rfl (by exact(Z.rdO 1 rfl (Zc hx)).2 0 _ rfl) ?_
  refine Sz ?_
  refine Zse (mrgd9 _ _ _ _ _ _ _ _ _ x hlb hlo hlt hap hb ho ht (Z.sel 5 [2,2,2,0,0] rfl)) fun w Z=>?_
  refine Ztl (fun hin=>?_) fun hin=>?_
  ·refine Zsq rfl rfl (i:=(p:Int)) (p) el_36 rfl rfl (by omega) (by omega) (Z.rdO 4 rfl (Zc hx)).1 ?_
   refine Zsv 1 [.I x] rfl (by exact(Z.rdO 4 rfl (Zc hx)).2 0 _ rfl) ?_
   refine Sz ?_
   refine Zs4 rfl rfl (cs:=[.I x,.I ((Zo x (Z4 b t o)).getD 0)]) zv_32.h rfl rfl<|Zs1 rfl rfl (Zm [(x,(Zo x (Z4 b t o)).getD 0)]) el_22 Z (by exact⟨rfl,rfl⟩) (Qx _) rfl (Nat.le_of_ble_eq_true rfl) (fun b1 w Z=>?_)
   refine Zs3 rfl rfl 4 (Zm (acc++[(x,(Zo x (Z4 b t o)).getD 0)])) el_22 Z rfl (Z.srcO 0 rfl) (Jm _ _).symm (Rm.of (by first|omega|(simp<;>omega)) (by decide)) rfl rfl (fun a2 c2 w Z=>?_)
   replace Z:=Z.z
   refine Sz ?_
   exact⟨_,by omega,rfl,p+1,acc++[(x,(Zo x (Z4 b t o)).getD 0)],a2,c2,rfl,(Z.sel 6 [4,4,1,1,1] rfl),(by omega),(by rw[Znv hx hin,ha]),rfl⟩
  exact⟨_,by omega,rfl,p+1,acc,va,vc,rfl,(Z.sel 5 [3,3,0,0,0] rfl),(by omega),(by rw[Ziv hx (by simpa using hin),ha]),rfl⟩
 refine Sz ?_
 replace Z:=(Z.sel 2 [0] rfl)
 have e9:acc=Z4 b t o:=(by rw[ha,List.take_of_length_le (by omega),Zil (Y2 ho) (Ze2 b o t) (Zhf hb ho ht)]);rw[e9] at Z ⊢;exact⟨_,_,rfl,Z⟩
theorem CT(x y u:Nat)(e f:Int)(hn:x+y+u≤65536)(he:0≤e∧e≤1000000)(hf:0≤f∧f≤100)(Z:St g (L) w) :
  Zr g L 285 [.I (x:Int),.I (y:Int),.I (u:Int),.I 0,.I e,.I f] w fun rV=>rV (.I (e+f*((Tr.mxH (x+y+u):Int)+2))) []:=by
 refine Sp.en Tryz.func285 ?_
 have _:=hf
 have _:=he
 have _:=hn
 refine Ztd 19 rfl (fun j=>?_)
 refine Zsx 34 rfl (X2 (X2 (X2 (X2 (X2 (dd _) (dd _)) (dd _)) (dd _)) (dd _)) (dd _)) ?_
 refine Sz ?_
 refine Zs8 rfl (decide_eq_false ((by omega))) ?_
 refine Sy ?_
 have hmx:=Tr.mxH_le (x+y+u);have hnl:0≤f*((Tr.mxH (x+y+u):Int)+2)∧f*((Tr.mxH (x+y+u):Int)+2)≤100*82:=⟨Int.mul_nonneg (by omega) (by omega),Int.mul_le_mul (by omega) (by omega) (by omega) (by omega)⟩
 refine Zt3 rfl rfl rfl (by omega) ?_
 refine Sy ?_
 refine Zt3 rfl rfl rfl (by omega) ?_
 refine Sy ?_
 refine Zso 1 rfl<|Zsf 43 (.I ((x+y+u:Nat):Int)) (congrArg (Value.int .i64) (by rw[Yf (by omega)];omega)) ?_
 refine Zse (Dg (x+y+u:Nat) (by omega) Z) fun w Z=>?_
 exact⟨congrArg (Value.int .i64) (by omega),Z⟩
theorem Zjo(x y u:Nat)(hn:x+y+u≤65536)(Z:St g (L) w) :
  Zr g L 143 [.I (x:Int),.I (y:Int),.I (u:Int)] w fun rV=>rV (.I ((x:Int)+y+u+12*((Tr.mxH (x+y+u):Int)+2))) []:=by
 refine Sp.en Tryz.func143 ?_
 refine Zse (CT x y u 0 0 hn (by decide) (by decide) Z) fun w Z=>?_
 refine Zsm rfl (decide_eq_false ((by have:=Tr.mxH_le (x+y+u);omega))) ?_
 refine Zse (CT x y u (((x:Int)+(y:Int))+(u:Int)) 12 hn (by omega) (by decide) Z) fun w Z=>?_
 exact⟨rfl,Z⟩
end Go.Proofs.YtpebgkkmgffmaaaGreatDoor
namespace Go.Proofs.YtpebgkkmgffmaaaGreatDoor
open Go Go.V Go.RowKit Go.Maps
def ZX(h b:Int):List Int:=if h=b then[h] else[h,b]
def LsX(z:RSt)(h:Int)(y:LsE):Prop:=(z.T.s.opn h=true∧∃k:Nat,z.T.val h=(k:Int)+1∧z.LL[k]?=some y)∨(z.T.s.opn h=false∧y=⟨[],none,0⟩)
theorem Ho{T:TM}(hT:TOk T):T.s.opn 0=false:=by
 have:T.s.ok 0=false:=hT.s.u0
 unfold SM.opn
 rw[show(0:Int)%4294967296=0 from rfl,this];rfl
theorem LsX.zero{z:RSt}(hz:ROk z){y:LsE}(h:LsX z 0 y):y.es.length≤1000:=by
 rcases h with⟨h,_⟩|⟨_,rfl⟩
 ·rw[Ho hz.t] at h;cases h
 exact Nat.zero_le _
structure Mgl(z:RSt)(h b:Int)(lb lo lt:Zl):Prop where
 hh:0≤h∧h≤18446744073709551615
 hn:z.T.s.opn h=true
 hb:0≤b∧b≤18446744073709551615
 hm:z.T.s.opn b=true
 hx:QJ z h b≠0→∃(k:Nat)(l:LsE),QJ z h b=(k:Int)+1∧z.LL[k]?=some l
 bl:∀l:LsE,(QJ z h b≠0∧∃k:Nat,QJ z h b=(k:Int)+1∧z.LL[k]?=some l)∨(QJ z h b=0∧l=⟨[],none,0⟩)→l.es=lb
 al:∀y:LsE,LsX z h y→y.es=lo
 tl:∀y:LsE,LsX z b y→y.es=lt
 lx:∀x,z.T.s.opn x=true→∃(k:Nat)(l:LsE),z.T.val x=(k:Int)+1∧z.LL[k]?=some l
 lv:∀x,z.T.s.opn x=true→ZB z.B (z.T.val x)=true
 pv:ZY (ZX h b)→(∀y∈ZX h b,z.T.s.opn y=true)→ZY (List.map z.T.val (ZX h b))∧∀y∈ZX h b,ZB z.B (z.T.val y)=true
 sb:Srt lb
 so:Srt lo
 st:Srt lt
 nb:lb.length≤1000
 no:lo.length≤1000
 nt:lt.length≤1000
 ap:Apart lb lo lt
theorem HW{h b:Int}{q:Int→Prop}(h1:q h)(h2:q b):∀x∈ZX h b,q x:=Zb0 h1 h2
theorem Zfk(h b:Int):(ZX h b).length≤2:=by unfold ZX;split<;>simp
set_option maxHeartbeats 8000000
set_option maxRecDepth 8192
variable{g w:World}{L:List HP}
theorem Znk(m:Nat)(z:RSt)(h b:Int)(lb lo lt:Zl)(la lc9:Option Addr)(ca cc:Nat)(hz:ROk z)(hM:Mgl z h b lb lo lt)(Z:St g (Xp m z::Sh 32 2 (Zm lo) la ca::Sh 32 2 (Zm lt) lc9 cc::L) w) :
  Cp g L 54 [.P m,.agg (qO 10 h b 0 0 0 0 3 .N),.slice la (Zm lo).length ca,.slice lc9 (Zm lt).length cc] w fun rV=>∃(z2:RSt)(xa:Option Addr)(xc:Nat),rV (.agg (qA 0 (ZS z.T z.room (ZX h b)) 0 false (QJ z h b) .N)) [Xp m z2,Sh 32 2 (Zm lo) la ca,Sh 32 2 (Zm lt) lc9 cc] (UN z ⟨Z4 lb lt lo,xa,xc⟩ (ZX h b) z2):=by
 refine Sp.en Tryz.func54 ?_
 refine Zsp fun b1 w Z=>?_
 refine Zsk fun b2 w Z=>?_
 refine Zs1 rfl rfl (Zv [h,b]) el_47 Z (by exact⟨rfl,rfl,rfl,rfl⟩) (YG _) rfl (Nat.le_of_ble_eq_true rfl) (fun b3 w Z=>?_)
 refine Sx ?_
 refine Zs9<|Zsw<|Zsw<|WC.region ?_
 refine Sx ?_
 refine Zs9<|Ztc [0,2,3,5,8] [9] [_] Z (fun vs jS=>∃(u:Option Addr)(d:Nat)(ps:List Int),vs=[.slice u (Zv ps).length d]∧jS [Zp 23 1 (Zv ps) u d]∧(ps=ZX h b)) rfl ?_ ?_
 ·refine Zsi (fun cd1=>?_) fun cd1=>?_
  ·refine Zuj rfl rfl (v:=1) 0 (1) (Zv [h]) el_47 Z rfl rfl rfl (by omega) (Nat.le_of_ble_eq_true rfl) rfl (fun Z=>?_)
   replace Z:=Z.z
   refine Sz ?_
   exact⟨rfl,some ⟨b3,0,none⟩,(Zv [h,b]).length,[h],rfl,Z,(by unfold ZX;rw[if_pos cd1])⟩
  exact⟨rfl,some ⟨b3,0,none⟩,(Zv [h,b]).length,[h,b],rfl,Z,(by unfold ZX;rw[if_neg cd1])⟩
 rintro _ w j ⟨u,d,ps,rfl,Z,hps⟩
 replace Z:=Z.z
 subst hps
 refine Sz ?_
 refine Zsg [([0,4,6,1,5,7,2],some (3,[4,5,6,7])),([],some (8,[])),([9,10,11,12,13,14,15],none)] ?_
 obtain⟨⟨ga,oa,va,gb,ob,vb,gc,oc,vc,gd,od,vd⟩,Z⟩:=St.exOpen (Z.at_ 3 rfl)
 replace Z:=Z.z
 refine Qd fun w Z=>?_
 refine Qd fun w Z=>?_
 refine Zsy (Zcl z h b hz hM.hh hM.hb hM.hx (Z.sel 2 [1,0] rfl)) fun w l1 Z f1=>?_
 refine Qd fun w Z=>?_
 have hl1:=hM.bl l1 f1;have hap1:Apart l1.es lo lt:=(by rw[hl1];exact hM.ap);have hsb1:Srt l1.es:=(by rw[hl1];exact hM.sb);have hnb1:l1.es.length≤1000:=(by rw[hl1];exact hM.nb)
 replace Z:=St.cl (f:=QE m z) ⟨_,_,_,_,_,_,_,_,_,_,_,_⟩ (Z.sel 7 [2,0,1,1,1,1,0] rfl)
 replace Z:=Z.z
 refine Sz ?_
 refine Zse (conf9 l1.es _ _ l1.a _ _ l1.c _ _ hnb1 hM.no hM.nt hap1 (Z.sel 7 [1,4,4,0,0,0,0] rfl)) fun w Z=>?_
 as_aux_lemma =>
 refine Sz ?_
 refine Ztd 4 rfl (fun j=>?_)
 refine Zsx 54 rfl (Zy (dd _) (dd _)) ?_
 refine Sz ?_
 refine Zs4 rfl rfl (cs:=[.I 0,.U 0,.I 0,.bool false,.I (QJ z h b),.I 0,.I 0,.I 0,.I 0,.I 0,.I 0,.N,.N,.N,.N]) zv_39.h rfl rfl ?_
 refine Sz ?_
 refine Zsz (mrg9 l1.es _ _ l1.a _ _ l1.c _ _ hnb1 hM.no hM.nt hap1 hsb1 hM.so hM.st Z) fun w a1 c1 Z=>?_
 replace Z:=(Z.at_ 0 rfl).share
 replace Z:=Z.z
 replace Z:=(Z.at_ 5 rfl).share
 replace Z:=Z.z
 refine Zt8 (Df _ _ 0 (QJ z h b) false (Z4 l1.es lt lo) _ _ (ZX h b) _ _ hz (HW (q:=fun y=>0≤y∧y≤18446744073709551615) hM.hh hM.hb) (Zfk h b) hM.pv (Z.sel 6 [5,1,0,0,0,0] rfl)) fun w z1 Z f2=>?_
 refine Zsh fun w Z=>?_
 replace Z:=(Z.sel 8 [0,3,3] rfl)
 rw[hl1] at f2;exact⟨_,_,_,rfl,Z,f2⟩
theorem Zlx(m:Nat)(z:RSt)(h b:Int)(lb lo lt:Zl)(hz:ROk z)(hM:Mgl z h b lb lo lt)(Z:St g (Xp m z::L) w) :
  Zr g L 49 [.P m,.agg (qO 10 h b 0 0 0 0 3 .N)] w fun rV=>rV (.I ((List.length lb:Int)+(List.length lo)+(List.length lt)+12*((Tr.mxH ((List.length lb)+(List.length lo)+(List.length lt)):Int)+2))) [Xp m z]:=by
 refine Sp.en Tryz.func49 ?_
 refine Zsp fun b1 w Z=>?_
 refine Zsg [([0,4,1,5,2],some (3,[4,5])),([],some (6,[])),([7,8,9,10,11],none)] ?_
 obtain⟨⟨ga,oa,va,gb,ob,vb,gc,oc,vc,gd,od,vd⟩,Z⟩:=St.exOpen (Z.at_ 1 rfl)
 replace Z:=Z.z
 refine Qd fun w Z=>?_
 refine Qd fun w Z=>?_
 refine Zsy (YQ z h hz hM.hh (hM.lx h) (Z.sel 2 [1,0] rfl)) fun w x1 Z f1=>?_
 refine Qd fun w Z=>?_
 refine Zsg [([0,4,1,5,2],some (3,[4,5])),([],some (6,[])),([7,8,9,10,11],none)] ?_
 refine Qd fun w Z=>?_
 refine Qd fun w Z=>?_
 refine Zsy (YQ z b hz hM.hb (hM.lx b) Z) fun w x2 Z f2=>?_
 refine Qd fun w Z=>?_
 refine Zsg [([0,4,6,1,5,7,2],some (3,[4,5,6,7])),([],some (8,[])),([9,10,11,12,13,14,15],none)] ?_
 refine Qd fun w Z=>?_
 refine Qd fun w Z=>?_
 refine Zsy (Zcl z h b hz hM.hh hM.hb hM.hx Z) fun w l1 Z f3=>?_
 refine Qd fun w Z=>?_
 as_aux_lemma =>
 have hnb:=hM.nb;have hno:=hM.no;have hnt:=hM.nt;have e1:(Zm x1.es).length=lo.length:=(by rw[Zu,hM.al x1 f1]);have e2:(Zm x2.es).length=lt.length:=(by rw[Zu,hM.tl x2 f2]);have e3:(Zm l1.es).length=lb.length:=(by rw[Zu,hM.bl l1 f3])
 refine Sz ?_
 replace Z:=St.cl (f:=QE m z) ⟨_,_,_,_,_,_,_,_,_,_,_,_⟩ (Z.sel 9 [4,0,3,3,3,3,0,0,0] rfl)
 replace Z:=Z.z
 refine Sz ?_
 refine Zse (Zjo (Zm l1.es).length (Zm x1.es).length (Zm x2.es).length (by omega) Z) fun w Z=>?_
 replace Z:=(Z.sel 5 [0] rfl)
 exact⟨congrArg (Value.int .i64) (by rw[e1,e2,e3]),Z⟩
theorem Zl4(m:Nat)(fr hd k:Int)(l:Zl)(la lb9:Option Addr)(lc nb cb:Nat)(hl:l.length≤1000)(Z:St g (Sh 32 2 (Zm l) la lc::L) w) :
  Zr g L 59 [.P m,.agg (qO 2 hd 0 k 0 0 0 0 .N),.slice la (Zm l).length lc,.slice lb9 nb cb,.I fr] w fun rV=>rV (.agg (qA 0 0 ((Zo k l).getD 0) ((Zo k l).isSome) 0 .N)) [Sh 32 2 (Zm l) la lc]:=by
 refine Sp.en Tryz.func59 ?_
 have _:=hl
 refine Zsp fun b1 w Z=>?_
 refine Zsk fun b2 w Z=>?_
 refine Zs4 rfl rfl (cs:=[.I 0,.U 0,.I 0,.bool false,.I 0,.I 0,.I 0,.I 0,.I 0,.I 0,.I 0,.N,.N,.N,.N]) zv_39.h rfl rfl<|Zsk fun b3 w Z=>?_
 refine Zsh fun w Z=>?_
 refine Zse (Xh _ _ _ k (by omega) (Z.sel 4 [3,0,0,0] rfl)) fun w Z=>?_
 refine Zss fun w Z=>?_
 refine Zss fun w Z=>?_
 refine Zsh fun w Z=>?_
 replace Z:=(Z.sel 4 [0] rfl)
 exact⟨rfl,Z⟩
theorem UZ(m:Nat)(z:RSt)(fr:Int)(hz:ROk z)(hrm:1≤z.room)(Z:St g (Xp m z::L) w) :
  Cp g L 20 [.P m,.agg (qO 1 0 0 0 0 0 0 0 .N),.I fr] w fun rV=>∃(z2:RSt),rV (.agg (qA 0 (ZS z.T z.room []) 0 false 0 .N)) [Xp m z2] (UN z ⟨[],none,0⟩ [] z2):=by
 refine Sp.en Tryz.func20 ?_
 refine Zsp fun b1 w Z=>?_
 refine Zsk fun b2 w Z=>?_
 replace Z:=Z.nilS 32 2
 replace Z:=Z.z
 refine Zse (Zee _ _ 1 [] _ _ hz (.inl rfl) Zc6 (by decide) hrm (Z.sel 4 [3,0,0,0] rfl)) fun w Z=>?_
 refine Zsg [([0,4,1,5,2],some (3,[4,5])),([],some (6,[])),([7,8,9,10,11],none)] ?_
 obtain⟨⟨ga,oa,va,gb,ob,vb,gc,oc,vc,gd,od,vd⟩,Z⟩:=St.exOpen Z
 replace Z:=Z.z
 refine Qd fun w Z=>?_
 refine Qd fun w Z=>?_
 refine Zsy (YQ z 0 hz (by decide) (fun h=>by rw[Ho hz.t] at h;cases h) (Z.sel 2 [1,0] rfl)) fun w x1 Z f1=>?_
 refine Qd fun w Z=>?_
 refine Zsg [([0,4,1,5,2],some (3,[4,5])),([],some (6,[])),([7,8,9,10,11],none)] ?_
 refine Qd fun w Z=>?_
 refine Qd fun w Z=>?_
 refine Zsy (YQ z 0 hz (by decide) (fun h=>by rw[Ho hz.t] at h;cases h) Z) fun w x2 Z f2=>?_
 refine Qd fun w Z=>?_
 as_aux_lemma =>
 refine Sz ?_
 replace Z:=St.cl (f:=QE m z) ⟨_,_,_,_,_,_,_,_,_,_,_,_⟩ (Z.sel 8 [3,0,2,2,2,2,0,0] rfl)
 replace Z:=Z.z
 refine Sz ?_
 refine Zt8 (Zkj _ _ fr x1.es x1.a x1.c hz (LsX.zero hz f1) (Z.sel 3 [0,1,0] rfl)) fun w z1 Z f3=>?_
 refine Zsh fun w Z=>?_
 replace Z:=(Z.sel 5 [0] rfl)
 exact⟨_,rfl,Z,f3⟩
theorem JT(m:Nat)(z:RSt)(fr:Int)(es:Zl)(ea:Option Addr)(ec:Nat)(hz:ROk z)(hrm:1≤z.room)(hs:Srt es)(hl:es.length≤1000)(hf:(es.length:Int)≤fr)(Z:St g (Xp m z::Sh 32 2 (Zm es) ea ec::L) w) :
  Cp g L 20 [.P m,.agg (qO 7 0 0 0 0 0 0 0 (.slice ea (Zm es).length ec)),.I fr] w fun rV=>∃(z2:RSt),rV (.agg (qA 0 (ZS z.T z.room []) 0 false 0 .N)) [Xp m z2,Sh 32 2 (Zm es) ea ec] (UN z ⟨es,ea,ec⟩ [] z2):=by
 refine Sp.en Tryz.func20 ?_
 refine Zsp fun b1 w Z=>?_
 refine Zsk fun b2 w Z=>?_
 refine Zse (Zee _ _ 7 _ _ _ hz (.inr rfl) (Zby hl) hl hrm (Z.sel 4 [2,2,0,0] rfl)) fun w Z=>?_
 refine Zsg [([0,4,1,5,2],some (3,[4,5])),([],some (6,[])),([7,8,9,10,11],none)] ?_
 obtain⟨⟨ga,oa,va,gb,ob,vb,gc,oc,vc,gd,od,vd⟩,Z⟩:=St.exOpen Z
 replace Z:=Z.z
 refine Qd fun w Z=>?_
 refine Qd fun w Z=>?_
 refine Zsy (YQ z 0 hz (by decide) (fun h=>by rw[Ho hz.t] at h;cases h) (Z.sel 2 [1,0] rfl)) fun w x1 Z f1=>?_
 refine Qd fun w Z=>?_
 refine Zsg [([0,4,1,5,2],some (3,[4,5])),([],some (6,[])),([7,8,9,10,11],none)] ?_
 refine Qd fun w Z=>?_
 refine Qd fun w Z=>?_
 refine Zsy (YQ z 0 hz (by decide) (fun h=>by rw[Ho hz.t] at h;cases h) Z) fun w x2 Z f2=>?_
 refine Qd fun w Z=>?_
 as_aux_lemma =>
 refine Sz ?_
 replace Z:=St.cl (f:=QE m z) ⟨_,_,_,_,_,_,_,_,_,_,_,_⟩ (Z.sel 8 [3,0,2,2,2,2,0,0] rfl)
 replace Z:=Z.z
 refine Sz ?_
 refine Zt8 (Zfr _ _ fr _ _ _ x1.es x1.a x1.c hz hs hl hf (LsX.zero hz f1) (Z.sel 4 [0,1,1,0] rfl)) fun w z1 Z f3=>?_
 refine Zsh fun w Z=>?_
 replace Z:=(Z.sel 5 [0,0] rfl)
 exact⟨_,rfl,Z,f3⟩
theorem UU(m:Nat)(z:RSt)(fr hd k vv:Int)(l:Zl)(hz:ROk z)(hrm:1≤z.room)(hh:0≤hd∧hd≤18446744073709551615)(hn:z.T.s.opn hd=true)(hx:∃(k:Nat)(l:LsE),z.T.val hd=(k:Int)+1∧z.LL[k]?=some l)(hal:∀y:LsE,LsX z hd y→y.es=l)(hlv:ZB z.B (z.T.val hd)=true)(hs:Srt l)(hl:l.length≤1000)(hf:4*((Tr.mxH (l.length+1):Int)+2)≤fr)(Z:St g (Xp m z::L) w) :
  Cp g L 20 [.P m,.agg (qO 3 hd 0 k vv 0 0 0 .N),.I fr] w fun rV=>∃(z2:RSt)(xa:Option Addr)(xc:Nat),rV (.agg (qA 0 (ZS z.T z.room [hd]) ((Zo k l).getD 0) ((Zo k l).isSome) 0 .N)) [Xp m z2] (UN z ⟨Zs k vv l,xa,xc⟩ [hd] z2):=by
 refine Sp.en Tryz.func20 ?_
 refine Zsp fun b1 w Z=>?_
 refine Zsk fun b2 w Z=>?_
 refine Zse (Zlg _ _ hd k vv hz (Zds hd k vv) hh hn hrm (Z.sel 3 [2,0,0] rfl)) fun w Z=>?_
 refine Zsg [([0,4,1,5,2],some (3,[4,5])),([],some (6,[])),([7,8,9,10,11],none)] ?_
 obtain⟨⟨ga,oa,va,gb,ob,vb,gc,oc,vc,gd,od,vd⟩,Z⟩:=St.exOpen Z
 replace Z:=Z.z
 refine Qd fun w Z=>?_
 refine Qd fun w Z=>?_
 refine Zsy (YQ z hd hz hh (fun _=>hx) (Z.sel 2 [1,0] rfl)) fun w x1 Z f1=>?_
 refine Qd fun w Z=>?_
 refine Zsg [([0,4,1,5,2],some (3,[4,5])),([],some (6,[])),([7,8,9,10,11],none)] ?_
 refine Qd fun w Z=>?_
 refine Qd fun w Z=>?_
 refine Zsy (YQ z 0 hz (by decide) (fun h=>by rw[Ho hz.t] at h;cases h) Z) fun w x2 Z f2=>?_
 refine Qd fun w Z=>?_
 as_aux_lemma =>
 have e1:=hal x1 f1
 refine Sz ?_
 replace Z:=St.cl (f:=QE m z) ⟨_,_,_,_,_,_,_,_,_,_,_,_⟩ (Z.sel 8 [3,0,2,2,2,2,0,0] rfl)
 replace Z:=Z.z
 refine Sz ?_
 refine Zul (Zn5 _ _ fr hd k vv x1.es x1.a x1.c hz hh (fun _=>hlv) (by rw[e1];exact hs) (by rw[e1];exact hl) (by rw[e1];exact hf) (Z.sel 3 [0,1,0] rfl)) fun w z1 xa1 xc1 Z f3=>?_
 refine Zsh fun w Z=>?_
 replace Z:=(Z.sel 5 [0] rfl)
 rw[e1] at f3 ⊢;exact⟨_,_,_,rfl,Z,f3⟩
theorem JX(m:Nat)(z:RSt)(fr h b:Int)(lb lo lt:Zl)(hz:ROk z)(hrm:1≤z.room)(hM:Mgl z h b lb lo lt)(Z:St g (Xp m z::L) w) :
  Cp g L 20 [.P m,.agg (qO 10 h b 0 0 0 0 3 .N),.I fr] w fun rV=>∃(z2:RSt)(xa:Option Addr)(xc:Nat),rV (.agg (qA 0 (ZS z.T z.room (ZX h b)) 0 false (QJ z h b) .N)) [Xp m z2] (UN z ⟨Z4 lb lt lo,xa,xc⟩ (ZX h b) z2):=by
 refine Sp.en Tryz.func20 ?_
 refine Zsp fun b1 w Z=>?_
 refine Zsk fun b2 w Z=>?_
 refine Zse (C3 _ _ h b hz hM.hh hM.hn hM.hb hM.hm hrm (Z.sel 3 [2,0,0] rfl)) fun w Z=>?_
 refine Zsg [([0,4,1,5,2],some (3,[4,5])),([],some (6,[])),([7,8,9,10,11],none)] ?_
 obtain⟨⟨ga,oa,va,gb,ob,vb,gc,oc,vc,gd,od,vd⟩,Z⟩:=St.exOpen Z
 replace Z:=Z.z
 refine Qd fun w Z=>?_
 refine Qd fun w Z=>?_
 refine Zsy (YQ z h hz hM.hh (hM.lx h) (Z.sel 2 [1,0] rfl)) fun w x1 Z f1=>?_
 refine Qd fun w Z=>?_
 refine Zsg [([0,4,1,5,2],some (3,[4,5])),([],some (6,[])),([7,8,9,10,11],none)] ?_
 refine Qd fun w Z=>?_
 refine Qd fun w Z=>?_
 refine Zsy (YQ z b hz hM.hb (hM.lx b) Z) fun w x2 Z f2=>?_
 refine Qd fun w Z=>?_
 as_aux_lemma =>
 have e1:=hM.al x1 f1;have e2:=hM.tl x2 f2
 refine Sz ?_
 replace Z:=St.cl (f:=QE m z) ⟨_,_,_,_,_,_,_,_,_,_,_,_⟩ (Z.sel 8 [3,0,2,2,2,2,0,0] rfl)
 replace Z:=Z.z
 refine Sz ?_
 refine Zul (Znk _ _ h b lb x1.es x2.es x1.a x2.a x1.c x2.c hz (by rw[e1,e2];exact hM) (Z.sel 3 [0,1,0] rfl)) fun w z1 xa1 xc1 Z f3=>?_
 refine Zsh fun w Z=>?_
 replace Z:=(Z.sel 5 [0] rfl)
 rw[e1,e2] at f3;exact⟨_,_,_,rfl,Z,f3⟩
theorem UW(m:Nat)(z:RSt)(fr hd k:Int)(l:Zl)(hz:ROk z)(hrm:1≤z.room)(hh:0≤hd∧hd≤18446744073709551615)(hn:z.T.s.opn hd=true)(hx:∃(k:Nat)(l:LsE),z.T.val hd=(k:Int)+1∧z.LL[k]?=some l)(hal:∀y:LsE,LsX z hd y→y.es=l)(hl:l.length≤1000)(Z:St g (Xp m z::L) w) :
  Zr g L 20 [.P m,.agg (qO 2 hd 0 k 0 0 0 0 .N),.I fr] w fun rV=>rV (.agg (qA 0 0 ((Zo k l).getD 0) ((Zo k l).isSome) 0 .N)) [Xp m z]:=by
 refine Sp.en Tryz.func20 ?_
 refine Zsp fun b1 w Z=>?_
 refine Zsk fun b2 w Z=>?_
 refine Zse (Zoa _ _ hd k 0 hz (Zdd hd k) hh hn hrm (Z.sel 3 [2,0,0] rfl)) fun w Z=>?_
 refine Zsg [([0,4,1,5,2],some (3,[4,5])),([],some (6,[])),([7,8,9,10,11],none)] ?_
 obtain⟨⟨ga,oa,va,gb,ob,vb,gc,oc,vc,gd,od,vd⟩,Z⟩:=St.exOpen Z
 replace Z:=Z.z
 refine Qd fun w Z=>?_
 refine Qd fun w Z=>?_
 refine Zsy (YQ z hd hz hh (fun _=>hx) (Z.sel 2 [1,0] rfl)) fun w x1 Z f1=>?_
 refine Qd fun w Z=>?_
 refine Zsg [([0,4,1,5,2],some (3,[4,5])),([],some (6,[])),([7,8,9,10,11],none)] ?_
 refine Qd fun w Z=>?_
 refine Qd fun w Z=>?_
 refine Zsy (YQ z 0 hz (by decide) (fun h=>by rw[Ho hz.t] at h;cases h) Z) fun w x2 Z f2=>?_
 refine Qd fun w Z=>?_
 as_aux_lemma =>
 as_aux_lemma =>
 have e1:=hal x1 f1
 refine Sz ?_
 replace Z:=St.cl (f:=QE m z) ⟨_,_,_,_,_,_,_,_,_,_,_,_⟩ (Z.sel 8 [3,0,2,2,2,2,0,0] rfl)
 replace Z:=Z.z
 refine Sz ?_
 refine Ztg (Zl4 m fr hd k x1.es x1.a x2.a x1.c (Zm x2.es).length x2.c (by rw[e1];exact hl) (Z.sel 3 [2,0,0] rfl)) fun w Z=>?_
 refine Zsh fun w Z=>?_
 replace Z:=(Z.sel 5 [1] rfl)
 rw[e1];exact⟨rfl,Z⟩
end Go.Proofs.YtpebgkkmgffmaaaGreatDoor
