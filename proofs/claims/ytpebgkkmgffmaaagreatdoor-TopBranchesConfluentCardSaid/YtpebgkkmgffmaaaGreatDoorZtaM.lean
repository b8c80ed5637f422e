/-
  What the proof of Jtb stands on, part 13.
  Conditions: none.
-/
import Derived.Test.YtpebgkkmgffmaaaGreatDoorZtaI
set_option maxRecDepth 8192
namespace Go.Proofs.YtpebgkkmgffmaaaGreatDoor
open Go Go.V Go.RowKit Go.Maps
set_option maxHeartbeats 8000000
set_option maxRecDepth 8192
variable{g w:World}{L:List HP}
structure Mgc(V:VM)(A:AM)(z:RSt)(mm:Nat)(h b:Int)(lb lo lt:Zl):Prop where
 hh:0≤h∧h≤18446744073709551615
 hn:V.T.s.opn h=true
 hb:0≤b∧b≤18446744073709551615
 hm:V.T.s.opn b=true
 lh:Lst z (V.T.val h) lo
 lk:Lst z (V.T.val b) lt
 bz:XP V h b≠0
 bo:∃x,V.T.s.opn x=true∧V.T.val x=XP V h b
 ls:Lst z (XP V h b) lb
 ap:Apart lb lo lt
 sb:Srt lb
 so:Srt lo
 st:Srt lt
 kb:X_ lb
 ko:X_ lo
 kt:X_ lt
 bl:lb.length≤mm
 lm:(Z4 lb lt lo).length≤mm
 fr:(lb.length:Int)+lo.length+lt.length+12*((Tr.mxH (lb.length+lo.length+lt.length):Int)+2)≤A.s.free
theorem Mgc.rf{V:VM}{A:AM}{z:RSt}{mm:Nat}{h b:Int}{lb lo lt:Zl}(hW:WR V A [] z mm)(hmm:mm≤900)(h9:Mgc V A z mm h b lb lo lt):Mgl z h b lb lo lt:=by
 have htt:=hW.tt
 have hq:=(hW.bs h b).1
 refine⟨h9.hh,by rw[htt];exact h9.hn,h9.hb,by rw[htt];exact h9.hm,fun hx=>hW.bx hx,?_,fun y hy=>hW.lsi h9.lh hy h9.hn,fun y hy=>hW.lsi h9.lk hy h9.hm,fun x hx=>hW.opl hx,fun x hx=>hW.liv hx,fun h1 h2=>hW.pv h1 h2,h9.sb,h9.so,h9.st,?_,?_,?_,h9.ap⟩
 ·rintro l (⟨_,k,k1,k2⟩|⟨k1,_⟩)
  ·refine Lst.fn ⟨l,?_,rfl⟩ h9.ls
   rw[hq] at k1
   rw[k1,show((k:Int)+1-1).toNat=k by omega]
   exact k2
  rw[hq] at k1;exact absurd k1 h9.bz
 ·have:=h9.bl;omega
 ·have:=(hW.lsq h9.hn h9.lh).2.1;omega
 have:=(hW.lsq h9.hm h9.lk).2.1;omega
theorem Mgc.pr{V:VM}{A:AM}{z:RSt}{mm:Nat}{h b:Int}{lb lo lt:Zl}(hW:WR V A [] z mm)(hmm:mm≤900)(h9:Mgc V A z mm h b lb lo lt):∃tb to tt,Mgb V A h b tb to tt∧tb.ls=lb∧to.ls=lo∧tt.ls=lt:=by
 obtain⟨⟨to,o1,o2,o3,o4⟩,ol,_⟩:=hW.lsq h9.hn h9.lh
 obtain⟨⟨tt,u1,u2,u3,u4⟩,ul,_⟩:=hW.lsq h9.hm h9.lk
 obtain⟨x,x1,x2⟩:=h9.bo
 have hx3:=h9.ls
 rw[←x2] at hx3
 obtain⟨⟨tb,b1,b2,b3,b4⟩,bl,_⟩:=hW.lsq x1 hx3
 rw[x2] at b1
 have hb9:=h9.bl
 have e1:tb.n=lb.length:=by rw[←Tr.ls_len,b4]
 have e2:to.n=lo.length:=by rw[←Tr.ls_len,o4]
 have e3:tt.n=lt.length:=by rw[←Tr.ls_len,u4]
 exact⟨tb,to,tt,⟨h9.hh,h9.hn,h9.hb,h9.hm,b1,o1,u1,b3,o3,u3,by rw[b4];exact h9.kb,by rw[o4];exact h9.ko,by rw[u4];exact h9.kt,o2,u2,by rw[b4,o4,u4];exact h9.ap,by omega,by rw[e1,e2,e3];exact h9.fr⟩,b4,o4,u4⟩
theorem C5(d p s a m:Nat)(V:VM)(A:AM)(z:RSt)(mm:Nat)(hs:List Int)(h b:Int)(lb lo lt:Zl)(hW:WR V A [] z mm)(hrm:0<V.room)(hla:V.last<700)(hhl:hs.length≤900)(hmm:mm≤900)(h9:Mgc V A z mm h b lb lo lt)(Z:St g (HZ d p m hs::YO p s a V::Zt a A::Xp m z::L) w) :
  Cp g L 7 [.P d,.agg (qO 10 h b 0 0 0 0 3 .N)] w fun rV=>∃(V2:VM)(A2:AM)(z2:RSt)(hs2:List Int),rV (.tuple #[.agg (qA 0 V.T.newH 0 false (XP V h b) .N),.bool true]) [HZ d p m hs2,YO p s a V2,Zt a A2,Xp m z2] ((Stp V V2 A A2 z z2 mm ((ZX h b).map V.T.val) (Z4 lb lt lo))∧(hs2.length≤hs.length+1)):=by
 refine Sp.en Tryz.func7 ?_
 have _:=hhl
 have _:=hla
 refine Zsp fun b1 w Z=>?_
 refine Zsk fun b2 w Z=>?_
 obtain⟨⟨u,c⟩,Z⟩:=St.exOpen (Z.at_ 2 rfl)
 replace Z:=Z.z
 have hz:=hW.rok;have htt:=hW.tt;have hro:=hW.room;have hM:=h9.rf hW hmm;obtain⟨tb,to,tt,hB,hb1,hb2,hb3⟩:=h9.pr hW hmm;have hpo:∀y∈ZX h b,V.T.s.opn y=true:=HW (q:=fun y=>V.T.s.opn y=true) h9.hn h9.hm;have hc9:XZ V.T V.room (ZX h b)=0:=J4 (XC h b) hpo (by omega);have hqb:=(hW.bs h b).1
 refine Sz ?_
 refine Zse (QQ _ _ _ _ _ hW.vi.ref.toAWf (Z.sel 6 [4,4,0,0,0,0] rfl)) fun w Z=>?_
 refine Zto (.two [0,4,1,2,3] 5 [] (.one [] 6 [0,1,2,3,4] (.one [] 7 [] .nil)) 6 [0,1,2,3,4] (.one [] 5 [] (.one [] 7 [] .nil))) ?_
 refine Qz ?_
 refine Zta ?_
 intro m1
 replace Z:=Z.drewN m1;generalize hwm1:World.drewN _ _=w at *;clear hwm1
 refine⟨?_,?_⟩
 ·refine Ztk (VL _ _ _ _ _ h b tb to tt hW.vi hrm (by omega) hB Z) fun w V1 A1 u1 Z ⟨f1,f2⟩=>?_
  refine Qd fun w Z=>?_
  refine Zsk fun b3 w Z=>?_
  refine Qd fun w Z=>?_
  refine Zsh fun w Z=>?_
  refine Qd fun w Z=>?_
  replace Z:=St.cl (f:=Yw d p m hs) ⟨_,_⟩ (Z.sel 5 [3,3,0,0,0] rfl)
  replace Z:=Z.z
  refine Sz ?_
  refine Zsy (Xi _ _ _ _ 10 h b 0 0 0 0 3 none 0 0 V.T.newH 0 (XP V h b) false (by decide) (by omega) Z) fun w hs1 Z f3=>?_
  refine Zse (Zde _ _ _ _ _ h b lb lo lt A.s.free hz hM (by omega) h9.fr (Z.sel 7 [0,5,0,0,0,0,0] rfl)) fun w Z=>?_
  as_aux_lemma =>
  refine Sz ?_
  refine Zto (.two [0,4,5,1,2,3] 6 [] (.one [] 7 [0,1,2,3,4,5] (.one [] 8 [] .nil)) 7 [0,1,2,3,4,5] (.one [] 6 [] (.one [] 8 [] .nil))) ?_
  obtain⟨⟨u,c⟩,Z⟩:=St.exOpen Z
  replace Z:=Z.z
  refine Qz ?_
  refine Zta ?_
  intro m2
  replace Z:=Z.drewN m2;generalize hwm2:World.drewN _ _=w at *;clear hwm2
  refine⟨?_,?_⟩
  ·refine Ztk (JX _ _ A.s.free h b lb lo lt hz (by omega) hM (Z.sel 3 [2,0,0] rfl)) fun w z1 xa1 xc1 Z f4=>?_
   refine Qd fun w Z=>?_
   refine Zsk fun b4 w Z=>?_
   refine Qd fun w Z=>?_
   refine Zsh fun w Z=>?_
   refine Qd fun w Z=>?_
   replace Z:=St.cl (f:=Yw d p m hs1) ⟨_,_⟩ (Z.sel 4 [2,2,0,0] rfl)
   replace Z:=Z.z
   refine Sz ?_
   refine Zs7 4 [.I 0] rfl (by exact(fun _=>Z.ld 1 rfl rfl)) (fun j=>?_)
   refine Zsx 62 rfl (Zy (dd _) (dd _)) ?_
   refine Sy ?_
   refine Zsf 83 (.bool false) rfl ?_
   as_aux_lemma =>
   refine Sz ?_
   refine Zsg [([0,1,2],some (3,[0])),([],some (4,[])),([5],none)] ?_
   refine Qd fun w Z=>?_
   refine Zse (Yb V.T.newH 0 (XP V h b) (ZS z.T z.room (ZX h b)) 0 (QJ z h b) false false (by rw[(hW.same (ZX h b)).2,ZS,if_pos hc9]) rfl rfl (by rw[hqb]) Z) fun w Z=>?_
   refine Qd fun w Z=>?_
   refine Zsh fun w Z=>?_
   refine Qd fun w Z=>?_
   replace Z:=(Z.sel 8 [0,3,3,1] rfl)
   rw[hb1,hb2,hb3] at f2;exact⟨_,_,_,_,rfl,Z,Stp.of (hs:=ZX h b) hW f1 (XC h b) hpo hrm f4 (by omega) ⟨f2.1,by rw[f2.2];exact Y2 h9.so,f2.2⟩ h9.lm,f3⟩
  refine Zsk fun b4 w Z=>?_
  refine Qd fun w Z=>?_
  refine Ztk (JX _ _ A.s.free h b lb lo lt hz (by omega) hM (Z.sel 4 [3,0,0,0] rfl)) fun w z1 xa1 xc1 Z f4=>?_
  refine Qd fun w Z=>?_
  refine Zsh fun w Z=>?_
  refine Qd fun w Z=>?_
  replace Z:=St.cl (f:=Yw d p m hs1) ⟨_,_⟩ (Z.sel 4 [2,2,0,0] rfl)
  replace Z:=Z.z
  refine Sz ?_
  refine Zs7 4 [.I 0] rfl (by exact(fun _=>Z.ld 2 rfl rfl)) (fun j=>?_)
  refine Zsx 62 rfl (Zy (dd _) (dd _)) ?_
  refine Sy ?_
  refine Zsf 83 (.bool false) rfl ?_
  as_aux_lemma =>
  refine Sz ?_
  refine Zsg [([0,1,2],some (3,[0])),([],some (4,[])),([5],none)] ?_
  refine Qd fun w Z=>?_
  refine Zse (Yb V.T.newH 0 (XP V h b) (ZS z.T z.room (ZX h b)) 0 (QJ z h b) false false (by rw[(hW.same (ZX h b)).2,ZS,if_pos hc9]) rfl rfl (by rw[hqb]) Z) fun w Z=>?_
  refine Qd fun w Z=>?_
  refine Zsh fun w Z=>?_
  refine Qd fun w Z=>?_
  replace Z:=(Z.sel 8 [0,3,3,0] rfl)
  rw[hb1,hb2,hb3] at f2;exact⟨_,_,_,_,rfl,Z,Stp.of (hs:=ZX h b) hW f1 (XC h b) hpo hrm f4 (by omega) ⟨f2.1,by rw[f2.2];exact Y2 h9.so,f2.2⟩ h9.lm,f3⟩
 refine Zsk fun b3 w Z=>?_
 refine Qd fun w Z=>?_
 refine Ztk (VL _ _ _ _ _ h b tb to tt hW.vi hrm (by omega) hB (Z.sel 3 [1,1,0] rfl)) fun w V1 A1 u1 Z ⟨f1,f2⟩=>?_
 refine Qd fun w Z=>?_
 refine Zsh fun w Z=>?_
 refine Qd fun w Z=>?_
 replace Z:=St.cl (f:=Yw d p m hs) ⟨_,_⟩ (Z.sel 5 [3,3,0,0,0] rfl)
 replace Z:=Z.z
 refine Sz ?_
 refine Zsy (Xi _ _ _ _ 10 h b 0 0 0 0 3 none 0 0 V.T.newH 0 (XP V h b) false (by decide) (by omega) Z) fun w hs1 Z f3=>?_
 refine Zse (Zde _ _ _ _ _ h b lb lo lt A.s.free hz hM (by omega) h9.fr (Z.sel 7 [0,5,0,0,0,0,0] rfl)) fun w Z=>?_
 as_aux_lemma =>
 refine Sz ?_
 refine Zto (.two [0,4,5,1,2,3] 6 [] (.one [] 7 [0,1,2,3,4,5] (.one [] 8 [] .nil)) 7 [0,1,2,3,4,5] (.one [] 6 [] (.one [] 8 [] .nil))) ?_
 obtain⟨⟨u,c⟩,Z⟩:=St.exOpen Z
 replace Z:=Z.z
 refine Qz ?_
 refine Zta ?_
 intro m2
 replace Z:=Z.drewN m2;generalize hwm2:World.drewN _ _=w at *;clear hwm2
 refine⟨?_,?_⟩
 ·refine Ztk (JX _ _ A.s.free h b lb lo lt hz (by omega) hM (Z.sel 3 [2,0,0] rfl)) fun w z1 xa1 xc1 Z f4=>?_
  refine Qd fun w Z=>?_
  refine Zsk fun b4 w Z=>?_
  refine Qd fun w Z=>?_
  refine Zsh fun w Z=>?_
  refine Qd fun w Z=>?_
  replace Z:=St.cl (f:=Yw d p m hs1) ⟨_,_⟩ (Z.sel 4 [2,2,0,0] rfl)
  replace Z:=Z.z
  refine Sz ?_
  refine Zs7 4 [.I 0] rfl (by exact(fun _=>Z.ld 1 rfl rfl)) (fun j=>?_)
  refine Zsx 62 rfl (Zy (dd _) (dd _)) ?_
  refine Sy ?_
  refine Zsf 83 (.bool false) rfl ?_
  as_aux_lemma =>
  refine Sz ?_
  refine Zsg [([0,1,2],some (3,[0])),([],some (4,[])),([5],none)] ?_
  refine Qd fun w Z=>?_
  refine Zse (Yb V.T.newH 0 (XP V h b) (ZS z.T z.room (ZX h b)) 0 (QJ z h b) false false (by rw[(hW.same (ZX h b)).2,ZS,if_pos hc9]) rfl rfl (by rw[hqb]) Z) fun w Z=>?_
  refine Qd fun w Z=>?_
  refine Zsh fun w Z=>?_
  refine Qd fun w Z=>?_
  replace Z:=(Z.sel 8 [0,2,2,1] rfl)
  rw[hb1,hb2,hb3] at f2;exact⟨_,_,_,_,rfl,Z,Stp.of (hs:=ZX h b) hW f1 (XC h b) hpo hrm f4 (by omega) ⟨f2.1,by rw[f2.2];exact Y2 h9.so,f2.2⟩ h9.lm,f3⟩
 refine Zsk fun b4 w Z=>?_
 refine Qd fun w Z=>?_
 refine Ztk (JX _ _ A.s.free h b lb lo lt hz (by omega) hM (Z.sel 4 [3,0,0,0] rfl)) fun w z1 xa1 xc1 Z f4=>?_
 refine Qd fun w Z=>?_
 refine Zsh fun w Z=>?_
 refine Qd fun w Z=>?_
 replace Z:=St.cl (f:=Yw d p m hs1) ⟨_,_⟩ (Z.sel 4 [2,2,0,0] rfl)
 replace Z:=Z.z
 refine Sz ?_
 refine Zs7 4 [.I 0] rfl (by exact(fun _=>Z.ld 2 rfl rfl)) (fun j=>?_)
 refine Zsx 62 rfl (Zy (dd _) (dd _)) ?_
 refine Sy ?_
 refine Zsf 83 (.bool false) rfl ?_
 as_aux_lemma =>
 refine Sz ?_
 refine Zsg [([0,1,2],some (3,[0])),([],some (4,[])),([5],none)] ?_
 refine Qd fun w Z=>?_
 refine Zse (Yb V.T.newH 0 (XP V h b) (ZS z.T z.room (ZX h b)) 0 (QJ z h b) false false (by rw[(hW.same (ZX h b)).2,ZS,if_pos hc9]) rfl rfl (by rw[hqb]) Z) fun w Z=>?_
 refine Qd fun w Z=>?_
 refine Zsh fun w Z=>?_
 refine Qd fun w Z=>?_
 replace Z:=(Z.sel 8 [0,2,2,0] rfl)
 rw[hb1,hb2,hb3] at f2;exact⟨_,_,_,_,rfl,Z,Stp.of (hs:=ZX h b) hW f1 (XC h b) hpo hrm f4 (by omega) ⟨f2.1,by rw[f2.2];exact Y2 h9.so,f2.2⟩ h9.lm,f3⟩
end Go.Proofs.YtpebgkkmgffmaaaGreatDoor
