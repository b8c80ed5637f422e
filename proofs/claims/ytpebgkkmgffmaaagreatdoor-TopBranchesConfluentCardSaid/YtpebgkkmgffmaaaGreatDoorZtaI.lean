/-
  What the proof of Jtb stands on, part 9.
  Conditions: none.
-/
import Derived.Test.YtpebgkkmgffmaaaGreatDoorZtaF
import Derived.Test.YtpebgkkmgffmaaaGreatDoorZtaH
set_option maxRecDepth 8192
namespace Go.Proofs.YtpebgkkmgffmaaaGreatDoor
open Go Go.V Go.RowKit Go.Maps
def Lst(z:RSt)(n:Int)(l:Zl):Prop:=∃x:LsE,z.LL[(n-1).toNat]?=some x∧x.es=l
theorem Lst.fn{z:RSt}{n:Int}{l r:Zl}(h:Lst z n l)(k:Lst z n r):l=r:=by
 obtain⟨x,h1,h2⟩:=h
 obtain⟨y,k1,k2⟩:=k
 rw[h1] at k1
 rw[←h2,←k2,Option.some.inj k1]
theorem WR.lsq{V:VM}{A:AM}{R:List Int}{z:RSt}{m:Nat}(h:WR V A R z m){x:Int}(ho:V.T.s.opn x=true){l:Zl}(hL:Lst z (V.T.val x) l):TrL A (V.rootOf (V.T.val x)) l∧l.length≤m∧Srt l:=by
 obtain⟨k,y,h1,h2,h3,_⟩:=h.open ho
 have h4:Lst z (V.T.val x) y.es:=⟨y,by rw[h1,show((k:Int)+1-1).toNat=k by omega];exact h2,rfl⟩
 rw[hL.fn h4]
 have h5:=h.sz y (List.mem_of_getElem? h2)
 exact⟨h3,h5.1,h5.2⟩
theorem WR.lsi{V:VM}{A:AM}{R:List Int}{z:RSt}{m:Nat}(h:WR V A R z m){x:Int}{l:Zl}(hL:Lst z (V.T.val x) l){y:LsE}(hy:(z.T.s.opn x=true∧∃k:Nat,z.T.val x=(k:Int)+1∧z.LL[k]?=some y)∨(z.T.s.opn x=false∧y=⟨[],none,0⟩))(ho:V.T.s.opn x=true):y.es=l:=by
 rcases hy with⟨_,k,h1,h2⟩|⟨h1,_⟩
 ·rw[h.tt] at h1
  exact Lst.fn ⟨y,by rw[h1,show((k:Int)+1-1).toNat=k by omega];exact h2,rfl⟩ hL
 rw[h.tt,ho] at h1;cases h1
structure Stp(V V2:VM)(A A2:AM)(z z2:RSt)(m:Nat)(ps:List Int)(l:Zl):Prop where
 wr:WR V2 A2 [] z2 m
 ad:Add1 V ps V2
 ls:Lst z2 (V.last+1) l
 old:∀n k,n≤V.last→1≤n→Lst z n k→Lst z2 n k
 us:A2.s.used.length=A.s.used.length
theorem Stp.of{V V2:VM}{A A4:AM}{z z2:RSt}{m:Nat}{hs:List Int}{t:Tr}{x:LsE}(h:WR V A [] z m)(hc:Crt V A (hs.map V.T.val) t V2 A4)(hp:ZY hs)(ho:∀y∈hs,V.T.s.opn y=true)(hrm:0<V.room)(hr:UN z x hs z2)(hl:V.last<800)(hk:t.ok∧Srt t.ls∧t.ls=x.es)(hx:x.es.length≤m):Stp V V2 A A4 z z2 m (hs.map V.T.val) x.es:=by
 obtain⟨A1,j,c,h1,h2,h3,h4⟩:=hc
 have e0:XZ V.T V.room hs=0:=J4 hp ho (by omega)
 have hW1:WR V A1 [j] z m:=h.one h1
 have hV1:VI V A1 [j]:=hW1.vi
 obtain⟨g1,g2,g3,g4⟩:=hW1.com (A2:=A1.ret j) (V2:=V2) (root:=j) (ps:=hs) (x:=x) (z2:=z2) (.inl ⟨e0,rfl,h2,h3⟩) hr hl (fun _=>⟨t,h1.is,hk.1,hk.2.1,hk.2.2⟩) hx
 have hlen:(z.LL.length:Int)=V.last:=by rw[h.ll];exact h.ra.len
 have hLL:z2.LL=z.LL++[x]:=by
  rcases hr with⟨_,ra,ga,oa,va,pa,ba,la,e,rc,gc,oc,vc,pc,bc,lc,f,rfl⟩|⟨h9,_⟩
  ·rfl
  exact absurd (((h.same hs).1).trans e0) h9
 refine⟨g1.ar h4.ref (h4.kp.sub fun r hr=>List.mem_append_left _ hr),Com.add1 hV1 h3 hrm,⟨x,?_,rfl⟩,fun n k hn hn1 ⟨y,q1,q2⟩=>⟨y,?_,q2⟩,?_⟩
 ·rw[hLL,show(V.last+1-1).toNat=z.LL.length by omega,List.getElem?_append_right (Nat.le_refl _),Nat.sub_self];rfl
 ·rw[hLL,List.getElem?_append_left (List.getElem?_eq_some_iff.1 q1).1];exact q1
 rw[h4.cap,g4,h1.cap]
set_option maxHeartbeats 8000000
set_option maxRecDepth 8192
variable{g w:World}{L:List HP}
theorem Xi(d p m:Nat)(hs:List Int)(oc h b k vv lo hi n:Int)(ea:Option Addr)(el ec:Nat)(hd v9 n9:Int)(fd:Bool)(hc:oc=1∨oc=2∨oc=3∨oc=7∨oc=10)(hl:hs.length≤1000)(Z:St g (HZ d p m hs::L) w) :
  Cp g L 17 [.P d,.agg (qO oc h b k vv lo hi n (.slice ea el ec)),.agg (qA 0 hd v9 fd n9 .N)] w fun rV=>∃(hs2:List Int),rV (.tuple #[]) [HZ d p m hs2] (hs2.length≤hs.length+1):=by
 refine Sp.en Tryz.func17 ?_
 have _:=hl
 have _:=hc
 refine Zsp fun b1 w Z=>?_
 refine Zsp fun b2 w Z=>?_
 refine Zsg [([0,4,8,1,5,9,2,6,10,3,7,11,12,13,14],none)] ?_
 obtain⟨⟨u,c⟩,Z⟩:=St.exOpen (Z.at_ 2 rfl)
 replace Z:=Z.z
 have hul:=YE hs
 refine Qd fun w Z=>?_
 refine Zsm rfl (decide_eq_false ((by omega))) ?_
 refine Zsm rfl (decide_eq_false ((by omega))) ?_
 refine Zsm rfl (decide_eq_false ((by omega))) ?_
 refine Zsm rfl (decide_eq_false ((by omega))) ?_
 refine Zsm rfl (decide_eq_false ((by omega))) ?_
 refine Zsi (fun h9=>?_) fun h9=>?_
 ·refine Zs1 rfl rfl (Zv [hd]) el_47 Z (by exact⟨rfl,rfl⟩) (YG _) rfl (Nat.le_of_ble_eq_true rfl) (fun b3 w Z=>?_)
  refine Zs3 rfl rfl 2 (Zv (hs++[hd])) el_47 Z rfl (Z.srcO 0 rfl) (C2 _ _).symm (Rm.of (by first|omega|(simp<;>omega)) (by decide)) rfl rfl (fun a1 c1 w Z=>?_)
  replace Z:=Z.z
  refine Sz ?_
  refine Zss fun w Z=>?_
  replace Z:=St.cl (f:=Yw d p m (hs++[hd])) ⟨_,_⟩ (Z.sel 3 [1,1,0] rfl)
  replace Z:=Z.z
  refine Sz ?_
  replace Z:=(Z.sel 4 [0] rfl)
  exact⟨_,rfl,Z,by rw[List.length_append];exact Nat.le_refl _⟩
 replace Z:=St.cl (f:=Yw d p m hs) ⟨_,_⟩ Z
 replace Z:=Z.z
 refine Sz ?_
 replace Z:=(Z.sel 3 [0] rfl)
 exact⟨_,rfl,Z,Nat.le_succ _⟩
theorem UJ(d:Nat)(oc h b k vv lo hi n:Int)(ea:Option Addr)(el ec:Nat)(fr:Int)(hc:oc=1∨oc=2∨oc=3∨oc=7)(Z:St g (L) w) :
  Zr g L 18 [.P d,.agg (qO oc h b k vv lo hi n (.slice ea el ec)),.I fr] w fun rV=>rV (.bool false) []:=by
 refine Sp.en Tryz.func18 ?_
 have _:=hc
 refine Zsp fun b1 w Z=>?_
 refine Zsg [([0,1,2,3,4,5,6,7,8,9,13,10,11,12],some (14,[])),([15,16],none)] ?_
 refine Qz ?_
 refine Zsu 10 (.bool true) (congrArg Value.bool (decide_eq_true ((by omega)))) ?_
 refine Qz ?_
 refine Zsu 15 (.bool true) (congrArg Value.bool (decide_eq_true ((by omega)))) ?_
 refine Qd fun w Z=>?_
 refine Qd fun w Z=>?_
 replace Z:=(Z.sel 1 [] rfl)
 exact⟨rfl,Z⟩
theorem Zde(d p m:Nat)(hs:List Int)(z:RSt)(h b:Int)(lb lo lt:Zl)(fr:Int)(hz:ROk z)(hM:Mgl z h b lb lo lt)(hrm:1≤z.room)(hf:(lb.length:Int)+lo.length+lt.length+12*((Tr.mxH (lb.length+lo.length+lt.length):Int)+2)≤fr)(Z:St g (HZ d p m hs::Xp m z::L) w) :
  Zr g L 18 [.P d,.agg (qO 10 h b 0 0 0 0 3 .N),.I fr] w fun rV=>rV (.bool false) [HZ d p m hs,Xp m z]:=by
 refine Sp.en Tryz.func18 ?_
 have _:=hf
 refine Zsp fun b1 w Z=>?_
 refine Zsg [([0,1,2,3,4,5,6,7,8,9,13,10,11,12],some (14,[])),([15,16],none)] ?_
 obtain⟨⟨u,c⟩,Z⟩:=St.exOpen (Z.at_ 1 rfl)
 replace Z:=Z.z
 refine Qz ?_
 refine Zsu 10 (.bool false) (congrArg Value.bool (decide_eq_false (by decide))) ?_
 refine Qd fun w Z=>?_
 refine Zse (C3 _ _ h b hz hM.hh hM.hn hM.hb hM.hm hrm (Z.sel 4 [3,0,0,0] rfl)) fun w Z=>?_
 refine Qd fun w Z=>?_
 refine Zsg [([0,1,2,3,4],some (5,[0,1,2,3,4])),([],some (6,[0])),([7,8],none)] ?_
 refine Qd fun w Z=>?_
 refine Qd fun w Z=>?_
 refine Zse (Zlx _ _ h b lb lo lt hz hM Z) fun w Z=>?_
 refine Qd fun w Z=>?_
 as_aux_lemma =>
 refine Sz ?_
 replace Z:=St.cl (f:=Yw d p m hs) ⟨_,_⟩ (Z.sel 3 [1,1,0] rfl)
 replace Z:=Z.z
 refine Sz ?_
 replace Z:=(Z.sel 3 [0,0] rfl)
 exact⟨congrArg Value.bool (decide_eq_false (by omega)),Z⟩
theorem Yb(h1 v1 n1 h2 v2 n2:Int)(b1 b2:Bool)(e1:h1=h2)(e2:v1=v2)(e3:b1=b2)(e4:n1=n2)(Z:St g (L) w) :
  Zr g L 19 [.agg (qA 0 h1 v1 b1 n1 .N),.agg (qA 0 h2 v2 b2 n2 .N)] w fun rV=>rV (.bool true) []:=by
 subst e1;subst e2;subst e3;subst e4
 refine(Cm ⟨0,h1,v1,b1,n1,0,0,0,0,0,0,[],[],[],[]⟩ ⟨0,h1,v1,b1,n1,0,0,0,0,0,0,[],[],[],[]⟩ none none none none none none none none 0 0 0 0 0 0 0 0 (Nat.zero_le _) (Nat.zero_le _) (Nat.zero_le _) (fun _ h=>by cases h) (fun _ h=>by cases h) ((((((((Z.nilS 2 1).nilS 181 4).nilS 32 2).nilS 5 1).nilS 2 1).nilS 181 4).nilS 32 2).nilS 5 1)).mono fun v w' h=>?_
 obtain⟨ok,h1,h2,h3⟩:=h
 have h4:ok=true:=h3.2 rfl
 subst h4
 exact⟨h1,h2.sel 8 [] rfl⟩
theorem QQ(p s a:Nat)(V:VM)(A:AM)(hA:AWf A)(Z:St g (YO p s a V::Zt a A::L) w) :
  Zr g L 15 [.P p] w fun rV=>rV (.I A.s.free) [YO p s a V,Zt a A]:=by
 refine Sp.en Tryz.func15 ?_
 refine Ztg (YB (Z:=Z)) fun w Z=>?_
 refine Zse (D9 _ _ hA (Z.sel 2 [1,0] rfl)) fun w Z=>?_
 replace Z:=(Z.sel 2 [1,0] rfl)
 exact⟨rfl,Z⟩
end Go.Proofs.YtpebgkkmgffmaaaGreatDoor
