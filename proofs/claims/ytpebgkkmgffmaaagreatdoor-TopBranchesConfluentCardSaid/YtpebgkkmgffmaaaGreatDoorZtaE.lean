/-
  What the proof of Jtb stands on, part 5.
  Conditions: none.
-/
import Derived.Test.YtpebgkkmgffmaaaGreatDoorZtaD
set_option maxRecDepth 8192
namespace Go.Proofs.YtpebgkkmgffmaaaGreatDoor
open Go Go.V
set_option maxHeartbeats 8000000
set_option maxRecDepth 8192
variable{g w:World}{L:List HP}
theorem HM(lb hb ob:Nat)(lo hi x y z q:Int)(out:List Qo)(u:Option Addr)(d:Nat)(hl:out.length≤900000000)(Z:St g (Zq lb #[.I lo] 2::Zq hb #[.I hi] 2::Zq ob #[.slice u (Yo out).length d] 35::Zp 181 4 (Yo out) u d::L) w) :
  Zr g L 357 [.agg #[.I x,.I y,.I z,.I q],.P lb,.P hb,.P ob] w fun rV=>∃(a2:Option Addr)(c2:Nat),rV (.bool (decide (y<hi))) [Zq lb #[.I lo] 2,Zq hb #[.I hi] 2,Zq ob #[.slice a2 (List.length (Yo (out++XQ lo hi (some (x,y,z,q))))) c2] 35,Zp 181 4 (Yo (out++XQ lo hi (some (x,y,z,q)))) a2 c2]:=by
 refine Sp.en Tryz.func357 ?_
 have _:=hl
 have hol:=ZH out
 refine Zsp fun b1 w Z=>?_
 refine Zs7 5 [.I y,.I hi] rfl (by exact⟨fun _=>Z.ld 0 rfl rfl,fun _=>Z.ld 2 rfl rfl⟩) (fun j=>?_)
 refine Zsx 15 rfl (Zy (dd _) (dd _)) ?_
 refine Sz ?_
 refine Zsi (fun hc=>?_) fun hc=>?_
 ·refine Zs1 rfl rfl (Yo [(x,y,z,q)]) el_35 Z (by exact⟨rfl,rfl⟩) (HS _) rfl (Nat.le_of_ble_eq_true rfl) (fun b2 w Z=>?_)
  refine Zs3 rfl rfl 5 (Yo (out++[(x,y,z,q)])) el_35 Z rfl (Z.srcO 0 rfl) (QN _ _).symm (Rm.of (by first|omega|(simp<;>omega)) (by decide)) rfl rfl (fun a1 c1 w Z=>?_)
  replace Z:=Z.z
  refine Zss fun w Z=>?_
  replace Z:=(Z.sel 2 [] rfl)
  have e9:XQ lo hi (some (x,y,z,q))=[(x,y,z,q)]:=if_pos hc;rw[e9];exact⟨_,_,rfl,Z⟩
 replace Z:=(Z.sel 1 [] rfl)
 have e9:XQ lo hi (some (x,y,z,q))=[]:=if_neg hc;rw[e9,List.append_nil];exact⟨_,_,rfl,Z⟩
theorem QX(vb ob:Nat)(lo hi k z q:Int)(out:List Qo)(il ir ml mr:Bool)(hl:out.length≤900000000)(Z:St g (Dfs vb ob lo hi out::L) w) :
  Zr g L 440 [.agg #[.I k,.I z,.I q,.bool il,.bool ir,.bool ml,.bool mr],.P vb] w fun rV=>rV (.bool (H0 hi (Yg k z q il ir))) [Dfs vb ob lo hi (out++XQ lo hi (Yg k z q il ir))]:=by
 refine Sp.en Tryz.func440 ?_
 obtain⟨⟨xl,xh,xu,xc⟩,Z⟩:=St.exOpen Z
 replace Z:=Z.z
 refine Zsp fun b1 w Z=>?_
 refine Ztm rfl (fun hil=>?_) (fun hil=>?_)
 ·have hch:Yg k z q il ir=some (1,k,0,q):=if_pos (by simpa using hil)
  refine Sz ?_
  refine Zs4 rfl rfl (cs:=[.I 1,.I k,.I 0,.I q]) zv_181.h rfl rfl<|Zt4 (bs:=[.P xl,.P xh,.P ob]) rfl rfl rfl (HM (lo:=lo) (hi:=hi) (x:=1) (y:=k) (z:=0) (q:=q) (hl:=(by omega)) (Z:=(Z.sel 6 [2,2,2,2,0,0] rfl))) rfl ?_
  clear Z;rintro _ w ⟨a1,c1,rfl,Z⟩
  replace Z:=Z.z
  refine Sz ?_
  replace Z:=St.cl (f:=Zef vb ob lo hi (out++XQ lo hi (some (1,k,0,q)))) ⟨xl,xh,a1,c1⟩ (Z.sel 6 [5,0,0,0,0,0] rfl)
  replace Z:=Z.z
  refine Sz ?_
  replace Z:=(Z.sel 2 [0] rfl)
  exact⟨by rw[hch];rfl,by rw[hch];exact Z⟩
 refine Sz ?_
 refine Ztm rfl (fun hir=>?_) (fun hir=>?_)
 ·have hch:Yg k z q il ir=some (2,k,z,0):=(by unfold Yg;rw[if_neg (by simpa using hil),if_pos (by simpa using hir)])
  refine Sz ?_
  refine Zs4 rfl rfl (cs:=[.I 2,.I k,.I z,.I 0]) zv_181.h rfl rfl<|Zt4 (bs:=[.P xl,.P xh,.P ob]) rfl rfl rfl (HM (lo:=lo) (hi:=hi) (x:=2) (y:=k) (z:=z) (q:=0) (hl:=(by omega)) (Z:=(Z.sel 6 [2,2,2,2,0,0] rfl))) rfl ?_
  clear Z;rintro _ w ⟨a1,c1,rfl,Z⟩
  replace Z:=Z.z
  refine Sz ?_
  replace Z:=St.cl (f:=Zef vb ob lo hi (out++XQ lo hi (some (2,k,z,0)))) ⟨xl,xh,a1,c1⟩ (Z.sel 6 [5,0,0,0,0,0] rfl)
  replace Z:=Z.z
  refine Sz ?_
  replace Z:=(Z.sel 2 [0] rfl)
  exact⟨by rw[hch];rfl,by rw[hch];exact Z⟩
 refine Sz ?_
 refine Zsr rfl (fun hvw=>?_) (fun hvw=>?_)
 ·have hch:Yg k z q il ir=some (3,k,z,q):=(by unfold Yg;rw[if_neg (by simpa using hil),if_neg (by simpa using hir),if_pos hvw])
  refine Sz ?_
  refine Zs4 rfl rfl (cs:=[.I 3,.I k,.I z,.I q]) zv_181.h rfl rfl<|Zt4 (bs:=[.P xl,.P xh,.P ob]) rfl rfl rfl (HM (lo:=lo) (hi:=hi) (x:=3) (y:=k) (z:=z) (q:=q) (hl:=(by omega)) (Z:=(Z.sel 6 [2,2,2,2,0,0] rfl))) rfl ?_
  clear Z;rintro _ w ⟨a1,c1,rfl,Z⟩
  replace Z:=Z.z
  refine Sz ?_
  replace Z:=St.cl (f:=Zef vb ob lo hi (out++XQ lo hi (some (3,k,z,q)))) ⟨xl,xh,a1,c1⟩ (Z.sel 6 [5,0,0,0,0,0] rfl)
  replace Z:=Z.z
  refine Sz ?_
  replace Z:=(Z.sel 2 [0] rfl)
  exact⟨by rw[hch];rfl,by rw[hch];exact Z⟩
 have hch:Yg k z q il ir=none:=(by unfold Yg;rw[if_neg (by simpa using hil),if_neg (by simpa using hir),if_neg hvw])
 refine Sz ?_
 replace Z:=St.cl (f:=Zef vb ob lo hi out) ⟨_,_,_,_⟩ (Z.sel 6 [1,1,1,1,1,0] rfl)
 replace Z:=Z.z
 refine Sz ?_
 replace Z:=(Z.sel 2 [0] rfl)
 exact⟨by rw[hch];rfl,by rw[hch];exact(by have h9:St g (Dfs vb ob lo hi out::L) w:=Z;simpa[XQ] using h9)⟩
theorem kEq{a b:Prop}{x y:Int}(h:a∧(¬b∨x≤y))(k:b∧(¬a∨y≤x)):x=y:=by
 have h1:=h.2.resolve_left (fun n=>n k.1)
 have h2:=k.2.resolve_left (fun n=>n h.1)
 omega
theorem kR{a b:Prop}{x y:Int}(k:¬(b∧(¬a∨y≤x)))(hb:b):x<y:=Int.not_le.1 fun h=>k ⟨hb,.inr h⟩
theorem kL{a b:Prop}{x y:Int}(h:¬(a∧(¬b∨x≤y)))(ha:a):y<x:=Int.not_le.1 fun k=>h ⟨ha,.inr k⟩
theorem kNo{a b:Bool}{x y:Int}(h:¬(a=true∧(¬b=true∨x≤y)))(k:¬(b=true∧(¬a=true∨y≤x)))(o:a=false→b=true):False:=by
 cases ha:a with
 |false=>exact k ⟨o ha,.inl (by rw[ha];decide)⟩
 |true =>
  cases hb:b with
  |false=>exact h ⟨ha,.inl (by rw[hb];decide)⟩
  |true =>
   have:=kL h ha
   exact k ⟨hb,.inr (Int.le_of_lt this)⟩
theorem Zr1{a b:Bool}(h:(bif (!a) then(!b) else false)=true):a=false∧b=false:=by
 cases a<;>cases b<;>simp_all
theorem Zms(Z:St g (L) w) :
  Zr g L 439 [] w fun rV=>rV (.bool true) []:=by
 refine Sp.en Tryz.func439 ?_
 exact⟨rfl,Z⟩
theorem Zh5(a:Nat)(A:AM)(R:List Int)(x y lo hi:Int)(vb ob:Nat)(tx ty:Tr)(hA:ARf A R)(hx:Is A tx x)(hy:Is A ty y)(hsx:Srt tx.ls)(hsy:Srt ty.ls)(hl:tx.n+ty.n≤100000000)(Z:St g (Zt a A::Dfs vb ob lo hi []::L) w) :
  Zr g L 263 [.P a,.W x,.W y,.func (.func 439) #[] #[],.func (.func 440) #[] #[.P vb]] w fun rV=>rV (.tuple #[]) [Zt a A,Dfs vb ob lo hi (V7 lo hi (Y4 tx.ls ty.ls))]:=by
 refine Sp.enter Tryz.func263 rfl (by kernel_rfl) (by kernel_rfl) ?_
 replace Z:St g (Zp 507 5 (HG []) none 0::Zp 507 5 (HG []) none 0::Zt a A::Dfs vb ob lo hi []::L) w:=(Z.nil_ 507 5).nil_ 507 5
 refine Sz ?_
 refine Zsk fun b1 w Z=>?_
 refine Zsk fun b2 w Z=>?_
 replace Z:=St.cl (f:=Vi b1 []) ⟨_,_⟩ (Z.sel 3 [1,1,0] rfl)
 replace Z:=Z.z
 replace Z:=St.cl (f:=Vi b2 []) ⟨_,_⟩ (Z.sel 3 [1,1,0] rfl)
 replace Z:=Z.z
 refine Sz ?_
 refine Zse (UV _ _ [] _ R x tx hA hx (by simp) (Z.sel 3 [1,1,0] rfl)) fun w Z=>?_
 refine Zse (UV _ _ [] _ R y ty hA hy (by simp) (Z.sel 3 [2,1,0] rfl)) fun w Z=>?_
 refine Zst [0,3,4,10,11] [] (fun kM vs jS=>∃(PL PR:List Pt)(out:List Qo),vs=[]∧jS [Sid b2 PR,Zt a A,Sid b1 PL,Dfs vb ob lo hi out]∧(Pv A lo hi (V7 lo hi (Y4 tx.ls ty.ls)) (3*(tx.n+ty.n)) PL PR out)∧(Xz PL+Xz PR)=kM) rfl ⟨Y7 [] x tx,Y7 [] y ty,[],rfl,Z,(⟨QS ⟨fun _ h=>by cases h⟩ hx,QS ⟨fun _ h=>by cases h⟩ hy,by rw[XB hx];simpa[rem] using hsx,by rw[XB hy];simpa[rem] using hsy,by rw[XB hx,XB hy];simp[rem],by rw[J0 hx,J0 hy];simp[Xz];omega⟩),rfl⟩ ?_
 rintro _ _ w j ⟨PL,PR,out,rfl,Z,hP,rfl⟩
 replace Z:=Z.z
 have hlL:=D8 hP.oL;have hlR:=D8 hP.oR;have hpw:=hP.w
 refine Sz ?_
 refine Zse (Zar _ _ (by omega) (Z.sel 3 [2,0,0] rfl)) fun w Z=>?_
 refine Zsk fun b3 w Z=>?_
 refine Zsh fun w Z=>?_
 refine Zse (Zar _ _ (by omega) (Z.sel 3 [2,0,0] rfl)) fun w Z=>?_
 refine Zsk fun b4 w Z=>?_
 refine Zsh fun w Z=>?_
 refine Ztd 4 rfl (fun j=>?_)
 refine Zsx 96 rfl (Zy (Jy (dv _)) (Jy (dv _))) ?_
 refine Sz ?_
 refine Ztl (fun cd1=>?_) fun cd1=>?_
 ·replace Z:=(Z.sel 4 [] rfl)
  obtain⟨n1,n2⟩:=Zr1 cd1;have m1:=Q6 n1;have m2:=Q6 n2;subst m1;subst m2;rw[hP.done] at Z;exact⟨rfl,Z⟩
 refine Zs7 20 [.bool (pS (Zj PL)),.bool (pS (Zj PR)),.W (pI (Zj PL)),.W (pI (Zj PR))] rfl (by exact⟨fun _=>Z.ld 2 rfl rfl,fun _=>Z.ld 0 rfl rfl,fun _=>Z.ld 2 rfl rfl,fun _=>Z.ld 0 rfl rfl⟩) (fun j=>?_)
 refine Zsx 118 rfl (Zy (Zy (Zy (Zy (dv _) (dv _)) (Jy (dv _))) (Jy (dv _))) (dd _)) ?_
 refine Sz ?_
 refine Ztm rfl (fun cd2=>?_) (fun cd2=>?_)
 ·obtain⟨q1,q2,q3,q4,q5⟩:=Zqw cd2;obtain⟨i0,t0,ht⟩:=U0 q1 q3;obtain⟨j0,u0,hu⟩:=U0 q2 q4;have hij:i0=j0:=(by rw[ht,hu] at q5;exact q5);subst hij;obtain⟨hb1,hb2⟩:=hP.both ht hu
  refine Sz ?_
  refine Zse (Uy _ _ (by omega) (Hn q1) (Z.sel 4 [3,0,0,0] rfl)) fun w Z=>?_
  as_aux_lemma =>
  refine Sz ?_
  refine Zse (Uy _ _ (by omega) (Hn q2) (Z.sel 3 [2,0,0] rfl)) fun w Z=>?_
  refine Zt4 (bs:=[]) rfl rfl rfl (Zms   (Z:=Z)) rfl ?_
  clear Z;rintro _ w ⟨rfl,Z⟩
  replace Z:=Z.z
  refine Sz ?_
  exact⟨_,(by first|omega|exact(hP.vLR cd5.1 (o1 cd5.1) cd6.1 (o2 cd6.1) (kEq cd5 cd6) rfl rfl rfl).2.1|exact(hP.vL (w:=0) cd5.1 (o1 cd5.1) (fun hb=>⟨o2 hb,kR cd6 hb⟩) rfl rfl).2.1|exact(hP.vR (v:=0) cd6.1 (o2 cd6.1) (fun ha=>⟨o1 ha,kL cd5 ha⟩) rfl rfl).2.1|exact(kNo cd5 cd6 o3).elim),rfl,PL.dropLast,PR.dropLast,out,rfl,(Z.sel 5 [0,3,0] rfl),hb1,rfl⟩
 refine Sz ?_
 refine Zs7 20 [.bool (pS (Zj PL)),.bool (pS (Zj PR)),.I (pN (Zj PL)),.I (pN (Zj PR))] rfl (by exact⟨fun _=>Z.ld 2 rfl rfl,fun _=>Z.ld 0 rfl rfl,fun _=>Z.ld 2 rfl rfl,fun _=>Z.ld 0 rfl rfl⟩) (fun j=>?_)
 refine Zsx 145 rfl (Zy (Zy (dv _) (Jy (dv _))) (X2 (X2 (Jy (dv _)) (dv _)) (dd _))) ?_
 as_aux_lemma =>
 refine Sz ?_
 refine Ztm rfl (fun cd3=>?_) (fun cd3=>?_)
 ·obtain⟨q1,q2⟩:=Zq7 cd3;obtain⟨i0,t0,ht⟩:=U0 q1 q2;obtain⟨k0,z0,tl0,tr0,ht2,hi0,hp2,hw2⟩:=hP.expL ht
  refine Sz ?_
  refine Zse (Zjj _ _ _ _ R i0 k0 z0 tl0 tr0 hA ht2 hi0 (by omega) (Z.sel 5 [3,3,0,0,0] rfl)) fun w Z=>?_
  exact⟨_,(by first|omega|exact(hP.vLR cd5.1 (o1 cd5.1) cd6.1 (o2 cd6.1) (kEq cd5 cd6) rfl rfl rfl).2.1|exact(hP.vL (w:=0) cd5.1 (o1 cd5.1) (fun hb=>⟨o2 hb,kR cd6 hb⟩) rfl rfl).2.1|exact(hP.vR (v:=0) cd6.1 (o2 cd6.1) (fun ha=>⟨o1 ha,kL cd5 ha⟩) rfl rfl).2.1|exact(kNo cd5 cd6 o3).elim),rfl,Uo PL.dropLast A i0 k0 z0 tl0 tr0,PR,out,rfl,(Z.sel 5 [3,1,0] rfl),hp2,rfl⟩
 refine Sz ?_
 refine Zs7 5 [.bool (pS (Zj PR))] rfl (by exact(fun _=>Z.ld 0 rfl rfl)) (fun j=>?_)
 refine Zsx 154 rfl (Zy (dv _) (Jy (dv _))) ?_
 refine Sz ?_
 refine Ztm rfl (fun cd4=>?_) (fun cd4=>?_)
 ·obtain⟨q1,q2⟩:=Zk9 cd4;obtain⟨i0,t0,ht⟩:=U0 q1 q2;obtain⟨k0,z0,tl0,tr0,ht2,hi0,hp2,hw2⟩:=hP.expR ht
  refine Sz ?_
  refine Zse (Zjj _ _ _ _ R i0 k0 z0 tl0 tr0 hA ht2 hi0 (by omega) (Z.sel 5 [1,3,0,0,0] rfl)) fun w Z=>?_
  exact⟨_,(by first|omega|exact(hP.vLR cd5.1 (o1 cd5.1) cd6.1 (o2 cd6.1) (kEq cd5 cd6) rfl rfl rfl).2.1|exact(hP.vL (w:=0) cd5.1 (o1 cd5.1) (fun hb=>⟨o2 hb,kR cd6 hb⟩) rfl rfl).2.1|exact(hP.vR (v:=0) cd6.1 (o2 cd6.1) (fun ha=>⟨o1 ha,kL cd5 ha⟩) rfl rfl).2.1|exact(kNo cd5 cd6 o3).elim),rfl,PL,Uo PR.dropLast A i0 k0 z0 tl0 tr0,out,rfl,(Z.sel 4 [0,0] rfl),hp2,rfl⟩
 obtain⟨o1,o2,o3⟩:=Zpy cd1 cd3 cd4
 refine Sz ?_
 refine Zs4 rfl rfl (cs:=[.I 0,.I 0,.I 0,.bool false,.bool false,.bool (Zj PL).isSome,.bool (Zj PR).isSome]) zv_390.h rfl rfl<|Zsk fun b5 w Z=>?_
 refine Zsh fun w Z=>?_
 refine Zs7 13 [.I (pK (Zj PL)),.I (pK (Zj PR))] rfl (by exact⟨fun _=>Z.ld 3 rfl rfl,fun _=>Z.ld 1 rfl rfl⟩) (fun j=>?_)
 refine Zsx 47 rfl (Zy (dv _) (X2 (Jy (dv _)) (dd _)))<|Zss fun w Z=>?_
 refine Zs7 13 [.I (pK (Zj PR)),.I (pK (Zj PL))] rfl (by exact⟨fun _=>Z.ld 1 rfl rfl,fun _=>Z.ld 3 rfl rfl⟩) (fun j=>?_)
 refine Zsx 62 rfl (Zy (dv _) (X2 (Jy (dv _)) (dd _)))<|Zss fun w Z=>?_
 refine Zsi (fun cd5=>?_) fun cd5=>?_
 ·refine Zsg [([0,3,1,4,2,5,6],some (7,[3,4,5])),([8],some (9,[]))] ?_
  refine Qd fun w Z=>?_
  refine Zss fun w Z=>?_
  refine Qd fun w Z=>?_
  refine Zss fun w Z=>?_
  refine Qd fun w Z=>?_
  refine Zse (Uy _ _ (by omega) (Hn cd5.1) (Z.sel 5 [4,0,0,0,0] rfl)) fun w Z=>?_
  refine Zsi (fun cd6=>?_) fun cd6=>?_
  ·refine Zsg [([0,3,1,4,2,5,6],some (7,[3,4,5])),([8],some (9,[]))] ?_
   refine Qd fun w Z=>?_
   refine Zss fun w Z=>?_
   refine Qd fun w Z=>?_
   refine Zss fun w Z=>?_
   refine Qd fun w Z=>?_
   as_aux_lemma =>
   refine Sz ?_
   refine Zse (Uy _ _ (by omega) (Hn cd6.1) (Z.sel 4 [3,0,0,0] rfl)) fun w Z=>?_
   refine Zt4 (bs:=[.P vb]) rfl rfl rfl (QX (k:=pK (Zj PR)) (z:=pV (Zj PL)) (q:=pV (Zj PR)) (il:=decide (((Zj PL).isSome=true)∧((¬((Zj PR).isSome=true))∨((pK (Zj PL))≤(pK (Zj PR)))))) (ir:=decide (((Zj PR).isSome=true)∧((¬((Zj PL).isSome=true))∨((pK (Zj PR))≤(pK (Zj PL)))))) (ml:=(Zj PL).isSome) (mr:=(Zj PR).isSome) (hl:=(by omega)) (Z:=(Z.sel 7 [6,0,0,0,0,0,0] rfl))) rfl ?_
   clear Z;rintro _ w ⟨rfl,Z⟩
   replace Z:=Z.z
   refine Sz ?_
   refine Ztl (fun cd7=>?_) fun cd7=>?_
   ·replace Z:=(Z.sel 7 [6,0] rfl)
    rw[decide_eq_true cd5,decide_eq_true cd6] at cd7 Z;rw[(hP.vLR cd5.1 (o1 cd5.1) cd6.1 (o2 cd6.1) (kEq cd5 cd6) rfl rfl rfl).2.2 (by simpa using cd7)] at Z;exact⟨rfl,Z⟩
   exact⟨_,(by first|omega|exact(hP.vLR cd5.1 (o1 cd5.1) cd6.1 (o2 cd6.1) (kEq cd5 cd6) rfl rfl rfl).2.1|exact(hP.vL (w:=0) cd5.1 (o1 cd5.1) (fun hb=>⟨o2 hb,kR cd6 hb⟩) rfl rfl).2.1|exact(hP.vR (v:=0) cd6.1 (o2 cd6.1) (fun ha=>⟨o1 ha,kL cd5 ha⟩) rfl rfl).2.1|exact(kNo cd5 cd6 o3).elim),rfl,PL.dropLast,PR.dropLast,_,rfl,(Z.sel 7 [1,5,1,0] rfl),(by rw[decide_eq_true cd5,decide_eq_true cd6] at cd7 ⊢;exact(hP.vLR cd5.1 (o1 cd5.1) cd6.1 (o2 cd6.1) (kEq cd5 cd6) rfl rfl rfl).1 (by simpa using cd7)),rfl⟩
  refine Zt4 (bs:=[.P vb]) rfl rfl rfl (QX (k:=pK (Zj PL)) (z:=pV (Zj PL)) (q:=0) (il:=decide (((Zj PL).isSome=true)∧((¬((Zj PR).isSome=true))∨((pK (Zj PL))≤(pK (Zj PR)))))) (ir:=decide (((Zj PR).isSome=true)∧((¬((Zj PL).isSome=true))∨((pK (Zj PR))≤(pK (Zj PL)))))) (ml:=(Zj PL).isSome) (mr:=(Zj PR).isSome) (hl:=(by omega)) (Z:=(Z.sel 7 [6,0,0,0,0,0,0] rfl))) rfl ?_
  clear Z;rintro _ w ⟨rfl,Z⟩
  replace Z:=Z.z
  as_aux_lemma =>
  refine Sz ?_
  refine Ztl (fun cd7=>?_) fun cd7=>?_
  ·replace Z:=(Z.sel 7 [6,0] rfl)
   rw[decide_eq_true cd5,decide_eq_false cd6] at cd7 Z;rw[(hP.vL (w:=0) cd5.1 (o1 cd5.1) (fun hb=>⟨o2 hb,kR cd6 hb⟩) rfl rfl).2.2 (by simpa using cd7)] at Z;exact⟨rfl,Z⟩
  exact⟨_,(by first|omega|exact(hP.vLR cd5.1 (o1 cd5.1) cd6.1 (o2 cd6.1) (kEq cd5 cd6) rfl rfl rfl).2.1|exact(hP.vL (w:=0) cd5.1 (o1 cd5.1) (fun hb=>⟨o2 hb,kR cd6 hb⟩) rfl rfl).2.1|exact(hP.vR (v:=0) cd6.1 (o2 cd6.1) (fun ha=>⟨o1 ha,kL cd5 ha⟩) rfl rfl).2.1|exact(kNo cd5 cd6 o3).elim),rfl,PL.dropLast,PR,_,rfl,(Z.sel 7 [4,5,1,0] rfl),(by rw[decide_eq_true cd5,decide_eq_false cd6] at cd7 ⊢;exact(hP.vL (w:=0) cd5.1 (o1 cd5.1) (fun hb=>⟨o2 hb,kR cd6 hb⟩) rfl rfl).1 (by simpa using cd7)),rfl⟩
 refine Zsi (fun cd6=>?_) fun cd6=>?_
 ·refine Zsg [([0,3,1,4,2,5,6],some (7,[3,4,5])),([8],some (9,[]))] ?_
  refine Qd fun w Z=>?_
  refine Zss fun w Z=>?_
  refine Qd fun w Z=>?_
  refine Zss fun w Z=>?_
  refine Qd fun w Z=>?_
  refine Zse (Uy _ _ (by omega) (Hn cd6.1) (Z.sel 3 [2,0,0] rfl)) fun w Z=>?_
  refine Zt4 (bs:=[.P vb]) rfl rfl rfl (QX (k:=pK (Zj PR)) (z:=0) (q:=pV (Zj PR)) (il:=decide (((Zj PL).isSome=true)∧((¬((Zj PR).isSome=true))∨((pK (Zj PL))≤(pK (Zj PR)))))) (ir:=decide (((Zj PR).isSome=true)∧((¬((Zj PL).isSome=true))∨((pK (Zj PR))≤(pK (Zj PL)))))) (ml:=(Zj PL).isSome) (mr:=(Zj PR).isSome) (hl:=(by omega)) (Z:=(Z.sel 7 [6,0,0,0,0,0,0] rfl))) rfl ?_
  clear Z;rintro _ w ⟨rfl,Z⟩
  replace Z:=Z.z
  as_aux_lemma =>
  refine Sz ?_
  refine Ztl (fun cd7=>?_) fun cd7=>?_
  ·replace Z:=(Z.sel 7 [6,0] rfl)
   rw[decide_eq_false cd5,decide_eq_true cd6] at cd7 Z;rw[(hP.vR (v:=0) cd6.1 (o2 cd6.1) (fun ha=>⟨o1 ha,kL cd5 ha⟩) rfl rfl).2.2 (by simpa using cd7)] at Z;exact⟨rfl,Z⟩
  exact⟨_,(by first|omega|exact(hP.vLR cd5.1 (o1 cd5.1) cd6.1 (o2 cd6.1) (kEq cd5 cd6) rfl rfl rfl).2.1|exact(hP.vL (w:=0) cd5.1 (o1 cd5.1) (fun hb=>⟨o2 hb,kR cd6 hb⟩) rfl rfl).2.1|exact(hP.vR (v:=0) cd6.1 (o2 cd6.1) (fun ha=>⟨o1 ha,kL cd5 ha⟩) rfl rfl).2.1|exact(kNo cd5 cd6 o3).elim),rfl,PL,PR.dropLast,_,rfl,(Z.sel 7 [1,5,4,0] rfl),(by rw[decide_eq_false cd5,decide_eq_true cd6] at cd7 ⊢;exact(hP.vR (v:=0) cd6.1 (o2 cd6.1) (fun ha=>⟨o1 ha,kL cd5 ha⟩) rfl rfl).1 (by simpa using cd7)),rfl⟩
 refine Zt4 (bs:=[.P vb]) rfl rfl rfl (QX (k:=0) (z:=0) (q:=0) (il:=decide (((Zj PL).isSome=true)∧((¬((Zj PR).isSome=true))∨((pK (Zj PL))≤(pK (Zj PR)))))) (ir:=decide (((Zj PR).isSome=true)∧((¬((Zj PL).isSome=true))∨((pK (Zj PR))≤(pK (Zj PL)))))) (ml:=(Zj PL).isSome) (mr:=(Zj PR).isSome) (hl:=(by omega)) (Z:=(Z.sel 7 [6,0,0,0,0,0,0] rfl))) rfl ?_
 clear Z;rintro _ w ⟨rfl,Z⟩
 replace Z:=Z.z
 refine Sz ?_
 refine Ztl (fun cd7=>?_) fun cd7=>?_
 ·replace Z:=(Z.sel 7 [6,0] rfl)
  exact(kNo cd5 cd6 o3).elim
 exact⟨_,(by first|omega|exact(hP.vLR cd5.1 (o1 cd5.1) cd6.1 (o2 cd6.1) (kEq cd5 cd6) rfl rfl rfl).2.1|exact(hP.vL (w:=0) cd5.1 (o1 cd5.1) (fun hb=>⟨o2 hb,kR cd6 hb⟩) rfl rfl).2.1|exact(hP.vR (v:=0) cd6.1 (o2 cd6.1) (fun ha=>⟨o1 ha,kL cd5 ha⟩) rfl rfl).2.1|exact(kNo cd5 cd6 o3).elim),rfl,PL,PR,_,rfl,(Z.sel 7 [3,5,4,0] rfl),(kNo cd5 cd6 o3).elim,rfl⟩
end Go.Proofs.YtpebgkkmgffmaaaGreatDoor
namespace Go.Proofs.YtpebgkkmgffmaaaGreatDoor
open Go Go.V
theorem Zf4(l:Zl):Y4 l l=[]:=by
 have h:=Qw [] [] l
 rw[List.append_nil,Y4] at h
 exact h
set_option maxHeartbeats 8000000
set_option maxRecDepth 8192
variable{g w:World}{L:List HP}
theorem Zlc(a:Nat)(A:AM)(R:List Int)(x y lo hi:Int)(lb hb ob:Nat)(tx ty:Tr)(hA:ARf A R)(hx:Is A tx x)(hy:Is A ty y)(hsx:Srt tx.ls)(hsy:Srt ty.ls)(hl:tx.n+ty.n≤100000000)(Z:St g (Zt a A::Zq lb #[.I lo] 2::Zq hb #[.I hi] 2::Zq ob #[.N] 35::L) w) :
  Zr g L 356 [.P a,.W x,.W y,.func (.func 357) #[] #[.P lb,.P hb,.P ob]] w fun rV=>∃(vb:Nat),rV (.tuple #[]) [Zt a A,Dfs vb ob lo hi (V7 lo hi (Y4 tx.ls ty.ls))]:=by
 refine Sp.enter Tryz.func356 rfl (by kernel_rfl) (by kernel_rfl) ?_
 replace Z:St g (Zp 181 4 (Yo []) none 0::Zt a A::Zq lb #[.I lo] 2::Zq hb #[.I hi] 2::Zq ob #[.N] 35::L) w:=Z.nil_ 181 4
 refine Sz ?_
 refine Zsp fun b1 w Z=>?_
 replace Z:=St.cl (f:=Zef b1 ob lo hi []) ⟨_,_,_,_⟩ (Z.sel 6 [0,2,2,2,0,0] rfl)
 replace Z:=Z.z
 refine Sz ?_
 refine Zsi (fun he=>?_) fun he=>?_
 ·replace Z:=(Z.sel 2 [1,0] rfl)
  subst he;have e9:=Is.fn hx hy;subst e9;rw[Zf4];exact⟨_,rfl,Z⟩
 refine Zvq rfl rfl (vs:=[.P b1]) rfl<|Zse (Zh5 _ _ R x y _ _ _ _ tx ty hA hx hy hsx hsy hl (Z.sel 2 [1,0] rfl)) fun w Z=>?_
 exact⟨_,rfl,Z⟩
theorem Zj1(a:Nat)(A:AM)(R:List Int)(x y lo hi:Int)(tx ty:Tr)(hA:ARf A R)(hx:Is A tx x)(hy:Is A ty y)(hsx:Srt tx.ls)(hsy:Srt ty.ls)(hl:tx.n+ty.n≤100000000)(Z:St g (Zt a A::L) w) :
  Zr g L 234 [.P a,.W x,.W y,.I lo,.I hi] w fun rV=>∃(a2:Option Addr)(c2:Nat),rV (.slice a2 (List.length (Yo (V7 lo hi (Y4 tx.ls ty.ls)))) c2) [Zp 181 4 (Yo (V7 lo hi (Y4 tx.ls ty.ls))) a2 c2,Zt a A]:=by
 refine Sp.en Tryz.func234 ?_
 refine Zsp fun b1 w Z=>?_
 refine Zsp fun b2 w Z=>?_
 refine Zsk fun b3 w Z=>?_
 refine Zvq rfl rfl (vs:=[.P b1,.P b2,.P b3]) rfl<|Zt7 (Zlc _ _ R x y lo hi _ _ _ tx ty hA hx hy hsx hsy hl (Z.sel 4 [3,2,1,0] rfl)) fun w vb1 Z=>?_
 obtain⟨⟨xl,xh,xu,xc⟩,Z⟩:=St.exOpen (Z.at_ 1 rfl)
 replace Z:=Z.z
 refine Sz ?_
 replace Z:=(Z.sel 4 [] rfl)
 exact⟨_,_,rfl,Z⟩
end Go.Proofs.YtpebgkkmgffmaaaGreatDoor
namespace Go.V
open Go Go.RowKit
structure TxA where
 m:Nat
 u:Option Addr
 c:Nat
end Go.V
namespace Go.Proofs.YtpebgkkmgffmaaaGreatDoor
open Go Go.V Go.RowKit Go.Maps
set_option maxHeartbeats 8000000
set_option maxRecDepth 8192
def Zo0(k:Int)(M:J3):Prop:=(UP k M).isSome=false∧1000≤M.length
instance(k:Int)(M:J3):Decidable (Zo0 k M):=by unfold Zo0;infer_instance
end Go.Proofs.YtpebgkkmgffmaaaGreatDoor
namespace Go.Proofs.YtpebgkkmgffmaaaGreatDoor
open Go Go.V Go.RowKit Go.Maps Go.Sort Go.Shelf
set_option maxHeartbeats 8000000
set_option maxRecDepth 8192
theorem WOk.pick{xs:List WE}{q:Nat}{M:J3}(h:WOk xs q M){k:Nat}{e:Int×Bool×Int}(he:M[k]?=some e):∃(j:Nat)(y:WE),xs[j]?=some y∧y.k=e.1∧y.p=e.2.1∧y.v=e.2.2:=by
 obtain⟨y,hy,rfl⟩:=(h.mem e).1 (List.mem_of_getElem? he)
 obtain⟨j,hj⟩:=List.mem_iff_getElem?.1 hy
 exact⟨j,y,hj,rfl,rfl,rfl⟩
end Go.Proofs.YtpebgkkmgffmaaaGreatDoor
namespace Go.Proofs.YtpebgkkmgffmaaaGreatDoor
open Go Go.V Go.RowKit Go.Maps
set_option maxHeartbeats 8000000
set_option maxRecDepth 8192
def JB(u:Tr)(e:Int×Bool×Int):Tr:=if e.2.1 then Tr.ins e.1 e.2.2 u else Tr.del e.1 u
def XY(u:Tr)(e:Int×Bool×Int):Nat:=if e.2.1 then Tr.ic e.1 e.2.2 u else Tr.dc e.1 u
def Xa(W:J3)(t:Tr):Tr:=W.foldl JB t
def Qy:J3→Tr→Nat
 |[],_=>0
 |e::l,t=>XY t e+Qy l (JB t e)
theorem Dq{W:J3}{k:Nat}{e:Int×Bool×Int}{t:Tr}(h:W[k]?=some e):Xa (W.take (k+1)) t=JB (Xa (W.take k) t) e:=by
 unfold Xa;rw[List.take_add_one,h,List.foldl_append];rfl
theorem C'(e:Int×Bool×Int):∀(W:J3)(t:Tr),Qy (W++[e]) t=Qy W t+XY (Xa W t) e
 |[],t=>by simp[Qy,Xa]
 |f::l,t=>by
  have h:=C' e l (JB t f)
  show XY t f+Qy (l++[e]) (JB t f)=XY t f+Qy l (JB t f)+XY (Xa l (JB t f)) e
  omega
theorem Dm{W:J3}{k:Nat}{e:Int×Bool×Int}{t:Tr}(h:W[k]?=some e):Qy (W.take (k+1)) t=Qy (W.take k) t+XY (Xa (W.take k) t) e:=by
 rw[List.take_add_one,h];exact C' e _ t
theorem Zq2(u:Tr)(e:Int×Bool×Int):(JB u e).n≤u.n+1:=by
 unfold JB
 split
 ·have:=Tr.ins_n e.1 e.2.2 u;split at this<;>omega
 have:=Tr.del_n e.1 u;split at this<;>omega
theorem V8:∀(W:J3)(t:Tr),(Xa W t).n≤t.n+W.length
 |[],t=>Nat.le_refl _
 |e::l,t=>by
  have h1:=V8 l (JB t e)
  have h2:=Zq2 t e
  show(Xa l (JB t e)).n≤t.n+(l.length+1)
  omega
end Go.Proofs.YtpebgkkmgffmaaaGreatDoor
namespace Go.Proofs.YtpebgkkmgffmaaaGreatDoor
open Go Go.V Go.RowKit Go.Maps
theorem TOp.fin{A B C:AM}{R:List Int}{r o:Int}{u:Tr}{c:Nat}(h:TOp A B (r::R) o u c)(k:Rl B C (o::R)):TOp A C R o u c :=
 ⟨k.ref,k.kp o (by simp) u h.is,(h.kp.sub Di).trans (k.kp.sub Di),by have:=h.fr;have:=k.fr;omega,by rw[k.cap,h.cap]⟩
set_option maxHeartbeats 8000000
set_option maxRecDepth 8192
end Go.Proofs.YtpebgkkmgffmaaaGreatDoor
namespace Go.V
open Go Go.RowKit
theorem ARf.tree0{A:AM}{R:List Int}(h:ARf A R){r:Int}(hr:r∈R):∃t,Is A t r :=
 h.tree (A.sz r).toNat r (h.ref r hr) (by omega)
theorem Zo9{A B:AM}{R:List Int}{i:Int}{t:Tr}(hA:ARf A R)(hB:ARf B (i::R))(kp:Kp A B R)(hi:Is B t i)(hc:B.s.used.length=A.s.used.length):A.s.free≤B.s.free+t.n:=by
 have e1:=AM.cnt_live hA.s
 have e2:=AM.cnt_live hB.s
 have c1:A.s.cap=(A.s.used.length:Int)-1:=rfl
 have c2:B.s.cap=(B.s.used.length:Int)-1:=rfl
 have hsub:∀j∈B.live,j∈A.live++ixs B t i:=fun j hj=>by
  obtain⟨h0,h2⟩:=(B.mem_live j).1 hj
  have h3:=(SM.ok_rng hB.s h0 h2).1
  have Z:(∃r∈R,∃u,Is A u r∧j∈ixs A u r)∨j∈ixs B t i:=by
   refine Zcq hB (fun j=>(∃r∈R,∃u,Is A u r∧j∈ixs A u r)∨j∈ixs B t i) (fun x hx hne=>?_) (fun j _ _ hj c hc hne=>?_) j h3 h2
   ·rcases List.mem_cons.1 hx with rfl|hx
    ·exact .inr (Jj hi hne)
    obtain⟨u,hu⟩:=hA.tree0 hx
    exact .inl ⟨x,hx,u,hu,Jj hu hne⟩
   rcases hj with⟨r,hr,u,hu,hj⟩|hj
   ·refine .inl ⟨r,hr,u,hu,?_⟩
    rw[←kp.ix r hr u hu] at hj ⊢
    exact J' u r (kp.is r hr u hu) j hj c hc hne
   exact .inr (J' t i hi j hj c hc hne)
  rcases Z with⟨r,hr,u,hu,hj⟩|hj
  ·have:=DH A u r hu j hj
   exact List.mem_append_left _ ((A.mem_live j).2 ⟨by omega,this.2⟩)
  exact List.mem_append_right _ hj
 have h4:=Dr B.live_nodup hsub
 rw[List.length_append,Cz B hi] at h4
 omega
end Go.V
namespace Go.Proofs.YtpebgkkmgffmaaaGreatDoor
open Go Go.V Go.RowKit Go.Maps
theorem Zkq{u:Tr}(h:u.ok)(e:Int×Bool×Int):(JB u e).ok:=by
 unfold JB;split
 ·exact Tr.ins_ok _ _ _ h
 exact Tr.del_ok _ _ h
theorem Cc:∀(W:J3){t:Tr},t.ok→(Xa W t).ok
 |[],_,h=>h
 |e::W,_,h=>Cc W (Zkq h e)
theorem Zcx{u:Tr}(h:Srt u.ls)(e:Int×Bool×Int):(JB u e).ls=lw1 u.ls e:=by
 unfold JB lw1;split
 ·exact Tr.ins_ls _ _ _ h
 exact Tr.del_ls _ _ h
theorem Zcb:∀(W:J3){t:Tr},Srt t.ls→(Xa W t).ls=lwA W t.ls
 |[],_,_=>rfl
 |e::W,t,h=>by
  show(Xa W (JB t e)).ls=lwA W (lw1 t.ls e)
  rw[←Zcx h]
  exact Zcb W (by rw[Zcx h];exact D4 h)
set_option maxHeartbeats 8000000
set_option maxRecDepth 8192
end Go.Proofs.YtpebgkkmgffmaaaGreatDoor
namespace Go.Proofs.YtpebgkkmgffmaaaGreatDoor
open Go Go.V Go.RowKit
theorem Zia{A:AM}{R:List Int}{t:Tr}{W:J3}(hA:ARf A R)(hok:t.ok)(hn:t.n+W.length≤60000)(hf:(t.n:Int)+W.length+4*((Tr.mxH (t.n+W.length):Int)+2)≤A.s.free){k:Nat}{e:Int×Bool×Int}{B:AM}{o:Int}(he:W[k]?=some e)(hT:TOp A B R o (Xa (W.take k) t) (Qy (W.take k) t)):(XY (Xa (W.take k) t) e:Int)≤B.s.free:=by
 have hk:=(List.getElem?_eq_some_iff.1 he).1
 have h1:=Zo9 hA hT.ref hT.kp hT.is hT.cap
 have h2:=V8 (W.take k) t
 have h3:=List.length_take_le k W
 have h4:=Cc (W.take k) hok
 have h5:=Tr.mxH_mono (a:=(Xa (W.take k) t).n+1) (b:=t.n+W.length) (by omega)
 have h6:=Tr.mxH_mono (a:=(Xa (W.take k) t).n) (b:=t.n+W.length) (by omega)
 have h7:=Tr.ic_res e.1 e.2.2 _ h4 (by omega)
 have h8:=Tr.dc_res e.1 _ h4 (by omega)
 unfold XY
 split<;>omega
theorem Zmw{c:Qo}{u:Tr}{f:Int}(h:¬c.1=2)(hc:(XY u (Hs c):Int)≤f):(Tr.ic c.2.1 c.2.2.2 u:Int)≤f:=by
 unfold XY at hc;rwa[if_pos (show(Hs c).2.1=true from decide_eq_true h)] at hc
theorem Zk4{c:Qo}{u:Tr}{f:Int}(h:c.1=2)(hc:(XY u (Hs c):Int)≤f):(Tr.dc c.2.1 u:Int)≤f:=by
 unfold XY at hc;rwa[if_neg (by show ¬decide (c.1≠2)=true;simp[h])] at hc
theorem Zle{A B C:AM}{R:List Int}{o j:Int}{W:J3}{k:Nat}{c:Qo}{t:Tr}(he:W[k]?=some (Hs c))(h:¬c.1=2)(hT:TOp A B R o (Xa (W.take k) t) (Qy (W.take k) t))(f:TOp B C R j (Tr.ins c.2.1 c.2.2.2 (Xa (W.take k) t)) (Tr.ic c.2.1 c.2.2.2 (Xa (W.take k) t))):TOp A C R j (Xa (W.take (k+1)) t) (Qy (W.take (k+1)) t):=by
 have hp:(Hs c).2.1=true:=decide_eq_true h
 rw[Dq he,Dm he]
 unfold JB XY
 rw[if_pos hp,if_pos hp]
 exact f.after hT.ch (fun _ hr=>hr) (Nat.le_refl _)
theorem Zmq{A B C:AM}{R:List Int}{o j:Int}{W:J3}{k:Nat}{c:Qo}{t:Tr}(he:W[k]?=some (Hs c))(h:c.1=2)(hT:TOp A B R o (Xa (W.take k) t) (Qy (W.take k) t))(f:TOp B C R j (Tr.del c.2.1 (Xa (W.take k) t)) (Tr.dc c.2.1 (Xa (W.take k) t))):TOp A C R j (Xa (W.take (k+1)) t) (Qy (W.take (k+1)) t):=by
 have hp:¬(Hs c).2.1=true:=by show ¬decide (c.1≠2)=true;simp[h]
 rw[Dq he,Dm he]
 unfold JB XY
 rw[if_neg hp,if_neg hp]
 exact f.after hT.ch (fun _ hr=>hr) (Nat.le_refl _)
set_option maxHeartbeats 8000000
set_option maxRecDepth 8192
variable{g w:World}{L:List HP}
theorem Zjw(n m p:Nat)(hn:n+m+p≤65536)(Z:St g (L) w) :
  Zr g L 348 [.I (n:Int),.I (m:Int),.I (p:Int)] w fun rV=>rV (.I ((n:Int)+m+p+12*((Tr.mxH (n+m+p):Int)+2))) []:=by
 refine Sp.en Tryz.func348 ?_
 have _:=hn
 refine Zs1 rfl rfl (Ze [(n:Int),(m:Int),(p:Int)]) el_72 Z (by exact⟨rfl,rfl,rfl,rfl,rfl,rfl⟩) (YR _) rfl (Nat.le_of_ble_eq_true rfl) (fun b1 w Z=>?_)
 replace Z:=(Z.at_ 0 rfl).share
 replace Z:=Z.z
 refine Zse (Ve [(n:Int),(m:Int),(p:Int)] (some ⟨b1,0,none⟩) (Ze [(n:Int),(m:Int),(p:Int)]).length (by simp) Z) fun w Z=>?_
 refine Zs8 rfl (by simp;omega) ?_
 refine Sy ?_
 have hmx:=Tr.mxH_le (n+m+p)
 refine Zt3 rfl rfl rfl (by omega) ?_
 refine Sy ?_
 refine Zso 1 rfl<|Zsf 18 (.I ((n+m+p:Nat):Int)) (congrArg (Value.int .i64) (by rw[Yf (by omega)];omega)) ?_
 refine Sz ?_
 refine Zse (Zb4 12 (n+m+p:Nat) (by omega) (by omega) Z) fun w Z=>?_
 replace Z:=(Z.sel 1 [] rfl)
 exact⟨rfl,Z⟩
theorem Zcz(a:Nat)(A:AM)(R:List Int)(x y:Int)(tx ty:Tr)(hA:ARf A R)(hx:Is A tx x)(hy:Is A ty y)(hsx:Srt tx.ls)(hsy:Srt ty.ls)(hkx:X_ tx.ls)(hky:X_ ty.ls)(hl:tx.n+ty.n≤100000000)(Z:St g (Zt a A::L) w) :
  Zr g L 126 [.P a,.W x,.W y] w fun rV=>∃(a2:Option Addr)(c2:Nat),rV (.slice a2 (Yo (Y4 tx.ls ty.ls)).length c2) [Zp 181 4 (Yo (Y4 tx.ls ty.ls)) a2 c2,Zt a A]:=by
 refine Sp.en Tryz.func126 ?_
 refine Zsz (Zj1 _ _ R x y (-9223372036854775808) 9223372036854775807 tx ty hA hx hy hsx hsy hl Z) fun w a1 c1 Z=>?_
 rw[Ziu hkx hky] at Z ⊢;exact⟨_,_,rfl,Z⟩
theorem Zl5{A:AM}{b o t r:Int}{tb to tt:Tr}(hb:Is A tb b)(ho:Is A to o)(ht:Is A tt t)(hsb:Srt tb.ls)(hso:Srt to.ls)(hst:Srt tt.ls)(hoo:to.ok)(hot:tt.ok){ok:Bool}(h:ok=true∧((b=o∧r=t)∨(b=t∧r=o)∨(o=t∧r=o))):∃u:Tr,Is A u r∧u.ok∧u.ls=Z4 tb.ls tt.ls to.ls:=by
 rcases h.2 with⟨rfl,rfl⟩|⟨rfl,rfl⟩|⟨rfl,rfl⟩
 ·rw[hb.fn ho] at hsb ⊢;exact⟨tt,ht,hot,(Zgg hso hst).symm⟩
 ·rw[hb.fn ht];exact⟨to,ho,hoo,(Zbk hst hso).symm⟩
 rw[ho.fn ht] at hso ⊢;exact⟨tt,ho.fn ht▸ho,hot,(Ziq hsb hst).symm⟩
theorem Zq3{p q:Prop}[Decidable p][Decidable q](h:(bif decide p then true else decide q)=true):p∨q:=by
 by_cases hp:p
 ·exact .inl hp
 simp[hp] at h;exact .inr h
theorem Zkc(b o t:Int)(Z:St g (L) w) :
  Cp g L 347 [.W b,.W o,.W t] w fun rV=>∃(r:Int)(ok:Bool),rV (.tuple #[.W r,.bool ok]) [] ((ok=true∧((b=o∧r=t)∨(b=t∧r=o)∨(o=t∧r=o)))∨ok=false):=by
 refine Sp.en Tryz.func347 ?_
 refine Zsi (fun h1=>?_) fun h1=>?_
 ·exact⟨_,_,rfl,Z,.inl ⟨rfl,.inl ⟨h1,rfl⟩⟩⟩
 refine Ztd 5 rfl (fun j=>?_)
 refine Zsx 21 rfl (X2 (dd _) (dd _)) ?_
 refine Sz ?_
 refine Ztl (fun h2=>?_) fun h2=>?_
 ·exact⟨_,_,rfl,Z,.inl ⟨rfl,(Zq3 h2).elim (fun h=>.inr (.inl ⟨h,rfl⟩)) (fun h=>.inr (.inr ⟨h,rfl⟩))⟩⟩
 exact⟨_,_,rfl,Z,.inr rfl⟩
theorem Zm2(p q:List Qo)(ua ub:Option Addr)(da db:Nat)(hp:p.length≤100000)(hq:q.length≤100000)(hd:∀c∈p,∀d∈q,c.2.1≠d.2.1)(Z:St g (Sh 181 4 (Yo p) ua da::Sh 181 4 (Yo q) ub db::L) w) :
  Zr g L 349 [.slice ua (Yo p).length da,.slice ub (Yo q).length db,.I 3] w fun rV=>∃(a2:Option Addr)(c2:Nat),rV (.tuple #[.slice a2 (Yo q).length c2,.N]) [Zp 181 4 (Yo q) a2 c2]:=by
 refine Sp.en Tryz.func349 ?_
 have _:=hq
 have _:=hp
 have hpl:=ZH p;have hql:=ZH q
 replace Z:=Z.nil_ 181 4
 refine Sz ?_
 refine Zst [0,2,6,7,14,15] [8,9,10,16] (fun kM vs jS=>∃(k i:Nat)(acc:List Qo)(u:Option Addr)(d:Nat),vs=[.slice u (Yo acc).length d,.N,.I (i:Int),.I (k:Int)]∧jS [Zp 181 4 (Yo acc) u d]∧(k≤q.length)∧(i≤p.length)∧(acc=q.take k)∧(q.length-k)=kM) rfl ⟨0,0,[],none,0,rfl,Z,(Nat.zero_le _),(Nat.zero_le _),rfl,rfl⟩ ?_
 rintro _ _ w j ⟨k,i,acc,u,d,rfl,Z,hk,hi,ha,rfl⟩
 replace Z:=Z.z
 have hpl:=ZH p;have hql:=ZH q
 refine Sz ?_
 refine Zsr rfl (fun cd1=>?_) (fun cd1=>?_)
 ·obtain⟨t,ht⟩:∃t,q[k]?=some t:=⟨_,List.getElem?_eq_getElem (by omega)⟩;have hkl:=(List.getElem?_eq_some_iff.1 ht).1;have htm:=List.mem_of_getElem? ht;have hal:acc.length≤100000:=(by rw[ha,List.length_take];omega);have hacl:=ZH acc
  refine Sz ?_
  refine Zsq rfl rfl (i:=(k:Int)) (k) el_35 rfl rfl (by omega) (by omega) (Z.rdS 2 rfl (ZP ht)).1 ?_
  refine Ztx rfl rfl [.I t.1,.I t.2.1,.I t.2.2.1,.I t.2.2.2] ag_181.h rfl (Z.rdS 2 rfl (ZP ht)).2<|Zsk fun b1 w Z=>?_
  refine Zsh fun w Z=>?_
  refine Zst [0,2,6,7,8,9,12,14,15,16,17,18,19] [10] (fun kM vs jS=>∃(i2:Nat),vs=[.I (i2:Int)]∧jS []∧(i2≤p.length)∧(p.length-i2)=kM) rfl ⟨i,rfl,Z,hi,rfl⟩ ?_
  rintro _ _ w j ⟨i2,rfl,Z,hi2,rfl⟩
  replace Z:=Z.z
  refine Sz ?_
  refine Zsg [([0,1,2,3,4,5,6,10,7,11,8,9,12,13],none)] ?_
  refine Qz ?_
  by_cases cg1:(i2:Int)<(List.length (Yo p):Int)
  ·refine Zsu 24 (.bool true) (congrArg Value.bool (decide_eq_true cg1)) ?_
   obtain⟨x,hx⟩:∃x,p[i2]?=some x:=⟨_,List.getElem?_eq_getElem (by omega)⟩
   refine Qz ?_
   refine Zsj rfl rfl (i:=(i2:Int)) (i2) el_35 rfl rfl (by omega) (by omega) (Z.rdS 2 rfl (ZP hx)).1 ?_
   refine Qz ?_
   refine Zsn 1 [.I x.2.1] rfl (by exact(Z.rdS 2 rfl (ZP hx)).2 1 _ rfl) ?_
   refine Qd fun w Z=>?_
   as_aux_lemma =>
   refine Zsi (fun cd2=>?_) fun cd2=>?_
   ·exact⟨_,by omega,rfl,i2+1,rfl,Z,(by omega),rfl⟩
   refine Zsg [([0,1,2,3,4,5,6,10,7,11,8,9,12,13],none)] ?_
   refine Qz ?_
   by_cases cg2:(i2:Int)=(List.length (Yo p):Int)
   ·refine Zsu 40 (.bool true) (congrArg Value.bool (decide_eq_true cg2)) ?_
    refine Qd fun w Z=>?_
    refine Zs1 rfl rfl (Yo [(t.1,t.2.1,t.2.2.1,t.2.2.2)]) el_35 Z (by exact⟨rfl,rfl⟩) (HS _) rfl (Nat.le_of_ble_eq_true rfl) (fun b2 w Z=>?_)
    refine Zs3 rfl rfl 2 (Yo (acc++[(t.1,t.2.1,t.2.2.1,t.2.2.2)])) el_35 Z rfl (Z.srcO 0 rfl) (QN _ _).symm (Rm.of (by first|omega|(simp<;>omega)) (by decide)) rfl rfl (fun a1 c1 w Z=>?_)
    replace Z:=Z.z
    have hpl:=ZH p;have hql:=ZH q
    refine Sz ?_
    exact⟨_,by omega,rfl,k+1,i2,acc++[t],a1,c1,rfl,(Z.sel 2 [] rfl),(by omega),hi2,(by rw[List.take_add_one,ht,←ha];rfl),rfl⟩
   refine Zsu 40 (.bool false) (congrArg Value.bool (decide_eq_false cg2)) ?_
   obtain⟨x,hx⟩:∃x,p[i2]?=some x:=⟨_,List.getElem?_eq_getElem (by omega)⟩;have hne:=hd x (List.mem_of_getElem? hx) t htm
   refine Qz ?_
   refine Zsj rfl rfl (i:=(i2:Int)) (i2) el_35 rfl rfl (by omega) (by omega) (Z.rdS 2 rfl (ZP hx)).1 ?_
   refine Qz ?_
   refine Zsn 1 [.I x.2.1] rfl (by exact(Z.rdS 2 rfl (ZP hx)).2 1 _ rfl) ?_
   refine Qd fun w Z=>?_
   refine Zs0 rfl (decide_eq_true (hne)) ?_
   refine Zs1 rfl rfl (Yo [(t.1,t.2.1,t.2.2.1,t.2.2.2)]) el_35 Z (by exact⟨rfl,rfl⟩) (HS _) rfl (Nat.le_of_ble_eq_true rfl) (fun b2 w Z=>?_)
   refine Zs3 rfl rfl 2 (Yo (acc++[(t.1,t.2.1,t.2.2.1,t.2.2.2)])) el_35 Z rfl (Z.srcO 0 rfl) (QN _ _).symm (Rm.of (by first|omega|(simp<;>omega)) (by decide)) rfl rfl (fun a1 c1 w Z=>?_)
   replace Z:=Z.z
   as_aux_lemma =>
   have hpl:=ZH p;have hql:=ZH q
   refine Sz ?_
   exact⟨_,by omega,rfl,k+1,i2,acc++[t],a1,c1,rfl,(Z.sel 2 [] rfl),(by omega),hi2,(by rw[List.take_add_one,ht,←ha];rfl),rfl⟩
  refine Zsu 24 (.bool false) (congrArg Value.bool (decide_eq_false cg1)) ?_
  refine Qd fun w Z=>?_
  as_aux_lemma =>
  refine Sz ?_
  refine Zsg [([0,1,2,3,4,5,6,10,7,11,8,9,12,13],none)] ?_
  refine Qz ?_
  by_cases cg2:(i2:Int)=(List.length (Yo p):Int)
  ·refine Zsu 40 (.bool true) (congrArg Value.bool (decide_eq_true cg2)) ?_
   refine Qd fun w Z=>?_
   refine Zs1 rfl rfl (Yo [(t.1,t.2.1,t.2.2.1,t.2.2.2)]) el_35 Z (by exact⟨rfl,rfl⟩) (HS _) rfl (Nat.le_of_ble_eq_true rfl) (fun b2 w Z=>?_)
   refine Zs3 rfl rfl 2 (Yo (acc++[(t.1,t.2.1,t.2.2.1,t.2.2.2)])) el_35 Z rfl (Z.srcO 0 rfl) (QN _ _).symm (Rm.of (by first|omega|(simp<;>omega)) (by decide)) rfl rfl (fun a1 c1 w Z=>?_)
   replace Z:=Z.z
   have hpl:=ZH p;have hql:=ZH q
   refine Sz ?_
   exact⟨_,by omega,rfl,k+1,i2,acc++[t],a1,c1,rfl,(Z.sel 2 [] rfl),(by omega),hi2,(by rw[List.take_add_one,ht,←ha];rfl),rfl⟩
  refine Zsu 40 (.bool false) (congrArg Value.bool (decide_eq_false cg2)) ?_
  obtain⟨x,hx⟩:∃x,p[i2]?=some x:=⟨_,List.getElem?_eq_getElem (by omega)⟩;have hne:=hd x (List.mem_of_getElem? hx) t htm
  refine Qz ?_
  refine Zsj rfl rfl (i:=(i2:Int)) (i2) el_35 rfl rfl (by omega) (by omega) (Z.rdS 2 rfl (ZP hx)).1 ?_
  refine Qz ?_
  refine Zsn 1 [.I x.2.1] rfl (by exact(Z.rdS 2 rfl (ZP hx)).2 1 _ rfl) ?_
  refine Qd fun w Z=>?_
  refine Zs0 rfl (decide_eq_true (hne)) ?_
  refine Zs1 rfl rfl (Yo [(t.1,t.2.1,t.2.2.1,t.2.2.2)]) el_35 Z (by exact⟨rfl,rfl⟩) (HS _) rfl (Nat.le_of_ble_eq_true rfl) (fun b2 w Z=>?_)
  refine Zs3 rfl rfl 2 (Yo (acc++[(t.1,t.2.1,t.2.2.1,t.2.2.2)])) el_35 Z rfl (Z.srcO 0 rfl) (QN _ _).symm (Rm.of (by first|omega|(simp<;>omega)) (by decide)) rfl rfl (fun a1 c1 w Z=>?_)
  replace Z:=Z.z
  as_aux_lemma =>
  have hpl:=ZH p;have hql:=ZH q
  refine Sz ?_
  exact⟨_,by omega,rfl,k+1,i2,acc++[t],a1,c1,rfl,(Z.sel 2 [] rfl),(by omega),hi2,(by rw[List.take_add_one,ht,←ha];rfl),rfl⟩
 refine Sz ?_
 replace Z:=(Z.sel 3 [0] rfl)
 have hk9:acc=q:=(by rw[ha,List.take_of_length_le (by omega)]);rw[hk9] at Z ⊢;exact⟨_,_,rfl,Z⟩
theorem Zlt(a:Nat)(A0 A:AM)(R:List Int)(i:Int)(t:Tr)(cs:List Qo)(u:Option Addr)(d:Nat)(hA:ARf A0 R)(hT0:TOp A0 A R i t 0)(hok:t.ok)(hn:t.n+cs.length≤60000)(hR:R.length≤400000000)(hf:(t.n:Int)+cs.length+4*((Tr.mxH (t.n+cs.length):Int)+2)≤A0.s.free)(Z:St g (Zt a A::Sh 181 4 (Yo cs) u d::L) w) :
  Cp g L 225 [.P a,.W i,.slice u (Yo cs).length d] w fun rV=>∃(A2:AM)(j:Int),rV (.W j) [Zt a A2] (TOp A0 A2 R j (Xa (cs.map Hs) t) (Qy (cs.map Hs) t)):=by
 refine Sp.en Tryz.func225 ?_
 have _:=hR
 have _:=hn
 have hcl:=ZH cs;have hwl:(cs.map Hs).length=cs.length:=List.length_map ..
 refine Sz ?_
 refine Zst [0,6,9,10] [1,11] (fun kM vs jS=>∃(k:Nat)(B:AM)(o:Int),vs=[.W o,.I (k:Int)]∧jS [Zt a B]∧(k≤cs.length)∧(TOp A0 B R o (Xa ((cs.map Hs).take k) t) (Qy ((cs.map Hs).take k) t))∧(cs.length-k)=kM) rfl ⟨0,A,i,rfl,Z,(Nat.zero_le _),hT0,rfl⟩ ?_
 rintro _ _ w j ⟨k,B,o,rfl,Z,hk,hT,rfl⟩
 replace Z:=Z.z
 have hcl:=ZH cs;have hwl:(cs.map Hs).length=cs.length:=List.length_map ..
 refine Sz ?_
 refine Zsr rfl (fun cd1=>?_) (fun cd1=>?_)
 ·obtain⟨c,hc⟩:∃c,cs[k]?=some c:=⟨_,List.getElem?_eq_getElem (by omega)⟩;have hW:(cs.map Hs)[k]?=some (Hs c):=(by rw[List.getElem?_map,hc];rfl);have hcc:=Zia hA hok (by omega) (by rw[hwl];exact hf) hW hT;have hwn:=V8 ((cs.map Hs).take k) t;have htl:=List.length_take_le k (cs.map Hs)
  refine Sz ?_
  refine Zsq rfl rfl (i:=(k:Int)) (k) el_35 rfl rfl (by omega) (by omega) (Z.rdS 1 rfl (ZP hc)).1 ?_
  refine Ztx rfl rfl [.I c.1,.I c.2.1,.I c.2.2.1,.I c.2.2.2] ag_181.h rfl (Z.rdS 1 rfl (ZP hc)).2<|Zsk fun b1 w Z=>?_
  refine Zsh fun w Z=>?_
  refine Zsi (fun hp=>?_) fun hp=>?_
  ·refine Zs2 (Zqb _ _ R o c.2.1 (Xa ((cs.map Hs).take k) t) hT.ref hT.is (Zk4 hp hcc) (by omega) (Z.sel 2 [1,0] rfl)) fun w A1 j1 Z f1=>?_
   exact⟨_,by omega,rfl,k+1,A1,j1,rfl,(Z.sel 2 [0] rfl),(by omega),(Zmq hW hp hT f1),rfl⟩
  refine Zs4 rfl rfl (cs:=[.I c.2.1,.I c.2.2.2]) zv_32.h rfl rfl<|Zs2 (Zio _ _ R o c.2.1 c.2.2.2 (Xa ((cs.map Hs).take k) t) hT.ref hT.is (Zmw hp hcc) (by omega) (Z.sel 2 [1,0] rfl)) fun w A1 j1 Z f1=>?_
  exact⟨_,by omega,rfl,k+1,A1,j1,rfl,(Z.sel 2 [0] rfl),(by omega),(Zle hW hp hT f1),rfl⟩
 refine Sz ?_
 replace Z:=(Z.sel 2 [0] rfl)
 have hk9:(cs.map Hs).take k=cs.map Hs:=List.take_of_length_le (by omega);rw[hk9] at hT;exact⟨_,_,rfl,Z,hT⟩
theorem Zh9(a:Nat)(A:AM)(R:List Int)(b o t:Int)(tb to tt:Tr)(hA:ARf A R)(hb:Is A tb b)(ho:Is A to o)(ht:Is A tt t)(hsb:Srt tb.ls)(hso:Srt to.ls)(hst:Srt tt.ls)(hkb:X_ tb.ls)(hko:X_ to.ls)(hkt:X_ tt.ls)(hoo:to.ok)(hot:tt.ok)(hd:Apart tb.ls to.ls tt.ls)(hn:tb.n+to.n+tt.n≤30000)(hR:R.length≤400000000)(hf:(tb.n:Int)+to.n+tt.n+12*((Tr.mxH (tb.n+to.n+tt.n):Int)+2)≤A.s.free)(Z:St g (Zt a A::L) w) :
  Cp g L 229 [.P a,.W b,.W o,.W t,.I 3] w fun rV=>∃(A2:AM)(j:Int)(u:Tr)(c:Nat),rV (.tuple #[.W j,.N,.I 0]) [Zt a A2] ((TOp A A2 R j u c)∧(u.ok∧u.ls=Z4 tb.ls tt.ls to.ls)):=by
 refine Sp.en Tryz.func229 ?_
 have _:=hf
 have _:=hn
 refine Ztd 3 rfl (fun j=>?_)
 refine Zsx 22 rfl (X2 (dd _) (dd _)) ?_
 refine Sz ?_
 refine Zs2 (Zkc b o t Z) fun w r1 ok1 Z f1=>?_
 refine Ztm rfl (fun hk=>?_) (fun hk=>?_)
 ·have hr1:∃u:Tr,Is A u r1∧u.ok∧u.ls=Z4 tb.ls tt.ls to.ls:=Zl5 hb ho ht hsb hso hst hoo hot (f1.resolve_right (by rw[hk];decide));obtain⟨u9,hu1,hu2,hu3⟩:=hr1
  refine Sz ?_
  refine Zus (U3 _ _ R r1 hA hu1.ref (by omega) Z) fun w Z f2=>?_
  exact⟨_,_,_,_,rfl,Z,TOp.held (ARf.refl f2 (hu1.ret r1)),hu2,hu3⟩
 refine Sz ?_
 refine Zse (YF _ _ R b tb hA hb Z) fun w Z=>?_
 refine Zse (YF _ _ R o to hA ho Z) fun w Z=>?_
 refine Ztg (YF _ _ R t tt hA ht Z) fun w Z=>?_
 refine Ztg (Zjw tb.n to.n tt.n (by omega) Z) fun w Z=>?_
 refine Zse (Zc8 _ _ ((tb.n:Int)+to.n+tt.n+12*((Tr.mxH (tb.n+to.n+tt.n):Int)+2)) hA.toAWf Z) fun w Z=>?_
 refine Zs8 rfl (decide_eq_false ((by have:=Tr.mxH_le (tb.n+to.n+tt.n);simp;omega))) ?_
 have hdl1:=DQ tb.ls to.ls;have hdl2:=DQ tb.ls tt.ls;have hn1:=Tr.ls_len tb;have hn2:=Tr.ls_len to;have hn3:=Tr.ls_len tt
 refine Sz ?_
 refine Zsz (Zcz _ _ R b o tb to hA hb ho hsb hso hkb hko (by omega) Z) fun w a1 c1 Z=>?_
 refine Zsz (Zcz _ _ R b t tb tt hA hb ht hsb hst hkb hkt (by omega) (Z.sel 2 [1,0] rfl)) fun w a2 c2 Z=>?_
 replace Z:=(Z.at_ 2 rfl).share
 replace Z:=Z.z
 replace Z:=(Z.at_ 1 rfl).share
 replace Z:=Z.z
 refine Zsz (Zm2 (Y4 tb.ls to.ls) (Y4 tb.ls tt.ls) _ _ _ _ (by omega) (by omega) (hd.keys hsb hso hst) (Z.sel 2 [1,0] rfl)) fun w a3 c3 Z=>?_
 as_aux_lemma =>
 refine Sz ?_
 refine Ztd 4 rfl (fun j=>?_)
 refine Zsx 66 rfl (Zy (dd _) (dd _)) ?_
 refine Sz ?_
 refine Zus (U3 _ _ R o hA ho.ref (by omega) (Z.sel 2 [1,0] rfl)) fun w Z f2=>?_
 replace Z:=(Z.at_ 1 rfl).share
 replace Z:=Z.z
 refine Zs2 (Zlt _ A (A.ret o) R o to (Y4 tb.ls tt.ls) _ _ hA (TOp.held (ARf.refl f2 (ho.ret o))) hoo (by omega) hR (by have:=Tr.mxH_mono (a:=to.n+(Y4 tb.ls tt.ls).length) (b:=tb.n+to.n+tt.n) (by omega);omega) (Z.sel 2 [1,0] rfl)) fun w A1 j1 Z f3=>?_
 exact⟨_,_,_,_,rfl,Z,f3,Cc _ hoo,Zcb _ hso⟩
end Go.Proofs.YtpebgkkmgffmaaaGreatDoor
namespace Go.Proofs.YtpebgkkmgffmaaaGreatDoor
open Go Go.V Go.RowKit Go.Maps
theorem Zi6{lo hi k v:Int}{a b:Zl}(h:Srt (a++(k,v)::b)):Ql lo hi (a++(k,v)::b)=(if lo<k then Ql lo hi a else[])++((if lo≤k∧k≤hi then[(k,v)] else[])++(if k<hi then Ql lo hi b else[])):=by
 obtain⟨h1,h2,h3⟩:=List.pairwise_append.1 h
 obtain⟨h4,h5⟩:=List.pairwise_cons.1 h2
 have e1:Ql lo hi a=if lo<k then Ql lo hi a else[]:=by
  split
  ·rfl
  refine List.filter_eq_nil_iff.2 fun x hx hin=>?_
  have h6:=h3 x hx (k,v) (List.mem_cons_self ..)
  simp only[inK,Bool.and_eq_true,decide_eq_true_iff] at hin
  have:x.1<k:=h6
  omega
 have e2:Ql lo hi b=if k<hi then Ql lo hi b else[]:=by
  split
  ·rfl
  refine List.filter_eq_nil_iff.2 fun x hx hin=>?_
  have h6:=h4 x hx
  simp only[inK,Bool.and_eq_true,decide_eq_true_iff] at hin
  have:k<x.1:=h6
  omega
 have e3:Ql lo hi [(k,v)]=if lo≤k∧k≤hi then[(k,v)] else[]:=by
  unfold Ql
  by_cases c1:lo≤k
  ·by_cases c2:k≤hi
   ·rw[if_pos ⟨c1,c2⟩];simp[inK,c1,c2]
   rw[if_neg fun h=>c2 h.2];simp[inK,c2]
  rw[if_neg fun h=>c1 h.1];simp[inK,c1]
 rw[←e1,←e2,←e3]
 unfold Ql
 rw[←List.filter_append,←List.filter_append];rfl
theorem Zlv{lo hi k v:Int}{o o2 a b t:Zl}(hs:Srt (a++(k,v)::b))(ht:t=a++(k,v)::b)(h:o2=o++if lo<k then Ql lo hi a else[]):o++Ql lo hi t=o2++(if lo≤k∧k≤hi then[(k,v)] else[])++(if k<hi then Ql lo hi b else[]):=by
 rw[ht,Zi6 hs,h,List.append_assoc,List.append_assoc]
set_option maxHeartbeats 8000000
set_option maxRecDepth 8192
variable{g w:World}{L:List HP}
theorem Zdv(p a:Nat)(lm:Int)(o:Zl)(u:Option Addr)(d:Nat)(hl:(o.length:Int)<lm)(Z:St g (Zq p #[.P a,.slice u (Zm o).length d,.I lm] 399::L) w) :
  Zr g L 391 [.P p] w fun rV=>rV (.bool false) [Zq p #[.P a,.slice u (Zm o).length d,.I lm] 399]:=by
 refine Sp.en Tryz.func391 ?_
 have _:=hl
 have hol:=Zu o
 refine Sz ?_
 refine Zsg [([0,5,1,6,2,7,3,8,4,9,10],none)] ?_
 refine Qd fun w Z=>?_
 exact⟨congrArg Value.bool (decide_eq_false (by omega)),Z⟩
theorem D5(nM:Nat)(ih:∀mM:Nat,mM<nM→∀(g w:World)(L:List HP)(p a:Nat)(lm:Int)(A:AM)(R:List Int)(i lo hi:Int)(o:Zl)(u:Option Addr)(d:Nat)(t:Tr),(ARf A R)→(Is A t i)→(Srt t.ls)→(o.length+t.n≤1000000)→((o.length:Int)+t.n<lm)→t.n=mM→St g (Zq p #[.P a,.slice u (Zm o).length d,.I lm] 399::Zp 32 2 (Zm o) u d::Zt a A::L) w→Zr g L 274 [.P p,.W i,.I lo,.I hi] w fun rV=>∃(u2:Option Addr)(d2:Nat),rV (.tuple #[]) [Zq p #[.P a,.slice u2 (Zm (o++Ql lo hi t.ls)).length d2,.I lm] 399,Zp 32 2 (Zm (o++Ql lo hi t.ls)) u2 d2,Zt a A])(p a:Nat)(lm:Int)(A:AM)(R:List Int)(i lo hi:Int)(o:Zl)(u:Option Addr)(d:Nat)(t:Tr)(hA:ARf A R)(hi9:Is A t i)(hs:Srt t.ls)(hl:o.length+t.n≤1000000)(hlm:(o.length:Int)+t.n<lm)(hM:t.n=nM)(Z:St g (Zq p #[.P a,.slice u (Zm o).length d,.I lm] 399::Zp 32 2 (Zm o) u d::Zt a A::L) w) :
  Zr g L 274 [.P p,.W i,.I lo,.I hi] w fun rV=>∃(u2:Option Addr)(d2:Nat),rV (.tuple #[]) [Zq p #[.P a,.slice u2 (Zm (o++Ql lo hi t.ls)).length d2,.I lm] 399,Zp 32 2 (Zm (o++Ql lo hi t.ls)) u2 d2,Zt a A]:=by
 refine Sp.en Tryz.func274 ?_
 have _:=hlm
 have _:=hl
 have hx0:=Is.nil_iff hi9;have hol:=Zu o
 refine Sz ?_
 by_cases cg1:i=0
 ·refine Zsf 12 (.bool true) (congrArg Value.bool (decide_eq_true cg1)) ?_
  refine Sz ?_
  have h9:=hx0.1 cg1;subst h9;rw[show o++Ql lo hi Tr.nil.ls=o from List.append_nil _];exact⟨_,_,rfl,Z⟩
 refine Zsf 12 (.bool false) (congrArg Value.bool (decide_eq_false cg1)) ?_
 refine Sz ?_
 refine Zse (Zdv _ a lm o u d (by omega) Z) fun w Z=>?_
 obtain⟨tl,k,z,tr,ht⟩:=HJ (t:=t) (fun e=>cg1 (hx0.2 e));have htn:t.n=tl.n+tr.n+1:=(by rw[ht];rfl);have hi2:Is A (.node tl k z tr) i:=ht▸hi9;have hls:t.ls=tl.ls++((A.nd i).key,(A.nd i).val)::tr.ls:=(by rw[ht,hi2.2.2.1,hi2.2.2.2.1];rfl);have hl7:=hi2.2.2.2.2.1;have hr7:=hi2.2.2.2.2.2;have hri:=hA.okrng hi9.ref;have hlr:=hA.okrng hl7.ref;have hrr:=hA.okrng hr7.ref;have hs2:=hs;rw[hls] at hs2;have hs7:=Srt.app hs2;have hs8:=(List.pairwise_cons.1 hs7.2.1).2;have hbl:=List.length_filter_le (inK lo hi) tl.ls;have htl:=Tr.ls_len tl;have htr:=Tr.ls_len tr
 refine Sz ?_
 refine Zse (UY _ _ i hA.toAWf (by omega) hi2.2.1 (Z.sel 3 [2,0,0] rfl)) fun w Z=>?_
 refine Zsk fun b1 w Z=>?_
 refine Ztz rfl rfl rfl 0 Z rfl rfl rfl rfl rfl ag_141.h (fun w Z=>?_)
 refine Sx ?_
 refine Zs9<|Zsw<|Zsw<|WC.region ?_
 refine Sx ?_
 refine Zs9<|Zs8 rfl rfl<|Ztw<|Zsw<|Zsw<|WC.region ?_
 refine Sx ?_
 refine Zs9<|Ztc [0,2,3,8] [] [_,_,_,_] Z (fun vs jS=>∃(o2:Zl)(u2:Option Addr)(d2:Nat),vs=[]∧jS [Zq b1 #[.I (A.nd i).key,.I (A.nd i).val,.W (A.nd i).lf,.W (A.nd i).rg,.I (A.nd i).size,.I (A.nd i).sum,.I (A.nd i).mn,.I (A.nd i).mx] 141,Zt a A,Zq p #[.P a,.slice u2 (Zm o2).length d2,.I lm] 399,Zp 32 2 (Zm o2) u2 d2]∧(o2=o++if lo<(A.nd i).key then Ql lo hi tl.ls else[])∧(o2.length+tr.n+1≤1000000)∧((o2.length:Int)+tr.n+1<lm)) rfl ?_ ?_
 ·refine Zsi (fun cd1=>?_) fun cd1=>?_
  ·refine Zte rfl rfl (ih (tl.n) (by omega) _ _ _ p a lm A R (A.nd i).lf lo hi o u d tl (hA) (hl7) (hs7.1) ((by omega)) ((by omega)) rfl (Z.sel 4 [2,2,1,0] rfl)) rfl ?_
   clear Z;rintro _ w ⟨u1,d1,rfl,Z⟩
   replace Z:=Z.z
   refine Sz ?_
   exact⟨rfl,o++Ql lo hi tl.ls,u1,d1,rfl,(Z.sel 4 [3,2,0,0] rfl),(by rw[if_pos cd1]),(by rw[List.length_append];unfold Ql;omega),(by rw[List.length_append];unfold Ql;omega)⟩
  exact⟨rfl,o,u,d,rfl,Z,(by rw[if_neg cd1,List.append_nil]),(by omega),(by omega)⟩
 rintro _ w j ⟨o2,u2,d2,rfl,Z,ho2,hol2,hol5⟩
 replace Z:=Z.z
 have hol3:=Zu o2;have hbt:=Zlv hs2 hls ho2
 refine Sz ?_
 by_cases cg2:lo≤(A.nd i).key
 ·refine Zsf 41 (.bool true) (congrArg Value.bool (decide_eq_true cg2)) ?_
  refine Sz ?_
  by_cases cg3:(A.nd i).key≤hi
  ·refine Zsf 47 (.bool true) (congrArg Value.bool (decide_eq_true cg3)) ?_
   refine Sz ?_
   refine Zse (Zdv _ a lm o2 u2 d2 (by omega) (Z.sel 3 [2,0,0] rfl)) fun w Z=>?_
   as_aux_lemma =>
   refine Sz ?_
   refine Zsg [([0,1,5,7,2,6,8,3,4],some (9,[0,1,2,3,4])),([],some (10,[0,1,2,3,4])),([],some (11,[0])),([12,13],some (14,[]))] ?_
   refine Qd fun w Z=>?_
   refine Zs4 rfl rfl (cs:=[.I (A.nd i).key,.I (A.nd i).val]) zv_32.h rfl rfl ?_
   refine Sz ?_
   refine Qd fun w Z=>?_
   refine Zs1 rfl rfl (Zm [((A.nd i).key,(A.nd i).val)]) el_22 Z (by exact⟨rfl,rfl⟩) (Qx _) rfl (Nat.le_of_ble_eq_true rfl) (fun b2 w Z=>?_)
   refine Sz ?_
   refine Qd fun w Z=>?_
   refine Zs3 rfl rfl 4 (Zm (o2++[((A.nd i).key,(A.nd i).val)])) el_22 Z rfl (Z.srcO 0 rfl) (Jm _ _).symm (Rm.of (by first|omega|(simp<;>omega)) (by decide)) rfl rfl (fun a1 c1 w Z=>?_)
   replace Z:=Z.z
   refine Sz ?_
   refine Qd fun w Z=>?_
   refine Zss fun w Z=>?_
   refine Qd fun w Z=>?_
   refine Zsi (fun hlt=>?_) fun hlt=>?_
   ·refine Zte rfl rfl (ih (tr.n) (by omega) _ _ _ p a lm A R (A.nd i).rg lo hi (o2++[((A.nd i).key,(A.nd i).val)]) a1 c1 tr (hA) (hr7) (hs8) ((by first|omega|(rw[List.length_append];simp only[List.length_singleton];omega))) ((by first|omega|(rw[List.length_append];simp only[List.length_singleton];omega))) rfl (Z.sel 5 [1,3,2,0,0] rfl)) rfl ?_
    clear Z;rintro _ w ⟨u1,d1,rfl,Z⟩
    replace Z:=Z.z
    refine Sz ?_
    replace Z:=(Z.sel 5 [0,0,0] rfl)
    rw[hbt,if_pos ⟨cg2,cg3⟩,if_pos hlt];exact⟨_,_,rfl,Z⟩
   replace Z:=(Z.sel 5 [1,3,2] rfl)
   rw[hbt,if_pos ⟨cg2,cg3⟩,if_neg hlt,List.append_nil];exact⟨_,_,rfl,Z⟩
  refine Zsf 47 (.bool false) (congrArg Value.bool (decide_eq_false cg3)) ?_
  as_aux_lemma =>
  refine Sz ?_
  refine Zsi (fun hlt=>?_) fun hlt=>?_
  ·refine Zte rfl rfl (ih (tr.n) (by omega) _ _ _ p a lm A R (A.nd i).rg lo hi o2 u2 d2 tr (hA) (hr7) (hs8) ((by first|omega|(rw[List.length_append];simp only[List.length_singleton];omega))) ((by first|omega|(rw[List.length_append];simp only[List.length_singleton];omega))) rfl (Z.sel 4 [2,2,1,0] rfl)) rfl ?_
   clear Z;rintro _ w ⟨u1,d1,rfl,Z⟩
   replace Z:=Z.z
   refine Sz ?_
   replace Z:=(Z.sel 4 [0,0,0] rfl)
   rw[hbt,if_neg (fun h=>cg3 h.2),if_pos hlt,List.append_nil];exact⟨_,_,rfl,Z⟩
  replace Z:=(Z.sel 4 [2,2,1] rfl)
  rw[hbt,if_neg (fun h=>cg3 h.2),if_neg hlt,List.append_nil,List.append_nil];exact⟨_,_,rfl,Z⟩
 refine Zsf 41 (.bool false) (congrArg Value.bool (decide_eq_false cg2)) ?_
 as_aux_lemma =>
 refine Sz ?_
 refine Zsi (fun hlt=>?_) fun hlt=>?_
 ·refine Zte rfl rfl (ih (tr.n) (by omega) _ _ _ p a lm A R (A.nd i).rg lo hi o2 u2 d2 tr (hA) (hr7) (hs8) ((by first|omega|(rw[List.length_append];simp only[List.length_singleton];omega))) ((by first|omega|(rw[List.length_append];simp only[List.length_singleton];omega))) rfl (Z.sel 4 [2,2,1,0] rfl)) rfl ?_
  clear Z;rintro _ w ⟨u1,d1,rfl,Z⟩
  replace Z:=Z.z
  refine Sz ?_
  replace Z:=(Z.sel 4 [0,0,0] rfl)
  rw[hbt,if_neg (fun h=>cg2 h.1),if_pos hlt,List.append_nil];exact⟨_,_,rfl,Z⟩
 replace Z:=(Z.sel 4 [2,2,1] rfl)
 rw[hbt,if_neg (fun h=>cg2 h.1),if_neg hlt,List.append_nil,List.append_nil];exact⟨_,_,rfl,Z⟩
theorem Vl(nM:Nat):∀(g w:World)(L:List HP)(p a:Nat)(lm:Int)(A:AM)(R:List Int)(i lo hi:Int)(o:Zl)(u:Option Addr)(d:Nat)(t:Tr),(ARf A R)→(Is A t i)→(Srt t.ls)→(o.length+t.n≤1000000)→((o.length:Int)+t.n<lm)→t.n=nM→St g (Zq p #[.P a,.slice u (Zm o).length d,.I lm] 399::Zp 32 2 (Zm o) u d::Zt a A::L) w→Zr g L 274 [.P p,.W i,.I lo,.I hi] w fun rV=>∃(u2:Option Addr)(d2:Nat),rV (.tuple #[]) [Zq p #[.P a,.slice u2 (Zm (o++Ql lo hi t.ls)).length d2,.I lm] 399,Zp 32 2 (Zm (o++Ql lo hi t.ls)) u2 d2,Zt a A]:=by
 induction nM using Nat.strongRecOn with
 |_ nM ih=>intro g w L p a lm A R i lo hi o u d t hA hi9 hs hl hlm hM Z;exact D5 nM ih p a lm A R i lo hi o u d t hA hi9 hs hl hlm hM Z
theorem Zki(p a:Nat)(lm:Int)(A:AM)(R:List Int)(i lo hi:Int)(o:Zl)(u:Option Addr)(d:Nat)(t:Tr)(hA:ARf A R)(hi9:Is A t i)(hs:Srt t.ls)(hl:o.length+t.n≤1000000)(hlm:(o.length:Int)+t.n<lm)(Z:St g (Zq p #[.P a,.slice u (Zm o).length d,.I lm] 399::Zp 32 2 (Zm o) u d::Zt a A::L) w) :
  Zr g L 274 [.P p,.W i,.I lo,.I hi] w fun rV=>∃(u2:Option Addr)(d2:Nat),rV (.tuple #[]) [Zq p #[.P a,.slice u2 (Zm (o++Ql lo hi t.ls)).length d2,.I lm] 399,Zp 32 2 (Zm (o++Ql lo hi t.ls)) u2 d2,Zt a A]:=Vl _ g w L p a lm A R i lo hi o u d t hA hi9 hs hl hlm rfl Z
theorem Zgv(a:Nat)(A:AM)(R:List Int)(i lo hi lm:Int)(t:Tr)(hA:ARf A R)(hi9:Is A t i)(hs:Srt t.ls)(hl:t.n≤100000)(hlm:(t.n:Int)<lm)(hle:lo≤hi)(Z:St g (Zt a A::L) w) :
  Zr g L 132 [.P a,.W i,.I lo,.I hi,.I lm] w fun rV=>∃(u2:Option Addr)(d2:Nat),rV (.slice u2 (Zm (Ql lo hi t.ls)).length d2) [Zp 32 2 (Zm (Ql lo hi t.ls)) u2 d2,Zt a A]:=by
 refine Sp.en Tryz.func132 ?_
 have _:=hle
 have _:=hlm
 have _:=hl
 refine Ztd 4 rfl (fun j=>?_)
 refine Zsx 18 rfl (X2 (dd _) (dd _)) ?_
 refine Sz ?_
 refine Zsm rfl (decide_eq_false ((by omega))) ?_
 refine Zs4 rfl rfl (cs:=[.P a,.N,.I lm]) zv_399.h rfl rfl<|Zub rfl rfl #[.P a,.N,.I lm] Z rfl rfl (fun b1 w Z=>?_)
 replace Z:St g (Zp 32 2 (Zm []) none 0::Zq b1 #[.P a,.N,.I lm] 399::Zt a A::L) w:=Z.nil_ 32 2
 refine Sz ?_
 refine Zsz (Zki _ _ lm _ R i lo hi [] _ _ t hA hi9 hs (by simp;omega) (by simp;omega) (Z.sel 2 [1,0] rfl)) fun w u1 d1 Z=>?_
 replace Z:=(Z.sel 1 [] rfl)
 exact⟨_,_,rfl,Z⟩
end Go.Proofs.YtpebgkkmgffmaaaGreatDoor
namespace Go.Proofs.YtpebgkkmgffmaaaGreatDoor
open Go Go.V Go.RowKit Go.Maps
def opG(c h b k v lo hi n:Int)(es:Zl):OpM:={ op0 c with a:=h,b:=b,key:=k,val:=v,lo:=lo,hi:=hi,n:=n,ents:=es }
set_option maxHeartbeats 8000000
set_option maxRecDepth 8192
variable{g w:World}{L:List HP}
theorem J_(oc h b k vv lo hi n:Int)(es:Zl)(ea:Option Addr)(ec:Nat)(hc:QD (opG oc h b k vv lo hi n es))(Z:St g (Sh 32 2 (Zm es) ea ec::L) w) :
  Zr g L 34 [.agg (qO oc h b k vv lo hi n (.slice ea (Zm es).length ec))] w fun rV=>rV (.bool true) [Sh 32 2 (Zm es) ea ec]:=by
 refine(Zai (opG oc h b k vv lo hi n es) none ea none 0 ec 0 ((Z.nilS 181 4))).mono fun v w' h=>?_
 obtain⟨ok,h1,h2,h3⟩:=h
 have h4:ok=true:=h3.2 hc
 subst h4
 exact⟨h1,h2.sel 2 [1] rfl⟩
theorem Zcc(oc h b k vv lo hi n:Int)(ea:Option Addr)(el ec:Nat)(hc:oc=1∨oc=2∨oc=3∨oc=7)(Z:St g (L) w) :
  Zr g L 35 [.agg (qO oc h b k vv lo hi n (.slice ea el ec))] w fun rV=>rV (.bool true) []:=by
 refine Sp.en Tryz.func35 ?_
 have _:=hc
 refine Zsp fun b1 w Z=>?_
 refine Zsm rfl (decide_eq_false ((by omega))) ?_
 refine Zsm rfl (decide_eq_false ((by omega))) ?_
 refine Zsm rfl (decide_eq_false ((by omega))) ?_
 refine Zsm rfl (decide_eq_false ((by omega))) ?_
 refine Zsm rfl (decide_eq_false ((by omega))) ?_
 refine Zsm rfl (decide_eq_false ((by omega))) ?_
 refine Zsm rfl (decide_eq_false ((by omega))) ?_
 replace Z:=(Z.sel 1 [] rfl)
 exact⟨rfl,Z⟩
theorem Zpm(h b k vv lo hi:Int)(ea:Option Addr)(el ec:Nat)(Z:St g (L) w) :
  Zr g L 35 [.agg (qO 10 h b k vv lo hi 3 (.slice ea el ec))] w fun rV=>rV (.bool true) []:=by
 refine Sp.en Tryz.func35 ?_
 refine Zsp fun b1 w Z=>?_
 refine Zs7 5 [.I 3] rfl (by exact(fun _=>Z.ld 0 rfl rfl)) (fun j=>?_)
 refine Zsx 19 rfl (Zy (dd _) (dd _)) ?_
 refine Sz ?_
 replace Z:=(Z.sel 1 [] rfl)
 exact⟨rfl,Z⟩
theorem Zqe(h b k vv lo hi:Int)(ea:Option Addr)(el ec:Nat)(Z:St g (L) w) :
  Zr g L 35 [.agg (qO 19 h b k vv lo hi 1000 (.slice ea el ec))] w fun rV=>rV (.bool true) []:=by
 refine Sp.en Tryz.func35 ?_
 refine Zsp fun b1 w Z=>?_
 replace Z:=(Z.sel 1 [] rfl)
 exact⟨rfl,Z⟩
theorem Zoe(oc h b k vv lo hi n:Int)(ea:Option Addr)(el ec:Nat)(p s a:Nat)(V:VM)(A:AM)(R:List Int)(hc:oc=2∨oc=3∨oc=10∨oc=19)(hV:VI V A R)(hh:0≤h∧h≤18446744073709551615)(hn:V.T.s.opn h=true)(Z:St g (YO p s a V::L) w) :
  Zr g L 83 [.P p,.agg (qO oc h b k vv lo hi n (.slice ea el ec))] w fun rV=>rV (.I 0) [YO p s a V]:=by
 refine Sp.en Tryz.func83 ?_
 have _:=hc
 refine Zsp fun b1 w Z=>?_
 refine Zsm rfl (decide_eq_false ((by omega))) ?_
 refine Zsm rfl (decide_eq_false ((by omega))) ?_
 refine Zsm rfl (decide_eq_false ((by omega))) ?_
 refine Zsm rfl (decide_eq_false ((by omega))) ?_
 refine Zsm rfl (decide_eq_false ((by omega))) ?_
 refine Zsm rfl (decide_eq_false ((by omega))) ?_
 refine Zsm rfl (decide_eq_false ((by omega))) ?_
 refine Zsm rfl (decide_eq_false ((by omega))) ?_
 refine Zsm rfl (decide_eq_false ((by omega))) ?_
 refine Zsm rfl (decide_eq_false ((by omega))) ?_
 refine Zsm rfl (decide_eq_false ((by omega))) ?_
 refine Zsm rfl (decide_eq_false ((by omega))) ?_
 refine Zsm rfl (decide_eq_false ((by omega))) ?_
 refine Zsm rfl (decide_eq_false ((by omega))) ?_
 refine Zsg [([0,4,1,5,2,3],some (6,[])),([7,8,9,10,11],none)] ?_
 obtain⟨⟨nm,c,x,m⟩,Z⟩:=St.exOpen (Z.at_ 1 rfl)
 replace Z:=Z.z
 refine Qd fun w Z=>?_
 refine Zse (QH _ _ _ A R h hV hh hn (Z.sel 2 [1,0] rfl)) fun w Z=>?_
 refine Qd fun w Z=>?_
 as_aux_lemma =>
 refine Sz ?_
 replace Z:=St.cl (f:=JI p s a V) ⟨_,_,_,_⟩ (Z.sel 2 [1,0] rfl)
 replace Z:=Z.z
 refine Sz ?_
 replace Z:=(Z.sel 2 [0] rfl)
 exact⟨rfl,Z⟩
theorem Zpk(h b k vv lo hi n:Int)(ea:Option Addr)(el ec:Nat)(p:Nat)(Z:St g (L) w) :
  Zr g L 83 [.P p,.agg (qO 1 h b k vv lo hi n (.slice ea el ec))] w fun rV=>rV (.I 0) []:=by
 refine Sp.en Tryz.func83 ?_
 refine Zsp fun b1 w Z=>?_
 replace Z:=(Z.sel 1 [] rfl)
 exact⟨rfl,Z⟩
theorem Zp0(h b k vv lo hi n:Int)(ea:Option Addr)(el ec:Nat)(p:Nat)(Z:St g (L) w) :
  Zr g L 83 [.P p,.agg (qO 7 h b k vv lo hi n (.slice ea el ec))] w fun rV=>rV (.I 0) []:=by
 refine Sp.en Tryz.func83 ?_
 refine Zsp fun b1 w Z=>?_
 replace Z:=(Z.sel 1 [] rfl)
 exact⟨rfl,Z⟩
theorem opA_c(oc h b k vv lo hi n:Int)(ea:Option Addr)(el ec:Nat)(p:Nat)(hc:oc=1∨oc=7)(Z:St g (L) w) :
  Zr g L 83 [.P p,.agg (qO oc h b k vv lo hi n (.slice ea el ec))] w fun rV=>rV (.I 0) []:=by
 rcases hc with rfl|rfl
 ·exact Zpk h b k vv lo hi n ea el ec p Z
 exact Zp0 h b k vv lo hi n ea el ec p Z
theorem Zas(oc h b k vv lo hi n:Int)(ea:Option Addr)(el ec:Nat)(p s a:Nat)(V:VM)(A:AM)(R:List Int)(hc:oc=2∨oc=3∨oc=19)(hV:VI V A R)(hh:0≤h∧h≤18446744073709551615)(hn:V.T.s.opn h=true)(Z:St g (YO p s a V::L) w) :
  Zr g L 37 [.P p,.agg (qO oc h b k vv lo hi n (.slice ea el ec))] w fun rV=>rV (.I 0) [YO p s a V]:=by
 refine Sp.en Tryz.func37 ?_
 have _:=hc
 refine Zsp fun b1 w Z=>?_
 refine Zse (Zoe oc h b k vv lo hi n ea el ec _ _ _ _ A R (by omega) hV hh hn (Z.sel 2 [1,0] rfl)) fun w Z=>?_
 refine Zsm rfl (decide_eq_false ((by omega))) ?_
 refine Zsm rfl (decide_eq_false ((by omega))) ?_
 refine Zsm rfl (decide_eq_false ((by omega))) ?_
 refine Zsm rfl (decide_eq_false ((by omega))) ?_
 refine Zsm rfl (decide_eq_false ((by omega))) ?_
 refine Zsm rfl (decide_eq_false ((by omega))) ?_
 refine Zsm rfl (decide_eq_false ((by omega))) ?_
 refine Zsm rfl (decide_eq_false ((by omega))) ?_
 replace Z:=(Z.sel 2 [0] rfl)
 exact⟨rfl,Z⟩
theorem Zhl(oc h b k vv lo hi n:Int)(ea:Option Addr)(el ec:Nat)(p:Nat)(hc:oc=1∨oc=7)(Z:St g (L) w) :
  Zr g L 37 [.P p,.agg (qO oc h b k vv lo hi n (.slice ea el ec))] w fun rV=>rV (.I 0) []:=by
 refine Sp.en Tryz.func37 ?_
 refine Zsp fun b1 w Z=>?_
 refine Zse (opA_c oc h b k vv lo hi n ea el ec p hc Z) fun w Z=>?_
 refine Zsm rfl (decide_eq_false ((by omega))) ?_
 refine Zsm rfl (decide_eq_false ((by omega))) ?_
 refine Zsm rfl (decide_eq_false ((by omega))) ?_
 refine Zsm rfl (decide_eq_false ((by omega))) ?_
 refine Zsm rfl (decide_eq_false ((by omega))) ?_
 refine Zsm rfl (decide_eq_false ((by omega))) ?_
 refine Zsm rfl (decide_eq_false ((by omega))) ?_
 refine Zsm rfl (decide_eq_false ((by omega))) ?_
 replace Z:=(Z.sel 1 [] rfl)
 exact⟨rfl,Z⟩
theorem Zkp(h b k vv lo hi n:Int)(ea:Option Addr)(el ec:Nat)(p s a:Nat)(V:VM)(A:AM)(R:List Int)(hV:VI V A R)(hh:0≤h∧h≤18446744073709551615)(hn:V.T.s.opn h=true)(hb:0≤b∧b≤18446744073709551615)(hm:V.T.s.opn b=true)(Z:St g (YO p s a V::L) w) :
  Zr g L 37 [.P p,.agg (qO 10 h b k vv lo hi n (.slice ea el ec))] w fun rV=>rV (.I 0) [YO p s a V]:=by
 refine Sp.en Tryz.func37 ?_
 refine Zsp fun b1 w Z=>?_
 refine Zse (Zoe 10 h b k vv lo hi n ea el ec _ _ _ _ A R (by decide) hV hh hn (Z.sel 2 [1,0] rfl)) fun w Z=>?_
 refine Zsg [([0,4,1,5,2,3],some (6,[])),([7,8,9,10,11],none)] ?_
 obtain⟨⟨nm,c,x,m⟩,Z⟩:=St.exOpen Z
 replace Z:=Z.z
 refine Qd fun w Z=>?_
 refine Zse (QH _ _ _ A R b hV hb hm (Z.sel 2 [1,0] rfl)) fun w Z=>?_
 refine Qd fun w Z=>?_
 replace Z:=St.cl (f:=JI p s a V) ⟨_,_,_,_⟩ (Z.sel 2 [1,0] rfl)
 replace Z:=Z.z
 refine Sz ?_
 replace Z:=(Z.sel 2 [0] rfl)
 exact⟨rfl,Z⟩
theorem Zpd(Z:St g (L) w) :
  Zr g L 38 [.I 1] w fun rV=>rV (.bool true) []:=by
 refine Sp.en Tryz.func38 ?_
 exact⟨rfl,Z⟩
theorem Zp9(Z:St g (L) w) :
  Zr g L 38 [.I 3] w fun rV=>rV (.bool true) []:=by
 refine Sp.en Tryz.func38 ?_
 exact⟨rfl,Z⟩
theorem Zo5(Z:St g (L) w) :
  Zr g L 38 [.I 7] w fun rV=>rV (.bool true) []:=by
 refine Sp.en Tryz.func38 ?_
 exact⟨rfl,Z⟩
theorem Znl(Z:St g (L) w) :
  Zr g L 38 [.I 10] w fun rV=>rV (.bool true) []:=by
 refine Sp.en Tryz.func38 ?_
 exact⟨rfl,Z⟩
theorem JU(oc:Int)(hc:oc=1∨oc=3∨oc=7∨oc=10)(Z:St g (L) w) :
  Zr g L 38 [.I oc] w fun rV=>rV (.bool true) []:=by
 rcases hc with rfl|rfl|rfl|rfl
 ·exact Zpd Z
 ·exact Zp9 Z
 ·exact Zo5 Z
 exact Znl Z
theorem Dt(oc:Int)(hc:oc=2∨oc=19)(Z:St g (L) w) :
  Zr g L 38 [.I oc] w fun rV=>rV (.bool false) []:=by
 refine Sp.en Tryz.func38 ?_
 have _:=hc
 refine Zsm rfl (decide_eq_false ((by omega))) ?_
 refine Zsm rfl (decide_eq_false ((by omega))) ?_
 refine Zsm rfl (decide_eq_false ((by omega))) ?_
 refine Zsm rfl (decide_eq_false ((by omega))) ?_
 refine Zsm rfl (decide_eq_false ((by omega))) ?_
 refine Zsm rfl (decide_eq_false ((by omega))) ?_
 refine Zsm rfl (decide_eq_false ((by omega))) ?_
 refine Zsm rfl (decide_eq_false ((by omega))) ?_
 refine Zsm rfl (decide_eq_false ((by omega))) ?_
 refine Zsm rfl (decide_eq_false ((by omega))) ?_
 refine Zsm rfl (decide_eq_false ((by omega))) ?_
 refine Zsm rfl (decide_eq_false ((by omega))) ?_
 exact⟨rfl,Z⟩
def Crt(V:VM)(A:AM)(ps:List Int)(t:Tr)(V2:VM)(A4:AM):Prop:=∃(A1:AM)(j:Int)(c:Nat),TOp A A1 (V.rs.map RN.root++[]) j t c∧VI V2 (A1.ret j) [j]∧Com V j ps V2∧Rl (A1.ret j) A4 (V2.rs.map RN.root++[])
theorem Com.la{V V2:VM}{root:Int}{ps:List Int}(h:Com V root ps V2):V2.last=V.last+1:=by
 obtain⟨⟨xs2,q,rfl,_⟩,_⟩:=h;rfl
theorem Crt.nil{V V2:VM}{A:AM}(hl:V.rs.length≤1000)(hl2:V2.rs.length≤1000)(hV:VI V A [])(h2:VI V2 (A.ret 0) [])(h:Com V 0 [] V2):Crt V A [] .nil V2 A:=by
 have e:A.ret 0=A:=rfl
 rw[e] at h2
 refine⟨A,0,0,⟨hV.ref.cons0 (by simp;omega),rfl,Kp.refl _ _,by omega,rfl⟩,?_,h,?_⟩
 ·rw[e];exact h2.ar ((h2.ref.cons0 (by simp;omega)).perm (by simpa using(List.perm_middle (a:=(0:Int)) (l₁:=V2.rs.map RN.root) (l₂:=[])).symm))
 rw[e];exact⟨h2.ref,Kp.refl _ _,Int.le_refl _,rfl⟩
theorem Crt.pre{V:VM}{A A1:AM}{j:Int}{t:Tr}{c:Nat}(hV:VI V A [])(h:TOp A A1 (V.rs.map RN.root++[]) j t c):VI V A1 [j]:=hV.ar (h.ref.perm (by simpa using(List.perm_middle (a:=j) (l₁:=V.rs.map RN.root) (l₂:=[])).symm))
theorem Crt.rel{V2:VM}{A1:AM}{j:Int}(h:VI V2 (A1.ret j) [j]):ARf (A1.ret j) (j::(List.map RN.root V2.rs++[])):=h.ref.perm (by simp)
theorem Xm{V:VM}{A:AM}{R:List Int}(h:VI V A R)(hla:V.last≤1000):V.rs.length≤1000:=by
 have h2:=Uq h
 have h3:=Zh1 h
 omega
theorem Zkg(p s a:Nat)(V:VM)(A:AM)(hV:VI V A [])(hrm:0<V.room)(hla:V.last≤800)(Z:St g (YO p s a V::Zt a A::L) w) :
  Cp g L 40 [.P p,.agg (qO 1 0 0 0 0 0 0 0 .N)] w fun rV=>∃(V2:VM)(A4:AM),rV (.agg (qA 0 V.T.newH 0 false 0 .N)) [YO p s a V2,Zt a A4] (Crt V A [] .nil V2 A4):=by
 refine Sp.en Tryz.func40 ?_
 have _:=hla
 refine Zsp fun b1 w Z=>?_
 refine Zsk fun b2 w Z=>?_
 refine Zs1 rfl rfl (Zv [0]) el_47 Z (by exact⟨rfl,rfl⟩) (YG _) rfl (Nat.le_of_ble_eq_true rfl) (fun b3 w Z=>?_)
 refine Sz ?_
 refine Zsk fun b4 w Z=>?_
 refine Zse (D6 _ _ _ _ hV.t (Z.sel 5 [4,0,0,0,0] rfl)) fun w Z=>?_
 obtain⟨⟨nm,c,x,m⟩,Z⟩:=St.exOpen Z
 replace Z:=Z.z
 replace Z:=Z.nilS 23 1
 replace Z:=Z.z
 refine Sz ?_
 refine Zsy (Qa _ _ _ _ [] 0 [] _ _ hV (.inl rfl) Z5 (fun _ h=>by cases h) hrm (by omega) (by decide) (Z.sel 9 [2,7,0,0,0,0,0,0,0] rfl)) fun w V1 Z ⟨f1,f2⟩=>?_
 refine Zss fun w Z=>?_
 refine Zss fun w Z=>?_
 replace Z:=St.cl (f:=JI p s a V1) ⟨_,_,_,_⟩ (Z.sel 5 [3,0,2,0,0] rfl)
 replace Z:=Z.z
 refine Sz ?_
 refine Zse (YB (Z:=Z)) fun w Z=>?_
 refine Zse (UL _ (A.ret 0) (Z.sel 2 [1,0] rfl)) fun w Z=>?_
 refine Zsh fun w Z=>?_
 replace Z:=(Z.sel 7 [1,0] rfl)
 exact⟨_,_,rfl,Z,Crt.nil (Xm hV (by omega)) (Xm f1 (by rw[Com.la f2];omega)) hV f1 f2⟩
theorem Zel(p s a:Nat)(V:VM)(A:AM)(es:Zl)(ea:Option Addr)(ec:Nat)(hV:VI V A [])(hrm:0<V.room)(hla:V.last≤800)(hs:Srt es)(hl:es.length≤1000)(hf:(es.length:Int)≤A.s.free)(Z:St g (YO p s a V::Zt a A::Sh 32 2 (Zm es) ea ec::L) w) :
  Cp g L 40 [.P p,.agg (qO 7 0 0 0 0 0 0 0 (.slice ea (Zm es).length ec))] w fun rV=>∃(V2:VM)(A4:AM),rV (.agg (qA 0 V.T.newH 0 false 0 .N)) [YO p s a V2,Zt a A4,Sh 32 2 (Zm es) ea ec] (Crt V A [] (Tr.bld es) V2 A4):=by
 refine Sp.en Tryz.func40 ?_
 have _:=hl
 have _:=hla
 refine Zsp fun b1 w Z=>?_
 refine Zsk fun b2 w Z=>?_
 refine Zs1 rfl rfl (Zv [0]) el_47 Z (by exact⟨rfl,rfl⟩) (YG _) rfl (Nat.le_of_ble_eq_true rfl) (fun b3 w Z=>?_)
 refine Sz ?_
 refine Zsk fun b4 w Z=>?_
 refine Zse (D6 _ _ _ _ hV.t (Z.sel 5 [4,0,0,0,0] rfl)) fun w Z=>?_
 refine Zsg [([0,2,3],some (1,[2,3])),([],some (4,[])),([5,6,7,8,9],some (10,[]))] ?_
 have hrl:=Xm hV (by omega)
 refine Qd fun w Z=>?_
 refine Zse (YB (Z:=Z)) fun w Z=>?_
 refine Qd fun w Z=>?_
 refine Zs2 (Zi4 _ _ (List.map RN.root V.rs++[]) _ _ _ hV.ref hs hf (by omega) (by simp;omega) (Z.sel 7 [5,5,0,0,0,0,0] rfl)) fun w A1 i1 Z f1=>?_
 refine Qd fun w Z=>?_
 refine Zss fun w Z=>?_
 refine Qd fun w Z=>?_
 have hV1:=Crt.pre hV f1
 obtain⟨⟨nm,c,x,m⟩,Z⟩:=St.exOpen (Z.at_ 2 rfl)
 replace Z:=Z.z
 replace Z:=Z.nilS 23 1
 replace Z:=Z.z
 refine Sz ?_
 refine Zsy (Qa _ _ _ _ [i1] i1 [] _ _ hV1 f1.is.ref Z5 (fun _ h=>by cases h) hrm (by omega) (by simp) (Z.sel 5 [2,3,0,0,0] rfl)) fun w V1 Z ⟨f2,f3⟩=>?_
 refine Zss fun w Z=>?_
 refine Zss fun w Z=>?_
 as_aux_lemma =>
 have hrl2:=Xm f2 (by rw[Com.la f3];omega)
 refine Sz ?_
 replace Z:=St.cl (f:=JI p s a V1) ⟨_,_,_,_⟩ (Z.sel 5 [3,0,2,0,0] rfl)
 replace Z:=Z.z
 refine Sz ?_
 refine Zse (YB (Z:=Z)) fun w Z=>?_
 refine Zs2 (Uh _ (A1.ret i1) (List.map RN.root V1.rs++[]) i1 (Crt.rel f2) (by simp;omega) (Z.sel 2 [1,0] rfl)) fun w A2 f4 Z ⟨f5,f6⟩=>?_
 refine Zsh fun w Z=>?_
 replace Z:=(Z.sel 8 [1,0,1] rfl)
 exact⟨_,_,rfl,Z,A1,i1,_,f1,f2,f3,f5⟩
theorem Zkd(p s a:Nat)(V:VM)(A:AM)(hd k vv:Int)(t:Tr)(hV:VI V A [])(hrm:0<V.room)(hla:V.last≤800)(hh:0≤hd∧hd≤18446744073709551615)(hn:V.T.s.opn hd=true)(hi:Is A t (V.rootOf (V.T.val hd)))(hok:t.ok)(htn:t.n≤1000)(hf:4*((Tr.mxH (t.n+1):Int)+2)≤A.s.free)(Z:St g (YO p s a V::Zt a A::L) w) :
  Cp g L 40 [.P p,.agg (qO 3 hd 0 k vv 0 0 0 .N)] w fun rV=>∃(V2:VM)(A4:AM),rV (.agg (qA 0 V.T.newH ((Tr.get k t).getD 0) ((Tr.get k t).isSome) 0 .N)) [YO p s a V2,Zt a A4] (Crt V A [V.T.val hd] (Tr.ins k vv t) V2 A4):=by
 refine Sp.en Tryz.func40 ?_
 have _:=htn
 have _:=hla
 refine Zsp fun b1 w Z=>?_
 refine Zsk fun b2 w Z=>?_
 refine Zs1 rfl rfl (Zv [hd]) el_47 Z (by exact⟨rfl,rfl⟩) (YG _) rfl (Nat.le_of_ble_eq_true rfl) (fun b3 w Z=>?_)
 refine Sz ?_
 refine Zsk fun b4 w Z=>?_
 refine Zse (HU _ _ _ _ A [] hd hV hh hn (Z.sel 5 [4,0,0,0,0] rfl)) fun w Z=>?_
 refine Zsg [([0,2,3,5,4,6,7],some (1,[2,3,4,5,6,7])),([],some (8,[])),([9,10,11,12,13,14,15],some (16,[12,13])),([17],some (18,[13])),([19],some (20,[]))] ?_
 have hrl:=Xm hV (by omega)
 refine Qz ?_
 refine Ztj rfl rfl (cs:=[.I k,.I vv]) zv_32.h rfl rfl ?_
 refine Qd fun w Z=>?_
 refine Zse (YB (Z:=Z)) fun w Z=>?_
 refine⟨by exact⟨Zsl rfl rfl rfl rfl,Zsl rfl rfl rfl rfl,Zs6 rfl rfl rfl rfl (Z.ld 4 rfl rfl),Zsl rfl rfl rfl rfl,Zs6 rfl rfl rfl rfl (Z.ld 4 rfl rfl),Zt1 rfl rfl (cs:=[.I k,.I vv]) zv_32.h rfl rfl rfl rfl⟩,?_⟩
 refine Qd fun w Z=>?_
 refine Zs2 (Zqr _ _ (List.map RN.root V.rs++[]) (V.rootOf (V.T.val hd)) k vv t hV.ref hi hok (by omega) hf (by simp;omega) (Z.sel 6 [5,0,0,0,0,0] rfl)) fun w A1 j1 Z f1=>?_
 refine Qd fun w Z=>?_
 refine Zss fun w Z=>?_
 refine Qd fun w Z=>?_
 refine Zss fun w Z=>?_
 refine Qd fun w Z=>?_
 refine Zss fun w Z=>?_
 refine Qd fun w Z=>?_
 as_aux_lemma =>
 have hV1:=Crt.pre hV f1
 obtain⟨⟨nm,c,x,m⟩,Z⟩:=St.exOpen (Z.at_ 1 rfl)
 replace Z:=Z.z
 replace Z:=(Z.at_ 5 rfl).share
 replace Z:=Z.z
 refine Sz ?_
 refine Zsy (Qa _ _ _ _ [j1] j1 [hd] (some ⟨b3,0,none⟩) (Zv [hd]).length hV1 f1.is.ref (YK hd) (fun x hx=>by rw[List.mem_singleton.1 hx];exact⟨hh,hn⟩) hrm (by omega) (by simp) (Z.sel 5 [2,3,0,0,0] rfl)) fun w V1 Z ⟨f2,f3⟩=>?_
 refine Zss fun w Z=>?_
 refine Zss fun w Z=>?_
 have hrl2:=Xm f2 (by rw[Com.la f3];omega)
 replace Z:=St.cl (f:=JI p s a V1) ⟨_,_,_,_⟩ (Z.sel 5 [3,0,2,0,0] rfl)
 replace Z:=Z.z
 refine Sz ?_
 refine Zse (YB (Z:=Z)) fun w Z=>?_
 refine Zs2 (Uh _ (A1.ret j1) (List.map RN.root V1.rs++[]) j1 (Crt.rel f2) (by simp;omega) (Z.sel 2 [1,0] rfl)) fun w A2 f4 Z ⟨f5,f6⟩=>?_
 refine Zsh fun w Z=>?_
 replace Z:=(Z.sel 6 [1,0] rfl)
 exact⟨_,_,rfl,Z,A1,j1,_,f1,f2,f3,f5⟩
theorem Zl3(h b:Int)(ea:Option Addr)(el ec:Nat)(Z:St g (L) w) :
  Zr g L 95 [.agg (qO 10 h b 0 0 0 0 3 (.slice ea el ec))] w fun rV=>∃(a2:Option Addr)(c2:Nat),rV (.slice a2 (Zv (if h=b then[h] else[h,b])).length c2) [Zp 23 1 (Zv (if h=b then[h] else[h,b])) a2 c2]:=by
 refine Sp.en Tryz.func95 ?_
 refine Zsp fun b1 w Z=>?_
 refine Zsi (fun he=>?_) fun he=>?_
 ·refine Zs1 rfl rfl (Zv [h]) el_47 Z (by exact⟨rfl,rfl⟩) (YG _) rfl (Nat.le_of_ble_eq_true rfl) (fun b2 w Z=>?_)
  refine Sz ?_
  replace Z:=(Z.sel 2 [0] rfl)
  rw[if_pos he];exact⟨_,_,rfl,Z⟩
 refine Zs1 rfl rfl (Zv [h,b]) el_47 Z (by exact⟨rfl,rfl,rfl,rfl⟩) (YG _) rfl (Nat.le_of_ble_eq_true rfl) (fun b2 w Z=>?_)
 refine Sz ?_
 replace Z:=(Z.sel 2 [0] rfl)
 rw[if_neg he];exact⟨_,_,rfl,Z⟩
theorem XC(h b:Int):ZY (if h=b then[h] else[h,b]):=by
 split
 ·exact YK h
 rename_i hn
 exact⟨by simp,fun x y e=>by cases e;exact hn⟩
theorem Zb0{h b:Int}{q:Int→Prop}(h1:q h)(h2:q b):∀x∈(if h=b then[h] else[h,b]),q x:=fun x hx=>by
 split at hx
 ·rw[List.mem_singleton.1 hx];exact h1
 simp only[List.mem_cons,List.not_mem_nil,or_false] at hx
 rcases hx with rfl|rfl
 ·exact h1
 exact h2
structure Mgb(V:VM)(A:AM)(h b:Int)(tb to tt:Tr):Prop where
 hh:0≤h∧h≤18446744073709551615
 hn:V.T.s.opn h=true
 hb:0≤b∧b≤18446744073709551615
 hm:V.T.s.opn b=true
 ib:Is A tb (V.rootOf (XP V h b))
 io:Is A to (V.rootOf (V.T.val h))
 it:Is A tt (V.rootOf (V.T.val b))
 sb:Srt tb.ls
 so:Srt to.ls
 st:Srt tt.ls
 kb:X_ tb.ls
 ko:X_ to.ls
 kt:X_ tt.ls
 oo:to.ok
 ot:tt.ok
 ap:Apart tb.ls to.ls tt.ls
 nn:tb.n+to.n+tt.n≤30000
 fr:(tb.n:Int)+to.n+tt.n+12*((Tr.mxH (tb.n+to.n+tt.n):Int)+2)≤A.s.free
theorem Zhi(p s a:Nat)(V:VM)(A:AM)(h b:Int)(tb to tt:Tr)(hV:VI V A [])(hla:V.last≤800)(hM:Mgb V A h b tb to tt)(Z:St g (YO p s a V::Zt a A::L) w) :
  Cp g L 96 [.P p,.W (V.rootOf (V.T.val h)),.agg (qO 10 h b 0 0 0 0 3 .N)] w fun rV=>∃(A2:AM)(j:Int)(u:Tr)(c:Nat),rV (.tuple #[.W j,.agg (qA 0 0 0 false (XP V h b) .N)]) [YO p s a V,Zt a A2] ((TOp A A2 (V.rs.map RN.root++[]) j u c)∧(u.ok∧u.ls=Z4 tb.ls tt.ls to.ls)):=by
 refine Sp.en Tryz.func96 ?_
 have _:=hla
 refine Zsp fun b1 w Z=>?_
 refine Zsk fun b2 w Z=>?_
 refine Zsg [([0,4,6,1,5,7,2,3],some (8,[])),([9,10,11,12,13,14,15],none)] ?_
 have hrl:=Xm hV (by omega)
 obtain⟨⟨nm,c,x,m⟩,Z⟩:=St.exOpen (Z.at_ 2 rfl)
 replace Z:=Z.z
 refine Qd fun w Z=>?_
 refine Zse (Zm8 _ _ _ A [] h b hV hM.hh hM.hb (Z.sel 2 [1,0] rfl)) fun w Z=>?_
 refine Qd fun w Z=>?_
 refine Zsg [([0,2,3,4,5,8,6,9],some (1,[2,3,4,5,6,8,9])),([],some (7,[2,3,8,9])),([],some (10,[])),([11,12,13,14,15,16,17],none)] ?_
 replace Z:=St.cl (f:=JI p s a V) ⟨_,_,_,_⟩ (Z.sel 2 [1,0] rfl)
 replace Z:=Z.z
 refine Qd fun w Z=>?_
 refine Zse (YB (Z:=Z)) fun w Z=>?_
 refine Qd fun w Z=>?_
 refine Zse (HU _ _ _ _ A [] b hV hM.hb hM.hm Z) fun w Z=>?_
 refine Qd fun w Z=>?_
 refine Ztp (Zh9 _ _ (List.map RN.root V.rs++[]) (V.rootOf (XP V h b)) (V.rootOf (V.T.val h)) (V.rootOf (V.T.val b)) tb to tt hV.ref hM.ib hM.io hM.it hM.sb hM.so hM.st hM.kb hM.ko hM.kt hM.oo hM.ot hM.ap hM.nn (by simp;omega) hM.fr (Z.sel 4 [3,0,0,0] rfl)) fun w A1 j1 u1 c1 Z ⟨f1,f2⟩=>?_
 refine Qd fun w Z=>?_
 as_aux_lemma =>
 refine Sz ?_
 refine Zs4 rfl rfl (cs:=[.I 0,.U 0,.I 0,.bool false,.I (XP V h b),.I 0,.I 0,.I 0,.I 0,.I 0,.I 0,.N,.N,.N,.N]) zv_39.h rfl rfl ?_
 refine Sz ?_
 refine Zsh fun w Z=>?_
 replace Z:=(Z.sel 4 [1,0] rfl)
 exact⟨_,_,_,_,rfl,Z,f1,f2⟩
theorem Ze4(p s a:Nat)(V:VM)(A:AM)(h b:Int)(tb to tt:Tr)(hV:VI V A [])(hrm:0<V.room)(hla:V.last≤800)(hM:Mgb V A h b tb to tt)(Z:St g (YO p s a V::Zt a A::L) w) :
  Cp g L 40 [.P p,.agg (qO 10 h b 0 0 0 0 3 .N)] w fun rV=>∃(V2:VM)(A4:AM)(u:Tr),rV (.agg (qA 0 V.T.newH 0 false (XP V h b) .N)) [YO p s a V2,Zt a A4] ((Crt V A ((if h=b then[h] else[h,b]).map V.T.val) u V2 A4)∧(u.ok∧u.ls=Z4 tb.ls tt.ls to.ls)):=by
 refine Sp.en Tryz.func40 ?_
 refine Zsp fun b1 w Z=>?_
 refine Zsk fun b2 w Z=>?_
 refine Zs1 rfl rfl (Zv [h]) el_47 Z (by exact⟨rfl,rfl⟩) (YG _) rfl (Nat.le_of_ble_eq_true rfl) (fun b3 w Z=>?_)
 refine Sz ?_
 refine Zsk fun b4 w Z=>?_
 refine Zse (HU _ _ _ _ A [] h hV hM.hh hM.hn (Z.sel 5 [4,0,0,0,0] rfl)) fun w Z=>?_
 refine Zsz (Zl3 h b none 0 0 Z) fun w a1 c1 Z=>?_
 refine Ztp (Zhi _ _ _ _ _ h b tb to tt hV hla hM (Z.sel 7 [1,5,0,0,0,0,0] rfl)) fun w A1 j1 u1 c2 Z ⟨f1,f2⟩=>?_
 refine Zsh fun w Z=>?_
 as_aux_lemma =>
 have hV1:=Crt.pre hV f1
 obtain⟨⟨nm,c,x,m⟩,Z⟩:=St.exOpen Z
 replace Z:=Z.z
 replace Z:=(Z.at_ 4 rfl).share
 replace Z:=Z.z
 refine Sz ?_
 refine Zsy (Qa _ _ _ _ [j1] j1 (if h=b then[h] else[h,b]) _ _ hV1 f1.is.ref (XC h b) (Zb0 (q:=fun x=>(0≤x∧x≤18446744073709551615)∧V.T.s.opn x=true) ⟨hM.hh,hM.hn⟩ ⟨hM.hb,hM.hm⟩) hrm (by omega) (by simp) (Z.sel 5 [2,3,0,0,0] rfl)) fun w V1 Z ⟨f3,f4⟩=>?_
 refine Zss fun w Z=>?_
 refine Zss fun w Z=>?_
 have hrl2:=Xm f3 (by rw[Com.la f4];omega)
 replace Z:=St.cl (f:=JI p s a V1) ⟨_,_,_,_⟩ (Z.sel 5 [3,0,2,0,0] rfl)
 replace Z:=Z.z
 refine Sz ?_
 refine Zse (YB (Z:=Z)) fun w Z=>?_
 refine Zs2 (Uh _ (A1.ret j1) (List.map RN.root V1.rs++[]) j1 (Crt.rel f3) (by simp;omega) (Z.sel 2 [1,0] rfl)) fun w A2 f5 Z ⟨f6,f7⟩=>?_
 refine Zsh fun w Z=>?_
 replace Z:=(Z.sel 7 [1,0] rfl)
 exact⟨_,_,_,rfl,Z,⟨A1,j1,_,f1,f3,f4,f6⟩,f2⟩
theorem Ue{c h b k v lo hi n:Int}{es:Zl}(hc:CW c=true)(hn:0≤n∧n≤2147483647)(hl:es.length≤1000)(hz:He (opG c h b k v lo hi n es)):QD (opG c h b k v lo hi n es) :=
 ⟨hc,⟨hn,(by show 0≤32;decide),Nat.zero_le _,hl,Nat.zero_le _⟩,fun _ h=>(by cases h),hz⟩
theorem Zc6:QD (opG 1 0 0 0 0 0 0 0 []):=Ue rfl (by decide) (Nat.zero_le _) ⟨fun _=>rfl,fun _=>rfl,fun _=>rfl,fun _=>rfl,fun _=>rfl,fun _=>rfl,fun _=>rfl,fun _=>rfl,fun _=>rfl,fun _=>rfl,fun _=>rfl,fun _=>rfl⟩
theorem Zby{es:Zl}(h:es.length≤1000):QD (opG 7 0 0 0 0 0 0 0 es):=Ue rfl (by decide) h ⟨fun _=>rfl,fun _=>rfl,fun _=>rfl,fun _=>rfl,fun _=>rfl,fun _=>rfl,fun _=>rfl,fun _=>rfl,fun _=>rfl,fun _=>rfl,fun e=>absurd (show 69∈fs 7 by decide) e,fun _=>rfl⟩
theorem Zds(h k v:Int):QD (opG 3 h 0 k v 0 0 0 []):=Ue rfl (by decide) (Nat.zero_le _) ⟨fun e=>absurd (show 65∈fs 3 by decide) e,fun _=>rfl,fun e=>absurd (show 75∈fs 3 by decide) e,fun e=>absurd (show 86∈fs 3 by decide) e,fun _=>rfl,fun _=>rfl,fun _=>rfl,fun _=>rfl,fun _=>rfl,fun _=>rfl,fun _=>rfl,fun _=>rfl⟩
theorem Zdd(h k:Int):QD (opG 2 h 0 k 0 0 0 0 []):=Ue rfl (by decide) (Nat.zero_le _) ⟨fun e=>absurd (show 65∈fs 2 by decide) e,fun _=>rfl,fun e=>absurd (show 75∈fs 2 by decide) e,fun _=>rfl,fun _=>rfl,fun _=>rfl,fun _=>rfl,fun _=>rfl,fun _=>rfl,fun _=>rfl,fun _=>rfl,fun _=>rfl⟩
theorem CX(h b:Int):QD (opG 10 h b 0 0 0 0 3 []):=Ue rfl (by decide) (Nat.zero_le _) ⟨fun e=>absurd (show 65∈fs 10 by decide) e,fun e=>absurd (show 66∈fs 10 by decide) e,fun _=>rfl,fun _=>rfl,fun _=>rfl,fun _=>rfl,fun e=>absurd (show 78∈fs 10 by decide) e,fun _=>rfl,fun _=>rfl,fun _=>rfl,fun _=>rfl,fun _=>rfl⟩
theorem Zh3(h lo hi:Int):QD (opG 19 h 0 0 0 lo hi 1000 []):=Ue rfl (by decide) (Nat.zero_le _) ⟨fun e=>absurd (show 65∈fs 19 by decide) e,fun _=>rfl,fun _=>rfl,fun _=>rfl,fun e=>absurd (show 76∈fs 19 by decide) e,fun e=>absurd (show 72∈fs 19 by decide) e,fun e=>absurd (show 78∈fs 19 by decide) e,fun _=>rfl,fun _=>rfl,fun _=>rfl,fun _=>rfl,fun _=>rfl⟩
theorem Zgk(p s a:Nat)(V:VM)(A:AM)(hV:VI V A [])(hrm:0<V.room)(hla:V.last≤800)(Z:St g (YO p s a V::Zt a A::L) w) :
  Cp g L 16 [.P p,.agg (qO 1 0 0 0 0 0 0 0 .N)] w fun rV=>∃(V2:VM)(A4:AM),rV (.agg (qA 0 V.T.newH 0 false 0 .N)) [YO p s a V2,Zt a A4] (Crt V A [] .nil V2 A4):=by
 refine Sp.en Tryz.func16 ?_
 refine Zsp fun b1 w Z=>?_
 refine Zsk fun b2 w Z=>?_
 replace Z:=Z.nilS 32 2
 replace Z:=Z.z
 refine Zse (J_ 1 0 0 0 0 0 0 0 [] _ _ Zc6 Z) fun w Z=>?_
 refine Zse (Zcc 1 0 0 0 0 0 0 0 none 0 0 (by decide) Z) fun w Z=>?_
 refine Zse (Zhl 1 0 0 0 0 0 0 0 none 0 0 p (by decide) Z) fun w Z=>?_
 refine Zse (JU 1 (by decide) Z) fun w Z=>?_
 obtain⟨⟨nm,c,x,m⟩,Z⟩:=St.exOpen (Z.at_ 3 rfl)
 replace Z:=Z.z
 obtain⟨ss,hK⟩:=XT hV.g.ok.uniq
 refine Sz ?_
 refine Zse (QY _ _ _ ss hV.t hV.g hK.perm hK.le (Z.sel 2 [1,0] rfl)) fun w Z=>?_
 refine Zsm rfl (decide_eq_false ((by omega))) ?_
 replace Z:=St.cl (f:=JI p s a V) ⟨_,_,_,_⟩ (Z.sel 2 [1,0] rfl)
 replace Z:=Z.z
 refine Sz ?_
 refine Zuk (Zkg _ _ _ _ _ hV hrm hla (Z.sel 5 [0,3,0,0,0] rfl)) fun w V1 A1 Z f1=>?_
 refine Zsh fun w Z=>?_
 as_aux_lemma =>
 refine Sz ?_
 replace Z:=(Z.sel 5 [0,0] rfl)
 exact⟨_,_,rfl,Z,f1⟩
theorem CQ(p s a:Nat)(V:VM)(A:AM)(es:Zl)(ea:Option Addr)(ec:Nat)(hV:VI V A [])(hrm:0<V.room)(hla:V.last≤800)(hs:Srt es)(hl:es.length≤1000)(hf:(es.length:Int)≤A.s.free)(Z:St g (YO p s a V::Zt a A::Sh 32 2 (Zm es) ea ec::L) w) :
  Cp g L 16 [.P p,.agg (qO 7 0 0 0 0 0 0 0 (.slice ea (Zm es).length ec))] w fun rV=>∃(V2:VM)(A4:AM),rV (.agg (qA 0 V.T.newH 0 false 0 .N)) [YO p s a V2,Zt a A4,Sh 32 2 (Zm es) ea ec] (Crt V A [] (Tr.bld es) V2 A4):=by
 refine Sp.en Tryz.func16 ?_
 refine Zsp fun b1 w Z=>?_
 refine Zsk fun b2 w Z=>?_
 refine Zse (J_ 7 0 0 0 0 0 0 0 _ _ _ (Zby (by omega)) (Z.sel 5 [4,0,0,0,0] rfl)) fun w Z=>?_
 refine Zse (Zcc 7 0 0 0 0 0 0 0 ea (Zm es).length ec (by decide) Z) fun w Z=>?_
 refine Zse (Zhl 7 0 0 0 0 0 0 0 ea (Zm es).length ec p (by decide) Z) fun w Z=>?_
 refine Zse (JU 7 (by decide) Z) fun w Z=>?_
 obtain⟨⟨nm,c,x,m⟩,Z⟩:=St.exOpen (Z.at_ 3 rfl)
 replace Z:=Z.z
 obtain⟨ss,hK⟩:=XT hV.g.ok.uniq
 refine Sz ?_
 refine Zse (QY _ _ _ ss hV.t hV.g hK.perm hK.le (Z.sel 2 [1,0] rfl)) fun w Z=>?_
 refine Zsm rfl (decide_eq_false ((by omega))) ?_
 replace Z:=St.cl (f:=JI p s a V) ⟨_,_,_,_⟩ (Z.sel 2 [1,0] rfl)
 replace Z:=Z.z
 refine Sz ?_
 refine Zuk (Zel _ _ _ _ _ _ _ _ hV hrm hla hs hl hf (Z.sel 5 [0,3,0,0,0] rfl)) fun w V1 A1 Z f1=>?_
 refine Zsh fun w Z=>?_
 as_aux_lemma =>
 refine Sz ?_
 replace Z:=(Z.sel 5 [0,0,0] rfl)
 exact⟨_,_,rfl,Z,f1⟩
theorem Zc2(p s a:Nat)(V:VM)(A:AM)(hd k vv:Int)(t:Tr)(hV:VI V A [])(hrm:0<V.room)(hla:V.last≤800)(hh:0≤hd∧hd≤18446744073709551615)(hn:V.T.s.opn hd=true)(hi:Is A t (V.rootOf (V.T.val hd)))(hok:t.ok)(htn:t.n≤1000)(hf:4*((Tr.mxH (t.n+1):Int)+2)≤A.s.free)(Z:St g (YO p s a V::Zt a A::L) w) :
  Cp g L 16 [.P p,.agg (qO 3 hd 0 k vv 0 0 0 .N)] w fun rV=>∃(V2:VM)(A4:AM),rV (.agg (qA 0 V.T.newH ((Tr.get k t).getD 0) ((Tr.get k t).isSome) 0 .N)) [YO p s a V2,Zt a A4] (Crt V A [V.T.val hd] (Tr.ins k vv t) V2 A4):=by
 refine Sp.en Tryz.func16 ?_
 refine Zsp fun b1 w Z=>?_
 refine Zsk fun b2 w Z=>?_
 replace Z:=Z.nilS 32 2
 replace Z:=Z.z
 refine Zse (J_ 3 hd 0 k vv 0 0 0 [] _ _ (Zds hd k vv) Z) fun w Z=>?_
 refine Zse (Zcc 3 hd 0 k vv 0 0 0 none 0 0 (by decide) Z) fun w Z=>?_
 refine Zse (Zas 3 hd 0 k vv 0 0 0 none 0 0 _ _ _ _ A [] (by decide) hV hh hn (Z.sel 4 [3,0,0,0] rfl)) fun w Z=>?_
 refine Zse (JU 3 (by decide) Z) fun w Z=>?_
 obtain⟨⟨nm,c,x,m⟩,Z⟩:=St.exOpen Z
 replace Z:=Z.z
 obtain⟨ss,hK⟩:=XT hV.g.ok.uniq
 refine Sz ?_
 refine Zse (QY _ _ _ ss hV.t hV.g hK.perm hK.le (Z.sel 2 [1,0] rfl)) fun w Z=>?_
 refine Zsm rfl (decide_eq_false ((by omega))) ?_
 replace Z:=St.cl (f:=JI p s a V) ⟨_,_,_,_⟩ (Z.sel 2 [1,0] rfl)
 replace Z:=Z.z
 refine Sz ?_
 refine Zuk (Zkd _ _ _ _ _ hd k vv t hV hrm hla hh hn hi hok htn hf (Z.sel 5 [0,3,0,0,0] rfl)) fun w V1 A1 Z f1=>?_
 refine Zsh fun w Z=>?_
 as_aux_lemma =>
 refine Sz ?_
 replace Z:=(Z.sel 5 [0,0] rfl)
 exact⟨_,_,rfl,Z,f1⟩
theorem VL(p s a:Nat)(V:VM)(A:AM)(h b:Int)(tb to tt:Tr)(hV:VI V A [])(hrm:0<V.room)(hla:V.last≤800)(hM:Mgb V A h b tb to tt)(Z:St g (YO p s a V::Zt a A::L) w) :
  Cp g L 16 [.P p,.agg (qO 10 h b 0 0 0 0 3 .N)] w fun rV=>∃(V2:VM)(A4:AM)(u:Tr),rV (.agg (qA 0 V.T.newH 0 false (XP V h b) .N)) [YO p s a V2,Zt a A4] ((Crt V A ((if h=b then[h] else[h,b]).map V.T.val) u V2 A4)∧(u.ok∧u.ls=Z4 tb.ls tt.ls to.ls)):=by
 refine Sp.en Tryz.func16 ?_
 refine Zsp fun b1 w Z=>?_
 refine Zsk fun b2 w Z=>?_
 replace Z:=Z.nilS 32 2
 replace Z:=Z.z
 refine Zse (J_ 10 h b 0 0 0 0 3 [] _ _ (CX h b) Z) fun w Z=>?_
 refine Zse (Zpm h b 0 0 0 0 none 0 0 Z) fun w Z=>?_
 refine Zse (Zkp h b 0 0 0 0 3 none 0 0 _ _ _ _ A [] hV hM.hh hM.hn hM.hb hM.hm (Z.sel 4 [3,0,0,0] rfl)) fun w Z=>?_
 refine Zse (JU 10 (by decide) Z) fun w Z=>?_
 obtain⟨⟨nm,c,x,m⟩,Z⟩:=St.exOpen Z
 replace Z:=Z.z
 obtain⟨ss,hK⟩:=XT hV.g.ok.uniq
 refine Sz ?_
 refine Zse (QY _ _ _ ss hV.t hV.g hK.perm hK.le (Z.sel 2 [1,0] rfl)) fun w Z=>?_
 refine Zsm rfl (decide_eq_false ((by omega))) ?_
 replace Z:=St.cl (f:=JI p s a V) ⟨_,_,_,_⟩ (Z.sel 2 [1,0] rfl)
 replace Z:=Z.z
 refine Sz ?_
 refine Zul (Ze4 _ _ _ _ _ h b tb to tt hV hrm hla hM (Z.sel 5 [0,3,0,0,0] rfl)) fun w V1 A1 u1 Z ⟨f1,f2⟩=>?_
 refine Zsh fun w Z=>?_
 as_aux_lemma =>
 refine Sz ?_
 replace Z:=(Z.sel 5 [0,0] rfl)
 exact⟨_,_,_,rfl,Z,f1,f2⟩
theorem Zan(p s a:Nat)(V:VM)(A:AM)(h:Int)(t:Tr)(R:List Int)(lo hi9:Int)(hV:VI V A [])(hh:0≤h∧h≤18446744073709551615)(hn:V.T.s.opn h=true)(hi:Is A t (V.rootOf (V.T.val h)))(hs:Srt t.ls)(htn:t.n<1000)(hle:lo≤hi9)(Z:St g (YO p s a V::Zt a A::L) w) :
  Zr g L 47 [.P p,.agg (qO 19 h 0 0 0 lo hi9 1000 .N)] w fun rV=>∃(u2:Option Addr)(d2:Nat),rV (.agg (qA 0 0 0 false 0 (.slice u2 (Zm (Ql lo hi9 t.ls)).length d2))) [Zp 32 2 (Zm (Ql lo hi9 t.ls)) u2 d2,YO p s a V,Zt a A]:=by
 refine Sp.en Tryz.func47 ?_
 have _:=htn
 refine Zsp fun b1 w Z=>?_
 refine Zsk fun b2 w Z=>?_
 refine Zsk fun b3 w Z=>?_
 refine Zsg [([0,1,4,5,2,6],some (3,[4,5,6])),([],some (7,[])),([8,9],none)] ?_
 have _:=R
 refine Qd fun w Z=>?_
 refine Zse (HU _ _ _ _ A [] h hV hh hn (Z.sel 4 [3,0,0,0] rfl)) fun w Z=>?_
 refine Qd fun w Z=>?_
 refine Zse (D6 _ _ _ _ hV.t Z) fun w Z=>?_
 refine Qd fun w Z=>?_
 refine Zsg [([0,2,3,5,7,4,6,8],some (1,[2,3,4,5,6,7,8])),([],some (9,[])),([10],some (11,[]))] ?_
 refine Qd fun w Z=>?_
 refine Zse (YB (Z:=Z)) fun w Z=>?_
 refine Qd fun w Z=>?_
 refine Zsz (Zgv _ _ (List.map RN.root V.rs++[]) (V.rootOf (V.T.val h)) lo hi9 1000 t hV.ref hi hs (by omega) (by omega) hle (Z.sel 5 [4,0,0,0,0] rfl)) fun w u1 d1 Z=>?_
 refine Qd fun w Z=>?_
 refine Zss fun w Z=>?_
 refine Qd fun w Z=>?_
 as_aux_lemma =>
 refine Sz ?_
 refine Zsh fun w Z=>?_
 replace Z:=(Z.sel 6 [0,1,0] rfl)
 exact⟨_,_,rfl,Z⟩
theorem Zcf(p s a:Nat)(V:VM)(A:AM)(h:Int)(t:Tr)(k:Int)(hV:VI V A [])(hh:0≤h∧h≤18446744073709551615)(hn:V.T.s.opn h=true)(hi:Is A t (V.rootOf (V.T.val h)))(Z:St g (YO p s a V::Zt a A::L) w) :
  Zr g L 16 [.P p,.agg (qO 2 h 0 k 0 0 0 0 .N)] w fun rV=>rV (.agg (qA 0 0 ((Tr.get k t).getD 0) ((Tr.get k t).isSome) 0 .N)) [YO p s a V,Zt a A]:=by
 refine Sp.en Tryz.func16 ?_
 refine Zsp fun b1 w Z=>?_
 refine Zsk fun b2 w Z=>?_
 replace Z:=Z.nilS 32 2
 replace Z:=Z.z
 refine Zse (J_ 2 h 0 k 0 0 0 0 [] _ _ (Zdd h k) Z) fun w Z=>?_
 refine Zse (Zcc 2 h 0 k 0 0 0 0 none 0 0 (by decide) Z) fun w Z=>?_
 refine Zse (Zas 2 h 0 k 0 0 0 0 none 0 0 _ _ _ _ A [] (by decide) hV hh hn (Z.sel 4 [3,0,0,0] rfl)) fun w Z=>?_
 refine Zse (Dt 2 (by decide) Z) fun w Z=>?_
 as_aux_lemma =>
 refine Sz ?_
 refine Ztg (Zez _ _ _ _ _ [] h k t hV hh hn hi (Z.sel 5 [0,3,0,0,0] rfl)) fun w Z=>?_
 refine Zsh fun w Z=>?_
 replace Z:=(Z.sel 5 [0,0] rfl)
 exact⟨rfl,Z⟩
theorem Zk3(p s a:Nat)(V:VM)(A:AM)(h:Int)(t:Tr)(lo hi9:Int)(hV:VI V A [])(hh:0≤h∧h≤18446744073709551615)(hn:V.T.s.opn h=true)(hi:Is A t (V.rootOf (V.T.val h)))(hs:Srt t.ls)(htn:t.n<1000)(hle:lo≤hi9)(Z:St g (YO p s a V::Zt a A::L) w) :
  Zr g L 16 [.P p,.agg (qO 19 h 0 0 0 lo hi9 1000 .N)] w fun rV=>∃(u2:Option Addr)(d2:Nat),rV (.agg (qA 0 0 0 false 0 (.slice u2 (Zm (Ql lo hi9 t.ls)).length d2))) [Zp 32 2 (Zm (Ql lo hi9 t.ls)) u2 d2,YO p s a V,Zt a A]:=by
 refine Sp.en Tryz.func16 ?_
 refine Zsp fun b1 w Z=>?_
 refine Zsk fun b2 w Z=>?_
 replace Z:=Z.nilS 32 2
 replace Z:=Z.z
 refine Zse (J_ 19 h 0 0 0 lo hi9 1000 [] _ _ (Zh3 h lo hi9) Z) fun w Z=>?_
 refine Zse (Zqe h 0 0 0 lo hi9 none 0 0 Z) fun w Z=>?_
 refine Zse (Zas 19 h 0 0 0 lo hi9 1000 none 0 0 _ _ _ _ A [] (by decide) hV hh hn (Z.sel 4 [3,0,0,0] rfl)) fun w Z=>?_
 refine Zse (Dt 19 (by decide) Z) fun w Z=>?_
 as_aux_lemma =>
 refine Sz ?_
 refine Zvf (Zan _ _ _ _ _ h t [] lo hi9 hV hh hn hi hs htn hle (Z.sel 5 [0,3,0,0,0] rfl)) fun w u1 d1 Z=>?_
 refine Zsh fun w Z=>?_
 replace Z:=(Z.sel 6 [0,0,0] rfl)
 exact⟨_,_,rfl,Z⟩
end Go.Proofs.YtpebgkkmgffmaaaGreatDoor
