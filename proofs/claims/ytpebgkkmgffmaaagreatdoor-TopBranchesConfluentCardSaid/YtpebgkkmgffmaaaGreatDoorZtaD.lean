/-
  What the proof of Jtb stands on, part 4.
  Conditions: none.
-/
import Derived.Test.YtpebgkkmgffmaaaGreatDoorZtaC
set_option maxRecDepth 8192
namespace Go.Proofs.YtpebgkkmgffmaaaGreatDoor
open Go Go.V
theorem Zhz{l r:Tr}{k v:Int}(h:r≠.nil):Tr.pop (.node l k v r)=(Tr.join l k v (Tr.pop r).1,(Tr.pop r).2)∧Tr.pc (.node l k v r)=Tr.pc r+Tr.jc l (Tr.pop r).1:=by
 cases r with
 |nil=>exact absurd rfl h
 |node a b c d=>exact⟨by rw[Tr.pop],by rw[Tr.pc]⟩
theorem Zj2{l r:Tr}(hl:l≠.nil)(hr:r≠.nil):Tr.cat l r=Tr.join (Tr.pop l).1 (Tr.pop l).2.1 (Tr.pop l).2.2 r∧Tr.cc l r=Tr.pc l+Tr.jc (Tr.pop l).1 r:=by
 cases l with
 |nil=>exact absurd rfl hl
 |node a b c d =>
  cases r with
  |nil=>exact absurd rfl hr
  |node a' b' c' d'=>exact⟨rfl,rfl⟩
theorem Zit{l:Tr}:Tr.cat l .nil=l:=by cases l<;>rfl
theorem HJ{t:Tr}(h:t≠.nil):∃l k v r,t=.node l k v r:=by
 cases t with
 |nil=>exact absurd rfl h
 |node l k v r=>exact⟨l,k,v,r,rfl⟩
set_option maxHeartbeats 8000000
set_option maxRecDepth 8192
variable{g w:World}{L:List HP}
theorem CZ(nM:Nat)(ih:∀mM:Nat,mM<nM→∀(g w:World)(L:List HP)(a:Nat)(A:AM)(R:List Int)(i:Int)(t:Tr),(ARf A (i::R))→(Is A t i)→(t≠.nil)→((Tr.pc t:Int)≤A.s.free)→(R.length+t.n≤650000000)→t.n=mM→St g (Zt a A::L) w→Cp g L 432 [.P a,.W i] w fun rV=>∃(A2:AM)(j:Int),rV (.tuple #[.W j,.agg #[.I (Tr.pop t).2.1,.I (Tr.pop t).2.2]]) [Zt a A2] (TOp A A2 R j (Tr.pop t).1 (Tr.pc t)))(a:Nat)(A:AM)(R:List Int)(i:Int)(t:Tr)(hA:ARf A (i::R))(hi:Is A t i)(hne:t≠.nil)(hf:(Tr.pc t:Int)≤A.s.free)(hz:R.length+t.n≤650000000)(hM:t.n=nM)(Z:St g (Zt a A::L) w) :
  Cp g L 432 [.P a,.W i] w fun rV=>∃(A2:AM)(j:Int),rV (.tuple #[.W j,.agg #[.I (Tr.pop t).2.1,.I (Tr.pop t).2.2]]) [Zt a A2] (TOp A A2 R j (Tr.pop t).1 (Tr.pc t)):=by
 refine Sp.en Tryz.func432 ?_
 have _:=hz
 have _:=hf
 refine Zsk fun b1 w Z=>?_
 obtain⟨tl,k,z,tr,ht⟩:=HJ hne;have htn:t.n=tl.n+tr.n+1:=(by rw[ht];rfl);have hi2:Is A (.node tl k z tr) i:=ht▸hi
 refine Sz ?_
 refine Ztk (Xv _ _ R i k z tl tr hA hi2 (by omega) (Z.sel 2 [1,0] rfl)) fun w A1 x1 y1 Z f1=>?_
 refine Zsk fun b2 w Z=>?_
 refine Zsh fun w Z=>?_
 have hr1:=f1.rng;have hx0:=Is.nil_iff f1.ir;have hfr1:=f1.fr
 refine Sz ?_
 refine Zsr rfl (fun hy=>?_) (fun hy=>?_)
 ·refine Sz ?_
  refine Zsg [([0,2],some (1,[0,2])),([],some (3,[]))] ?_
  refine Qd fun w Z=>?_
  refine Qd fun w Z=>?_
  refine Zsh fun w Z=>?_
  refine Qd fun w Z=>?_
  replace Z:=(Z.sel 3 [1] rfl)
  have hrn:=hx0.1 hy;subst hrn;subst hy;subst ht;exact⟨_,_,rfl,Z,⟨f1.ref.sw.tail0,f1.il,f1.kp,by have:=f1.fr;omega,f1.cap⟩⟩
 have hrn:tr≠.nil:=(fun e=>hy (hx0.2 e));have hps:=Zhz (l:=tl) (k:=k) (v:=z) hrn;rw[←ht] at hps;have hpn:=Tr.pop_n tr hrn
 refine Sz ?_
 refine Zte rfl rfl (ih (tr.n) (by omega) _ _ _ a A1 (x1::R) y1 tr (f1.swap) (f1.ir) (hrn) ((by omega)) ((by simp only[List.length_cons];omega)) rfl (Z.sel 2 [1,0] rfl)) rfl ?_
 clear Z;rintro _ w ⟨A2,j1,rfl,Z,f2⟩
 replace Z:=Z.z
 refine Sz ?_
 refine Zsk fun b3 w Z=>?_
 refine Zsh fun w Z=>?_
 refine Zsg [([0,1,2,3,5],some (4,[5])),([6],some (7,[]))] ?_
 refine Qd fun w Z=>?_
 refine Zs2 (J2 _ _ R x1 j1 k z tl (Tr.pop tr).1 f2.ref.sw (f2.kp x1 (by simp) tl f1.il) f2.is (by have:=f2.fr;omega) (by omega) (Z.sel 2 [1,0] rfl)) fun w A3 i1 Z f3=>?_
 refine Qd fun w Z=>?_
 refine Zsh fun w Z=>?_
 refine Qd fun w Z=>?_
 replace Z:=(Z.sel 4 [0] rfl)
 exact⟨_,_,by rw[hps.1];rfl,Z,by rw[hps.1,hps.2];exact f3.after (f1.ch.trans f2.ch HX Di) HX (by omega)⟩
theorem Za4(nM:Nat):∀(g w:World)(L:List HP)(a:Nat)(A:AM)(R:List Int)(i:Int)(t:Tr),(ARf A (i::R))→(Is A t i)→(t≠.nil)→((Tr.pc t:Int)≤A.s.free)→(R.length+t.n≤650000000)→t.n=nM→St g (Zt a A::L) w→Cp g L 432 [.P a,.W i] w fun rV=>∃(A2:AM)(j:Int),rV (.tuple #[.W j,.agg #[.I (Tr.pop t).2.1,.I (Tr.pop t).2.2]]) [Zt a A2] (TOp A A2 R j (Tr.pop t).1 (Tr.pc t)):=by
 induction nM using Nat.strongRecOn with
 |_ nM ih=>intro g w L a A R i t hA hi hne hf hz hM Z;exact CZ nM ih a A R i t hA hi hne hf hz hM Z
theorem Zsb(a:Nat)(A:AM)(R:List Int)(i:Int)(t:Tr)(hA:ARf A (i::R))(hi:Is A t i)(hne:t≠.nil)(hf:(Tr.pc t:Int)≤A.s.free)(hz:R.length+t.n≤650000000)(Z:St g (Zt a A::L) w) :
  Cp g L 432 [.P a,.W i] w fun rV=>∃(A2:AM)(j:Int),rV (.tuple #[.W j,.agg #[.I (Tr.pop t).2.1,.I (Tr.pop t).2.2]]) [Zt a A2] (TOp A A2 R j (Tr.pop t).1 (Tr.pc t)):=Za4 _ g w L a A R i t hA hi hne hf hz rfl Z
theorem Zrh(a:Nat)(A:AM)(R:List Int)(l r:Int)(tl tr:Tr)(hA:ARf A (l::r::R))(hl:Is A tl l)(hr:Is A tr r)(hf:(Tr.cc tl tr:Int)≤A.s.free)(hz:R.length+tl.n+tr.n≤600000000)(Z:St g (Zt a A::L) w) :
  Cp g L 338 [.P a,.W l,.W r] w fun rV=>∃(A2:AM)(i:Int),rV (.W i) [Zt a A2] (TOp A A2 R i (Tr.cat tl tr) (Tr.cc tl tr)):=by
 refine Sp.en Tryz.func338 ?_
 have _:=hz
 have _:=hf
 have hl0:=Is.nil_iff hl;have hr0:=Is.nil_iff hr
 refine Sz ?_
 refine Zsi (fun hx=>?_) fun hx=>?_
 ·have h9:=hl0.1 hx;subst hx;subst h9;exact⟨_,_,rfl,Z,ARf.refl hA.tail0 hr⟩
 refine Zsr rfl (fun hy=>?_) (fun hy=>?_)
 ·refine Sz ?_
  have h9:=hr0.1 hy;subst hy;subst h9;exact⟨_,_,rfl,Z,by rw[Zit];exact(ARf.refl hA.sw.tail0 hl).weak (Nat.zero_le _)⟩
 have hln:tl≠.nil:=(fun e=>hx (hl0.2 e));have hcs:=Zj2 hln (fun e=>hy (hr0.2 e));have hpn:=Tr.pop_n tl hln
 refine Sz ?_
 refine Zs2 (Zsb _ _ (r::R) l tl hA hl hln (by omega) (by simp only[List.length_cons];omega) Z) fun w A1 j1 Z f1=>?_
 refine Zsk fun b1 w Z=>?_
 refine Zsh fun w Z=>?_
 refine Zs2 (J2 _ _ R j1 r (Tr.pop tl).2.1 (Tr.pop tl).2.2 (Tr.pop tl).1 tr f1.ref f1.is (f1.kp r (by simp) tr hr) (by have:=f1.fr;omega) (by omega) (Z.sel 2 [1,0] rfl)) fun w A2 i1 Z f2=>?_
 replace Z:=(Z.sel 2 [0] rfl)
 exact⟨_,_,rfl,Z,by rw[hcs.1,hcs.2];exact f2.after f1.ch Di (by omega)⟩
theorem Vz(nM:Nat)(ih:∀mM:Nat,mM<nM→∀(g w:World)(L:List HP)(a:Nat)(A:AM)(R:List Int)(i k z:Int)(t:Tr),(ARf A (i::R))→(Is A t i)→((Tr.ic k z t:Int)≤A.s.free)→(R.length+t.n≤600000000)→t.n=mM→St g (Zt a A::L) w→Cp g L 219 [.P a,.W i,.agg #[.I k,.I z]] w fun rV=>∃(A2:AM)(j:Int),rV (.W j) [Zt a A2] (TOp A A2 R j (Tr.ins k z t) (Tr.ic k z t)))(a:Nat)(A:AM)(R:List Int)(i k z:Int)(t:Tr)(hA:ARf A (i::R))(hi:Is A t i)(hf:(Tr.ic k z t:Int)≤A.s.free)(hz:R.length+t.n≤600000000)(hM:t.n=nM)(Z:St g (Zt a A::L) w) :
  Cp g L 219 [.P a,.W i,.agg #[.I k,.I z]] w fun rV=>∃(A2:AM)(j:Int),rV (.W j) [Zt a A2] (TOp A A2 R j (Tr.ins k z t) (Tr.ic k z t)):=by
 refine Sp.en Tryz.func219 ?_
 have _:=hz
 have _:=hf
 refine Zsp fun b1 w Z=>?_
 have hx0:=Is.nil_iff hi
 refine Sz ?_
 refine Zsr rfl (fun hx=>?_) (fun hx=>?_)
 ·have h9:=hx0.1 hx;subst h9;have hA0:ARf A (0::0::R):=(by rw[hx] at hA;exact hA.cons0 (by simp;omega));have hf1:Tr.ic k z .nil=1:=rfl
  refine Sz ?_
  refine Zs2 (Yj _ _ R 0 0 k z .nil .nil hA0 rfl rfl (by omega) (by simp only[Tr.n];omega) (Z.sel 2 [1,0] rfl)) fun w A1 i1 Z f1=>?_
  replace Z:=(Z.sel 2 [0] rfl)
  exact⟨_,_,rfl,Z,f1⟩
 obtain⟨tl,fk,fz,tr,ht⟩:=HJ (t:=t) (fun e=>hx (hx0.2 e));have htn:t.n=tl.n+tr.n+1:=(by rw[ht];rfl);have hi2:Is A (.node tl fk fz tr) i:=ht▸hi
 refine Sz ?_
 refine Ztk (Xv _ _ R i fk fz tl tr hA hi2 (by omega) (Z.sel 2 [1,0] rfl)) fun w A1 x1 y1 Z f1=>?_
 refine Zsk fun b2 w Z=>?_
 refine Zsh fun w Z=>?_
 have hr1:=f1.rng;have hfr1:=f1.fr
 refine Sz ?_
 refine Zsi (fun hlt=>?_) fun hlt=>?_
 ·refine Zsg [([0,1,2,3,5,6],some (4,[0,5,6])),([],some (7,[])),([8],none)] ?_
  have hie:Tr.ic k z t=Tr.ic k z tl+Tr.jc (Tr.ins k z tl) tr:=(by rw[ht,Tr.ic,if_pos hlt]);have hne:Tr.ins k z t=Tr.join (Tr.ins k z tl) fk fz tr:=(by rw[ht,Tr.ins,if_pos hlt]);have hin:=Tr.ins_n k z tl
  refine Qd fun w Z=>?_
  refine Zte rfl rfl (ih (tl.n) (by omega) _ _ _ a A1 (y1::R) x1 k z tl (f1.ref) (f1.il) ((by omega)) ((by simp only[List.length_cons];omega)) rfl (Z.sel 2 [1,0] rfl)) rfl ?_
  clear Z;rintro _ w ⟨A2,j1,rfl,Z,f2⟩
  replace Z:=Z.z
  refine Sz ?_
  refine Qd fun w Z=>?_
  refine Zs2 (J2 _ _ R j1 y1 fk fz (Tr.ins k z tl) tr f2.ref f2.is (f2.kp y1 (by simp) tr f1.ir) (by have:=f2.fr;omega) (by split at hin<;>omega) Z) fun w A3 i1 Z f3=>?_
  refine Qd fun w Z=>?_
  replace Z:=(Z.sel 3 [0] rfl)
  exact⟨_,_,rfl,Z,by rw[hne,hie];exact f3.after (f1.ch.trans f2.ch HX Di) HX (by omega)⟩
 refine Zsr rfl (fun hgt=>?_) (fun hgt=>?_)
 ·refine Sz ?_
  refine Zsg [([0,1,2,3,4,5],some (6,[0,1,2])),([],some (7,[])),([8],none)] ?_
  have hie:Tr.ic k z t=Tr.ic k z tr+Tr.jc tl (Tr.ins k z tr):=(by rw[ht,Tr.ic,if_neg hlt,if_pos hgt]);have hne:Tr.ins k z t=Tr.join tl fk fz (Tr.ins k z tr):=(by rw[ht,Tr.ins,if_neg hlt,if_pos hgt]);have hin:=Tr.ins_n k z tr
  refine Qd fun w Z=>?_
  refine Zte rfl rfl (ih (tr.n) (by omega) _ _ _ a A1 (x1::R) y1 k z tr (f1.swap) (f1.ir) ((by omega)) ((by simp only[List.length_cons];omega)) rfl (Z.sel 2 [1,0] rfl)) rfl ?_
  clear Z;rintro _ w ⟨A2,j1,rfl,Z,f2⟩
  replace Z:=Z.z
  refine Sz ?_
  refine Qd fun w Z=>?_
  refine Zs2 (J2 _ _ R x1 j1 fk fz tl (Tr.ins k z tr) f2.ref.sw (f2.kp x1 (by simp) tl f1.il) f2.is (by have:=f2.fr;omega) (by split at hin<;>omega) Z) fun w A3 i1 Z f3=>?_
  refine Qd fun w Z=>?_
  replace Z:=(Z.sel 3 [0] rfl)
  exact⟨_,_,rfl,Z,by rw[hne,hie];exact f3.after (f1.ch.trans f2.ch HX Di) HX (by omega)⟩
 have hie:Tr.ic k z t=1:=(by rw[ht,Tr.ic,if_neg hlt,if_neg hgt]);have hne:Tr.ins k z t=.node tl k z tr:=(by rw[ht,Tr.ins,if_neg hlt,if_neg hgt])
 refine Sz ?_
 refine Zs2 (Yj _ _ R x1 y1 k z tl tr f1.ref f1.il f1.ir (by omega) (by omega) (Z.sel 2 [1,0] rfl)) fun w A2 i1 Z f2=>?_
 replace Z:=(Z.sel 3 [0] rfl)
 exact⟨_,_,rfl,Z,by rw[hne,hie];exact f2.after f1.ch HX (by omega)⟩
theorem Zap(nM:Nat):∀(g w:World)(L:List HP)(a:Nat)(A:AM)(R:List Int)(i k z:Int)(t:Tr),(ARf A (i::R))→(Is A t i)→((Tr.ic k z t:Int)≤A.s.free)→(R.length+t.n≤600000000)→t.n=nM→St g (Zt a A::L) w→Cp g L 219 [.P a,.W i,.agg #[.I k,.I z]] w fun rV=>∃(A2:AM)(j:Int),rV (.W j) [Zt a A2] (TOp A A2 R j (Tr.ins k z t) (Tr.ic k z t)):=by
 induction nM using Nat.strongRecOn with
 |_ nM ih=>intro g w L a A R i k z t hA hi hf hz hM Z;exact Vz nM ih a A R i k z t hA hi hf hz hM Z
theorem Zio(a:Nat)(A:AM)(R:List Int)(i k z:Int)(t:Tr)(hA:ARf A (i::R))(hi:Is A t i)(hf:(Tr.ic k z t:Int)≤A.s.free)(hz:R.length+t.n≤600000000)(Z:St g (Zt a A::L) w) :
  Cp g L 219 [.P a,.W i,.agg #[.I k,.I z]] w fun rV=>∃(A2:AM)(j:Int),rV (.W j) [Zt a A2] (TOp A A2 R j (Tr.ins k z t) (Tr.ic k z t)):=Zap _ g w L a A R i k z t hA hi hf hz rfl Z
theorem VR(nM:Nat)(ih:∀mM:Nat,mM<nM→∀(g w:World)(L:List HP)(a:Nat)(A:AM)(R:List Int)(i k:Int)(t:Tr),(ARf A (i::R))→(Is A t i)→((Tr.dc k t:Int)≤A.s.free)→(R.length+t.n≤550000000)→t.n=mM→St g (Zt a A::L) w→Cp g L 221 [.P a,.W i,.I k] w fun rV=>∃(A2:AM)(j:Int),rV (.W j) [Zt a A2] (TOp A A2 R j (Tr.del k t) (Tr.dc k t)))(a:Nat)(A:AM)(R:List Int)(i k:Int)(t:Tr)(hA:ARf A (i::R))(hi:Is A t i)(hf:(Tr.dc k t:Int)≤A.s.free)(hz:R.length+t.n≤550000000)(hM:t.n=nM)(Z:St g (Zt a A::L) w) :
  Cp g L 221 [.P a,.W i,.I k] w fun rV=>∃(A2:AM)(j:Int),rV (.W j) [Zt a A2] (TOp A A2 R j (Tr.del k t) (Tr.dc k t)):=by
 refine Sp.en Tryz.func221 ?_
 have _:=hz
 have _:=hf
 have hx0:=Is.nil_iff hi
 refine Sz ?_
 refine Zsr rfl (fun hx=>?_) (fun hx=>?_)
 ·refine Sz ?_
  have h9:=hx0.1 hx;subst hx;subst h9;exact⟨_,_,rfl,Z,ARf.refl hA hi⟩
 obtain⟨tl,fk,fz,tr,ht⟩:=HJ (t:=t) (fun e=>hx (hx0.2 e));have htn:t.n=tl.n+tr.n+1:=(by rw[ht];rfl);have hi2:Is A (.node tl fk fz tr) i:=ht▸hi
 refine Sz ?_
 refine Ztk (Xv _ _ R i fk fz tl tr hA hi2 (by omega) Z) fun w A1 x1 y1 Z f1=>?_
 refine Zsk fun b1 w Z=>?_
 refine Zsh fun w Z=>?_
 have hr1:=f1.rng;have hfr1:=f1.fr
 refine Sz ?_
 refine Zsi (fun hlt=>?_) fun hlt=>?_
 ·refine Zsg [([0,1,2,3,5,6],some (4,[0,5,6])),([],some (7,[])),([8],none)] ?_
  have hie:Tr.dc k t=Tr.dc k tl+Tr.jc (Tr.del k tl) tr:=(by rw[ht,Tr.dc,if_pos hlt]);have hne:Tr.del k t=Tr.join (Tr.del k tl) fk fz tr:=(by rw[ht,Tr.del,if_pos hlt]);have hin:=Tr.del_n k tl
  refine Qd fun w Z=>?_
  refine Zte rfl rfl (ih (tl.n) (by omega) _ _ _ a A1 (y1::R) x1 k tl (f1.ref) (f1.il) ((by omega)) ((by simp only[List.length_cons];omega)) rfl (Z.sel 2 [1,0] rfl)) rfl ?_
  clear Z;rintro _ w ⟨A2,j1,rfl,Z,f2⟩
  replace Z:=Z.z
  refine Sz ?_
  refine Qd fun w Z=>?_
  refine Zs2 (J2 _ _ R j1 y1 fk fz (Tr.del k tl) tr f2.ref f2.is (f2.kp y1 (by simp) tr f1.ir) (by have:=f2.fr;omega) (by split at hin<;>omega) Z) fun w A3 i1 Z f3=>?_
  refine Qd fun w Z=>?_
  replace Z:=(Z.sel 2 [0] rfl)
  exact⟨_,_,rfl,Z,by rw[hne,hie];exact f3.after (f1.ch.trans f2.ch HX Di) HX (by omega)⟩
 refine Zsr rfl (fun hgt=>?_) (fun hgt=>?_)
 ·refine Sz ?_
  refine Zsg [([0,1,2,3,4,5],some (6,[0,1,2])),([],some (7,[])),([8],none)] ?_
  have hie:Tr.dc k t=Tr.dc k tr+Tr.jc tl (Tr.del k tr):=(by rw[ht,Tr.dc,if_neg hlt,if_pos hgt]);have hne:Tr.del k t=Tr.join tl fk fz (Tr.del k tr):=(by rw[ht,Tr.del,if_neg hlt,if_pos hgt]);have hin:=Tr.del_n k tr
  refine Qd fun w Z=>?_
  refine Zte rfl rfl (ih (tr.n) (by omega) _ _ _ a A1 (x1::R) y1 k tr (f1.swap) (f1.ir) ((by omega)) ((by simp only[List.length_cons];omega)) rfl (Z.sel 2 [1,0] rfl)) rfl ?_
  clear Z;rintro _ w ⟨A2,j1,rfl,Z,f2⟩
  replace Z:=Z.z
  refine Sz ?_
  refine Qd fun w Z=>?_
  refine Zs2 (J2 _ _ R x1 j1 fk fz tl (Tr.del k tr) f2.ref.sw (f2.kp x1 (by simp) tl f1.il) f2.is (by have:=f2.fr;omega) (by split at hin<;>omega) Z) fun w A3 i1 Z f3=>?_
  refine Qd fun w Z=>?_
  replace Z:=(Z.sel 2 [0] rfl)
  exact⟨_,_,rfl,Z,by rw[hne,hie];exact f3.after (f1.ch.trans f2.ch HX Di) HX (by omega)⟩
 have hie:Tr.dc k t=Tr.cc tl tr:=(by rw[ht,Tr.dc,if_neg hlt,if_neg hgt]);have hne:Tr.del k t=Tr.cat tl tr:=(by rw[ht,Tr.del,if_neg hlt,if_neg hgt])
 refine Sz ?_
 refine Zs2 (Zrh _ _ R x1 y1 tl tr f1.ref f1.il f1.ir (by omega) (by omega) (Z.sel 2 [1,0] rfl)) fun w A2 i1 Z f2=>?_
 replace Z:=(Z.sel 2 [0] rfl)
 exact⟨_,_,rfl,Z,by rw[hne,hie];exact f2.after f1.ch HX (by omega)⟩
theorem Zaf(nM:Nat):∀(g w:World)(L:List HP)(a:Nat)(A:AM)(R:List Int)(i k:Int)(t:Tr),(ARf A (i::R))→(Is A t i)→((Tr.dc k t:Int)≤A.s.free)→(R.length+t.n≤550000000)→t.n=nM→St g (Zt a A::L) w→Cp g L 221 [.P a,.W i,.I k] w fun rV=>∃(A2:AM)(j:Int),rV (.W j) [Zt a A2] (TOp A A2 R j (Tr.del k t) (Tr.dc k t)):=by
 induction nM using Nat.strongRecOn with
 |_ nM ih=>intro g w L a A R i k t hA hi hf hz hM Z;exact VR nM ih a A R i k t hA hi hf hz hM Z
theorem Zqb(a:Nat)(A:AM)(R:List Int)(i k:Int)(t:Tr)(hA:ARf A (i::R))(hi:Is A t i)(hf:(Tr.dc k t:Int)≤A.s.free)(hz:R.length+t.n≤550000000)(Z:St g (Zt a A::L) w) :
  Cp g L 221 [.P a,.W i,.I k] w fun rV=>∃(A2:AM)(j:Int),rV (.W j) [Zt a A2] (TOp A A2 R j (Tr.del k t) (Tr.dc k t)):=Zaf _ g w L a A R i k t hA hi hf hz rfl Z
theorem U3(a:Nat)(A:AM)(R:List Int)(i:Int)(hA:ARf A R)(hi:i=0∨(1≤i∧A.s.ok i=true))(hz:R.length≤900000000)(Z:St g (Zt a A::L) w) :
  Cp g L 215 [.P a,.W i] w fun rV=>rV (.W i) [Zt a (A.ret i)] (ARf (A.ret i) (i::R)):=by
 refine Sp.en Tryz.func215 ?_
 have _:=hz
 have hri:=hA.okrng hi
 refine Sz ?_
 refine Zse (JV _ _ i hA.toAWf (by omega) Z) fun w Z=>?_
 exact⟨rfl,Z,(AM.ret_eq hA hi (by omega)).1⟩
theorem Zc8(a:Nat)(A:AM)(n:Int)(hA:AWf A)(Z:St g (Zt a A::L) w) :
  Zr g L 216 [.P a,.I n] w fun rV=>rV (.bool (decide (0≤n∧n≤A.s.free))) [Zt a A]:=by
 refine Sp.en Tryz.func216 ?_
 by_cases cg1:0≤n
 ·refine Zsf 7 (.bool true) (congrArg Value.bool (decide_eq_true cg1)) ?_
  refine Sz ?_
  refine Zse (D9 _ _ hA Z) fun w Z=>?_
  first|exact⟨congrArg Value.bool (JQ (by omega)),Z⟩|exact⟨congrArg Value.bool (decide_eq_false (by omega)).symm,Z⟩
 refine Zsf 7 (.bool false) (congrArg Value.bool (decide_eq_false cg1)) ?_
 refine Sz ?_
 first|exact⟨congrArg Value.bool (JQ (by omega)),Z⟩|exact⟨congrArg Value.bool (decide_eq_false (by omega)).symm,Z⟩
end Go.Proofs.YtpebgkkmgffmaaaGreatDoor
namespace Go.V
open Go Go.RowKit
def Tr.bldN:Nat→Zl→Tr
 |0,_=>.nil
 |f+1,l=>match l[l.length/2]? with
  |none=>.nil
  |some e=>.node (Tr.bldN f (l.take (l.length/2))) e.1 e.2 (Tr.bldN f (l.drop (l.length/2+1)))
theorem Tr.bldN_eq:∀(f g:Nat)(l:Zl),l.length≤f→l.length≤g→Tr.bldN f l=Tr.bldN g l
 |0,0,_,_,_=>rfl
 |0,g+1,l,h,_=>by
  have:l=[]:=List.eq_nil_of_length_eq_zero (by omega)
  subst this;rfl
 |f+1,0,l,_,h=>by
  have:l=[]:=List.eq_nil_of_length_eq_zero (by omega)
  subst this;rfl
 |f+1,g+1,l,h,k=>by
  unfold Tr.bldN
  cases hm:l[l.length/2]? with
  |none=>rfl
  |some e =>
   have hlt:=(List.getElem?_eq_some_iff.1 hm).1
   simp only
   rw[Tr.bldN_eq f g (l.take (l.length/2)) (by rw[List.length_take];omega) (by rw[List.length_take];omega),Tr.bldN_eq f g (l.drop (l.length/2+1)) (by rw[List.length_drop];omega) (by rw[List.length_drop];omega)]
def Tr.bld(l:Zl):Tr:=Tr.bldN l.length l
theorem Tr.bld_go{l:Zl}{e:Int×Int}(h:l[l.length/2]?=some e):Tr.bld l=.node (Tr.bld (l.take (l.length/2))) e.1 e.2 (Tr.bld (l.drop (l.length/2+1))):=by
 have hlt:=(List.getElem?_eq_some_iff.1 h).1
 unfold Tr.bld
 rw[Tr.bldN_eq l.length (l.length+1) l (Nat.le_refl _) (Nat.le_succ _)]
 conv=>lhs;unfold Tr.bldN
 rw[h]
 simp only
 rw[Tr.bldN_eq l.length (l.take (l.length/2)).length _ (by rw[List.length_take];omega) (Nat.le_refl _),Tr.bldN_eq l.length (l.drop (l.length/2+1)).length _ (by rw[List.length_drop];omega) (Nat.le_refl _)]
theorem Tr.bld_ls:∀(n:Nat)(l:Zl),l.length≤n→(Tr.bld l).ls=l
 |0,l,h=>by
  have:l=[]:=List.eq_nil_of_length_eq_zero (by omega)
  subst this;rfl
 |n+1,l,h=>by
  cases hm:l[l.length/2]? with
  |none =>
   have:l=[]:=List.eq_nil_of_length_eq_zero (by have:=List.getElem?_eq_none_iff.1 hm;omega)
   subst this;rfl
  |some e =>
   have hlt:=(List.getElem?_eq_some_iff.1 hm).1
   rw[Tr.bld_go hm]
   show(Tr.bld _).ls++(e.1,e.2)::(Tr.bld _).ls=l
   rw[Tr.bld_ls n _ (by rw[List.length_take];omega),Tr.bld_ls n _ (by rw[List.length_drop];omega)]
   have he:l[l.length/2]=e:=(List.getElem?_eq_some_iff.1 hm).2
   conv=>rhs;rw[←List.take_append_drop (l.length/2) l,List.drop_eq_getElem_cons hlt,he]
theorem Tr.bld_n(l:Zl):(Tr.bld l).n=l.length:=by rw[←Tr.ls_len,Tr.bld_ls _ l (Nat.le_refl _)]
theorem Tr.bld_ok:∀(n:Nat)(l:Zl),l.length≤n→(Tr.bld l).ok
 |0,l,h=>by
  have:l=[]:=List.eq_nil_of_length_eq_zero (by omega)
  subst this;trivial
 |n+1,l,h=>by
  cases hm:l[l.length/2]? with
  |none =>
   have:l=[]:=List.eq_nil_of_length_eq_zero (by have:=List.getElem?_eq_none_iff.1 hm;omega)
   subst this;trivial
  |some e =>
   have hlt:=(List.getElem?_eq_some_iff.1 hm).1
   rw[Tr.bld_go hm]
   refine⟨?_,Tr.bld_ok n _ (by rw[List.length_take];omega),Tr.bld_ok n _ (by rw[List.length_drop];omega)⟩
   rw[Tr.bld_n,Tr.bld_n,List.length_take,List.length_drop]
   unfold Jn;omega
theorem Zfy{l:Zl}(h:Srt l){i j:Nat}{x y:Int×Int}(hx:l[i]?=some x)(hy:l[j]?=some y)(hij:i<j):x.1<y.1:=by
 obtain⟨hi,rfl⟩:=List.getElem?_eq_some_iff.1 hx
 obtain⟨hj,rfl⟩:=List.getElem?_eq_some_iff.1 hy
 exact List.pairwise_iff_getElem.1 h i j hi hj hij
theorem Zmy{A:AM}{R:List Int}(h:ARf A R)(T:Int→Tr)(hT:∀r∈R,Is A (T r) r):A.s.cap-A.s.free≤((R.map fun r=>(T r).n).foldr (· + ·) 0:Nat):=by
 have h1:=AM.cnt_live h.s
 have hsub:∀j∈A.live,j∈R.flatMap fun r=>ixs A (T r) r:=fun j hj=>by
  obtain⟨h0,h2⟩:=(A.mem_live j).1 hj
  have h3:=(SM.ok_rng h.s h0 h2).1
  refine Zcq h (fun j=>j∈R.flatMap fun r=>ixs A (T r) r) (fun x hx hne=>List.mem_flatMap.2 ⟨x,hx,Jj (hT x hx) hne⟩) (fun j _ _ hj c hc hne=>?_) j h3 h2
  obtain⟨r,hr,hj⟩:=List.mem_flatMap.1 hj
  exact List.mem_flatMap.2 ⟨r,hr,J' (T r) r (hT r hr) j hj c hc hne⟩
 have h4:=Dr A.live_nodup hsub
 have h5:∀(l:List Int),(∀r∈l,Is A (T r) r)→(l.flatMap fun r=>ixs A (T r) r).length=(l.map fun r=>(T r).n).foldr (· + ·) 0:=by
  intro l
  induction l with
  |nil=>intro _;rfl
  |cons r l ih=>intro hl;rw[List.flatMap_cons,List.length_append,Cz A (hl r (by simp)),ih (fun x hx=>hl x (by simp[hx]))];rfl
 rw[h5 R hT] at h4
 omega
end Go.V
namespace Go.Proofs.YtpebgkkmgffmaaaGreatDoor
open Go Go.V Go.RowKit
theorem TOp.after0{A B C:AM}{R:List Int}{x i:Int}{t u:Tr}{c d:Nat}(h:TOp A B R x t c)(k:TOp B C (x::R) i u d):ARf C (i::x::R)∧Is C t x:=⟨k.ref,k.kp x (by simp) t h.is⟩
set_option maxHeartbeats 8000000
set_option maxRecDepth 8192
variable{g w:World}{L:List HP}
theorem Vv(nM:Nat)(ih:∀mM:Nat,mM<nM→∀(g w:World)(L:List HP)(a:Nat)(A:AM)(R:List Int)(l:Zl)(u:Option Addr)(d:Nat),(ARf A R)→((l.length:Int)≤A.s.free)→(l.length≤65536)→(R.length+l.length≤500000000)→l.length=mM→St g (Zt a A::Sh 32 2 (Zm l) u d::L) w→Cp g L 214 [.P a,.slice u (Zm l).length d] w fun rV=>∃(A2:AM)(i:Int),rV (.W i) [Zt a A2,Sh 32 2 (Zm l) u d] (TOp A A2 R i (Tr.bld l) l.length))(a:Nat)(A:AM)(R:List Int)(l:Zl)(u:Option Addr)(d:Nat)(hA:ARf A R)(hf:(l.length:Int)≤A.s.free)(hl:l.length≤65536)(hz:R.length+l.length≤500000000)(hM:l.length=nM)(Z:St g (Zt a A::Sh 32 2 (Zm l) u d::L) w) :
  Cp g L 214 [.P a,.slice u (Zm l).length d] w fun rV=>∃(A2:AM)(i:Int),rV (.W i) [Zt a A2,Sh 32 2 (Zm l) u d] (TOp A A2 R i (Tr.bld l) l.length):=by
 refine Sp.en Tryz.func214 ?_
 have _:=hz
 have _:=hl
 have _:=hf
 have hll:=Zu l
 refine Sz ?_
 refine Zsr rfl (fun h0=>?_) (fun h0=>?_)
 ·refine Sz ?_
  have e9:l=[]:=List.eq_nil_of_length_eq_zero (by omega);subst e9;exact⟨A,0,rfl,Z,hA.cons0 (by omega),rfl,Kp.refl _ _,by omega,rfl⟩
 refine Sy ?_
 have hm0:1≤l.length:=by omega
 refine Zso 1 rfl<|Zsf 12 (.I ((List.length (Zm l):Int)/2)) (congrArg (Value.int .i64) (Cu (p:=(List.length (Zm l):Int)) (q:=2) (by omega))) ?_
 obtain⟨e,he⟩:∃e,l[l.length/2]?=some e:=⟨_,List.getElem?_eq_getElem (by omega)⟩;have hml:(l.take (l.length/2)).length=l.length/2:=(by rw[List.length_take];omega);have hmr:(l.drop (l.length/2+1)).length=l.length-(l.length/2+1):=List.length_drop
 refine Sz ?_
 refine Zvm rfl rfl (v:=(List.length (Zm l):Int)/2) 1 (l.length/2) (Zm (l.take (l.length/2))) el_22 Z rfl rfl rfl (by omega) (by omega) (Zii _ _) (fun a1 Z=>?_)
 replace Z:=Z.z
 refine Zte rfl rfl (ih (List.length (l.take ((List.length l)/2))) (by omega) _ _ _ a A _ (l.take ((List.length l)/2)) a1 d (hA) ((by omega)) ((by omega)) ((by omega)) rfl (Z.sel 2 [1,0] rfl)) rfl ?_
 clear Z;rintro _ w ⟨A1,i1,rfl,Z,f1⟩
 replace Z:=Z.z
 refine Sz ?_
 refine Zsg [([0,1,2,3,6,7,8,4,9,5,10],some (11,[0,1,2,3,4,5])),([],some (12,[])),([13],none)] ?_
 refine Qz ?_
 refine Zsj rfl rfl (i:=(List.length (Zm l):Int)/2) (l.length/2) el_22 rfl rfl (by omega) (by omega) (Z.rdS 2 rfl (Zd he)).1 ?_
 refine Qz ?_
 refine Ztq rfl rfl [.I e.1,.I e.2] ag_32.h rfl (Z.rdS 2 rfl (Zd he)).2<|Zwb rfl rfl (v:=((List.length (Zm l):Int)/2)+1) 2 (l.length/2+1) (Zm (l.drop (l.length/2+1))) el_22 Z rfl rfl rfl (by omega) (by omega) (Zhe _ _) (fun a2 qa2 Z=>?_)
 replace Z:=Z.z
 refine Qd fun w Z=>?_
 refine Zte rfl rfl (ih (List.length (l.drop ((List.length l)/2+1))) (by omega) _ _ _ a A1 (i1::R) (l.drop ((List.length l)/2+1)) a2 (d-((List.length l)/2+1)) (f1.ref) ((by have:=f1.fr;omega)) ((by omega)) ((by simp only[List.length_cons];omega)) rfl (Z.sel 2 [1,0] rfl)) rfl ?_
 clear Z;rintro _ w ⟨A2,i2,rfl,Z,f2⟩
 replace Z:=Z.z
 refine Sz ?_
 refine⟨by exact⟨Zsl rfl rfl rfl rfl,Zsl rfl rfl rfl rfl,Zsl rfl rfl rfl rfl,Zsl rfl rfl rfl rfl,Ztn rfl rfl (i:=(List.length (Zm l):Int)/2) (l.length/2) el_22 rfl rfl (by omega) (by omega) (Z.rdS 3 rfl (Zd he)).1 rfl rfl,Zuf rfl rfl [.I e.1,.I e.2] ag_32.h rfl (Z.rdS 3 rfl (Zd he)).2 rfl rfl⟩,?_⟩
 refine Qd fun w Z=>?_
 refine Zs2 (Yj _ _ R i1 i2 e.1 e.2 (Tr.bld (l.take ((List.length l)/2))) (Tr.bld (l.drop ((List.length l)/2+1))) f2.ref.sw ((TOp.after0 f1 f2).2) f2.is (by have:=f1.fr;have:=f2.fr;omega) (by rw[Tr.bld_n,Tr.bld_n];omega) Z) fun w A3 i3 Z f3=>?_
 refine Qd fun w Z=>?_
 as_aux_lemma =>
 refine Sz ?_
 replace Z:=(Z.sel 3 [0] rfl)
 exact⟨_,_,rfl,Z,by rw[Tr.bld_go he];exact⟨f3.ref,f3.is,(f1.kp.trans f2.kp.cons).trans f3.kp,by have:=f1.fr;have:=f2.fr;have:=f3.fr;omega,f3.cap.trans (f2.cap.trans f1.cap)⟩⟩
theorem Za6(nM:Nat):∀(g w:World)(L:List HP)(a:Nat)(A:AM)(R:List Int)(l:Zl)(u:Option Addr)(d:Nat),(ARf A R)→((l.length:Int)≤A.s.free)→(l.length≤65536)→(R.length+l.length≤500000000)→l.length=nM→St g (Zt a A::Sh 32 2 (Zm l) u d::L) w→Cp g L 214 [.P a,.slice u (Zm l).length d] w fun rV=>∃(A2:AM)(i:Int),rV (.W i) [Zt a A2,Sh 32 2 (Zm l) u d] (TOp A A2 R i (Tr.bld l) l.length):=by
 induction nM using Nat.strongRecOn with
 |_ nM ih=>intro g w L a A R l u d hA hf hl hz hM Z;exact Vv nM ih a A R l u d hA hf hl hz hM Z
theorem Zsc(a:Nat)(A:AM)(R:List Int)(l:Zl)(u:Option Addr)(d:Nat)(hA:ARf A R)(hf:(l.length:Int)≤A.s.free)(hl:l.length≤65536)(hz:R.length+l.length≤500000000)(Z:St g (Zt a A::Sh 32 2 (Zm l) u d::L) w) :
  Cp g L 214 [.P a,.slice u (Zm l).length d] w fun rV=>∃(A2:AM)(i:Int),rV (.W i) [Zt a A2,Sh 32 2 (Zm l) u d] (TOp A A2 R i (Tr.bld l) l.length):=Za6 _ g w L a A R l u d hA hf hl hz rfl Z
theorem Zi4(a:Nat)(A:AM)(R:List Int)(l:Zl)(u:Option Addr)(d:Nat)(hA:ARf A R)(hs:Srt l)(hf:(l.length:Int)≤A.s.free)(hl:l.length≤65536)(hz:R.length+l.length≤500000000)(Z:St g (Zt a A::Sh 32 2 (Zm l) u d::L) w) :
  Cp g L 88 [.P a,.slice u (Zm l).length d] w fun rV=>∃(A2:AM)(i:Int),rV (.tuple #[.W i,.I 0]) [Zt a A2,Sh 32 2 (Zm l) u d] (TOp A A2 R i (Tr.bld l) l.length):=by
 refine Sp.en Tryz.func88 ?_
 have hll:=Zu l
 refine Sz ?_
 refine Zst [0,1] [6] (fun kM vs jS=>∃(k:Nat),vs=[.I ((k:Int)+1)]∧jS []∧(l.length-k)=kM) rfl ⟨0,rfl,Z,rfl⟩ ?_
 rintro _ _ w j ⟨k,rfl,Z,rfl⟩
 replace Z:=Z.z
 have hll:=Zu l
 refine Sz ?_
 refine Zsi (fun cd1=>?_) fun cd1=>?_
 ·refine Zsg [([0,1,5,6,2,7,3,8,4,9,10,11],none)] ?_
  obtain⟨x,hx⟩:∃e,l[k+1]?=some e:=⟨_,List.getElem?_eq_getElem (by omega)⟩;obtain⟨y,hy⟩:∃e,l[k]?=some e:=⟨_,List.getElem?_eq_getElem (by omega)⟩;have hxy:=Zfy hs hy hx (by omega)
  refine Qz ?_
  refine Zsj rfl rfl (i:=(k:Int)+1) (k+1) el_22 rfl rfl (by omega) (by omega) (Z.rdS 1 rfl (Zd hx)).1 ?_
  refine Qz ?_
  refine Zsj rfl rfl (i:=((k:Int)+1)-1) (k) el_22 rfl rfl (by omega) (by omega) (Z.rdS 1 rfl (Zd hy)).1 ?_
  refine Zsn 1 [.I x.1] rfl (by exact(Z.rdS 1 rfl (Zd hx)).2 0 _ rfl) ?_
  refine Qz ?_
  refine Zsn 1 [.I y.1] rfl (by exact(Z.rdS 1 rfl (Zd hy)).2 0 _ rfl) ?_
  refine Qd fun w Z=>?_
  refine Zsm rfl (decide_eq_false ((by omega))) ?_
  exact⟨_,by omega,rfl,k+1,rfl,Z,rfl⟩
 refine Zse (D9 _ _ hA.toAWf Z) fun w Z=>?_
 refine Zsm rfl (decide_eq_false ((by omega))) ?_
 refine Zs2 (Zsc _ _ _ _ _ _ hA hf hl hz Z) fun w A1 i1 Z f1=>?_
 exact⟨_,_,rfl,Z,f1⟩
end Go.Proofs.YtpebgkkmgffmaaaGreatDoor
namespace Go.Proofs.YtpebgkkmgffmaaaGreatDoor
open Go Go.V
set_option maxHeartbeats 8000000
set_option maxRecDepth 8192
variable{g w:World}{L:List HP}
theorem Zhc(a:Nat)(A:AM)(R:List Int)(i k:Int)(t:Tr)(hA:ARf A R)(hi:Is A t i)(Z:St g (Zt a A::L) w) :
  Zr g L 125 [.P a,.W i,.I k] w fun rV=>rV (.tuple #[.I ((Tr.get k t).getD 0),.bool (Tr.get k t).isSome]) [Zt a A]:=by
 refine Sp.en Tryz.func125 ?_
 refine Zst [0,2] [8] (fun kM vs jS=>∃(j:Int)(u:Tr),vs=[.W j]∧jS []∧(Is A u j)∧(Tr.get k u=Tr.get k t)∧(u.n)=kM) rfl ⟨i,t,rfl,Z,hi,rfl,rfl⟩ ?_
 rintro _ _ w j ⟨j,u,rfl,Z,hu,hg,rfl⟩
 replace Z:=Z.z
 refine Sz ?_
 refine Zsr rfl (fun cd1=>?_) (fun cd1=>?_)
 ·obtain⟨ul,uk,uz,ur,hue⟩:=HJ (t:=u) (fun e=>cd1 ((Is.nil_iff hu).2 e));have hu2:Is A (.node ul uk uz ur) j:=hue▸hu;have hrj:=hA.okrng hu.ref;have hlr:=hA.okrng hu2.2.2.2.2.1.ref;have hrr:=hA.okrng hu2.2.2.2.2.2.ref;have hun:u.n=ul.n+ur.n+1:=(by rw[hue];rfl)
  refine Sz ?_
  refine Zse (UY _ _ j hA.toAWf (by omega) hu2.2.1 Z) fun w Z=>?_
  refine Zsk fun b1 w Z=>?_
  refine Zsh fun w Z=>?_
  refine Zsi (fun hlt=>?_) fun hlt=>?_
  ·exact⟨_,by omega,rfl,(A.nd j).lf,ul,rfl,(Z.sel 1 [] rfl),hu2.2.2.2.2.1,(by rw[←hg,hue,Tr.get,if_pos (by rw[←hu2.2.2.1];exact hlt)]),rfl⟩
  refine Zsi (fun hgt=>?_) fun hgt=>?_
  ·exact⟨_,by omega,rfl,(A.nd j).rg,ur,rfl,(Z.sel 1 [] rfl),hu2.2.2.2.2.2,(by rw[←hg,hue,Tr.get,if_neg (by rw[←hu2.2.2.1];exact hlt),if_pos (by rw[←hu2.2.2.1];exact hgt)]),rfl⟩
  replace Z:=(Z.sel 1 [] rfl)
  have hgv:Tr.get k t=some (A.nd j).val:=(by rw[←hg,hue,Tr.get,if_neg (by rw[←hu2.2.2.1];exact hlt),if_neg (by rw[←hu2.2.2.1];exact hgt),hu2.2.2.2.1]);exact⟨by rw[hgv];rfl,Z⟩
 refine Sz ?_
 have hgv:Tr.get k t=none:=(by rw[←hg,(Is.nil_iff hu).1 (Classical.not_not.1 cd1)];rfl);exact⟨by rw[hgv];rfl,Z⟩
theorem Zks{h:Nat}(hw:Tr.wt h≤2147483648):IntKind.i64.wrap ((Tr.wt h:Int)+((Tr.wt h:Int)+2)/3)=(Tr.wt (h+1):Int):=by
 rw[Yf (by omega),show Tr.wt (h+1)=Tr.wt h+(Tr.wt h+2)/3 from rfl];omega
theorem Vr{keys h:Nat}(hh:h<80)(hs:keys+1<Tr.wt (h+1)):Tr.mxA keys (80-h) h=h:=by
 rw[show 80-h=(80-(h+1))+1 by omega,Tr.mxA,if_pos hs]
theorem Zg6{keys h:Nat}(hh:h<80)(hs:¬keys+1<Tr.wt (h+1)):Tr.mxA keys (80-(h+1)) (h+1)=Tr.mxA keys (80-h) h:=by
 rw[show 80-h=(80-(h+1))+1 by omega,Tr.mxA,if_neg hs]
theorem Zij{h:Nat}(hw:Tr.wt h≤2147483648):Tr.wt (h+1)≤3000000000:=by
 rw[show Tr.wt (h+1)=Tr.wt h+(Tr.wt h+2)/3 from rfl];omega
theorem Zeg(keys:Nat)(hk:keys≤2147483647)(Z:St g (L) w) :
  Zr g L 429 [.I (keys:Int)] w fun rV=>rV (.I (Tr.mxH keys:Int)) []:=by
 refine Sp.en Tryz.func429 ?_
 have _:=hk
 refine Ztd 3 rfl (fun j=>?_)
 refine Zsx 10 rfl (X2 (dd _) (dd _)) ?_
 refine Sz ?_
 refine Zsm rfl (decide_eq_false ((by omega))) ?_
 refine Zst [0,2] [3,4] (fun kM vs jS=>∃(h:Nat),vs=[.I (h:Int),.I (Tr.wt h:Int)]∧jS []∧(h≤80)∧(Tr.wt h≤keys+1)∧(Tr.mxA keys (80-h) h=Tr.mxH keys)∧(80-h)=kM) rfl ⟨0,rfl,Z,(by omega),(by simp[Tr.wt]),rfl,rfl⟩ ?_
 rintro _ _ w j ⟨h,rfl,Z,hh,hw,hm,rfl⟩
 replace Z:=Z.z
 refine Sz ?_
 refine Zsr rfl (fun cd1=>?_) (fun cd1=>?_)
 ·refine Sy ?_
  have hws:=Zij (h:=h) (by omega)
  refine Zt3 rfl rfl rfl (by omega) ?_
  refine Zso 1 rfl<|Zsf 16 (.I (((Tr.wt h:Int)+2)/3)) (congrArg (Value.int .i64) (Cu (p:=(Tr.wt h:Int)+2) (q:=3) (by omega))) ?_
  refine Zso 1 rfl<|Zsf 17 (.I (Tr.wt (h+1):Int)) (congrArg (Value.int .i64) (by exact Zks (by omega))) ?_
  refine Sz ?_
  refine Zsi (fun cd2=>?_) fun cd2=>?_
  ·exact⟨congrArg (fun n:Nat=>Value.I n) ((Vr (keys:=keys) (by omega) (by omega)).symm.trans hm),Z⟩
  exact⟨_,by omega,rfl,h+1,rfl,Z,(by omega),(by omega),(by rw[Zg6 (by omega) (by omega)];exact hm),rfl⟩
 refine Sz ?_
 exact⟨congrArg (fun n:Nat=>Value.I n) (by rw[←hm,show 80-h=0 by omega];rfl),Z⟩
theorem Ve(l:List Int)(b:Option Addr)(c:Nat)(hl:l.length≤10)(Z:St g (Sh 3 1 (Ze l) b c::L) w) :
  Zr g L 334 [.slice b (Ze l).length c] w fun rV=>rV (.bool (l.all fun n=>decide (0≤n∧n≤65536))) [Sh 3 1 (Ze l) b c]:=by
 refine Sp.en Tryz.func334 ?_
 have _:=hl
 have hll:=Zf l
 refine Sz ?_
 refine Zst [5,6] [7] (fun kM vs jS=>∃(k:Nat),vs=[.I (k:Int)]∧jS []∧(k≤l.length)∧(∀x∈l.take k,0≤x∧x≤65536)∧(l.length-k)=kM) rfl ⟨0,rfl,Z,(Nat.zero_le _),(by simp),rfl⟩ ?_
 rintro _ _ w j ⟨k,rfl,Z,hk,ha,rfl⟩
 replace Z:=Z.z
 have hll:=Zf l
 refine Sz ?_
 refine Zsr rfl (fun cd1=>?_) (fun cd1=>?_)
 ·obtain⟨x,hx⟩:∃x,l[k]?=some x:=⟨_,List.getElem?_eq_getElem (by omega)⟩
  refine Sz ?_
  refine Zsq rfl rfl (i:=(k:Int)) (k) el_72 rfl rfl (by omega) (by omega) (Z.rdS 0 rfl (Zc hx)).1 ?_
  refine Zsv 1 [.I x] rfl (by exact(Z.rdS 0 rfl (Zc hx)).2 0 _ rfl) ?_
  refine Sz ?_
  refine Ztd 3 rfl (fun j=>?_)
  refine Zsx 16 rfl (X2 (dd _) (dd _)) ?_
  refine Sz ?_
  refine Zsi (fun cd2=>?_) fun cd2=>?_
  ·exact⟨congrArg Value.bool (by rw[Eq.comm,List.all_eq_false];exact⟨x,List.mem_of_getElem? hx,by simp;omega⟩),Z⟩
  exact⟨_,by omega,rfl,k+1,rfl,Z,(by omega),(by rw[List.take_add_one,hx];intro y hy;rcases List.mem_append.1 hy with hy|hy;exact ha y hy;simp at hy;subst hy;omega),rfl⟩
 refine Sz ?_
 exact⟨congrArg Value.bool (by rw[Eq.comm,List.all_eq_true];intro y hy;rw[List.take_of_length_le (by omega)] at ha;exact decide_eq_true (ha y hy)),Z⟩
theorem Zn4{f x:Int}(hf:0≤f∧f≤100)(hx:0≤x∧x≤1000):-9223372036854775808≤f*x∧f*x≤9223372036854775807:=by
 have h1:0≤f*x:=Int.mul_nonneg hf.1 hx.1
 have h2:f*x≤100*1000:=Int.mul_le_mul hf.2 hx.2 hx.1 (by omega)
 omega
theorem Zb4(f:Int)(n:Nat)(hf:0≤f∧f≤100)(hn:n≤2147483647)(Z:St g (L) w) :
  Zr g L 335 [.I f,.I (n:Int)] w fun rV=>rV (.I (f*((Tr.mxH n:Int)+2))) []:=by
 refine Sp.en Tryz.func335 ?_
 refine Ztg (Zeg n hn Z) fun w Z=>?_
 refine Zso 1 rfl<|Zsf 8 (.I ((Tr.mxH n:Int)+2)) (congrArg (Value.int .i64) (by have:=Tr.mxH_le n;rw[Yf (by omega)])) ?_
 refine Zso 1 rfl<|Zsf 9 (.I (f*((Tr.mxH n:Int)+2))) (congrArg (Value.int .i64) (by have:=Tr.mxH_le n;exact Yf (Zn4 hf (by omega)))) ?_
 refine Sz ?_
 exact⟨rfl,Z⟩
theorem Zrb(n:Nat)(hn:n≤65536)(Z:St g (L) w) :
  Zr g L 217 [.I (n:Int)] w fun rV=>rV (.I (4*((Tr.mxH (n+1):Int)+2))) []:=by
 refine Sp.en Tryz.func217 ?_
 have _:=hn
 refine Zs1 rfl rfl (Ze [(n:Int)]) el_72 Z (by exact⟨rfl,rfl⟩) (YR _) rfl (Nat.le_of_ble_eq_true rfl) (fun b1 w Z=>?_)
 replace Z:=(Z.at_ 0 rfl).share
 replace Z:=Z.z
 refine Zse (Ve [(n:Int)] (some ⟨b1,0,none⟩) (Ze [(n:Int)]).length (by simp) Z) fun w Z=>?_
 refine Zs8 rfl (by simp;omega) ?_
 refine Sy ?_
 refine Zso 1 rfl<|Zsf 8 (.I ((n+1:Nat):Int)) (congrArg (Value.int .i64) (by rw[Yf (by omega)];omega)) ?_
 refine Zse (Zb4 4 (n+1:Nat) (by omega) (by omega) Z) fun w Z=>?_
 replace Z:=(Z.sel 1 [] rfl)
 exact⟨rfl,Z⟩
end Go.Proofs.YtpebgkkmgffmaaaGreatDoor
namespace Go.Proofs.YtpebgkkmgffmaaaGreatDoor
open Go Go.V
theorem TOp.held{A B:AM}{R:List Int}{i j:Int}{t:Tr}{c:Nat}(h:TOp (A.ret i) B R j t c):TOp A B R j t c :=
 ⟨h.ref,h.is,(Kp.ret A i R).trans h.kp,by have:=h.fr;rw[(AM.ret_same _ _).1] at this;exact this,by rw[h.cap,(AM.ret_same _ _).1]⟩
theorem Zr8{k z:Int}{t:Tr}(h1:(Tr.get k t).isSome=true)(h2:(Tr.get k t).getD 0=z):Tr.get k t=some z:=by
 cases hg:Tr.get k t with
 |none=>rw[hg] at h1;cases h1
 |some y=>rw[hg] at h2;rw[show y=z from h2]
set_option maxHeartbeats 8000000
set_option maxRecDepth 8192
variable{g w:World}{L:List HP}
theorem Zqr(a:Nat)(A:AM)(R:List Int)(i k z:Int)(t:Tr)(hA:ARf A R)(hi:Is A t i)(hb:t.ok)(hn:t.n≤65535)(hf:4*((Tr.mxH (t.n+1):Int)+2)≤A.s.free)(hz:R.length≤500000000)(Z:St g (Zt a A::L) w) :
  Cp g L 90 [.P a,.W i,.agg #[.I k,.I z]] w fun rV=>∃(A2:AM)(j:Int),rV (.tuple #[.W j,.I ((Tr.get k t).getD 0),.bool (Tr.get k t).isSome,.I 0]) [Zt a A2] (TOp A A2 R j (Tr.ins k z t) (4*(Tr.mxH (t.n+1)+2))):=by
 refine Sp.en Tryz.func90 ?_
 have _:=hz
 have _:=hf
 have _:=hn
 refine Zsp fun b1 w Z=>?_
 refine Zse (Zhc _ _ R i k t hA hi (Z.sel 2 [1,0] rfl)) fun w Z=>?_
 refine Zs7 5 [.I z] rfl (by exact(fun _=>Z.ld 1 rfl rfl)) (fun j=>?_)
 refine Zsx 26 rfl (Zy (dv _) (dd _)) ?_
 refine Sz ?_
 refine Zsi (fun hc=>?_) fun hc=>?_
 ·refine Zus (U3 _ _ R i hA hi.ref (by omega) Z) fun w Z f1=>?_
  replace Z:=(Z.sel 2 [0] rfl)
  have hg:=Zr8 hc.1 hc.2;exact⟨_,_,by rw[hg];rfl,Z,by rw[Tr.ins_same k z t hb hg];exact(TOp.held (ARf.refl f1 (hi.ret i))).weak (Nat.zero_le _)⟩
 refine Ztg (YF _ _ R i t hA hi Z) fun w Z=>?_
 refine Ztg (Zrb t.n (by omega) Z) fun w Z=>?_
 refine Zse (Zc8 _ _ (4*((Tr.mxH (t.n+1):Int)+2)) hA.toAWf Z) fun w Z=>?_
 refine Zsm rfl (decide_eq_false ((by have:=Tr.mxH_le (t.n+1);simp;omega))) ?_
 refine Zsg [([0,1,2,4,6,7],some (3,[0,4,6,7])),([],some (5,[6,7])),([8,9,10,11],none)] ?_
 refine Qd fun w Z=>?_
 refine Zus (U3 _ _ R i hA hi.ref (by omega) Z) fun w Z f1=>?_
 refine Qd fun w Z=>?_
 refine Zs2 (Zio _ (A.ret i) R i k z t f1 (hi.ret i) (by have:=Tr.ic_res k z t hb (by omega);rw[(AM.ret_same _ _).1];omega) (by omega) Z) fun w A1 j1 Z f2=>?_
 refine Qd fun w Z=>?_
 replace Z:=(Z.sel 2 [0] rfl)
 exact⟨_,_,rfl,Z,(TOp.held f2).weak (by have:=Tr.ic_res k z t hb (by omega);omega)⟩
end Go.Proofs.YtpebgkkmgffmaaaGreatDoor
namespace Go.Proofs.YtpebgkkmgffmaaaGreatDoor
open Go Go.V Go.RowKit
def TrL(A:AM)(r:Int)(es:Zl):Prop:=∃t:Tr,Is A t r∧t.ok∧Srt t.ls∧t.ls=es
structure WR(V:VM)(A:AM)(R:List Int)(z:RSt)(m:Nat):Prop where
 vi:VI V A R
 ko:KO V.xs
 ra:RA V.xs z.P z.B V.last
 tt:z.T=V.T
 cp:z.cap=V.cap
 ll:z.LL.length=z.P.length
 tr:∀r∈V.rs,∃x,z.LL[(r.n-1).toNat]?=some x∧TrL A r.root x.es
 sz:∀x∈z.LL,x.es.length≤m∧Srt x.es
 la:V.last≤800
 xl:(V.xs.length:Int)≤V.cap
theorem RelQ.sub{xs xs2:List VN}{q:Nat}{n z:Int}(hG:GOk xs q)(h:RelQ xs n xs2)(hp:ZF xs2 z=true):ZF xs z=true:=by
 rcases h with⟨_,h⟩|⟨_,rfl⟩
 ·exact(h.facts hG).2.1 z hp
 exact hp
theorem TrL.kp{A B:AM}{R:List Int}{r:Int}{es:Zl}(h:TrL A r es)(kp:Kp A B R)(hr:r∈R):TrL B r es:=by
 obtain⟨t,h1,h2,h3,h4⟩:=h
 exact⟨t,kp.is r hr t h1,h2,h3,h4⟩
theorem TrL.ret{A:AM}{r:Int}{es:Zl}(h:TrL A r es)(i:Int):TrL (A.ret i) r es:=by
 obtain⟨t,h1,h2,h3,h4⟩:=h
 exact⟨t,h1.ret i,h2,h3,h4⟩
theorem WR.rok{V:VM}{A:AM}{R:List Int}{z:RSt}{m:Nat}(h:WR V A R z m):ROk z :=
 ⟨by rw[h.tt];exact h.vi.t,h.ra.pok,h.ra.lenB,h.ll,by have:=h.ra.len;have:=h.la;omega,by rw[h.cp];exact h.vi.g.cp⟩
theorem WR.room{V:VM}{A:AM}{R:List Int}{z:RSt}{m:Nat}(h:WR V A R z m):z.room=V.room:=by
 have h1:=h.ra.num h.vi.g.ok h.ko
 have h2:=h.vi.cp
 unfold RSt.room VM.room
 rw[h1,h.cp,h.tt,show V.cap-(V.T.s.cap-V.T.s.free)=V.T.s.free by omega]
theorem WR.open{V:VM}{A:AM}{R:List Int}{z:RSt}{m:Nat}(h:WR V A R z m){x:Int}(ho:V.T.s.opn x=true):∃(k:Nat)(l:LsE),V.T.val x=(k:Int)+1∧z.LL[k]?=some l∧TrL A (V.rootOf (V.T.val x)) l.es∧V.rootOf (V.T.val x)∈V.rs.map RN.root∧ZB z.B (V.T.val x)=true:=by
 obtain⟨h1,i,r,hr,hn⟩:=VM.open_val h.vi ho
 have h2:=VM.rootOf_at h.vi.k.uniq hr
 rw[hn] at h2
 obtain⟨l,hl,ht⟩:=h.tr r (List.mem_of_getElem? hr)
 have h3:ZB z.B (V.T.val x)=true:=by rw[←h.ra.live];exact h1
 have h4:=(YT h3).1
 exact⟨(r.n-1).toNat,l,by omega,hl,by rw[h2];exact ht,by rw[h2];exact List.mem_map.2 ⟨r,List.mem_of_getElem? hr,rfl⟩,h3⟩
theorem WR.ar{V:VM}{A B:AM}{R R2:List Int}{z:RSt}{m:Nat}(h:WR V A R z m)(hB:ARf B (V.rs.map RN.root++R2))(kp:Kp A B (V.rs.map RN.root)):WR V B R2 z m :=
 ⟨h.vi.ar hB,h.ko,h.ra,h.tt,h.cp,h.ll,fun r hr=>by
  obtain⟨x,hx,ht⟩:=h.tr r hr
  exact⟨x,hx,ht.kp kp (List.mem_map.2 ⟨r,hr,rfl⟩)⟩,h.sz,h.la,h.xl⟩
theorem WR.up{V:VM}{A:AM}{R:List Int}{z:RSt}{m m2:Nat}(h:WR V A R z m)(hm:m≤m2):WR V A R z m2 :=
 ⟨h.vi,h.ko,h.ra,h.tt,h.cp,h.ll,h.tr,fun x hx=>⟨Nat.le_trans (h.sz x hx).1 hm,(h.sz x hx).2⟩,h.la,h.xl⟩
theorem WR.add{V V2:VM}{A:AM}{R:List Int}{z:RSt}{m:Nat}{root:Int}{ps:List Int}{x:LsE}(h:WR V A R z m)(hC:Com V root ps V2)(hV:VI V2 (A.ret root) R)(hl:V.last<800)(ht:TrL A root x.es)(hx:x.es.length≤m)(ra ga oa va pa ba la e:Option Addr)(rc gc oc vc pc bc lc f:Nat):WR V2 (A.ret root) R (z.add ps x ra ga oa va pa ba la e rc gc oc vc pc bc lc f) m:=by
 obtain⟨⟨xs2,q,rfl,hA⟩,h0⟩:=hC
 have hlen:=h.ra.len
 obtain⟨t,t1,t2,t3,t4⟩:=ht
 refine⟨hV,h.ko.add h.vi.g.le hA,h.ra.add (r:=PR.mk ps e f) h.vi.g hA h0,?_,h.cp,?_,fun r hr=>?_,fun y hy=>?_,by show V.last+1≤800;omega,?_⟩
 ·show z.T.open (z.P.length+1)=V.T.open (V.last+1)
  rw[h.tt,hlen]
 ·show(z.LL++[x]).length=(z.P++[PR.mk ps e f]).length
  rw[List.length_append,List.length_append,h.ll];rfl
 ·have hr2:r∈V.rs++[⟨V.last+1,root,V.q2⟩]:=hr
  rcases List.mem_append.1 hr2 with hr2|hr2
  ·obtain⟨y,hy,hty⟩:=h.tr r hr2
   exact⟨y,by show(z.LL++[x])[_]?=_;rw[List.getElem?_append_left (List.getElem?_eq_some_iff.1 hy).1];exact hy,hty.ret root⟩
  rw[List.mem_singleton.1 hr2]
  refine⟨x,?_,t,t1.ret root,t2,t3,t4⟩
  show(z.LL++[x])[(V.last+1-1).toNat]?=_
  rw[show(V.last+1-1).toNat=z.LL.length by rw[h.ll];omega,List.getElem?_append_right (Nat.le_refl _),Nat.sub_self];rfl
 ·have hy2:y∈z.LL++[x]:=hy
  rcases List.mem_append.1 hy2 with hy2|hy2
  ·exact h.sz y hy2
  rw[List.mem_singleton.1 hy2];exact⟨hx,t4▸t3⟩
 have h1:=(VO h0).2.2
 have h2:=(hA.vw h.vi.g.le h0).2.1
 show(xs2.length:Int)≤V.cap
 omega
theorem WR.rel{V V2:VM}{A A2:AM}{R:List Int}{z:RSt}{m:Nat}{hd:Int}(h:WR V A R z m)(ho:V.T.s.opn hd=true)(hR:Rls V hd V2)(hV:VI V2 A2 R)(kp:Kp A A2 (V2.rs.map RN.root++R))(ra oa ba:Option Addr)(rc oc bc:Nat):WR V2 A2 R (z.rel hd ra oa ba rc oc bc) m:=by
 have hv:z.T.val hd=V.T.val hd:=by rw[h.tt]
 have hl:=(VM.open_val h.vi ho).1
 refine⟨hV,h.ko.rel h.vi.g.ok hR.rel,?_,?_,?_,h.ll,fun r hr=>?_,h.sz,?_,?_⟩
 ·have e:V2.last=V.last:=(by have h9:=congrArg VM.last hR.eq;exact h9)
  rw[e]
  show RA V2.xs z.P (z.B.set (z.T.val hd-1).toNat false) V.last
  rw[hv]
  exact h.ra.rel h.vi.g.ok hR.rel hl
 ·show z.T.close hd=V2.T
  rw[h.tt];exact(congrArg VM.T hR.eq).symm
 ·have e:V2.cap=V.cap:=(by have h9:=congrArg VM.cap hR.eq;exact h9)
  rw[e];exact h.cp
 ·have hr2:=(hR.sub r).1 hr
  obtain⟨y,hy,hty⟩:=h.tr r hr2.1
  exact⟨y,hy,hty.kp kp (List.mem_append_left _ (List.mem_map.2 ⟨r,hr,rfl⟩))⟩
 ·have e:V2.last=V.last:=(by have h9:=congrArg VM.last hR.eq;exact h9)
  rw[e];exact h.la
 have e:V2.cap=V.cap:=(by have h9:=congrArg VM.cap hR.eq;exact h9)
 have h1:=hV.g.ok.uniq
 have h2:(V2.xs.map VN.n).length≤(V.xs.map VN.n).length:=Dr (List.pairwise_map.2 h1) fun n hn=>by
  obtain⟨x,hx,rfl⟩:=List.mem_map.1 hn
  have h3:=RelQ.sub h.vi.g.ok hR.rel (ZO.2 ⟨x,hx,rfl⟩)
  obtain⟨y,hy,e⟩:=ZO.1 h3
  exact List.mem_map.2 ⟨y,hy,e⟩
 rw[List.length_map,List.length_map] at h2
 rw[e];have:=h.xl;omega
theorem Zhn{α:Type}(f:α→Nat)(m:Nat):∀l:List α,(∀x∈l,f x≤m)→(l.map f).foldr (· + ·) 0≤l.length*m
 |[],_=>by simp
 |x::l,h=>by
  have h1:=h x (by simp)
  have h2:=Zhn f m l fun y hy=>h y (by simp[hy])
  simp only[List.map_cons,List.foldr_cons,List.length_cons,Nat.add_mul,Nat.one_mul];omega
theorem WR.used{V:VM}{A:AM}{z:RSt}{m:Nat}(h:WR V A [] z m):A.s.cap-A.s.free≤(V.rs.length*m:Nat):=by
 have hT:∀r∈V.rs.map RN.root++[],∃t:Tr,Is A t r∧t.n≤m:=fun r hr=>by
  rw[List.append_nil] at hr
  obtain⟨x,hx,rfl⟩:=List.mem_map.1 hr
  obtain⟨y,hy,t,t1,_,_,t4⟩:=h.tr x hx
  have h1:=(h.sz y (List.mem_of_getElem? hy)).1
  exact⟨t,t1,by rw[←Tr.ls_len,t4];exact h1⟩
 have h1:=Zmy h.vi.ref (fun r=>if hr:r∈V.rs.map RN.root++[] then(hT r hr).choose else .nil) fun r hr=>by
  simp only[dif_pos hr];exact(hT r hr).choose_spec.1
 have h2:=Zhn (fun r=>(if hr:r∈V.rs.map RN.root++[] then(hT r hr).choose else Tr.nil).n) m (V.rs.map RN.root++[]) fun r hr=>by
  simp only[dif_pos hr];exact(hT r hr).choose_spec.2
 have h3:(V.rs.map RN.root++[]).length=V.rs.length:=by rw[List.append_nil,List.length_map]
 rw[h3] at h2
 omega
end Go.Proofs.YtpebgkkmgffmaaaGreatDoor
namespace Go.Proofs.YtpebgkkmgffmaaaGreatDoor
open Go Go.V Go.RowKit
def XZ(T:TM)(rm:Int)(ps:List Int):Int:=if ZY ps then(if ∀y∈ps,T.s.opn y=true then(if rm<1 then 2 else 0) else 5) else 1
def ZS(T:TM)(rm:Int)(ps:List Int):Int:=if XZ T rm ps=0 then T.newH else 0
theorem Zh2{T:TM}{rm:Int}{ps:List Int}(h:¬ZY ps):XZ T rm ps=1:=if_neg h
theorem Zj4{T:TM}{rm:Int}{ps:List Int}(h:ZY ps)(h2:¬∀y∈ps,T.s.opn y=true):XZ T rm ps=5:=by rw[XZ,if_pos h,if_neg h2]
theorem Ze7{T:TM}{rm:Int}{ps:List Int}(h:ZY ps)(h2:∀y∈ps,T.s.opn y=true)(h3:rm<1):XZ T rm ps=2:=by rw[XZ,if_pos h,if_pos h2,if_pos h3]
theorem J4{T:TM}{rm:Int}{ps:List Int}(h:ZY ps)(h2:∀y∈ps,T.s.opn y=true)(h3:¬rm<1):XZ T rm ps=0:=by rw[XZ,if_pos h,if_pos h2,if_neg h3]
theorem Zre{T:TM}{ps:List Int}(h:¬∀y∈ps,T.s.opn y=true):∃y∈ps,T.s.opn y=false:=by
 refine Classical.byContradiction fun h1=>h fun y hy=>?_
 cases e:T.s.opn y with
 |true=>rfl
 |false=>exact absurd ⟨y,hy,e⟩ h1
theorem Zgu{ps:List Int}(h:¬ZY ps)(hl:ps.length≤2):∃y,ps=[y,y]:=(Zdg h).resolve_left (by omega)
def ComQ(V:VM)(A:AM)(R:List Int)(root:Int)(ps:List Int)(V2:VM)(A2:AM):Prop:=(XZ V.T V.room ps=0∧A2=A.ret root∧VI V2 (A.ret root) R∧Com V root (ps.map V.T.val) V2)∨(XZ V.T V.room ps≠0∧A2=A∧V2=V)
def UN(z:RSt)(x:LsE)(ps:List Int)(z2:RSt):Prop:=(XZ z.T z.room ps=0∧∃(ra ga oa va pa ba la e:Option Addr)(rc gc oc vc pc bc lc f:Nat),z2=z.add (ps.map z.T.val) x ra ga oa va pa ba la e rc gc oc vc pc bc lc f)∨(XZ z.T z.room ps≠0∧z2=z)
set_option maxHeartbeats 8000000
set_option maxRecDepth 8192
variable{g w:World}{L:List HP}
theorem Zpq(z:RSt)(xe:Zl)(xa:Option Addr)(xc:Nat)(ps:List Int)(pa2:Option Addr)(pc2:Nat)(hz:ROk z)(hhs:∀y∈ps,0≤y∧y≤18446744073709551615)(hpl:ps.length≤2)(hpv:ZY ps→(∀y∈ps,z.T.s.opn y=true)→ZY (List.map z.T.val ps)∧∀y∈ps,ZB z.B (z.T.val y)=true)(Z:St g (ZE Xr [z]::Sh 32 2 (Zm xe) xa xc::Sh 23 1 (Zv ps) pa2 pc2::L) w) :
  Cp g L 286 [.agg #[.I z.cap,.I z.T.s.cap,.slice z.ra (Za z.T.s.rel).length z.rc,.I (z.T.s.fresh+1),.slice z.ga (Za (z.T.s.gen.drop 1)).length z.gc,.slice z.oa (Zk (z.T.s.used.drop 1)).length z.oc,.slice z.va (Za (z.T.vals.drop 1)).length z.vc,.I z.cap,.slice z.pa (ZL z.P).length z.pc,.slice z.ba (Zk z.B).length z.bc,.slice z.la (Yz z.LL).length z.lc],.slice xa (Zm xe).length xc,.slice pa2 (Zv ps).length pc2] w fun rV=>∃(z2:RSt),rV (.tuple #[.agg #[.I z2.cap,.I z2.T.s.cap,.slice z2.ra (Za z2.T.s.rel).length z2.rc,.I (z2.T.s.fresh+1),.slice z2.ga (Za (z2.T.s.gen.drop 1)).length z2.gc,.slice z2.oa (Zk (z2.T.s.used.drop 1)).length z2.oc,.slice z2.va (Za (z2.T.vals.drop 1)).length z2.vc,.I z2.cap,.slice z2.pa (ZL z2.P).length z2.pc,.slice z2.ba (Zk z2.B).length z2.bc,.slice z2.la (Yz z2.LL).length z2.lc],.U (ZS z.T z.room ps),.I (XZ z.T z.room ps)]) [ZE Xr [z2],Sh 32 2 (Zm xe) xa xc,Sh 23 1 (Zv ps) pa2 pc2] (UN z ⟨xe,xa,xc⟩ ps z2):=by
 by_cases h1:ZY ps
 ·by_cases h2:∀y∈ps,z.T.s.opn y=true
  ·by_cases h3:z.room<1
   ·have e:=Ze7 (T:=z.T) h1 h2 h3
    rw[ZS,e]
    exact(CS z ⟨xe,xa,xc⟩ ps pa2 pc2 hz hhs (by omega) h1 h2 h3 Z).mono fun v w' ⟨hv,k⟩=>⟨z,hv,k,.inr ⟨by rw[e];decide,rfl⟩⟩
   have e:=J4 (T:=z.T) h1 h2 h3
   rw[ZS,e]
   refine(Zeh z ⟨xe,xa,xc⟩ ps pa2 pc2 hz hhs (by omega) h1 h2 (hpv h1 h2).1 (hpv h1 h2).2 (by omega) Z).mono fun v w' ⟨ra,ga,oa,va,pa,ba,la,e1,rc,gc,oc,vc,pc,bc,lc,f1,hv,k⟩=>?_
   exact⟨_,hv,k,.inl ⟨e,ra,ga,oa,va,pa,ba,la,e1,rc,gc,oc,vc,pc,bc,lc,f1,rfl⟩⟩
  have e:=Zj4 (T:=z.T) (rm:=z.room) h1 h2
  rw[ZS,e]
  exact(Zbj z ⟨xe,xa,xc⟩ ps pa2 pc2 hz hhs (by omega) h1 (Zre h2) Z).mono fun v w' ⟨hv,k⟩=>⟨z,hv,k,.inr ⟨by rw[e];decide,rfl⟩⟩
 have e:=Zh2 (T:=z.T) (rm:=z.room) h1
 obtain⟨y,rfl⟩:=Zgu h1 hpl
 rw[ZS,e]
 exact(Zbe z ⟨xe,xa,xc⟩ y pa2 pc2 hz Z).mono fun v w' ⟨hv,k⟩=>⟨z,hv,k,.inr ⟨by rw[e];decide,rfl⟩⟩
theorem YQ(z:RSt)(h:Int)(hz:ROk z)(hh:0≤h∧h≤18446744073709551615)(hx:z.T.s.opn h=true→∃(k:Nat)(l:LsE),z.T.val h=(k:Int)+1∧z.LL[k]?=some l)(Z:St g (ZE Xr [z]::L) w) :
  Cp g L 52 [.agg #[.I z.cap,.I z.T.s.cap,.slice z.ra (Za z.T.s.rel).length z.rc,.I (z.T.s.fresh+1),.slice z.ga (Za (z.T.s.gen.drop 1)).length z.gc,.slice z.oa (Zk (z.T.s.used.drop 1)).length z.oc,.slice z.va (Za (z.T.vals.drop 1)).length z.vc,.I z.cap,.slice z.pa (ZL z.P).length z.pc,.slice z.ba (Zk z.B).length z.bc,.slice z.la (Yz z.LL).length z.lc],.U h] w fun rV=>∃(x:LsE),rV (.tuple #[.slice x.a (Zm x.es).length x.c,.I (if z.T.s.opn h=true then 0 else 5)]) [ZE Xr [z],Sh 32 2 (Zm x.es) x.a x.c] ((z.T.s.opn h=true∧∃k:Nat,z.T.val h=(k:Int)+1∧z.LL[k]?=some x)∨(z.T.s.opn h=false∧x=⟨[],none,0⟩)):=by
 by_cases hn:z.T.s.opn h=true
 ·rw[if_pos hn]
  obtain⟨k,l,h1,h2⟩:=hx hn
  exact(Zah z h k l hz hh hn h2 h1 Z).mono fun v w' ⟨hv,q⟩=>⟨l,hv,q,.inl ⟨hn,k,h1,h2⟩⟩
 rw[if_neg hn]
 exact(C1 z h hz hh (Bool.eq_false_iff.2 hn) Z).mono fun v w' ⟨hv,q⟩=>⟨⟨[],none,0⟩,hv,((q.n1 L rfl).nilS 32 2).sel 2 [1,0] rfl,.inr ⟨Bool.eq_false_iff.2 hn,rfl⟩⟩
theorem WR.opl{V:VM}{A:AM}{R:List Int}{z:RSt}{m:Nat}(h:WR V A R z m){x:Int}(ho:z.T.s.opn x=true):∃(k:Nat)(l:LsE),z.T.val x=(k:Int)+1∧z.LL[k]?=some l:=by
 rw[h.tt] at ho ⊢
 obtain⟨k,l,h1,h2,_⟩:=h.open ho
 exact⟨k,l,h1,h2⟩
theorem WR.liv{V:VM}{A:AM}{R:List Int}{z:RSt}{m:Nat}(h:WR V A R z m){x:Int}(ho:z.T.s.opn x=true):ZB z.B (z.T.val x)=true:=by
 rw[h.tt] at ho ⊢
 obtain⟨k,l,_,_,_,_,h6⟩:=h.open ho
 exact h6
theorem WR.pv{V:VM}{A:AM}{R:List Int}{z:RSt}{m:Nat}(h:WR V A R z m){ps:List Int}(h1:ZY ps)(h2:∀y∈ps,z.T.s.opn y=true):ZY (ps.map z.T.val)∧∀y∈ps,ZB z.B (z.T.val y)=true:=by
 refine⟨?_,fun y hy=>h.liv (h2 y hy)⟩
 rw[h.tt] at h2 ⊢
 exact C8 h.vi h1 h2
theorem WR.same{V:VM}{A:AM}{R:List Int}{z:RSt}{m:Nat}(h:WR V A R z m)(ps:List Int):XZ z.T z.room ps=XZ V.T V.room ps∧ZS z.T z.room ps=ZS V.T V.room ps:=by
 unfold ZS
 rw[h.tt,h.room];exact⟨rfl,rfl⟩
theorem WR.com{V V2:VM}{A A2:AM}{R:List Int}{z z2:RSt}{m:Nat}{root:Int}{ps:List Int}{x:LsE}(h:WR V A R z m)(hc:ComQ V A R root ps V2 A2)(hr:UN z x ps z2)(hl:V.last<800)(ht:XZ V.T V.room ps=0→TrL A root x.es)(hx:x.es.length≤m):WR V2 A2 R z2 m∧V2.last≤V.last+1∧V2.cap=V.cap∧A2.s=A.s:=by
 have hs:=(h.same ps).1
 rcases hc with⟨h0,rfl,h1,h2⟩|⟨h0,rfl,rfl⟩
 ·rcases hr with⟨_,ra,ga,oa,va,pa,ba,la,e,rc,gc,oc,vc,pc,bc,lc,f,rfl⟩|⟨h3,_⟩
  ·have hv:z.T.val=V.T.val:=by rw[h.tt]
   refine⟨?_,?_,?_,(A.ret_same root).1⟩
   ·rw[hv];exact h.add h2 h1 hl (ht h0) hx ra ga oa va pa ba la e rc gc oc vc pc bc lc f
   ·obtain⟨⟨xs2,q,rfl,_⟩,_⟩:=h2;exact Int.le_refl _
   obtain⟨⟨xs2,q,rfl,_⟩,_⟩:=h2;rfl
  exact absurd (hs.trans h0) h3
 rcases hr with⟨h3,_⟩|⟨_,rfl⟩
 ·exact absurd (hs.symm.trans h3) h0
 exact⟨h,by omega,rfl,rfl⟩
end Go.Proofs.YtpebgkkmgffmaaaGreatDoor
namespace Go.Proofs.YtpebgkkmgffmaaaGreatDoor
open Go Go.V
def UK(k z:Int)(l:Zl)(put:Bool):Zl:=l.filter (fun x=>decide (x.1<k))++(if put then(k,z)::l.filter (fun x=>decide (k<x.1)) else[])
structure LP(k z:Int)(l:Zl)(j:Nat)(put:Bool)(out:Zl):Prop where
 eq:out=UK k z (l.take j) put
 no:put=false→∀x∈l.take j,x.1<k
 yes:put=true→∃x∈l.take j,k≤x.1
theorem LP.zero(k z:Int)(l:Zl):LP k z l 0 false []:=⟨by simp[UK],fun _ x hx=>by simp at hx,fun h=>by cases h⟩
theorem YU{l:Zl}{j:Nat}{e:Int×Int}(h:l[j]?=some e):l.take (j+1)=l.take j++[e]:=by rw[List.take_add_one,h];rfl
theorem LP.less{k z:Int}{l:Zl}{j:Nat}{out:Zl}{e:Int×Int}(h:LP k z l j false out)(he:l[j]?=some e)(hlt:e.1<k):LP k z l (j+1) false (out++[e]):=by
 refine⟨?_,fun _ x hx=>?_,fun h=>by cases h⟩
 ·rw[h.eq,YU he]
  simp[UK,List.filter_append,hlt]
 rw[YU he] at hx
 rcases List.mem_append.1 hx with hx|hx
 ·exact h.no rfl x hx
 rw[List.mem_singleton.1 hx];exact hlt
theorem LP.eq_{k z:Int}{l:Zl}{j:Nat}{out:Zl}{e:Int×Int}(h:LP k z l j false out)(he:l[j]?=some e)(hk:e.1=k):LP k z l (j+1) true (out++[(k,z)]):=by
 refine⟨?_,fun h=>(by cases h),fun _=>⟨e,by rw[YU he];simp,by omega⟩⟩
 rw[h.eq,YU he]
 have h1:(l.take j).filter (fun x=>decide (k<x.1))=[]:=YV fun x hx=>decide_eq_false (by have:=h.no rfl x hx;omega)
 simp[UK,List.filter_append,hk,h1]
theorem LP.more{k z:Int}{l:Zl}{j:Nat}{out:Zl}{e:Int×Int}(h:LP k z l j false out)(he:l[j]?=some e)(hk:k<e.1):LP k z l (j+1) true (out++[(k,z)]++[e]):=by
 refine⟨?_,fun h=>(by cases h),fun _=>⟨e,by rw[YU he];simp,by omega⟩⟩
 rw[h.eq,YU he]
 have h1:(l.take j).filter (fun x=>decide (k<x.1))=[]:=YV fun x hx=>decide_eq_false (by have:=h.no rfl x hx;omega)
 simp[UK,List.filter_append,hk,h1,show ¬e.1<k by omega]
theorem LP.gt{k z:Int}{l:Zl}{j:Nat}{out:Zl}{e:Int×Int}(h:LP k z l j true out)(hs:Srt l)(he:l[j]?=some e):k<e.1:=by
 obtain⟨x,hx,hxk⟩:=h.yes rfl
 obtain⟨i,hi⟩:=List.mem_iff_getElem?.1 hx
 have hij:i<j:=by
  have:=(List.getElem?_eq_some_iff.1 hi).1
  rw[List.length_take] at this;omega
 rw[List.getElem?_take,if_pos hij] at hi
 have h1:=(List.getElem?_eq_some_iff.1 hi).1
 have h2:=(List.getElem?_eq_some_iff.1 he).1
 have:=List.pairwise_iff_getElem.1 hs i j h1 h2 hij
 rw[(List.getElem?_eq_some_iff.1 hi).2,(List.getElem?_eq_some_iff.1 he).2] at this
 omega
theorem LP.rest{k z:Int}{l:Zl}{j:Nat}{out:Zl}{e:Int×Int}(h:LP k z l j true out)(hs:Srt l)(he:l[j]?=some e):LP k z l (j+1) true (out++[e]):=by
 have hgt:=h.gt hs he
 refine⟨?_,fun h=>(by cases h),fun _=>?_⟩
 ·rw[h.eq,YU he]
  simp[UK,List.filter_append,hgt,show ¬e.1<k by omega]
 obtain⟨x,hx,hxk⟩:=h.yes rfl
 exact⟨x,by rw[YU he];exact List.mem_append_left _ hx,hxk⟩
theorem LP.end_t{k z:Int}{l out:Zl}{j:Nat}(h:LP k z l j true out)(hj:l.length≤j):out=Zs k z l:=by
 rw[h.eq,List.take_of_length_le hj];rfl
theorem LP.end_f{k z:Int}{l out:Zl}{j:Nat}(h:LP k z l j false out)(hj:l.length≤j):out++[(k,z)]=Zs k z l:=by
 have h1:=h.no rfl
 rw[h.eq]
 rw[List.take_of_length_le hj] at h1 ⊢
 have h2:l.filter (fun x=>decide (k<x.1))=[]:=YV fun x hx=>decide_eq_false (by have:=h1 x hx;omega)
 simp[UK,Zs,h2]
theorem LP.len{k z:Int}{l out:Zl}{j:Nat}{put:Bool}(h:LP k z l j put out):out.length≤2*l.length+1:=by
 rw[h.eq]
 unfold UK
 have h1:=List.length_filter_le (fun x:Int×Int=>decide (x.1<k)) (l.take j)
 have h2:=List.length_filter_le (fun x:Int×Int=>decide (k<x.1)) (l.take j)
 have h3:(l.take j).length≤l.length:=by simp;omega
 rw[List.length_append]
 split<;>simp only[List.length_cons,List.length_nil]<;>omega
set_option maxHeartbeats 8000000
set_option maxRecDepth 8192
variable{g w:World}{L:List HP}
theorem Yn(l:Zl)(u:Option Addr)(d:Nat)(k z:Int)(hs:Srt l)(hl:l.length≤1000000)(Z:St g (Sh 32 2 (Zm l) u d::L) w) :
  Zr g L 9 [.slice u (Zm l).length d,.agg #[.I k,.I z]] w fun rV=>∃(a2:Option Addr)(c2:Nat),rV (.slice a2 (Zm (Zs k z l)).length c2) [Zp 32 2 (Zm (Zs k z l)) a2 c2,Sh 32 2 (Zm l) u d]:=by
 refine Sp.en Tryz.func9 ?_
 have _:=hl
 have hll:=Zu l
 refine Zsp fun b1 w Z=>?_
 replace Z:=Z.nil_ 32 2
 refine Zst [0,3,4] [5,6,7] (fun kM vs jS=>∃(j:Nat)(put:Bool)(out:Zl)(ua:Option Addr)(uc:Nat),vs=[.slice ua (Zm out).length uc,.bool put,.I (j:Int)]∧jS [Zp 32 2 (Zm out) ua uc]∧(j≤l.length)∧(LP k z l j put out)∧(l.length-j)=kM) rfl ⟨0,false,[],none,0,rfl,Z,(Nat.zero_le _),(LP.zero k z l),rfl⟩ ?_
 rintro _ _ w j ⟨j,put,out,ua,uc,rfl,Z,hj,hP,rfl⟩
 replace Z:=Z.z
 refine Sz ?_
 refine Zsr rfl (fun cd1=>?_) (fun cd1=>?_)
 ·refine Sz ?_
  refine Zsg [([0,1,2,3,4,8,5,9,6,7,10,11],none)] ?_
  obtain⟨e,he⟩:∃e,l[j]?=some e:=⟨_,List.getElem?_eq_getElem (by omega)⟩;have hol:=hP.len;have hoe:=Zu out
  refine Qz ?_
  by_cases cg1:(! put)=true
  ·refine Zsu 16 (.bool true) (congrArg Value.bool cg1) ?_
   refine Qz ?_
   refine Zsj rfl rfl (i:=(j:Int)) (j) el_22 rfl rfl (by omega) (by omega) (Z.rdS 2 rfl (Zd he)).1 ?_
   refine Qz ?_
   refine Zsn 1 [.I e.1] rfl (by exact(Z.rdS 2 rfl (Zd he)).2 0 _ rfl) ?_
   refine Qd fun w Z=>?_
   as_aux_lemma =>
   refine Zsi (fun cd2=>?_) fun cd2=>?_
   ·refine Zs1 rfl rfl (Zm [(k,z)]) el_22 Z (by exact⟨rfl,rfl⟩) (Qx _) rfl (Nat.le_of_ble_eq_true rfl) (fun b2 w Z=>?_)
    refine Zs3 rfl rfl 1 (Zm (out++[(k,z)])) el_22 Z rfl (Z.srcO 0 rfl) (Jm _ _).symm (Rm.of (by first|omega|(simp<;>omega)) (by decide)) rfl rfl (fun a1 c1 w Z=>?_)
    replace Z:=Z.z
    refine Sz ?_
    refine Zsg [([0,1,5,6],some (2,[5,6])),([3,4,7],none)] ?_
    refine Qd fun w Z=>?_
    refine Zsq rfl rfl (i:=(j:Int)) (j) el_22 rfl rfl (by omega) (by omega) (Z.rdS 3 rfl (Zd he)).1 ?_
    refine Sz ?_
    refine Qz ?_
    refine Zsn 1 [.I e.1] rfl (by exact(Z.rdS 3 rfl (Zd he)).2 0 _ rfl) ?_
    refine Qd fun w Z=>?_
    refine Zsi (fun cd3=>?_) fun cd3=>?_
    ·refine Zsq rfl rfl (i:=(j:Int)) (j) el_22 rfl rfl (by omega) (by omega) (Z.rdS 3 rfl (Zd he)).1 ?_
     refine Ztx rfl rfl [.I e.1,.I e.2] ag_32.h rfl (Z.rdS 3 rfl (Zd he)).2<|Zs1 rfl rfl (Zm [(e.1,e.2)]) el_22 Z (by exact⟨rfl,rfl⟩) (Qx _) rfl (Nat.le_of_ble_eq_true rfl) (fun b3 w Z=>?_)
     refine Zs3 rfl rfl 2 (Zm ((out++[(k,z)])++[(e.1,e.2)])) el_22 Z rfl (Z.srcO 0 rfl) (Jm _ _).symm (Rm.of (by first|omega|(simp<;>omega)) (by decide)) rfl rfl (fun a2 c2 w Z=>?_)
     replace Z:=Z.z
     refine Sz ?_
     exact⟨_,by omega,rfl,j+1,true,out++[(k,z)]++[(e.1,e.2)],a2,c2,rfl,(Z.sel 2 [] rfl),(by omega),(by have hp:put=false:=(by simpa using cg1);subst hp;exact hP.more he (by omega)),rfl⟩
    exact⟨_,by omega,rfl,j+1,true,out++[(k,z)],a1,c1,rfl,(Z.sel 1 [] rfl),(by omega),(by have hp:put=false:=(by simpa using cg1);subst hp;exact hP.eq_ he (by omega)),rfl⟩
   refine Zsg [([0,1,5,6],some (2,[5,6])),([3,4,7],none)] ?_
   refine Qd fun w Z=>?_
   refine Zsq rfl rfl (i:=(j:Int)) (j) el_22 rfl rfl (by omega) (by omega) (Z.rdS 2 rfl (Zd he)).1 ?_
   refine Sz ?_
   refine Qz ?_
   refine Zsn 1 [.I e.1] rfl (by exact(Z.rdS 2 rfl (Zd he)).2 0 _ rfl) ?_
   refine Qd fun w Z=>?_
   refine Zsi (fun cd3=>?_) fun cd3=>?_
   ·refine Zsq rfl rfl (i:=(j:Int)) (j) el_22 rfl rfl (by omega) (by omega) (Z.rdS 2 rfl (Zd he)).1 ?_
    refine Ztx rfl rfl [.I e.1,.I e.2] ag_32.h rfl (Z.rdS 2 rfl (Zd he)).2<|Zs1 rfl rfl (Zm [(e.1,e.2)]) el_22 Z (by exact⟨rfl,rfl⟩) (Qx _) rfl (Nat.le_of_ble_eq_true rfl) (fun b2 w Z=>?_)
    refine Zs3 rfl rfl 1 (Zm (out++[(e.1,e.2)])) el_22 Z rfl (Z.srcO 0 rfl) (Jm _ _).symm (Rm.of (by first|omega|(simp<;>omega)) (by decide)) rfl rfl (fun a1 c1 w Z=>?_)
    replace Z:=Z.z
    refine Sz ?_
    exact⟨_,by omega,rfl,j+1,put,out++[(e.1,e.2)],a1,c1,rfl,(Z.sel 1 [] rfl),(by omega),(by have hp:put=false:=(by simpa using cg1);subst hp;exact hP.less he (by omega)),rfl⟩
   exact⟨_,by omega,rfl,j+1,put,out,ua,uc,rfl,Z,(by omega),(by exfalso;omega),rfl⟩
  refine Zsu 16 (.bool false) (congrArg Value.bool (Bool.eq_false_iff.2 cg1)) ?_
  refine Qd fun w Z=>?_
  as_aux_lemma =>
  refine Sz ?_
  refine Zsg [([0,1,5,6],some (2,[5,6])),([3,4,7],none)] ?_
  refine Qd fun w Z=>?_
  refine Zsq rfl rfl (i:=(j:Int)) (j) el_22 rfl rfl (by omega) (by omega) (Z.rdS 2 rfl (Zd he)).1 ?_
  refine Sz ?_
  refine Qz ?_
  refine Zsn 1 [.I e.1] rfl (by exact(Z.rdS 2 rfl (Zd he)).2 0 _ rfl) ?_
  refine Qd fun w Z=>?_
  refine Zsi (fun cd2=>?_) fun cd2=>?_
  ·refine Zsq rfl rfl (i:=(j:Int)) (j) el_22 rfl rfl (by omega) (by omega) (Z.rdS 2 rfl (Zd he)).1 ?_
   refine Ztx rfl rfl [.I e.1,.I e.2] ag_32.h rfl (Z.rdS 2 rfl (Zd he)).2<|Zs1 rfl rfl (Zm [(e.1,e.2)]) el_22 Z (by exact⟨rfl,rfl⟩) (Qx _) rfl (Nat.le_of_ble_eq_true rfl) (fun b2 w Z=>?_)
   refine Zs3 rfl rfl 1 (Zm (out++[(e.1,e.2)])) el_22 Z rfl (Z.srcO 0 rfl) (Jm _ _).symm (Rm.of (by first|omega|(simp<;>omega)) (by decide)) rfl rfl (fun a1 c1 w Z=>?_)
   replace Z:=Z.z
   refine Sz ?_
   exact⟨_,by omega,rfl,j+1,put,out++[(e.1,e.2)],a1,c1,rfl,(Z.sel 1 [] rfl),(by omega),(by have hp:put=true:=(by simpa using cg1);subst hp;exact hP.rest hs he),rfl⟩
  exact⟨_,by omega,rfl,j+1,put,out,ua,uc,rfl,Z,(by omega),(by have hp:put=true:=(by simpa using cg1);subst hp;have:=hP.gt hs he;exfalso;omega),rfl⟩
 have hol2:=hP.len;have hoe2:=Zu out
 refine Sz ?_
 refine Ztl (fun cd2=>?_) fun cd2=>?_
 ·refine Zs1 rfl rfl (Zm [(k,z)]) el_22 Z (by exact⟨rfl,rfl⟩) (Qx _) rfl (Nat.le_of_ble_eq_true rfl) (fun b2 w Z=>?_)
  refine Zs3 rfl rfl 1 (Zm (out++[(k,z)])) el_22 Z rfl (Z.srcO 0 rfl) (Jm _ _).symm (Rm.of (by first|omega|(simp<;>omega)) (by decide)) rfl rfl (fun a1 c1 w Z=>?_)
  replace Z:=Z.z
  refine Sz ?_
  replace Z:=(Z.sel 3 [1] rfl)
  have hp:put=false:=(by simpa using cd2);subst hp;have e9:=hP.end_f (by omega);rw[e9] at Z ⊢;exact⟨_,_,rfl,Z⟩
 replace Z:=(Z.sel 2 [0] rfl)
 have hp:put=true:=(by simpa using cd2);subst hp;have e9:=hP.end_t (by omega);rw[e9] at Z ⊢;exact⟨_,_,rfl,Z⟩
end Go.Proofs.YtpebgkkmgffmaaaGreatDoor
namespace Go.Proofs.YtpebgkkmgffmaaaGreatDoor
open Go Go.V
def X7(raw:Zl)(k:Nat):Zl:=(raw.take k).foldl (fun l e=>Zs e.1 e.2 l) []
theorem U7{raw:Zl}{k:Nat}{e:Int×Int}(h:raw[k]?=some e):X7 raw (k+1)=Zs e.1 e.2 (X7 raw k):=by
 unfold X7
 rw[List.take_add_one,h,List.foldl_append];rfl
theorem Ce(raw:Zl):∀k,Srt (X7 raw k)∧(X7 raw k).length≤k
 |0=>⟨List.Pairwise.nil,Nat.le_refl _⟩
 |k+1=>by
  obtain⟨h1,h2⟩:=Ce raw k
  cases h:raw[k]? with
  |none =>
   have:X7 raw (k+1)=X7 raw k:=by unfold X7;rw[List.take_add_one,h];simp
   rw[this];exact⟨h1,by omega⟩
  |some e =>
   rw[U7 h,JF h1]
   exact⟨ZD h1,by split<;>omega⟩
theorem Zla{raw:Zl}{k m:Nat}(h:¬(k<raw.length∧k<m))(hk:k≤raw.length∧k≤m):X7 raw k=X7 raw m:=by
 unfold X7
 by_cases h1:k=m
 ·rw[h1]
 rw[List.take_of_length_le (show raw.length≤k by omega),List.take_of_length_le (show raw.length≤m by omega)]
set_option maxHeartbeats 8000000
set_option maxRecDepth 8192
variable{g w:World}{L:List HP}
theorem Zl7(raw:Zl)(u:Option Addr)(d:Nat)(most:Int)(hm:0≤most∧most≤1000)(Z:St g (Sh 32 2 (Zm raw) u d::L) w) :
  Zr g L 6 [.slice u (Zm raw).length d,.I most] w fun rV=>∃(a2:Option Addr)(c2:Nat),rV (.slice a2 (Zm (X7 raw most.toNat)).length c2) [Zp 32 2 (Zm (X7 raw most.toNat)) a2 c2,Sh 32 2 (Zm raw) u d]:=by
 refine Sp.en Tryz.func6 ?_
 have hll:=Zu raw
 replace Z:=Z.nil_ 32 2
 refine Sz ?_
 refine Zst [0,1,4] [5,6] (fun kM vs jS=>∃(k:Nat)(m:Zl)(ua:Option Addr)(uc:Nat),vs=[.slice ua (Zm m).length uc,.I (k:Int)]∧jS [Zp 32 2 (Zm m) ua uc]∧(k≤raw.length∧k≤most)∧(m=X7 raw k)∧(raw.length-k)=kM) rfl ⟨0,[],none,0,rfl,Z,(by omega),rfl,rfl⟩ ?_
 rintro _ _ w j ⟨k,m,ua,uc,rfl,Z,hk,hm,rfl⟩
 replace Z:=Z.z
 refine Sz ?_
 refine Ztd 4 rfl (fun j=>?_)
 refine Zsx 15 rfl (Zy (dd _) (dd _)) ?_
 refine Sz ?_
 refine Zsr rfl (fun cd1=>?_) (fun cd1=>?_)
 ·obtain⟨e,he⟩:∃e,raw[k]?=some e:=⟨_,List.getElem?_eq_getElem (by omega)⟩;have hms:=Ce raw k;rw[←hm] at hms
  refine Sz ?_
  refine Zsq rfl rfl (i:=(k:Int)) (k) el_22 rfl rfl (by omega) (by omega) (Z.rdS 1 rfl (Zd he)).1 ?_
  refine Ztx rfl rfl [.I e.1,.I e.2] ag_32.h rfl (Z.rdS 1 rfl (Zd he)).2 ?_
  replace Z:=(Z.at_ 0 rfl).share
  replace Z:=Z.z
  refine Zsz (Yn _ _ _ e.1 e.2 hms.1 (by omega) Z) fun w a1 c1 Z=>?_
  exact⟨_,by omega,rfl,k+1,Zs e.1 e.2 m,a1,c1,rfl,(Z.sel 2 [0] rfl),(by omega),(by rw[hm,U7 he]),rfl⟩
 refine Sz ?_
 have e9:=Zla (raw:=raw) (k:=k) (m:=most.toNat) (by omega) ⟨hk.1,by omega⟩;rw[←hm] at e9;rw[e9] at Z ⊢;exact⟨_,_,rfl,Z⟩
end Go.Proofs.YtpebgkkmgffmaaaGreatDoor
namespace Go.Proofs.YtpebgkkmgffmaaaGreatDoor
open Go Go.V Go.RowKit
structure StB(V:VM)(A:AM)(hs:List Int)(n:Nat):Prop where
 la:V.last≤n
 hl:hs.length≤n
 hr:∀y∈hs,0≤y∧y≤18446744073709551615
 ac:A.s.used.length=2501
theorem StB.mono{V:VM}{A:AM}{hs:List Int}{n:Nat}(h:StB V A hs n):StB V A hs (n+1):=⟨by have:=h.la;omega,by have:=h.hl;omega,h.hr,h.ac⟩
theorem StB.of{V V2:VM}{A A2:AM}{hs hs2:List Int}{n:Nat}(h:StB V A hs n)(h1:V2.last≤V.last+1)(h2:A2.s.used.length=A.s.used.length)(h3:hs2.length≤hs.length+1)(h4:∀y∈hs2,0≤y∧y≤18446744073709551615):StB V2 A2 hs2 (n+1):=⟨by have:=h.la;omega,by have:=h.hl;omega,h4,h2.trans h.ac⟩
theorem Zh1{V:VM}{A:AM}{R:List Int}(h:VI V A R):(V.xs.length:Int)≤V.last:=by
 have h1:=Ul V.last.toNat (V.xs.map VN.n) (List.pairwise_map.2 h.g.ok.uniq) fun n hn=>by
  obtain⟨x,hx,rfl⟩:=List.mem_map.1 hn
  have h2:=h.g.le x hx
  have h3:=h.g.ok.pos x.n (by rw[Zg1 h.g.ok.uniq hx];rfl)
  omega
 have:=h.g.la
 rw[List.length_map] at h1;omega
theorem WR.free{V:VM}{A:AM}{z:RSt}{hs:List Int}{n:Nat}(h:WR V A [] z 52)(hB:StB V A hs n)(hn:n≤40):420≤A.s.free:=by
 have h1:=h.used
 have h2:=Uq h.vi
 have h3:=Zh1 h.vi
 have h4:=hB.la
 have h5:V.rs.length*52≤40*52:=Nat.mul_le_mul_right _ (by omega)
 have h6:A.s.cap=2500:=by show(A.s.used.length:Int)-1=2500;rw[hB.ac];rfl
 omega
theorem WR.rl{V:VM}{A:AM}{R:List Int}{z:RSt}{m:Nat}(h:WR V A R z m):V.rs.length≤900:=by
 have h2:=Uq h.vi
 have h3:=Zh1 h.vi
 have h4:=h.la
 omega
theorem WR.one{V:VM}{A B:AM}{z:RSt}{m:Nat}{i:Int}{t:Tr}{c:Nat}(h:WR V A [] z m)(hT:TOp A B (V.rs.map RN.root++[]) i t c):WR V B [i] z m :=
 h.ar (hT.ref.perm (by simpa using(List.perm_append_comm (l₁:=[i]) (l₂:=List.map RN.root V.rs)))) (hT.kp.sub fun r hr=>List.mem_append_left _ hr)
end Go.Proofs.YtpebgkkmgffmaaaGreatDoor
namespace Go.Proofs.YtpebgkkmgffmaaaGreatDoor
open Go Go.V Go.RowKit Go.Maps
theorem rs_at{V:VM}{ss:List Int}(hp:ss.Perm (V.rs.map RN.n)){k:Nat}{x:Int}(h:ss[k]?=some x):∃(j:Nat)(r:RN),V.rs[j]?=some r∧r.n=x:=by
 obtain⟨r,hr,e⟩:=List.mem_map.1 (hp.mem_iff.1 (List.mem_of_getElem? h))
 obtain⟨j,hj⟩:=List.mem_iff_getElem?.1 hr
 exact⟨j,r,hj,e⟩
set_option maxHeartbeats 8000000
set_option maxRecDepth 8192
variable{g w:World}{L:List HP}
theorem Zlo(s a:Nat)(V:VM)(ss:List Int)(hk:KOk rK RN.n V.rs V.q2)(hp:ss.Perm (V.rs.map RN.n))(hs:ss.Pairwise (·≤·))(hl:ss.length≤100000)(Z:St g (Qp s a V::L) w) :
  Zr g L 64 [.P s] w fun rV=>∃(a2:Option Addr)(c2:Nat),rV (.slice a2 (Za (ss.map V.rootOf)).length c2) [Zp 93 1 (Za (ss.map V.rootOf)) a2 c2,Qp s a V]:=by
 refine Sp.en Tryz.func64 ?_
 have _:=hl
 have hsl:=Zf ss
 refine Sz ?_
 refine Zsz (Zqq _ _ _ ss hk hp hs Z) fun w a1 c1 Z=>?_
 replace Z:=Z.nil_ 93 1
 refine Zst [0,2,7,8] [3,9] (fun kM vs jS=>∃(k:Nat)(acc:List Int)(u:Option Addr)(d:Nat),vs=[.slice u (Za acc).length d,.I (k:Int)]∧jS [Zp 93 1 (Za acc) u d]∧(k≤ss.length)∧(acc=(ss.take k).map V.rootOf)∧(ss.length-k)=kM) rfl ⟨0,[],none,0,rfl,Z,(Nat.zero_le _),rfl,rfl⟩ ?_
 rintro _ _ w j ⟨k,acc,u,d,rfl,Z,hkl,ha,rfl⟩
 replace Z:=Z.z
 have hsl:=Zf ss
 refine Sz ?_
 refine Zsr rfl (fun cd1=>?_) (fun cd1=>?_)
 ·obtain⟨x,hx⟩:∃x,ss[k]?=some x:=⟨_,List.getElem?_eq_getElem (by omega)⟩;obtain⟨j,r,hr,hn⟩:=rs_at hp hx;have hul:=Zh acc;have hml:acc.length=k:=(by rw[ha,List.length_map,List.length_take];omega)
  refine Sz ?_
  refine Zsq rfl rfl (i:=(k:Int)) (k) el_72 rfl rfl (by omega) (by omega) (Z.rdO 1 rfl (Zc hx)).1 ?_
  refine Zsv 1 [.I x] rfl (by exact(Z.rdO 1 rfl (Zc hx)).2 0 _ rfl) ?_
  obtain⟨⟨vt,vp,vm,vr⟩,Z⟩:=St.exOpen (Z.at_ 2 rfl)
  replace Z:=Z.z
  refine Sz ?_
  refine Zuc rfl rfl HV 5 Z rfl rfl rfl (by first|trivial|rfl) (r:=some (j,.W r.root)) (hn▸Zh7 hk.key hk.uniq hr) rfl ?_
  refine Zs1 rfl rfl (Za [r.root]) el_70 Z (by exact⟨rfl,rfl⟩) (YY _) rfl (Nat.le_of_ble_eq_true rfl) (fun b1 w Z=>?_)
  refine Zs3 rfl rfl 7 (Za (acc++[r.root])) el_70 Z rfl (Z.srcO 0 rfl) (YM _ _).symm (Rm.of (by first|omega|(simp<;>omega)) (by decide)) rfl rfl (fun a2 c2 w Z=>?_)
  replace Z:=Z.z
  refine Sz ?_
  replace Z:=St.cl (f:=Ud s a V) ⟨_,_,_,_⟩ (Z.sel 7 [1,1,1,1,1,1,0] rfl)
  replace Z:=Z.z
  exact⟨_,by omega,rfl,k+1,acc++[r.root],a2,c2,rfl,(Z.sel 4 [2,2,0] rfl),(by omega),(by rw[ha,List.take_add_one,hx,List.map_append,←hn];exact congrArg (fun q=>_++[q]) (VM.rootOf_at hk.uniq hr).symm),rfl⟩
 refine Sz ?_
 replace Z:=(Z.sel 2 [0] rfl)
 have e9:k=ss.length:=(by omega);subst e9;rw[List.take_length] at ha;subst ha;exact⟨_,_,rfl,Z⟩
end Go.Proofs.YtpebgkkmgffmaaaGreatDoor
namespace Go.V
open Go Go.RowKit
structure Vc where
 kd:Int
 ca:Int
 cb:Int
 es:Zl
 a:Option Addr
 c:Nat
 rb:Bool
def vcC(z:Vc):List Value:=[.int .i64 z.kd,.int .u64 z.ca,.int .u64 z.cb,.slice z.a (Zm z.es).length z.c,.bool z.rb]
def enV(l:List Vc):List (List Value):=l.map vcC
@[simp] theorem enV_len(l:List Vc):(enV l).length=l.length:=by simp[enV]
structure VcOk(z:Vc):Prop where
 kd:-9223372036854775808≤z.kd∧z.kd≤9223372036854775807
 ca:0≤z.ca∧z.ca≤18446744073709551615
 cb:0≤z.cb∧z.cb≤18446744073709551615
 es:z.es.length≤maxLen
end Go.V
namespace Go.Proofs.YtpebgkkmgffmaaaGreatDoor
open Go Go.V Go.RowKit
theorem live_len(S:SM):((AM.mk S [] []).live.length)=(TM.handles ⟨S,[]⟩).length:=by
 unfold AM.live TM.handles
 rw[List.length_map,List.filter_map,List.length_map];rfl
theorem VI.none{V:VM}{A:AM}{R:List Int}(h:VI V A R)(hk:KO V.xs)(h0:V.T.s.free=V.T.s.cap):V.xs=[]∧V.rs=[]:=by
 have hd:∀z,Zi V.xs z≠true:=fun z hz=>by
  obtain⟨i,i0,i1,_⟩:=h.all z hz
  have h1:=AM.cnt_live (A:=AM.mk V.T.s [] []) h.t.s
  have h2:i∈(AM.mk V.T.s [] []).live:=(AM.mem_live i).2 ⟨i0,i1⟩
  have h3:=List.length_pos_of_mem h2
  have h4:(AM.mk V.T.s [] []).s=V.T.s:=rfl
  rw[h4] at h1;omega
 have hp:∀z,ZF V.xs z≠true:=fun z hz=>by
  rcases hk z hz with h1|⟨_,x,_,h1,_⟩
  ·exact hd z h1
  exact hd x h1
 constructor
 ·cases e:V.xs with
  |nil=>rfl
  |cons x xs=>exact absurd (ZO.2 ⟨x,by rw[e];simp,rfl⟩) (hp x.n)
 cases e:V.rs with
 |nil=>rfl
 |cons r rs=>exact absurd ((h.pre r.n).1 ⟨r,by rw[e];simp,rfl⟩) (hp r.n)
set_option maxHeartbeats 8000000
set_option maxRecDepth 8192
variable{g w:World}{L:List HP}
theorem Zqk(cap:Int)(Z:St g (L) w) :
  Zr g L 76 [.I cap] w fun rV=>rV (.agg #[.I cap,.N,.N]) []:=by
 refine Sp.en Tryz.func76 ?_
 refine Zsk fun b1 w Z=>?_
 refine Zs4 rfl rfl (cs:=[.I cap,.N,.N]) zv_80.h rfl rfl<|Zsh fun w Z=>?_
 replace Z:=(Z.sel 1 [] rfl)
 exact⟨rfl,Z⟩
theorem Zrl(n:Nat)(cz:Int)(hc:cz=(n:Int))(hn:1≤n∧n≤4096)(Z:St g (L) w) :
  Cp g L 30 [.I cz] w fun rV=>∃(z:RSt),rV (.agg #[.I z.cap,.I z.T.s.cap,.slice z.ra (Za z.T.s.rel).length z.rc,.I (z.T.s.fresh+1),.slice z.ga (Za (z.T.s.gen.drop 1)).length z.gc,.slice z.oa (Zk (z.T.s.used.drop 1)).length z.oc,.slice z.va (Za (z.T.vals.drop 1)).length z.vc,.I z.cap,.slice z.pa (ZL z.P).length z.pc,.slice z.ba (Zk z.B).length z.bc,.slice z.la (Yz z.LL).length z.lc]) [ZE Xr [z]] (z.T=TM.new n∧z.cap=n∧z.P=[]∧z.B=[]∧z.LL=[]):=by
 refine Sp.en Tryz.func30 ?_
 refine Zsk fun b1 w Z=>?_
 subst hc
 refine Sz ?_
 refine Zum (Zi7 n hn Z) fun w ga1 oa1 va1 gc1 oc1 vc1 Z=>?_
 refine Ztg (Zqk (n:Int) Z) fun w Z=>?_
 refine Zs4 rfl rfl (cs:=[.I (n:Int),.I (TM.new n).s.cap,.slice none (Za (TM.new n).s.rel).length 0,.I ((TM.new n).s.fresh+1),.slice ga1 (List.length (Za ((TM.new n).s.gen.drop 1))) gc1,.slice oa1 (List.length (Zk ((TM.new n).s.used.drop 1))) oc1,.slice va1 (List.length (Za ((TM.new n).vals.drop 1))) vc1,.I (n:Int),.N,.N,.N]) zv_83.h rfl rfl<|Zsh fun w Z=>?_
 replace Z:=((((((Z.shsNil CO).nilS 22 1).nilS 4 1).shsNil Qg).nilS 72 1).rsPut (RSt.mk n (TM.new n) [] [] [] none ga1 oa1 va1 none none none 0 gc1 oc1 vc1 0 0 0) [5,5,5,5,0,0,0,0,0] rfl).sel 11 [0] rfl;exact⟨_,rfl,Z,rfl,rfl,rfl,rfl,rfl⟩
theorem WR.new{n:Nat}(h1:1≤n∧n≤4096){z:RSt}(hz:z.T=TM.new n∧z.cap=n∧z.P=[]∧z.B=[]∧z.LL=[])(m:Nat):WR (VM.new n) (AM.new 2500) [] z m:=by
 obtain⟨e1,e2,e3,e4,e5⟩:=hz
 refine⟨VI.new (by omega) h1,KO.nil,?_,e1,e2,by rw[e5,e3];rfl,fun _ hr=>(by cases hr),fun _ hx=>(by rw[e5] at hx;cases hx),(show(0:Int)≤800 by decide),Int.natCast_nonneg _⟩
 rw[e3,e4];exact RA.nil
end Go.Proofs.YtpebgkkmgffmaaaGreatDoor
namespace Go.V
open Go Go.RowKit
structure SlE where
 al:Bool
 cn:Int
 ge:Int
 nd:Nd
def slC(x:SlE):List Value:=[.bool x.al,.int .i64 x.cn,.int .u32 x.ge,.int .i64 x.nd.key,.int .i64 x.nd.val,.int .u32 x.nd.lf,.int .u32 x.nd.rg,.int .i64 x.nd.size,.int .i64 x.nd.sum,.int .i64 x.nd.mn,.int .i64 x.nd.mx]
def Xn(l:List SlE):List (List Value):=l.map slC
@[simp] theorem D_(l:List SlE):(Xn l).length=l.length:=by simp[Xn]
theorem YJ{l:List SlE}{k:Nat}{x:SlE}(h:l[k]?=some x):(Xn l)[k]?=some (slC x):=by simp[Xn,h]
theorem Zlj(l:List SlE)(k:Nat)(x:SlE):(Xn l).set k (slC x)=Xn (l.set k x):=by simp[Xn,List.map_set]
def SlE.zero:SlE:=⟨false,0,0,Nd.zero⟩
def AM.cntD(A:AM)(i:Int):Int:=if A.s.ok i=true then A.cntOf i else 0
def AM.dmpAt(A:AM)(i:Int):SlE:=⟨A.s.ok i,A.cntD i,A.s.genOf i,(A.nodes[i.toNat]?).getD Nd.zero⟩
def AM.dmp(A:AM):List SlE:=(List.range A.s.cap.toNat).map fun j:Nat=>A.dmpAt ((j:Int)+1)
def AM.dmpK(A:AM)(k:Nat):List SlE:=(List.range A.s.cap.toNat).map fun j:Nat=>if j<k then A.dmpAt ((j:Int)+1) else SlE.zero
theorem AM.dmp_len(A:AM):A.dmp.length=A.s.cap.toNat:=by simp[AM.dmp]
theorem AM.dmpK_len(A:AM)(k:Nat):(A.dmpK k).length=A.s.cap.toNat:=by simp[AM.dmpK]
theorem AM.dmpK_0(A:AM):Xn (A.dmpK 0)=List.replicate A.s.cap.toNat (slC SlE.zero):=by
 unfold AM.dmpK
 have:(List.range A.s.cap.toNat).map (fun j:Nat=>if j<0 then A.dmpAt ((j:Int)+1) else SlE.zero)=List.replicate A.s.cap.toNat SlE.zero:=by
  apply List.ext_getElem<;>simp
 rw[this];simp[Xn]
theorem AM.dmpK_set(A:AM){k:Nat}:(A.dmpK k).set k (A.dmpAt ((k:Int)+1))=A.dmpK (k+1):=by
 apply List.ext_getElem?
 intro i
 rw[List.getElem?_set]
 unfold AM.dmpK
 rw[List.length_map,List.length_range,List.getElem?_map,List.getElem?_map]
 by_cases hi:i<A.s.cap.toNat
 ·rw[List.getElem?_range hi]
  by_cases hk:k=i
  ·subst hk;rw[if_pos rfl,if_pos hi];simp
  rw[if_neg hk]
  simp only[Option.map_some]
  by_cases h2:i<k
  ·rw[if_pos h2,if_pos (by omega)]
  rw[if_neg h2,if_neg (by omega)]
 have hn:(List.range A.s.cap.toNat)[i]?=none:=List.getElem?_eq_none (by simp;omega)
 rw[hn]
 by_cases hk:k=i
 ·subst hk;rw[if_pos rfl,if_neg hi];rfl
 rw[if_neg hk];rfl
theorem AM.dmpK_end(A:AM):A.dmpK A.s.cap.toNat=A.dmp:=by
 unfold AM.dmpK AM.dmp
 refine List.map_congr_left fun j hj=>?_
 rw[if_pos (List.mem_range.1 hj)]
end Go.V
namespace Go.Proofs.YtpebgkkmgffmaaaGreatDoor
open Go Go.V
set_option maxHeartbeats 8000000
set_option maxRecDepth 8192
variable{g w:World}{L:List HP}
theorem CU(a p:Nat)(A:AM)(na:Option Addr)(nc:Nat)(ca:Option Addr)(cc:Nat)(rd:Int)(hA:AWf A)(Z:St g (Zq a #[.P p,.slice na (XW A.nodes).length nc,.slice ca (Ze A.cnt).length cc,.U rd] 177::XE p A.s::Zp 141 8 (XW A.nodes) na nc::Zp 3 1 (Ze A.cnt) ca cc::L) w) :
  Zr g L 202 [.P a] w fun rV=>rV (.I A.s.cap) [Zq a #[.P p,.slice na (XW A.nodes).length nc,.slice ca (Ze A.cnt).length cc,.U rd] 177,XE p A.s,Zp 141 8 (XW A.nodes) na nc,Zp 3 1 (Ze A.cnt) ca cc]:=by
 refine Sp.en Tryz.func202 ?_
 have hs:=hA.s
 refine Sz ?_
 refine Zse (Zir _ A.s hA.s.le (Z.sel 2 [1,0] rfl)) fun w Z=>?_
 replace Z:=(Z.sel 2 [1,0] rfl)
 exact⟨rfl,Z⟩
theorem Zj6(a p:Nat)(A:AM)(na:Option Addr)(nc:Nat)(ca:Option Addr)(cc:Nat)(rd:Int)(i:Int)(hA:AWf A)(hi:0≤i∧i<4294967296)(Z:St g (Zq a #[.P p,.slice na (XW A.nodes).length nc,.slice ca (Ze A.cnt).length cc,.U rd] 177::XE p A.s::Zp 141 8 (XW A.nodes) na nc::Zp 3 1 (Ze A.cnt) ca cc::L) w) :
  Zr g L 206 [.P a,.W i] w fun rV=>rV (.W (A.s.genOf i)) [Zq a #[.P p,.slice na (XW A.nodes).length nc,.slice ca (Ze A.cnt).length cc,.U rd] 177,XE p A.s,Zp 141 8 (XW A.nodes) na nc,Zp 3 1 (Ze A.cnt) ca cc]:=by
 refine Sp.en Tryz.func206 ?_
 have _:=hi
 have hs:=hA.s
 refine Sz ?_
 refine Zse (Zju _ A.s i (by first|assumption|exact SOk.gle (by assumption)) (by omega) (Z.sel 2 [1,0] rfl)) fun w Z=>?_
 replace Z:=(Z.sel 2 [1,0] rfl)
 exact⟨rfl,Z⟩
theorem Zaw(a p:Nat)(A:AM)(na:Option Addr)(nc:Nat)(ca:Option Addr)(cc:Nat)(rd:Int)(i:Int)(hA:AWf A)(hi:0≤i∧i<4294967296)(Z:St g (Zq a #[.P p,.slice na (XW A.nodes).length nc,.slice ca (Ze A.cnt).length cc,.U rd] 177::XE p A.s::Zp 141 8 (XW A.nodes) na nc::Zp 3 1 (Ze A.cnt) ca cc::L) w) :
  Zr g L 205 [.P a,.W i] w fun rV=>rV (.I (AM.cntD A i)) [Zq a #[.P p,.slice na (XW A.nodes).length nc,.slice ca (Ze A.cnt).length cc,.U rd] 177,XE p A.s,Zp 141 8 (XW A.nodes) na nc,Zp 3 1 (Ze A.cnt) ca cc]:=by
 refine Sp.en Tryz.func205 ?_
 have hs:=hA.s;have hle:=hA.s.le;have hcl:=hA.cl;have hil:=Zf A.cnt
 refine Sz ?_
 refine Zse (Ub _ A.s i hle hi (Z.sel 2 [1,0] rfl)) fun w Z=>?_
 refine Ztm rfl (fun hc=>?_) (fun hc=>?_)
 ·refine Sz ?_
  replace Z:=(Z.sel 2 [1,0] rfl)
  exact⟨by unfold AM.cntD;rw[if_neg (by simpa using hc)];rfl,Z⟩
 have hr:=SM.ok_rng hA.s hi.1 (by simpa using hc);obtain⟨x,hx⟩:∃x,A.cnt[i.toNat]?=some x:=⟨_,List.getElem?_eq_getElem (by omega)⟩
 refine Sz ?_
 refine Zsq rfl rfl (i:=i) (i.toNat) el_72 rfl rfl (by omega) (by omega) (Z.rdO 3 rfl (Zc hx)).1 ?_
 refine Zsv 1 [.I x] rfl (by exact(Z.rdO 3 rfl (Zc hx)).2 0 _ rfl) ?_
 refine Sz ?_
 replace Z:=(Z.sel 2 [1,0] rfl)
 exact⟨by unfold AM.cntD AM.cntOf;rw[if_pos (by simpa using hc),hx];rfl,Z⟩
end Go.Proofs.YtpebgkkmgffmaaaGreatDoor
namespace Go.Proofs.YtpebgkkmgffmaaaGreatDoor
open Go Go.V
theorem Zrv{A:AM}(h:AWf A){k:Nat}(hk:(k:Int)<A.s.cap):∃nd,A.nodes[k+1]?=some nd∧(A.dmpAt ((k:Int)+1)).nd=nd:=by
 have hn:=h.nl
 have hc:A.s.cap=(A.s.used.length:Int)-1:=rfl
 have h1:A.nodes[k+1]?=some (A.nodes[k+1]'(by omega)):=List.getElem?_eq_getElem (by omega)
 refine⟨_,h1,?_⟩
 show(A.nodes[((k:Int)+1).toNat]?).getD Nd.zero=_
 rw[show((k:Int)+1).toNat=k+1 by omega,h1];rfl
theorem Zi1(A:AM):List.replicate A.s.cap.toNat [.bool false,.I 0,.W 0,.I 0,.I 0,.W 0,.W 0,.I 0,.I 0,.I 0,.I 0]=Xn (A.dmpK 0):=A.dmpK_0.symm
theorem Zpi{A:AM}{k:Nat}{nd:Nd}(h:(A.dmpAt ((k:Int)+1)).nd=nd):(Xn (A.dmpK k)).set k [.bool (A.s.ok ((k:Int)+1)),.I (A.cntD ((k:Int)+1)),.W (A.s.genOf ((k:Int)+1)),.I nd.key,.I nd.val,.W nd.lf,.W nd.rg,.I nd.size,.I nd.sum,.I nd.mn,.I nd.mx]=Xn (A.dmpK (k+1)):=by
 subst h
 exact(Zlj (A.dmpK k) k (A.dmpAt ((k:Int)+1))).trans (congrArg Xn A.dmpK_set)
set_option maxHeartbeats 8000000
set_option maxRecDepth 8192
variable{g w:World}{L:List HP}
theorem Zne(a:Nat)(A:AM)(hA:AWf A)(Z:St g (Zt a A::L) w) :
  Zr g L 72 [.P a] w fun rV=>∃(a2:Option Addr)(c2:Nat)(a4:Option Addr)(c4:Nat),rV (.agg #[.slice a2 (Xn (AM.dmp A)).length c2,.slice a4 (Za (SM.order A.s)).length c4]) [Zp 312 11 (Xn (AM.dmp A)) a2 c2,Zp 93 1 (Za (SM.order A.s)) a4 c4,Zt a A]:=by
 refine Sp.en Tryz.func72 ?_
 obtain⟨⟨xp,xna,xnc,xca,xcc,xrd⟩,Z⟩:=St.exOpen Z
 replace Z:=Z.z
 have hs:=hA.s;have hle:=hA.s.le;have hcp:A.s.cap=(A.s.used.length:Int)-1:=rfl;have hce:=hA.s.cap
 refine Zua rfl rfl zv_97.h Z (fun b1 w Z=>?_)
 refine Zs9<|Zsw<|Ztc [0,2] [3] [] Z (fun vs jS=>∃(b:Nat)(ua:Option Addr)(ub:Option Addr)(ud:Nat),vs=[.P b]∧jS [Zq b #[.slice ua A.s.cap.toNat A.s.cap.toNat,.slice ub (Za (SM.order A.s)).length ud] 97,Zp 312 11 (List.replicate A.s.cap.toNat [.bool false,.I 0,.W 0,.I 0,.I 0,.W 0,.W 0,.I 0,.I 0,.I 0,.I 0]) ua A.s.cap.toNat,Zp 93 1 (Za (SM.order A.s)) ub ud]) rfl ?_ ?_
 ·refine Zto (.two [0,3,4,5,6] 1 [3,4,5,6] (.three [] 2 [3,4,5,6] (.two [] 7 [] (.one [8] 9 [0,3,4,5,6,8] (.one [] 10 [] .nil)) 9 [0,3,4,5,6] (.one [] 7 [] (.one [8] 10 [] .nil))) 7 [] (.two [] 2 [3,4,5,6] (.one [8] 9 [0,3,4,5,6,8] (.one [] 10 [] .nil)) 9 [0,3,4,5,6] (.one [] 2 [3,4,5,6] (.one [8] 10 [] .nil))) 9 [0,3,4,5,6] (.two [] 2 [3,4,5,6] (.one [] 7 [] (.one [8] 10 [] .nil)) 7 [] (.one [] 2 [3,4,5,6] (.one [8] 10 [] .nil)))) 9 [0,3,4,5,6] (.one [] 1 [3,4,5,6] (.two [] 2 [3,4,5,6] (.one [] 7 [] (.one [8] 10 [] .nil)) 7 [] (.one [] 2 [3,4,5,6] (.one [8] 10 [] .nil))))) ?_
  refine Qz ?_
  refine Zta ?_
  intro m1
  replace Z:=Z.drewN m1;generalize hwm1:World.drewN _ _=w at *;clear hwm1
  refine⟨?_,?_⟩
  ·refine Zse (CU _ _ A _ _ _ _ xrd hA (Z.sel 5 [1,1,1,1,0] rfl)) fun w Z=>?_
   refine Zta ?_
   intro m2
   replace Z:=Z.drewN m2;generalize hwm2:World.drewN _ _=w at *;clear hwm2
   refine⟨?_,?_,?_⟩
   ·refine Zth rfl rfl (v:=A.s.cap) (v':=A.s.cap) (A.s.cap.toNat) (A.s.cap.toNat) el_95 Z rfl (by omega) rfl (by omega) (by omega) (Rm.of (by omega) (by decide)) (fun b2 w Z=>?_)
    replace Z:=Z.z
    refine Sz ?_
    refine Zta ?_
    intro m3
    replace Z:=Z.drewN m3;generalize hwm3:World.drewN _ _=w at *;clear hwm3
    refine⟨?_,?_⟩
    ·refine Zsz (XL _ A.s hs (Z.sel 3 [2,0,0] rfl)) fun w a1 c1 Z=>?_
     refine Ztj rfl rfl (cs:=[.slice (some ⟨b2,0,none⟩) A.s.cap.toNat A.s.cap.toNat,.slice a1 (Za (SM.order A.s)).length c1]) zv_97.h rfl rfl ?_
     refine Qd fun w Z=>?_
     refine Zsk fun b3 w Z=>?_
     refine⟨by exact⟨Zsl rfl rfl rfl rfl,Zsl rfl rfl rfl rfl,Zsl rfl rfl rfl rfl,Zsl rfl rfl rfl rfl,Zs6 rfl rfl rfl rfl (Z.ld 4 rfl rfl),Zt1 rfl rfl (cs:=[.slice (some ⟨b2,0,none⟩) A.s.cap.toNat A.s.cap.toNat,.slice a1 (Za (SM.order A.s)).length c1]) zv_97.h rfl rfl rfl rfl⟩,?_⟩
     refine Qd fun w Z=>?_
     refine Zsh fun w Z=>?_
     refine Qd fun w Z=>?_
     exact⟨rfl,b3,(some ⟨b2,0,none⟩),a1,c1,rfl,(Z.sel 8 [0,2,0,4,1,0,0,0] rfl)⟩
    refine Zsk fun b3 w Z=>?_
    refine Qd fun w Z=>?_
    refine Zsz (XL _ A.s hs (Z.sel 4 [3,0,0,0] rfl)) fun w a1 c1 Z=>?_
    refine Ztj rfl rfl (cs:=[.slice (some ⟨b2,0,none⟩) A.s.cap.toNat A.s.cap.toNat,.slice a1 (Za (SM.order A.s)).length c1]) zv_97.h rfl rfl ?_
    refine Qd fun w Z=>?_
    refine Zsh fun w Z=>?_
    refine Qd fun w Z=>?_
    exact⟨rfl,b3,(some ⟨b2,0,none⟩),a1,c1,rfl,(Z.sel 8 [2,2,0,4,1,0,0,0] rfl)⟩
   ·refine Zsz (XL _ A.s hs (Z.sel 2 [1,0] rfl)) fun w a1 c1 Z=>?_
    refine Zta ?_
    intro m3
    replace Z:=Z.drewN m3;generalize hwm3:World.drewN _ _=w at *;clear hwm3
    refine⟨?_,?_⟩
    ·refine Zth rfl rfl (v:=A.s.cap) (v':=A.s.cap) (A.s.cap.toNat) (A.s.cap.toNat) el_95 Z rfl (by omega) rfl (by omega) (by omega) (Rm.of (by omega) (by decide)) (fun b2 w Z=>?_)
     replace Z:=Z.z
     refine Sz ?_
     refine Ztj rfl rfl (cs:=[.slice (some ⟨b2,0,none⟩) A.s.cap.toNat A.s.cap.toNat,.slice a1 (Za (SM.order A.s)).length c1]) zv_97.h rfl rfl ?_
     refine Qd fun w Z=>?_
     refine Zsk fun b3 w Z=>?_
     refine⟨by exact⟨Zsl rfl rfl rfl rfl,Zsl rfl rfl rfl rfl,Zsl rfl rfl rfl rfl,Zsl rfl rfl rfl rfl,Zs6 rfl rfl rfl rfl (Z.ld 4 rfl rfl),Zt1 rfl rfl (cs:=[.slice (some ⟨b2,0,none⟩) A.s.cap.toNat A.s.cap.toNat,.slice a1 (Za (SM.order A.s)).length c1]) zv_97.h rfl rfl rfl rfl⟩,?_⟩
     refine Qd fun w Z=>?_
     refine Zsh fun w Z=>?_
     refine Qd fun w Z=>?_
     exact⟨rfl,b3,(some ⟨b2,0,none⟩),a1,c1,rfl,(Z.sel 8 [0,0,0,4,1,0,0,0] rfl)⟩
    refine Zsk fun b2 w Z=>?_
    refine Qd fun w Z=>?_
    refine Zth rfl rfl (v:=A.s.cap) (v':=A.s.cap) (A.s.cap.toNat) (A.s.cap.toNat) el_95 Z rfl (by omega) rfl (by omega) (by omega) (Rm.of (by omega) (by decide)) (fun b3 w Z=>?_)
    replace Z:=Z.z
    refine Sz ?_
    refine Ztj rfl rfl (cs:=[.slice (some ⟨b3,0,none⟩) A.s.cap.toNat A.s.cap.toNat,.slice a1 (Za (SM.order A.s)).length c1]) zv_97.h rfl rfl ?_
    refine Qd fun w Z=>?_
    refine Zsh fun w Z=>?_
    refine Qd fun w Z=>?_
    exact⟨rfl,b2,(some ⟨b3,0,none⟩),a1,c1,rfl,(Z.sel 8 [1,0,0,4,1,0,0,0] rfl)⟩
   refine Zsk fun b2 w Z=>?_
   refine Zta ?_
   intro m3
   replace Z:=Z.drewN m3;generalize hwm3:World.drewN _ _=w at *;clear hwm3
   refine⟨?_,?_⟩
   ·refine Zth rfl rfl (v:=A.s.cap) (v':=A.s.cap) (A.s.cap.toNat) (A.s.cap.toNat) el_95 Z rfl (by omega) rfl (by omega) (by omega) (Rm.of (by omega) (by decide)) (fun b3 w Z=>?_)
    replace Z:=Z.z
    refine Sz ?_
    refine Qd fun w Z=>?_
    refine Zsz (XL _ A.s hs (Z.sel 4 [3,0,0,0] rfl)) fun w a1 c1 Z=>?_
    refine Ztj rfl rfl (cs:=[.slice (some ⟨b3,0,none⟩) A.s.cap.toNat A.s.cap.toNat,.slice a1 (Za (SM.order A.s)).length c1]) zv_97.h rfl rfl ?_
    refine Qd fun w Z=>?_
    refine Zsh fun w Z=>?_
    refine Qd fun w Z=>?_
    exact⟨rfl,b2,(some ⟨b3,0,none⟩),a1,c1,rfl,(Z.sel 8 [3,2,0,4,1,0,0,0] rfl)⟩
   refine Zsz (XL _ A.s hs (Z.sel 3 [2,0,0] rfl)) fun w a1 c1 Z=>?_
   refine Qd fun w Z=>?_
   refine Zth rfl rfl (v:=A.s.cap) (v':=A.s.cap) (A.s.cap.toNat) (A.s.cap.toNat) el_95 Z rfl (by omega) rfl (by omega) (by omega) (Rm.of (by omega) (by decide)) (fun b3 w Z=>?_)
   replace Z:=Z.z
   refine Sz ?_
   refine Ztj rfl rfl (cs:=[.slice (some ⟨b3,0,none⟩) A.s.cap.toNat A.s.cap.toNat,.slice a1 (Za (SM.order A.s)).length c1]) zv_97.h rfl rfl ?_
   refine Qd fun w Z=>?_
   refine Zsh fun w Z=>?_
   refine Qd fun w Z=>?_
   exact⟨rfl,b2,(some ⟨b3,0,none⟩),a1,c1,rfl,(Z.sel 8 [3,0,0,4,1,0,0,0] rfl)⟩
  refine Zsk fun b2 w Z=>?_
  refine Qd fun w Z=>?_
  refine Zse (CU _ _ A _ _ _ _ xrd hA (Z.sel 6 [2,2,2,2,0,0] rfl)) fun w Z=>?_
  refine Zta ?_
  intro m2
  replace Z:=Z.drewN m2;generalize hwm2:World.drewN _ _=w at *;clear hwm2
  refine⟨?_,?_⟩
  ·refine Zth rfl rfl (v:=A.s.cap) (v':=A.s.cap) (A.s.cap.toNat) (A.s.cap.toNat) el_95 Z rfl (by omega) rfl (by omega) (by omega) (Rm.of (by omega) (by decide)) (fun b3 w Z=>?_)
   replace Z:=Z.z
   refine Sz ?_
   refine Qd fun w Z=>?_
   refine Zsz (XL _ A.s hs (Z.sel 3 [2,0,0] rfl)) fun w a1 c1 Z=>?_
   refine Ztj rfl rfl (cs:=[.slice (some ⟨b3,0,none⟩) A.s.cap.toNat A.s.cap.toNat,.slice a1 (Za (SM.order A.s)).length c1]) zv_97.h rfl rfl ?_
   refine Qd fun w Z=>?_
   refine Zsh fun w Z=>?_
   refine Qd fun w Z=>?_
   exact⟨rfl,b2,(some ⟨b3,0,none⟩),a1,c1,rfl,(Z.sel 8 [6,2,0,4,1,0,0,0] rfl)⟩
  refine Zsz (XL _ A.s hs (Z.sel 2 [1,0] rfl)) fun w a1 c1 Z=>?_
  refine Qd fun w Z=>?_
  refine Zth rfl rfl (v:=A.s.cap) (v':=A.s.cap) (A.s.cap.toNat) (A.s.cap.toNat) el_95 Z rfl (by omega) rfl (by omega) (by omega) (Rm.of (by omega) (by decide)) (fun b3 w Z=>?_)
  replace Z:=Z.z
  refine Sz ?_
  refine Ztj rfl rfl (cs:=[.slice (some ⟨b3,0,none⟩) A.s.cap.toNat A.s.cap.toNat,.slice a1 (Za (SM.order A.s)).length c1]) zv_97.h rfl rfl ?_
  refine Qd fun w Z=>?_
  refine Zsh fun w Z=>?_
  refine Qd fun w Z=>?_
  exact⟨rfl,b2,(some ⟨b3,0,none⟩),a1,c1,rfl,(Z.sel 8 [6,0,0,4,1,0,0,0] rfl)⟩
 rintro _ w j ⟨b,ua,ub,ud,rfl,Z⟩
 replace Z:=Z.z
 rw[Zi1] at Z
 refine Sz ?_
 refine Zst [0,2,3,17] [18] (fun kM vs jS=>∃(k:Nat),vs=[.I (k:Int)]∧jS [Zq b #[.slice ua A.s.cap.toNat A.s.cap.toNat,.slice ub (Za (SM.order A.s)).length ud] 97,Zp 312 11 (Xn (AM.dmpK A k)) ua A.s.cap.toNat]∧(k≤A.s.cap.toNat)∧(A.s.cap.toNat-k)=kM) rfl ⟨0,rfl,Z,(Nat.zero_le _),rfl⟩ ?_
 rintro _ _ w j ⟨k,rfl,Z,hk,rfl⟩
 replace Z:=Z.z
 refine Sz ?_
 refine Zsr rfl (fun cd1=>?_) (fun cd1=>?_)
 ·obtain⟨nd,hnd,hne⟩:=Zrv hA (k:=k) (by omega);have hnl:=Xf A.nodes;have hnn:=hA.nl;have hkl:=AM.dmpK_len A k;have hsl:=D_ (AM.dmpK A k);obtain⟨z,hz⟩:∃z,(AM.dmpK A k)[k]?=some z:=⟨_,List.getElem?_eq_getElem (by omega)⟩
  refine Sz ?_
  refine Zsg [([0,2,3,7,9,10,12,13,15,19,1,4,16,5,17,6,18,20,21],some (8,[0,1,2,9,10,12,13,15,16,17,18,19,20,21])),([],some (11,[0,1,2,12,13,15,16,17,18,19,20,21])),([],some (14,[0,1,2,15,16,17,18,19,20,21])),([22,23],some (24,[]))] ?_
  refine Qz ?_
  refine Zsj rfl rfl (i:=(k:Int)+1) (k+1) el_65 rfl rfl (by omega) (by omega) (Z.rdO 6 rfl (ZZ hnd)).1 ?_
  refine Ztq rfl rfl [.I nd.key,.I nd.val,.W nd.lf,.W nd.rg,.I nd.size,.I nd.sum,.I nd.mn,.I nd.mx] ag_141.h rfl (Z.rdO 6 rfl (ZZ hnd)).2 ?_
  refine Qd fun w Z=>?_
  refine Zse (Ub _ A.s ((k:Int)+1) hle (by omega) (Z.sel 6 [5,0,0,0,0,0] rfl)) fun w Z=>?_
  refine⟨by exact⟨Zsl rfl rfl rfl rfl,Zs6 rfl rfl rfl rfl (Z.ld 1 rfl rfl),Zsl rfl rfl rfl rfl,Zsl rfl rfl rfl rfl,Zsl rfl rfl rfl rfl,Zsl rfl rfl rfl rfl,Zsl rfl rfl rfl rfl,Zsl rfl rfl rfl rfl,Zsl rfl rfl rfl rfl,Zsl rfl rfl rfl rfl,Zs6 rfl rfl rfl rfl (Z.ld 5 rfl rfl),Zsl rfl rfl rfl rfl,Ztn rfl rfl (i:=(k:Int)+1) (k+1) el_65 rfl rfl (by omega) (by omega) (Z.rdO 6 rfl (ZZ hnd)).1 rfl rfl,Zuf rfl rfl [.I nd.key,.I nd.val,.W nd.lf,.W nd.rg,.I nd.size,.I nd.sum,.I nd.mn,.I nd.mx] ag_141.h rfl (Z.rdO 6 rfl (ZZ hnd)).2 rfl rfl⟩,?_⟩
  refine Qd fun w Z=>?_
  refine Zse (Zaw _ _ A _ _ _ _ xrd ((k:Int)+1) hA (by omega) (Z.sel 8 [5,0,4,4,0,0,0,0] rfl)) fun w Z=>?_
  refine⟨by exact⟨Zsl rfl rfl rfl rfl,Zs6 rfl rfl rfl rfl (Z.ld 4 rfl rfl),Zsl rfl rfl rfl rfl,Zsl rfl rfl rfl rfl,Zsl rfl rfl rfl rfl,Zsl rfl rfl rfl rfl,Zsl rfl rfl rfl rfl,Zsl rfl rfl rfl rfl,Zs6 rfl rfl rfl rfl (Z.ld 0 rfl rfl),Zsl rfl rfl rfl rfl,Ztn rfl rfl (i:=(k:Int)+1) (k+1) el_65 rfl rfl (by omega) (by omega) (Z.rdO 2 rfl (ZZ hnd)).1 rfl rfl,Zuf rfl rfl [.I nd.key,.I nd.val,.W nd.lf,.W nd.rg,.I nd.size,.I nd.sum,.I nd.mn,.I nd.mx] ag_141.h rfl (Z.rdO 2 rfl (ZZ hnd)).2 rfl rfl⟩,?_⟩
  refine Qd fun w Z=>?_
  refine Zse (Zj6 _ _ A _ _ _ _ xrd ((k:Int)+1) hA (by omega) Z) fun w Z=>?_
  refine⟨by exact⟨Zsl rfl rfl rfl rfl,Zs6 rfl rfl rfl rfl (Z.ld 4 rfl rfl),Zsl rfl rfl rfl rfl,Zsl rfl rfl rfl rfl,Zsl rfl rfl rfl rfl,Zsl rfl rfl rfl rfl,Zs6 rfl rfl rfl rfl (Z.ld 0 rfl rfl),Zsl rfl rfl rfl rfl,Ztn rfl rfl (i:=(k:Int)+1) (k+1) el_65 rfl rfl (by omega) (by omega) (Z.rdO 2 rfl (ZZ hnd)).1 rfl rfl,Zuf rfl rfl [.I nd.key,.I nd.val,.W nd.lf,.W nd.rg,.I nd.size,.I nd.sum,.I nd.mn,.I nd.mx] ag_141.h rfl (Z.rdO 2 rfl (ZZ hnd)).2 rfl rfl⟩,?_⟩
  refine Ztj rfl rfl (cs:=[.bool (A.s.ok ((k:Int)+1)),.I (AM.cntD A ((k:Int)+1)),.W (A.s.genOf ((k:Int)+1)),.I nd.key,.I nd.val,.W nd.lf,.W nd.rg,.I nd.size,.I nd.sum,.I nd.mn,.I nd.mx]) zv_312.h rfl rfl<|Zsj rfl rfl (i:=(k:Int)) (k) el_95 rfl rfl (by omega) (by omega) (Z.rdO 5 rfl (YJ hz)).1 ?_
  refine Qd fun w Z=>?_
  refine Zvi rfl rfl rfl 5 (k) [.bool z.al,.I z.cn,.W z.ge,.I z.nd.key,.I z.nd.val,.W z.nd.lf,.W z.nd.rg,.I z.nd.size,.I z.nd.sum,.I z.nd.mn,.I z.nd.mx] (Xn (AM.dmpK A (k+1))) Z rfl (YJ hz) rfl rfl rfl rfl ag_312.h (Zpi hne) (fun w Z=>?_)
  replace Z:=Z.z
  refine Sz ?_
  refine Qd fun w Z=>?_
  as_aux_lemma =>
  refine Sz ?_
  exact⟨_,by omega,rfl,k+1,rfl,(Z.sel 8 [4,4,4,4,0,0,0,0] rfl),(by omega),rfl⟩
 refine Sz ?_
 refine Zsh fun w Z=>?_
 replace Z:=St.cl (f:=Y9 a A) ⟨_,_,_,_,_,_⟩ (Z.sel 8 [4,4,4,4,0,0,0,0] rfl)
 replace Z:=Z.z
 refine Sz ?_
 replace Z:=(Z.sel 5 [2,2,0] rfl)
 have hke:k=A.s.cap.toNat:=(by omega);subst hke;rw[AM.dmpK_end] at Z;exact⟨_,_,_,_,by rw[D_,AM.dmp_len];rfl,Z⟩
end Go.Proofs.YtpebgkkmgffmaaaGreatDoor
namespace Go.V
open Go Go.RowKit
def Yv(l:List Int)(n:Nat):List Int:=(List.range n).map fun j:Nat=>((l.count ((j:Int)+1):Nat):Int)
theorem Y8(l:List Int)(n:Nat):(Yv l n).length=n:=by simp[Yv]
theorem Zqs(n:Nat):Yv [] n=List.replicate n 0:=by
 apply List.ext_getElem<;>simp[Yv]
theorem Xg{l:List Int}{n k:Nat}(h:k<n):(Yv l n)[k]?=some ((l.count ((k:Int)+1):Nat):Int):=by
 simp[Yv,List.getElem?_map,List.getElem?_range h]
theorem Zcw{l:List Int}{n:Nat}{c:Int}(h:1≤c∧c≤n):(Yv l n).set (c-1).toNat (((l.count c:Nat):Int)+1)=Yv (l++[c]) n:=by
 apply List.ext_getElem?
 intro i
 rw[List.getElem?_set,Y8]
 by_cases hi:i<n
 ·rw[Xg hi,Xg hi,List.count_append,List.count_singleton]
  by_cases e:(c-1).toNat=i
  ·rw[if_pos e,if_pos (by omega),show(i:Int)+1=c by omega];simp
  rw[if_neg e]
  have hne:¬c=(i:Int)+1:=by omega
  simp[hne]
 have hn:∀q,(Yv q n)[i]?=none:=fun q=>List.getElem?_eq_none (by rw[Y8];omega)
 rw[hn,hn,if_neg (by omega)]
theorem Vw{l:List Int}{n:Nat}{c:Int}(h:¬(1≤c∧c≤n)):Yv (l++[c]) n=Yv l n:=by
 unfold Yv
 refine List.map_congr_left fun j hj=>?_
 have hj2:=List.mem_range.1 hj
 rw[List.count_append,List.count_singleton]
 have hne:¬c=(j:Int)+1:=by omega
 simp[hne]
def AM.edK(A:AM)(k:Nat):List Int:=(List.range k).flatMap fun i:Nat=>if A.s.ok ((i:Int)+1)=true then[(A.nd ((i:Int)+1)).lf,(A.nd ((i:Int)+1)).rg] else[]
theorem AM.edK_in{A:AM}{k:Nat}(h:A.s.ok ((k:Int)+1)=true):A.edK (k+1)=A.edK k++[(A.nd ((k:Int)+1)).lf]++[(A.nd ((k:Int)+1)).rg]:=by
 unfold AM.edK
 rw[List.range_succ,List.flatMap_append,List.flatMap_singleton,if_pos h,List.append_assoc];rfl
theorem AM.edK_out{A:AM}{k:Nat}(h:¬A.s.ok ((k:Int)+1)=true):A.edK (k+1)=A.edK k:=by
 unfold AM.edK
 rw[List.range_succ,List.flatMap_append,List.flatMap_singleton,if_neg h,List.append_nil]
theorem AM.edK_kids{A:AM}(h:SOk A.s):A.edK A.s.cap.toNat=A.kids:=by
 have hc:A.s.cap=(A.s.used.length:Int)-1:=rfl
 have hl:=h.cap
 have e1:A.s.used.length=A.s.cap.toNat+1:=by omega
 unfold AM.edK AM.kids AM.live
 rw[e1,List.range_succ_eq_map,List.map_cons,List.filter_cons,if_neg (by rw[show((0:Nat):Int)=0 from rfl,h.u0];decide),List.map_map]
 generalize List.range A.s.cap.toNat=l
 induction l with
 |nil=>rfl
 |cons i l ih =>
  rw[List.flatMap_cons,List.map_cons,List.filter_cons,ih]
  simp only[Function.comp,Nat.succ_eq_add_one,Int.natCast_add,Int.cast_ofNat_Int]
  by_cases h1:A.s.ok ((i:Int)+1)=true
  ·rw[if_pos h1,if_pos h1,List.flatMap_cons]
  rw[if_neg h1,if_neg h1];rfl
theorem AM.dmp_at{A:AM}{k:Nat}(h:k<A.s.cap.toNat):A.dmp[k]?=some (A.dmpAt ((k:Int)+1)):=by
 simp[AM.dmp,List.getElem?_map,List.getElem?_range h]
structure MkI(A:AM)(R:List Int)(bs:List Bool)(ws:List Int):Prop where
 len:bs.length=A.s.cap.toNat
 root:∀r∈R,r≠0→A.s.ok r=true→bs[(r-1).toNat]?=some true∨r∈ws
 kid:∀j:Int,1≤j→A.s.ok j=true→bs[(j-1).toNat]?=some true→∀c,c=(A.nd j).lf∨c=(A.nd j).rg→c≠0→bs[(c-1).toNat]?=some true∨c∈ws
 rng:∀x∈ws,0≤x∧x≤4294967295
theorem MkI.init{A:AM}{R:List Int}(hr:∀r∈R,0≤r∧r≤4294967295):MkI A R (List.replicate A.s.cap.toNat false) R :=
 ⟨List.length_replicate,fun r hr _ _=>.inr hr,fun j _ _ hb=>absurd (List.eq_of_mem_replicate (List.mem_of_getElem? hb)) (by decide),hr⟩
theorem MkI.skip{A:AM}{R ws:List Int}{bs:List Bool}{i:Int}(h:MkI A R bs (ws++[i]))(hi:¬A.s.ok i=true∨bs[(i-1).toNat]?=some true)(hA:ARf A R):MkI A R bs ws:=by
 refine⟨h.len,fun r hr hne hok=>?_,fun j h1 h2 hb c hc hne=>?_,fun x hx=>h.rng x (List.mem_append_left _ hx)⟩
 ·rcases h.root r hr hne hok with h3|h3
  ·exact .inl h3
  rcases List.mem_append.1 h3 with h3|h3
  ·exact .inr h3
  have e:=List.mem_singleton.1 h3
  subst e
  exact .inl (hi.resolve_left fun h4=>h4 hok)
 rcases h.kid j h1 h2 hb c hc hne with h3|h3
 ·exact .inl h3
 rcases List.mem_append.1 h3 with h3|h3
 ·exact .inr h3
 have e:=List.mem_singleton.1 h3
 subst e
 have hok:=((hA.kid j h2 (by omega) c hc).resolve_left hne).2
 exact .inl (hi.resolve_left fun h4=>h4 hok)
theorem MkI.mark{A:AM}{R ws:List Int}{bs:List Bool}{i:Int}(h:MkI A R bs (ws++[i]))(h1:1≤i)(hi:i≤A.s.cap)(hk:(0≤(A.nd i).lf∧(A.nd i).lf≤4294967295)∧0≤(A.nd i).rg∧(A.nd i).rg≤4294967295):MkI A R (bs.set (i-1).toNat true) (ws++[(A.nd i).lf,(A.nd i).rg]):=by
 have hl:=h.len
 have hset:∀j:Int,bs[(j-1).toNat]?=some true→(bs.set (i-1).toNat true)[(j-1).toNat]?=some true:=fun j hj=>by
  rw[List.getElem?_set]
  split
  ·rw[if_pos (by omega)]
  exact hj
 have hthis:(bs.set (i-1).toNat true)[(i-1).toNat]?=some true:=by
  rw[List.getElem?_set,if_pos rfl,if_pos (by omega)]
 refine⟨by rw[List.length_set];exact hl,fun r hr hne hok=>?_,fun j j1 j2 hb c hc hne=>?_,fun x hx=>?_⟩
 ·rcases h.root r hr hne hok with h3|h3
  ·exact .inl (hset r h3)
  rcases List.mem_append.1 h3 with h3|h3
  ·exact .inr (List.mem_append_left _ h3)
  rw[List.mem_singleton.1 h3];exact .inl hthis
 ·by_cases e:j=i
  ·subst e
   refine .inr (List.mem_append_right _ ?_)
   rcases hc with rfl|rfl<;>simp
  have hb2:bs[(j-1).toNat]?=some true:=by
   rw[List.getElem?_set,if_neg (by omega)] at hb;exact hb
  rcases h.kid j j1 j2 hb2 c hc hne with h3|h3
  ·exact .inl (hset c h3)
  rcases List.mem_append.1 h3 with h3|h3
  ·exact .inr (List.mem_append_left _ h3)
  rw[List.mem_singleton.1 h3];exact .inl hthis
 rcases List.mem_append.1 hx with hx|hx
 ·exact h.rng x (List.mem_append_left _ hx)
 simp only[List.mem_cons,List.not_mem_nil,or_false] at hx
 rcases hx with rfl|rfl
 ·exact hk.1
 exact hk.2
theorem MkI.all{A:AM}{R:List Int}{bs:List Bool}(h:MkI A R bs [])(hA:ARf A R):∀j,1≤j→A.s.ok j=true→bs[(j-1).toNat]?=some true :=
 Zcq hA (fun j=>bs[(j-1).toNat]?=some true) (fun r hr hne=>by
  have hok:=((hA.ref r hr).resolve_left hne).2
  exact(h.root r hr hne hok).resolve_right fun h3=>by cases h3) (fun j h1 h2 hb c hc hne=>(h.kid j h1 h2 hb c hc hne).resolve_right fun h3=>by cases h3)
def unm(bs:List Bool):Nat:=bs.countP fun b=>!b
theorem Zng{bs:List Bool}{k:Nat}(h:bs[k]?=some false):unm (bs.set k true)+1=unm bs:=by
 unfold unm
 induction bs generalizing k with
 |nil=>cases h
 |cons b bs ih =>
  cases k with
  |zero =>
   have e:b=false:=by simpa using h
   subst e;simp
  |succ k =>
   have:=ih (k:=k) (by simpa using h)
   simp only[List.set_cons_succ,List.countP_cons];omega
end Go.V
namespace Go.Proofs.YtpebgkkmgffmaaaGreatDoor
open Go Go.V Go.RowKit
theorem Zmg(S:SM)(k:Nat):(Qj S k).Nodup:=by
 unfold Qj
 exact List.pairwise_map.2 (List.nodup_range.imp fun {a b} h e=>h (by omega))
theorem Vd{S:SM}(h:SOk S){j:Int}(h1:1≤j)(h2:j≤S.cap):(SM.order S).count j=if S.ok j=true then 0 else 1:=by
 have hfr:=h.fr
 have hU:j∈Qj S (S.cap-S.fresh).toNat↔S.fresh<j:=by
  unfold Qj
  rw[List.mem_map]
  constructor
  ·rintro⟨i,hi,e⟩;omega
  intro hlt
  exact⟨(j-S.fresh-1).toNat,List.mem_range.2 (by omega),by omega⟩
 have hcU:=(Zmg S (S.cap-S.fresh).toNat).count (a:=j)
 have hcR:=h.nd.count (a:=j)
 unfold SM.order
 rw[List.count_append,List.count_reverse,hcU,hcR]
 by_cases hok:S.ok j=true
 ·rw[if_pos hok]
  have n1:¬j∈S.rel:=fun hm=>by have:=(h.rm j hm).2.2;rw[hok] at this;cases this
  have n2:¬j∈Qj S (S.cap-S.fresh).toNat:=fun hm=>by have:=h.hi j (hU.1 hm);rw[hok] at this;cases this
  rw[if_neg n1,if_neg n2]
 rw[if_neg hok]
 by_cases hlt:S.fresh<j
 ·have n1:¬j∈S.rel:=fun hm=>by have:=(h.rm j hm).2.1;omega
  rw[if_neg n1,if_pos (hU.2 hlt)]
 have n1:=h.cov j h1 (by omega) (Bool.eq_false_iff.2 hok)
 rw[if_pos n1,if_neg fun hm=>hlt (hU.1 hm)]
theorem Zfd{S:SM}(h:SOk S):∀j∈SM.order S,1≤j∧j≤S.cap:=fun j hj=>by
 have hfr:=h.fr
 rcases List.mem_append.1 hj with hj|hj
 ·have:=h.rm j (List.mem_reverse.1 hj);omega
 obtain⟨i,hi,e⟩:=List.mem_map.1 hj
 have:=List.mem_range.1 hi
 omega
theorem Zci(A:AM):(Xn (AM.dmp A)).length=A.s.cap.toNat:=by rw[D_,AM.dmp_len]
theorem XU{A:AM}{R:List Int}(h:ARf A R):1≤A.s.cap∧A.s.cap≤65536:=by
 have h1:=h.s.cap
 have h2:A.s.cap=(A.s.used.length:Int)-1:=rfl
 omega
set_option maxHeartbeats 8000000
set_option maxRecDepth 8192
variable{g w:World}{L:List HP}
theorem Hb(A:AM)(R:List Int)(da fa:Option Addr)(dc fc:Nat)(i:Int)(hA:ARf A R)(hi:0≤i∧i≤4294967295)(Z:St g (Sh 312 11 (Xn (AM.dmp A)) da dc::L) w) :
  Cp g L 201 [.agg #[.slice da (Xn (AM.dmp A)).length dc,.slice fa (Za (SM.order A.s)).length fc],.W i] w fun rV=>∃(b:Bool),rV (.bool b) [Sh 312 11 (Xn (AM.dmp A)) da dc] (b=A.s.ok i):=by
 refine Sp.en Tryz.func201 ?_
 refine Zsp fun b1 w Z=>?_
 have hn:=Zci A;have hcr:=XU hA;have hfr:=hA.s.fr;have hcp:A.s.cap=(A.s.used.length:Int)-1:=rfl
 refine Sz ?_
 by_cases cg1:1≤i
 ·refine Zsf 7 (.bool true) (congrArg Value.bool (decide_eq_true cg1)) ?_
  refine Sz ?_
  by_cases cg2:i≤(List.length (Xn (AM.dmp A)):Int)
  ·refine Zsf 16 (.bool true) (congrArg Value.bool (decide_eq_true cg2)) ?_
   refine Sz ?_
   refine Zsq rfl rfl (i:=i-1) (i.toNat-1) el_95 rfl rfl (by omega) (by omega) (Z.rdS 1 rfl (YJ (AM.dmp_at (A:=A) (k:=i.toNat-1) (by omega)))).1 ?_
   refine Sz ?_
   refine Zsv 1 [.bool (A.dmpAt (((i.toNat-1:Nat):Int)+1)).al] rfl (by exact(Z.rdS 1 rfl (YJ (AM.dmp_at (A:=A) (k:=i.toNat-1) (by omega)))).2 0 _ rfl) ?_
   as_aux_lemma =>
   refine Sz ?_
   replace Z:=(Z.sel 1 [] rfl)
   exact⟨_,rfl,Z,by show A.s.ok (((i.toNat-1:Nat):Int)+1)=_;rw[show((i.toNat-1:Nat):Int)+1=i by omega]⟩
  refine Zsf 16 (.bool false) (congrArg Value.bool (decide_eq_false cg2)) ?_
  as_aux_lemma =>
  refine Sz ?_
  replace Z:=(Z.sel 1 [] rfl)
  exact⟨false,rfl,Z,by have h9:¬A.s.ok i=true:=fun e=>cg2 (by have:=(SM.ok_rng hA.s (i:=i) hi.1 e).2.1;omega);exact(Bool.eq_false_iff.2 h9).symm⟩
 refine Zsf 7 (.bool false) (congrArg Value.bool (decide_eq_false cg1)) ?_
 refine Sz ?_
 replace Z:=(Z.sel 1 [] rfl)
 exact⟨false,rfl,Z,by rw[show i=0 by omega];exact hA.s.u0.symm⟩
theorem Ca(x:SlE)(Z:St g (L) w) :
  Zr g L 200 [.agg #[.bool x.al,.I x.cn,.W x.ge,.I x.nd.key,.I x.nd.val,.W x.nd.lf,.W x.nd.rg,.I x.nd.size,.I x.nd.sum,.I x.nd.mn,.I x.nd.mx]] w fun rV=>rV (.agg #[.W x.nd.lf,.W x.nd.rg]) []:=by
 refine Sp.en Tryz.func200 ?_
 refine Zsp fun b1 w Z=>?_
 refine Zsk fun b2 w Z=>?_
 refine Zuv rfl rfl (cs:=[.W x.nd.lf,.W x.nd.rg]) Zbg zv_315.h rfl ?_
 refine Ztz (vs:=#[.W x.nd.lf,.W x.nd.rg]) rfl rfl rfl 0 Z rfl rfl rfl rfl (Eq.trans (b:=2) rfl rfl) ag_315.h (fun w Z=>?_)
 replace Z:=Z.z
 refine Sz ?_
 replace Z:=(Z.sel 2 [] rfl)
 exact⟨rfl,Z⟩
end Go.Proofs.YtpebgkkmgffmaaaGreatDoor
namespace Go.Proofs.YtpebgkkmgffmaaaGreatDoor
open Go Go.V Go.RowKit
theorem Zdf(n:Nat):List.replicate n [Value.I 0]=Ze (Yv [] n):=by
 rw[Zqs];unfold Ze;rw[List.map_replicate]
theorem Zh0{l:List Int}{n k:Nat}{x:Int}(hx:l[k]?=some x)(h:1≤x∧x≤n):(Ze (Yv (l.take k) n)).set (x.toNat-1) [Value.I ((((l.take k).count x:Nat):Int)+1)]=Ze (Yv (l.take (k+1)) n):=by
 rw[show x.toNat-1=(x-1).toNat by omega,XJ,Zcw h,List.take_add_one,hx];rfl
theorem VJ{l:List Int}{n k:Nat}{x:Int}(hx:l[k]?=some x)(h:¬(1≤x∧x≤n)):Yv (l.take k) n=Yv (l.take (k+1)) n:=by
 rw[List.take_add_one,hx];exact(Vw h).symm
set_option maxHeartbeats 8000000
set_option maxRecDepth 8192
variable{g w:World}{L:List HP}
theorem Dx(l:List Int)(n:Nat)(a:Option Addr)(c:Nat)(hn:n≤65536)(hl:l.length≤100000000)(hr:∀x∈l,0≤x∧x≤4294967295)(Z:St g (Sh 93 1 (Za l) a c::L) w) :
  Zr g L 199 [.slice a (Za l).length c,.I (n:Int)] w fun rV=>∃(u:Option Addr)(d:Nat),rV (.slice u (Ze (Yv l n)).length d) [Zp 3 1 (Ze (Yv l n)) u d,Sh 93 1 (Za l) a c]:=by
 refine Sp.en Tryz.func199 ?_
 have _:=hl
 have _:=hn
 have hll:=Zh l
 refine Sz ?_
 refine Zth rfl rfl (v:=(n:Int)) (v':=(n:Int)) (n) (n) el_72 Z rfl (by omega) rfl (by omega) (by omega) (Rm.of (by omega) (by decide)) (fun b1 w Z=>?_)
 replace Z:=Z.z
 rw[Zdf] at Z
 refine Sz ?_
 refine Zst [0,1,4,5] [6] (fun kM vs jS=>∃(k:Nat),vs=[.I (k:Int)]∧jS [Zp 3 1 (Ze (Yv (l.take k) n)) (some ⟨b1,0,none⟩) n]∧(k≤l.length)∧(l.length-k)=kM) rfl ⟨0,rfl,Z,(Nat.zero_le _),rfl⟩ ?_
 rintro _ _ w j ⟨k,rfl,Z,hk,rfl⟩
 replace Z:=Z.z
 refine Sz ?_
 refine Zsr rfl (fun cd1=>?_) (fun cd1=>?_)
 ·obtain⟨x,hx⟩:∃x,l[k]?=some x:=⟨_,List.getElem?_eq_getElem (by omega)⟩;have hxr:=hr x (List.mem_of_getElem? hx)
  refine Sz ?_
  refine Zsq rfl rfl (i:=(k:Int)) (k) el_70 rfl rfl (by omega) (by omega) (Z.rdS 1 rfl (Zn hx)).1 ?_
  refine Zsv 1 [.W x] rfl (by exact(Z.rdS 1 rfl (Zn hx)).2 0 _ rfl) ?_
  refine Sz ?_
  by_cases cg1:1≤x
  ·refine Zsf 20 (.bool true) (congrArg Value.bool (decide_eq_true cg1)) ?_
   refine Sz ?_
   refine Zsq rfl rfl (i:=(k:Int)) (k) el_70 rfl rfl (by omega) (by omega) (Z.rdS 1 rfl (Zn hx)).1 ?_
   refine Sz ?_
   refine Zsv 1 [.W x] rfl (by exact(Z.rdS 1 rfl (Zn hx)).2 0 _ rfl) ?_
   as_aux_lemma =>
   refine Sz ?_
   refine Zsr rfl (fun cd2=>?_) (fun cd2=>?_)
   ·have hcl:=Y8 (l.take k) n;have hil:=Zf (Yv (l.take k) n);have hce:((x.toNat-1:Nat):Int)+1=x:=(by omega);have hct:=List.count_le_length (a:=x) (l:=l.take k);have htl:=List.length_take_le k l;have hca:(Yv (l.take k) n)[x.toNat-1]?=some (((l.take k).count x:Nat):Int):=(by rw[Xg (by omega),hce])
    refine Sz ?_
    refine Zsq rfl rfl (i:=(k:Int)) (k) el_70 rfl rfl (by omega) (by omega) (Z.rdS 1 rfl (Zn hx)).1 ?_
    refine Zsv 1 [.W x] rfl (by exact(Z.rdS 1 rfl (Zn hx)).2 0 _ rfl) ?_
    refine Sz ?_
    refine Zsq rfl rfl (i:=x-1) (x.toNat-1) el_72 rfl rfl (by omega) (by omega) (Z.rdO 0 rfl (Zc hca)).1 ?_
    refine Zsv 1 [.I (((l.take k).count x:Nat):Int)] rfl (by exact(Z.rdO 0 rfl (Zc hca)).2 0 _ rfl) ?_
    refine Sz ?_
    refine Zsq rfl rfl (i:=x-1) (x.toNat-1) el_72 rfl rfl (by omega) (by omega) (Z.rdO 0 rfl (Zc hca)).1 ?_
    refine Zs5 rfl rfl rfl 0 (x.toNat-1) 0 [.I (((l.take k).count x:Nat):Int)] (Ze (Yv (l.take (k+1)) n)) Z rfl (Zc hca) rfl rfl rfl rfl rfl (Zh0 hx (by omega)) (fun w Z=>?_)
    replace Z:=Z.z
    refine Sz ?_
    exact⟨_,by omega,rfl,k+1,rfl,Z,(by omega),rfl⟩
   rw[VJ hx (by omega)] at Z
   refine Sz ?_
   exact⟨_,by omega,rfl,k+1,rfl,Z,(by omega),rfl⟩
  refine Zsf 20 (.bool false) (congrArg Value.bool (decide_eq_false cg1)) ?_
  as_aux_lemma =>
  rw[VJ hx (by omega)] at Z
  refine Sz ?_
  exact⟨_,by omega,rfl,k+1,rfl,Z,(by omega),rfl⟩
 refine Sz ?_
 have hk9:k=l.length:=(by omega);subst hk9;rw[List.take_length] at Z;exact⟨_,_,by rw[Zf,Y8];rfl,Z⟩
end Go.Proofs.YtpebgkkmgffmaaaGreatDoor
namespace Go.V
open Go Go.RowKit
def sz1(P:Program)(e:TypeId):Bool:=match P.info? e with
 |some i=>i.size==1
 |none=>false
theorem Zqh{P:Program}{e:TypeId}(h:sz1 P e=true):∃i,P.info? e=some i∧i.size=1:=by
 unfold sz1 at h
 cases hi:P.info? e with
 |none=>rw[hi] at h;cases h
 |some i=>rw[hi] at h;exact⟨i,rfl,by simpa using h⟩
structure ArP(P:Program)(t:TypeId)(m:Nat)(e:TypeId):Prop where
 und:P.underlying t=some (.array m e)
 one1:sz1 P e=true
theorem ArP.one{P:Program}{t e:TypeId}{m:Nat}(h:ArP P t m e):∃i,P.info? e=some i∧i.size=1:=Zqh h.one1
section
variable{P:Program}{T:Tab}[hT:TabOk P T]{n:Nat}{os l:List Oper}{K:Kt}{F:Fm}{w:World}{t e:TypeId}{m:Nat}
theorem Zty{o:Oper}{x y:Operand}{b:Nat}{kk:IntKind}{i:Int}(hg:o.guard=none)(ho:o.op=.indexAddr t x y)(k:Nat)(hE:ArP P t m e)(hx:ev F x=.pointer (some ⟨b,0,none⟩))(hy:ev F y=.int kk i)(hik:i=k)(hlt:k<m)(hk:WL P n os l K (ZI F o.dst (.pointer (some ⟨b,k,none⟩))) w):WL P n os (o::l) K F w:=by
 refine Ztb hg (fun hok=>?_) hk
 have e1:=Zg (F:=F) hok (x:=x) (by simp[ho,Op.operands])
 have e2:=Zg (F:=F) hok (x:=y) (by simp[ho,Op.operands])
 subst hik
 have hr:(0:Int)≤k∧(k:Int)<m:=by omega
 have hadd:(⟨b,0,none⟩:Addr).add k=⟨b,k,none⟩:=by unfold Addr.add;split<;>simp_all
 simp only[execOp,ho,e1,hx,e2,hy,Instr.indexAt,Instr.sureAddr,asIntOf,Sem.run_bind,Sem.run_pure,Result.andThen_ok,run_underlying hE.und,hr,and_self,if_true,ZG w hE.one,Int.toNat_natCast,Nat.mul_one,hadd]
theorem Zts{o:Oper}{x y:Operand}{b:Nat}{kk:IntKind}{i:Int}(hg:o.guard=none)(ho:o.op=.indexAddr t x y)(k:Nat)(hE:ArP P t m e)(hx:ev F x=.pointer (some ⟨b,0,none⟩))(hy:ev F y=.int kk i)(hik:i=k)(hlt:k<m){d:Nat}(hd:o.dst=some d)(hfd:F d=(.pointer (some ⟨b,k,none⟩))):RQ P n os w F o:=by
 refine Zt0 hg (fun hok mm=>?_) hd hfd
 generalize hw0:w.drewN mm=w0
 clear hw0
 have e1:=Zg (F:=F) hok (x:=x) (by simp[ho,Op.operands])
 have e2:=Zg (F:=F) hok (x:=y) (by simp[ho,Op.operands])
 subst hik
 have hr:(0:Int)≤k∧(k:Int)<m:=by omega
 have hadd:(⟨b,0,none⟩:Addr).add k=⟨b,k,none⟩:=by unfold Addr.add;split<;>simp_all
 simp only[execOp,ho,e1,hx,e2,hy,Instr.indexAt,Instr.sureAddr,asIntOf,Sem.run_bind,Sem.run_pure,Result.andThen_ok,run_underlying hE.und,hr,and_self,if_true,ZG w0 hE.one,Int.toNat_natCast,Nat.mul_one,hadd]
theorem Ztt{K:Fm→Prop}{o:Oper}{x y:Operand}{b:Nat}{kk:IntKind}{i:Int}(hg:o.guard=none)(ho:o.op=.indexAddr t x y)(k:Nat)(hE:ArP P t m e)(hx:ev F x=.pointer (some ⟨b,0,none⟩))(hy:ev F y=.int kk i)(hik:i=k)(hlt:k<m)(hk:WQ P n os l w K (ZI F o.dst (.pointer (some ⟨b,k,none⟩)))):WQ P n os (o::l) w K F:=by
 refine Ztu hg (fun hok mm=>?_) hk
 generalize hw0:w.drewN mm=w0
 clear hw0
 have e1:=Zg (F:=F) hok (x:=x) (by simp[ho,Op.operands])
 have e2:=Zg (F:=F) hok (x:=y) (by simp[ho,Op.operands])
 subst hik
 have hr:(0:Int)≤k∧(k:Int)<m:=by omega
 have hadd:(⟨b,0,none⟩:Addr).add k=⟨b,k,none⟩:=by unfold Addr.add;split<;>simp_all
 simp only[execOp,ho,e1,hx,e2,hy,Instr.indexAt,Instr.sureAddr,asIntOf,Sem.run_bind,Sem.run_pure,Result.andThen_ok,run_underlying hE.und,hr,and_self,if_true,ZG w0 hE.one,Int.toNat_natCast,Nat.mul_one,hadd]
end
theorem RdE.sub{w:World}{size k:Nat}{a:Option Addr}{cs:List Value}(h:RdE w size a k cs)(d:Nat)(sub:List Value)(hs:(cs.drop d).take sub.length=sub)(j:Nat)(u:Value)(hj:sub[j]?=some u):w.cell? ⟨bo a,oo a+k*size+d+j,none⟩=some u:=by
 have hlt:=(List.getElem?_eq_some_iff.1 hj).1
 rw[←hs,List.getElem?_take,if_pos hlt,List.getElem?_drop] at hj
 rw[Nat.add_assoc]
 exact h (d+j) u hj
def U4(h:Nat):Array Value:=((List.range 81).map fun i:Nat=>Value.int .i64 (if i<h then(Tr.wt i:Int) else 0)).toArray
theorem X9(h:Nat):(U4 h).size=81:=by simp[U4]
theorem DV{h k:Nat}(hk:k<h)(hh:h≤81):(U4 h)[k]?=some (.int .i64 (Tr.wt k:Int)):=by
 unfold U4
 rw[List.getElem?_toArray,List.getElem?_map,List.getElem?_range (by omega)]
 simp[hk]
theorem Zb8{h:Nat}(hh:h<81):(U4 h).setIfInBounds h (.int .i64 (Tr.wt h:Int))=U4 (h+1):=by
 apply Array.ext_getElem?
 intro i
 rw[Array.getElem?_setIfInBounds]
 by_cases hi:h=i
 ·subst hi
  rw[if_pos rfl,if_pos (by rw[X9];exact hh),DV (by omega) (by omega)]
 rw[if_neg hi]
 unfold U4
 rw[List.getElem?_toArray,List.getElem?_toArray,List.getElem?_map,List.getElem?_map]
 by_cases h2:i<81
 ·rw[List.getElem?_range h2]
  simp only[Option.map_some]
  by_cases h3:i<h
  ·rw[if_pos h3,if_pos (by omega)]
  rw[if_neg h3,if_neg (by omega)]
 rw[List.getElem?_eq_none (by simp;omega)];rfl
theorem Zae:∀h,h≤81→Tr.wt h≤500000000000000:=by decide
end Go.V
namespace Go.Proofs.YtpebgkkmgffmaaaGreatDoor
open Go Go.V Go.RowKit
theorem JK:ArP Tryz.prog 315 2 93:=⟨by kernel_rfl,by kernel_rfl⟩
def kd2(x y:Int):Array Value:=#[.W x,.W y]
theorem Uj{x y v:Int}{k:Nat}(h:[x,y][k]?=some v):(kd2 x y)[k]?=some (.W v):=by
 match k,h with
 |0,h=>cases h;rfl
 |1,h=>cases h;rfl
def UD(A:AM)(i k:Nat):List Int:=A.edK i++(if A.s.ok ((i:Int)+1)=true then[(A.nd ((i:Int)+1)).lf,(A.nd ((i:Int)+1)).rg].take k else[])
theorem edI_0(A:AM)(i:Nat):UD A i 0=A.edK i:=by unfold UD;simp
theorem edI_2(A:AM)(i:Nat):UD A i 2=A.edK (i+1):=by
 unfold UD
 by_cases h:A.s.ok ((i:Int)+1)=true
 ·rw[if_pos h,AM.edK_in h,List.append_assoc];rfl
 rw[if_neg h,AM.edK_out h,List.append_nil]
theorem Zri{A:AM}{i k:Nat}(h:¬A.s.ok ((i:Int)+1)=true):UD A i k=UD A i (k+1):=by
 unfold UD;rw[if_neg h,if_neg h]
theorem Zge{A:AM}{i k:Nat}{v:Int}(h:A.s.ok ((i:Int)+1)=true)(hv:[(A.nd ((i:Int)+1)).lf,(A.nd ((i:Int)+1)).rg][k]?=some v):UD A i (k+1)=UD A i k++[v]:=by
 unfold UD;rw[if_pos h,if_pos h,List.take_add_one,hv,List.append_assoc];rfl
theorem Zno(A:AM)(i k:Nat):(UD A i k).length≤2*i+2:=by
 have h1:(A.edK i).length≤2*i:=by
  unfold AM.edK
  rw[List.length_flatMap]
  induction i with
  |zero=>simp
  |succ i ih =>
   rw[List.range_succ,List.map_append,List.sum_append]
   have:(if A.s.ok ((i:Int)+1)=true then[(A.nd ((i:Int)+1)).lf,(A.nd ((i:Int)+1)).rg] else[]).length≤2:=by split<;>simp
   simp only[List.map_cons,List.map_nil,List.sum_cons,List.sum_nil];omega
 unfold UD
 rw[List.length_append]
 split
 ·have:=List.length_take_le k [(A.nd ((i:Int)+1)).lf,(A.nd ((i:Int)+1)).rg]
  have h2:([(A.nd ((i:Int)+1)).lf,(A.nd ((i:Int)+1)).rg].take k).length≤2:=by rw[List.length_take];exact Nat.min_le_right _ _
  omega
 simp;omega
theorem DG{A:AM}{R:List Int}(h:ARf A R){j:Int}(h1:1≤j)(hok:A.s.ok j=true){c:Int}(hc:c=(A.nd j).lf∨c=(A.nd j).rg):0≤c∧c≤A.s.cap:=by
 rcases h.kid j hok (by omega) c hc with e|⟨e1,e2⟩
 ·have:=XU h;omega
 have:=(SM.ok_rng h.s (i:=c) (by omega) e2).2.1
 have:=h.s.fr;omega
theorem Zgs{A:AM}{R:List Int}(h:ARf A R){i k:Nat}{v:Int}(hv:[(A.nd ((i:Int)+1)).lf,(A.nd ((i:Int)+1)).rg][k]?=some v):0≤v∧v≤A.s.cap:=by
 have hc:v=(A.nd ((i:Int)+1)).lf∨v=(A.nd ((i:Int)+1)).rg:=by
  match k,hv with
  |0,hv=>cases hv;exact .inl rfl
  |1,hv=>cases hv;exact .inr rfl
 by_cases hok:A.s.ok ((i:Int)+1)=true
 ·exact DG h (by omega) hok hc
 have hz:=h.zero ((i:Int)+1) (Bool.eq_false_iff.2 hok) (by omega)
 have:=XU h
 rw[hz] at hc
 have e:v=0:=by rcases hc with e|e<;>exact e
 omega
theorem Cx{A:AM}{i k:Nat}{n:Nat}{v:Int}(hv:[(A.nd ((i:Int)+1)).lf,(A.nd ((i:Int)+1)).rg][k]?=some v)(h:¬A.s.ok ((i:Int)+1)=true∨¬(1≤v∧v≤n)):Yv (UD A i k) n=Yv (UD A i (k+1)) n:=by
 by_cases hok:A.s.ok ((i:Int)+1)=true
 ·rw[Zge hok hv];exact(Vw (h.resolve_left fun h1=>h1 hok)).symm
 rw[Zri (k:=k) hok]
theorem Zlr{A:AM}{i k:Nat}{n:Nat}{v:Int}(hv:[(A.nd ((i:Int)+1)).lf,(A.nd ((i:Int)+1)).rg][k]?=some v)(hok:A.s.ok ((i:Int)+1)=true)(h:1≤v∧v≤n):(Ze (Yv (UD A i k) n)).set (v.toNat-1) [Value.I ((((UD A i k).count v:Nat):Int)+1)]=Ze (Yv (UD A i (k+1)) n):=by
 rw[show v.toNat-1=(v-1).toNat by omega,XJ,Zcw h,Zge hok hv]
set_option maxHeartbeats 8000000
set_option maxRecDepth 8192
variable{g w:World}{L:List HP}
theorem Zgy(A:AM)(R:List Int)(da fa:Option Addr)(dc fc:Nat)(hA:ARf A R)(Z:St g (Sh 312 11 (Xn (AM.dmp A)) da dc::L) w) :
  Zr g L 197 [.agg #[.slice da (Xn (AM.dmp A)).length dc,.slice fa (Za (SM.order A.s)).length fc]] w fun rV=>∃(u:Option Addr)(d:Nat),rV (.slice u (Ze (Yv A.kids A.s.cap.toNat)).length d) [Zp 3 1 (Ze (Yv A.kids A.s.cap.toNat)) u d,Sh 312 11 (Xn (AM.dmp A)) da dc]:=by
 refine Sp.en Tryz.func197 ?_
 refine Zsp fun b1 w Z=>?_
 have hn:=Zci A;have hcr:=XU hA
 refine Sz ?_
 refine Zth rfl rfl (v:=(List.length (Xn (AM.dmp A)):Int)) (v':=(List.length (Xn (AM.dmp A)):Int)) (A.s.cap.toNat) (A.s.cap.toNat) el_72 Z rfl (by omega) rfl (by omega) (by omega) (Rm.of (by omega) (by decide)) (fun b2 w Z=>?_)
 replace Z:=Z.z
 rw[Zdf] at Z
 refine Sz ?_
 refine Zst [1,2,3] [4] (fun kM vs jS=>∃(i:Nat),vs=[.I (i:Int)]∧jS [Zp 3 1 (Ze (Yv (A.edK i) A.s.cap.toNat)) (some ⟨b2,0,none⟩) A.s.cap.toNat]∧(i≤A.s.cap.toNat)∧(A.s.cap.toNat-i)=kM) rfl ⟨0,rfl,Z,(Nat.zero_le _),rfl⟩ ?_
 rintro _ _ w j ⟨i,rfl,Z,hi,rfl⟩
 replace Z:=Z.z
 refine Sz ?_
 refine Zsi (fun cd1=>?_) fun cd1=>?_
 ·refine Zsq rfl rfl (i:=(i:Int)) (i) el_95 rfl rfl (by omega) (by omega) (Z.rdS 2 rfl (YJ (AM.dmp_at (A:=A) (k:=i) (by omega)))).1 ?_
  refine Ztx rfl rfl [.bool (A.dmpAt ((i:Int)+1)).al,.I (A.dmpAt ((i:Int)+1)).cn,.W (A.dmpAt ((i:Int)+1)).ge,.I (A.dmpAt ((i:Int)+1)).nd.key,.I (A.dmpAt ((i:Int)+1)).nd.val,.W (A.dmpAt ((i:Int)+1)).nd.lf,.W (A.dmpAt ((i:Int)+1)).nd.rg,.I (A.dmpAt ((i:Int)+1)).nd.size,.I (A.dmpAt ((i:Int)+1)).nd.sum,.I (A.dmpAt ((i:Int)+1)).nd.mn,.I (A.dmpAt ((i:Int)+1)).nd.mx] ag_312.h rfl (Z.rdS 2 rfl (YJ (AM.dmp_at (A:=A) (k:=i) (by omega)))).2 ?_
  refine Ztg (Ca (A.dmpAt ((i:Int)+1)) Z) fun w Z=>?_
  refine Zsk fun b3 w Z=>?_
  refine Ztz (vs:=#[.W (A.dmpAt ((i:Int)+1)).nd.lf,.W (A.dmpAt ((i:Int)+1)).nd.rg]) rfl rfl rfl 0 Z rfl rfl rfl rfl (Eq.trans (b:=2) rfl rfl) ag_315.h (fun w Z=>?_)
  replace Z:=Z.z
  rw[←edI_0] at Z
  refine Sz ?_
  refine Zst [1,2,3,4,5,11,12,13,14,15,18,19,20,21,22,23] [6] (fun kM vs jS=>∃(k:Nat),vs=[.I (k:Int)]∧jS [Zq b3 (kd2 (A.nd ((i:Int)+1)).lf (A.nd ((i:Int)+1)).rg) 315,Zp 3 1 (Ze (Yv (UD A i k) A.s.cap.toNat)) (some ⟨b2,0,none⟩) A.s.cap.toNat]∧(k≤2)∧(2-k)=kM) rfl ⟨0,rfl,Z,(Nat.zero_le _),rfl⟩ ?_
  rintro _ _ w j ⟨k,rfl,Z,hk,rfl⟩
  replace Z:=Z.z
  refine Sz ?_
  refine Zsr rfl (fun cd2=>?_) (fun cd2=>?_)
  ·obtain⟨v,hv⟩:∃v,[(A.nd ((i:Int)+1)).lf,(A.nd ((i:Int)+1)).rg][k]?=some v:=⟨_,List.getElem?_eq_getElem (by show k<2;omega)⟩;have hvr:=Zgs hA hv;have hcl:=Y8 (UD A i k) A.s.cap.toNat;have hil:=Zf (Yv (UD A i k) A.s.cap.toNat);have hct:=List.count_le_length (a:=v) (l:=UD A i k);have hel:=Zno A i k
   refine Sz ?_
   refine Zsq rfl rfl (i:=(i:Int)) (i) el_95 rfl rfl (by omega) (by omega) (Z.rdS 3 rfl (YJ (AM.dmp_at (A:=A) (k:=i) (by omega)))).1 ?_
   refine Sz ?_
   refine Zsv 1 [.bool (A.dmpAt ((i:Int)+1)).al] rfl (by exact(Z.rdS 3 rfl (YJ (AM.dmp_at (A:=A) (k:=i) (by omega)))).2 0 _ rfl) ?_
   refine Sz ?_
   by_cases cg1:(A.dmpAt ((i:Int)+1)).al=true
   ·refine Zsf 34 (.bool true) (congrArg Value.bool cg1) ?_
    refine Sz ?_
    refine Zty rfl rfl (k) JK rfl rfl (by omega) (by omega) ?_
    refine Sz ?_
    refine Zsv 1 [.W v] rfl (by exact Z.ld 0 rfl (Uj hv)) ?_
    refine Sz ?_
    by_cases cg2:1≤v
    ·refine Zsf 40 (.bool true) (congrArg Value.bool (decide_eq_true cg2)) ?_
     refine Sz ?_
     refine Zty rfl rfl (k) JK rfl rfl (by omega) (by omega) ?_
     refine Sz ?_
     refine Zsv 1 [.W v] rfl (by exact Z.ld 0 rfl (Uj hv)) ?_
     as_aux_lemma =>
     refine Sz ?_
     refine Zsr rfl (fun cd3=>?_) (fun cd3=>?_)
     ·refine Sz ?_
      refine Zty rfl rfl (k) JK rfl rfl (by omega) (by omega) ?_
      refine Zsv 1 [.W v] rfl (by exact Z.ld 0 rfl (Uj hv)) ?_
      have hce:((v.toNat-1:Nat):Int)+1=v:=(by omega);have hca:(Yv (UD A i k) A.s.cap.toNat)[v.toNat-1]?=some (((UD A i k).count v:Nat):Int):=(by rw[Xg (by omega),hce])
      refine Sz ?_
      refine Zsq rfl rfl (i:=v-1) (v.toNat-1) el_72 rfl rfl (by omega) (by omega) (Z.rdO 1 rfl (Zc hca)).1 ?_
      refine Zsv 1 [.I (((UD A i k).count v:Nat):Int)] rfl (by exact(Z.rdO 1 rfl (Zc hca)).2 0 _ rfl) ?_
      refine Sz ?_
      refine Zsq rfl rfl (i:=v-1) (v.toNat-1) el_72 rfl rfl (by omega) (by omega) (Z.rdO 1 rfl (Zc hca)).1 ?_
      refine Zs5 rfl rfl rfl 1 (v.toNat-1) 0 [.I (((UD A i k).count v:Nat):Int)] (Ze (Yv (UD A i (k+1)) A.s.cap.toNat)) Z rfl (Zc hca) rfl rfl rfl rfl rfl (Zlr hv cg1 (by omega)) (fun w Z=>?_)
      replace Z:=Z.z
      refine Sz ?_
      exact⟨_,by omega,rfl,k+1,rfl,Z,(by omega),rfl⟩
     rw[Cx hv (.inr (by omega))] at Z
     refine Sz ?_
     exact⟨_,by omega,rfl,k+1,rfl,Z,(by omega),rfl⟩
    refine Zsf 40 (.bool false) (congrArg Value.bool (decide_eq_false cg2)) ?_
    as_aux_lemma =>
    rw[Cx hv (.inr (by omega))] at Z
    refine Sz ?_
    exact⟨_,by omega,rfl,k+1,rfl,Z,(by omega),rfl⟩
   refine Zsf 34 (.bool false) (congrArg Value.bool (Bool.eq_false_iff.2 cg1)) ?_
   as_aux_lemma =>
   rw[Cx hv (.inl cg1)] at Z
   refine Sz ?_
   exact⟨_,by omega,rfl,k+1,rfl,Z,(by omega),rfl⟩
  as_aux_lemma =>
  obtain rfl:k=2:=(by omega);rw[edI_2] at Z
  refine Sz ?_
  exact⟨_,by omega,rfl,i+1,rfl,(Z.sel 1 [] rfl),(by omega),rfl⟩
 replace Z:=(Z.sel 2 [0] rfl)
 have hi9:i=A.s.cap.toNat:=(by omega);subst hi9;rw[AM.edK_kids hA.s] at Z;exact⟨_,_,by rw[Zf,Y8];rfl,Z⟩
end Go.Proofs.YtpebgkkmgffmaaaGreatDoor
namespace Go.Proofs.YtpebgkkmgffmaaaGreatDoor
open Go Go.V Go.RowKit
theorem Zk0(n:Nat):List.replicate n [Value.bool false]=Zk (List.replicate n false):=by unfold Zk;rw[List.map_replicate]
theorem Co{A:AM}{R:List Int}(h:ARf A R):∀r∈R,0≤r∧r≤4294967295:=fun r hr=>by
 have:=h.rng hr;omega
theorem Zk6{l:List Int}(h:0<l.length):∃a x,l=a++[x]:=⟨l.dropLast,l.getLast (fun e=>by rw[e] at h;simp at h),(List.dropLast_concat_getLast _).symm⟩
theorem Zrm(bs:List Bool):unm bs≤bs.length:=List.countP_le_length
theorem Zp3{A:AM}{R:List Int}(h:ARf A R){j:Int}(h1:1≤j)(hok:A.s.ok j=true):(0≤(A.nd j).lf∧(A.nd j).lf≤4294967295)∧0≤(A.nd j).rg∧(A.nd j).rg≤4294967295:=by
 have h2:=DG h h1 hok (.inl rfl)
 have h3:=DG h h1 hok (.inr rfl)
 have:=XU h
 omega
set_option maxHeartbeats 8000000
set_option maxRecDepth 8192
variable{g w:World}{L:List HP}
theorem Zgo(A:AM)(R:List Int)(da fa ra:Option Addr)(dc fc rc:Nat)(hA:ARf A R)(hRl:R.length≤1000000)(Z:St g (Sh 312 11 (Xn (AM.dmp A)) da dc::Sh 93 1 (Za R) ra rc::L) w) :
  Cp g L 198 [.agg #[.slice da (Xn (AM.dmp A)).length dc,.slice fa (Za (SM.order A.s)).length fc],.slice ra (Za R).length rc] w fun rV=>∃(bs:List Bool)(u:Option Addr)(d:Nat),rV (.slice u (Zk bs).length d) [Zp 4 1 (Zk bs) u d,Sh 312 11 (Xn (AM.dmp A)) da dc,Sh 93 1 (Za R) ra rc] ((bs.length=A.s.cap.toNat)∧(∀j:Int,1≤j→A.s.ok j=true→bs[(j-1).toNat]?=some true)):=by
 refine Sp.en Tryz.func198 ?_
 have _:=hRl
 refine Zsp fun b1 w Z=>?_
 have hn:=Zci A;have hcr:=XU hA;have hul:=Zh R
 refine Sz ?_
 refine Zth rfl rfl (v:=(List.length (Xn (AM.dmp A)):Int)) (v':=(List.length (Xn (AM.dmp A)):Int)) (A.s.cap.toNat) (A.s.cap.toNat) el_73 Z rfl (by omega) rfl (by omega) (by omega) (Rm.of (by omega) (by decide)) (fun b2 w Z=>?_)
 replace Z:=Z.z
 rw[Zk0] at Z
 replace Z:=Z.n4 L (a0:=Zp 4 1 (Zk (List.replicate A.s.cap.toNat false)) (some ⟨b2,0,none⟩) A.s.cap.toNat) rfl
 replace Z:=Z.nil_ 93 1
 refine Sz ?_
 refine Zs3 rfl rfl 0 (Za R) el_70 Z rfl (Z.srcS 4 rfl) (List.nil_append _) (Rm.of (by first|omega|(simp<;>omega)) (by decide)) rfl rfl (fun a1 c1 w Z=>?_)
 replace Z:=Z.z
 refine Sz ?_
 refine Zst [2,4,5] [6] (fun kM vs jS=>∃(bs:List Bool)(ws:List Int)(u:Option Addr)(d:Nat),vs=[.slice u (Za ws).length d]∧jS [Zp 93 1 (Za ws) u d,Zp 4 1 (Zk bs) (some ⟨b2,0,none⟩) A.s.cap.toNat]∧(MkI A R bs ws)∧(ws.length+2*unm bs≤R.length+2*A.s.cap.toNat)∧(2*unm bs+ws.length)=kM) rfl ⟨List.replicate A.s.cap.toNat false,R,_,_,rfl,Z,(MkI.init (Co hA)),(by have:=Zrm (List.replicate A.s.cap.toNat false);rw[List.length_replicate] at this;omega),rfl⟩ ?_
 rintro _ _ w j ⟨bs,ws,u,d,rfl,Z,hI,hwl,rfl⟩
 replace Z:=Z.z
 refine Sz ?_
 refine Zsr rfl (fun cd1=>?_) (fun cd1=>?_)
 ·obtain⟨wt,x,rfl⟩:=Zk6 (l:=ws) (by have:=Zh ws;omega);have hu3:=Zh (wt++[x]);have hw3:(wt++[x]).length=wt.length+1:=(by simp);have hbl:=hI.len;have hbl2:=ZC bs;have hfr:=hA.s.fr;have hul:=Zh R;have hu4:=Zh wt
  have hx:(wt++[x])[wt.length]?=some x:=(by simp);have hxr:=hI.rng x (by simp)
  refine Sz ?_
  refine Zsq rfl rfl (i:=(List.length (Za (wt++[x])):Int)-1) (wt.length) el_70 rfl rfl (by omega) (by omega) (Z.rdO 0 rfl (Zn hx)).1 ?_
  refine Zsv 1 [.W x] rfl (by exact(Z.rdO 0 rfl (Zn hx)).2 0 _ rfl) ?_
  refine Sz ?_
  refine Zuj rfl rfl (v:=(List.length (Za (wt++[x])):Int)-1) 0 (wt.length) (Za wt) el_70 Z rfl rfl rfl (by omega) (by omega) (by rw[JS];simp) (fun Z=>?_)
  replace Z:=Z.z
  as_aux_lemma =>
  refine Sz ?_
  refine Zsy (Hb A _ _ fa _ fc x hA hxr (Z.sel 4 [3,0,0,0] rfl)) fun w b3 Z f1=>?_
  by_cases cg1:(! b3)=true
  ·refine Zsf 33 (.bool true) (congrArg Value.bool cg1) ?_
   refine Sz ?_
   exact⟨_,by omega,rfl,bs,wt,_,_,rfl,(Z.sel 4 [1,1,1,0] rfl),(hI.skip (.inl (by rw[←f1];simpa using cg1)) hA),(by omega),rfl⟩
  refine Zsf 33 (.bool false) (congrArg Value.bool (Bool.eq_false_iff.2 cg1)) ?_
  refine Sy ?_
  refine Zso 1 rfl<|Zvk 36 rfl (Zkw (by have hok9:A.s.ok x=true:=(by rw[←f1];simpa using cg1);have hor9:=SM.ok_rng hA.s (i:=x) hxr.1 hok9;omega)) ?_
  have hok:A.s.ok x=true:=(by rw[←f1];simpa using cg1);have hor:=SM.ok_rng hA.s (i:=x) hxr.1 hok;obtain⟨bv,hb⟩:∃v,bs[x.toNat-1]?=some v:=⟨_,List.getElem?_eq_getElem (by omega)⟩
  refine Sz ?_
  refine Zsq rfl rfl (i:=x-1) (x.toNat-1) el_73 rfl rfl (by omega) (by omega) (Z.rdO 2 rfl (Zz hb)).1 ?_
  refine Sz ?_
  refine Zsv 1 [.bool bv] rfl (by exact(Z.rdO 2 rfl (Zz hb)).2 0 _ rfl) ?_
  refine Sz ?_
  refine Ztl (fun cd2=>?_) fun cd2=>?_
  ·exact⟨_,by omega,rfl,bs,wt,_,_,rfl,(Z.sel 4 [1,1,1,0] rfl),(hI.skip (.inr (by rw[show(x-1).toNat=x.toNat-1 by omega,hb];simpa using cd2)) hA),(by omega),rfl⟩
  refine Zsq rfl rfl (i:=x-1) (x.toNat-1) el_73 rfl rfl (by omega) (by omega) (Z.rdO 2 rfl (Zz hb)).1 ?_
  refine Zs5 rfl rfl rfl 2 (x.toNat-1) 0 [.bool bv] (Zk (bs.set (x.toNat-1) true)) Z rfl (Zz hb) rfl rfl rfl rfl rfl (XS _ _ _) (fun w Z=>?_)
  replace Z:=Z.z
  refine Sz ?_
  refine Zsq rfl rfl (i:=x-1) (x.toNat-1) el_95 rfl rfl (by omega) (by omega) (Z.rdS 0 rfl (YJ (AM.dmp_at (A:=A) (k:=x.toNat-1) (by omega)))).1 ?_
  refine Ztx rfl rfl [.bool (A.dmpAt (((x.toNat-1:Nat):Int)+1)).al,.I (A.dmpAt (((x.toNat-1:Nat):Int)+1)).cn,.W (A.dmpAt (((x.toNat-1:Nat):Int)+1)).ge,.I (A.dmpAt (((x.toNat-1:Nat):Int)+1)).nd.key,.I (A.dmpAt (((x.toNat-1:Nat):Int)+1)).nd.val,.W (A.dmpAt (((x.toNat-1:Nat):Int)+1)).nd.lf,.W (A.dmpAt (((x.toNat-1:Nat):Int)+1)).nd.rg,.I (A.dmpAt (((x.toNat-1:Nat):Int)+1)).nd.size,.I (A.dmpAt (((x.toNat-1:Nat):Int)+1)).nd.sum,.I (A.dmpAt (((x.toNat-1:Nat):Int)+1)).nd.mn,.I (A.dmpAt (((x.toNat-1:Nat):Int)+1)).nd.mx] ag_312.h rfl (Z.rdS 0 rfl (YJ (AM.dmp_at (A:=A) (k:=x.toNat-1) (by omega)))).2 ?_
  refine Ztg (Ca (A.dmpAt (((x.toNat-1:Nat):Int)+1)) Z) fun w Z=>?_
  refine Zsk fun b4 w Z=>?_
  refine Ztz (vs:=#[.W (A.dmpAt (((x.toNat-1:Nat):Int)+1)).nd.lf,.W (A.dmpAt (((x.toNat-1:Nat):Int)+1)).nd.rg]) rfl rfl rfl 0 Z rfl rfl rfl rfl (Eq.trans (b:=2) rfl rfl) ag_315.h (fun w Z=>?_)
  replace Z:=Z.z
  as_aux_lemma =>
  have hus:=Zng (k:=x.toNat-1) (show bs[x.toNat-1]?=some false by rw[hb];simpa using cd2);have hnd:(A.dmpAt (((x.toNat-1:Nat):Int)+1)).nd=A.nd x:=(by rw[show((x.toNat-1:Nat):Int)+1=x by omega];rfl);have hl2:(wt++[(A.dmpAt (((x.toNat-1:Nat):Int)+1)).nd.lf,(A.dmpAt (((x.toNat-1:Nat):Int)+1)).nd.rg]).length=wt.length+2:=(by simp)
  refine Sz ?_
  refine Zty rfl rfl (0) JK rfl rfl (by omega) (by omega) ?_
  refine Sz ?_
  refine Zty rfl rfl (1) JK rfl rfl (by omega) (by omega) ?_
  refine Sz ?_
  refine Zs1 rfl rfl (Za [(A.dmpAt (((x.toNat-1:Nat):Int)+1)).nd.lf,(A.dmpAt (((x.toNat-1:Nat):Int)+1)).nd.rg]) el_70 Z (by exact⟨rfl,rfl,rfl,rfl⟩) (YY _) rfl (Nat.le_of_ble_eq_true rfl) (fun b5 w Z=>?_)
  refine Zs3 rfl rfl 3 (Za (wt++[(A.dmpAt (((x.toNat-1:Nat):Int)+1)).nd.lf,(A.dmpAt (((x.toNat-1:Nat):Int)+1)).nd.rg])) el_70 Z rfl (Z.srcO 0 rfl) (YM _ _).symm (Rm.of (by first|omega|(simp<;>omega)) (by decide)) rfl rfl (fun a3 c2 w Z=>?_)
  replace Z:=Z.z
  refine Sz ?_
  exact⟨_,by omega,rfl,bs.set (x.toNat-1) true,wt++[(A.dmpAt (((x.toNat-1:Nat):Int)+1)).nd.lf,(A.dmpAt (((x.toNat-1:Nat):Int)+1)).nd.rg],_,_,rfl,(Z.sel 6 [3,3,3,2] rfl),(by rw[hnd,show x.toNat-1=(x-1).toNat by omega];exact hI.mark hor.1 (by omega) (Zp3 hA hor.1 hok)),(by omega),rfl⟩
 refine Sz ?_
 replace Z:=(Z.sel 3 [1] rfl)
 exact⟨bs,_,_,by rw[ZC,hI.len];rfl,Z,hI.len,by have e9:ws=[]:=(by have:=Zh ws;exact List.eq_nil_of_length_eq_zero (by omega));subst e9;exact hI.all hA⟩
end Go.Proofs.YtpebgkkmgffmaaaGreatDoor
namespace Go.Proofs.YtpebgkkmgffmaaaGreatDoor
open Go Go.V Go.RowKit
theorem Zn2{A:AM}{R:List Int}(h:ARf A R){n:Nat}(hn:n<A.s.cap.toNat):(((SM.order A.s).count ((n:Int)+1):Nat):Int)=if A.s.ok ((n:Int)+1)=true then 0 else 1:=by
 have hcr:=XU h
 rw[Vd h.s (by omega) (by omega)]
 split<;>rfl
theorem Zjm{A:AM}{R:List Int}(h:ARf A R){n:Nat}(hok:A.s.ok ((n:Int)+1)=true):((A.kids.count ((n:Int)+1):Nat):Int)+((R.count ((n:Int)+1):Nat):Int)=A.cntD ((n:Int)+1):=by
 have h1:=(h.cnt ((n:Int)+1) hok (by omega)).1
 rw[List.count_append] at h1
 unfold AM.cntD;rw[if_pos hok];omega
theorem Zlp{A:AM}{R:List Int}(h:ARf A R)(i:Int):A.cntD i≤2000000000:=by
 unfold AM.cntD
 split
 ·rename_i hi
  by_cases h0:0≤i
  ·exact(h.cnt_le hi h0).2
  exfalso
  have e:i.toNat=0:=by omega
  have hu:=h.s.u0
  unfold SM.ok at hi hu
  rw[e] at hi
  rw[show(0:Int).toNat=0 from rfl] at hu
  rw[hu] at hi;cases hi
 omega
theorem c5_no{A:AM}{n:Nat}(hok:¬A.s.ok ((n:Int)+1)=true):(0:Int)=A.cntD ((n:Int)+1):=by
 unfold AM.cntD;rw[if_neg hok]
def szK(A:AM)(x y:Int)(k:Nat):Int:=if k=0 then 1 else if k=1 then 1+A.sz x else 1+A.sz x+A.sz y
theorem Zbu{A:AM}{x y v:Int}{k:Nat}(hv:[x,y][k]?=some v):szK A x y (k+1)=szK A x y k+A.sz v:=by
 match k,hv with
 |0,hv=>cases hv;rfl
 |1,hv=>cases hv;rfl
theorem Zn1{A:AM}{R:List Int}(h:ARf A R){j:Int}(h1:1≤j)(hok:A.s.ok j=true)(k:Nat):1≤szK A (A.nd j).lf (A.nd j).rg k∧szK A (A.nd j).lf (A.nd j).rg k≤2147483647:=by
 have h2:=h.sz j hok (by omega)
 have h3:∀c,0≤A.sz c:=fun c=>by
  unfold AM.sz
  split
  ·rename_i hc
   by_cases c0:0≤c
   ·have:=h.pos c hc c0;omega
   exfalso
   have e:c.toNat=0:=by omega
   have hu:=h.s.u0
   unfold SM.ok at hc hu
   rw[e] at hc
   rw[show(0:Int).toNat=0 from rfl] at hu
   rw[hu] at hc;cases hc
  omega
 have h4:=h3 (A.nd j).lf
 have h5:=h3 (A.nd j).rg
 unfold szK
 split
 ·omega
 split<;>omega
theorem Zqv{x y v:Int}{k:Nat}(h:[x,y][k]?=some v):v=x∨v=y:=by
 match k,h with
 |0,h=>cases h;exact .inl rfl
 |1,h=>cases h;exact .inr rfl
theorem sz_no{A:AM}{c:Int}(h:¬A.s.ok c=true):A.sz c=0:=if_neg h
set_option maxHeartbeats 8000000
set_option maxRecDepth 8192
variable{g w:World}{L:List HP}
theorem Zhg(A:AM)(R:List Int)(da fa ra:Option Addr)(dc fc rc:Nat)(hA:ARf A R)(hRl:R.length≤1000000)(Z:St g (Sh 312 11 (Xn (AM.dmp A)) da dc::Sh 93 1 (Za (SM.order A.s)) fa fc::Sh 93 1 (Za R) ra rc::L) w) :
  Zr g L 71 [.agg #[.slice da (Xn (AM.dmp A)).length dc,.slice fa (Za (SM.order A.s)).length fc],.slice ra (Za R).length rc] w fun rV=>rV (.N) [Sh 312 11 (Xn (AM.dmp A)) da dc,Sh 93 1 (Za (SM.order A.s)) fa fc,Sh 93 1 (Za R) ra rc]:=by
 refine Sp.en Tryz.func71 ?_
 refine Zsp fun b1 w Z=>?_
 refine Zsg [([0,2,3],some (1,[2,3])),([],some (4,[])),([5,6],none)] ?_
 have hn:=Zci A;have hcr:=XU hA;have hul:=Zh R;have hol:=Zh (SM.order A.s);have hog:=Zdb hA.s;have hfr:=hA.s.free_rng;have hor:=Zfd hA.s;have hce:(((Xn (AM.dmp A)).length:Nat):Int)=A.s.cap:=(by omega)
 refine Qd fun w Z=>?_
 refine Zsz (Zgy A R _ fa _ fc hA (Z.sel 2 [1,0] rfl)) fun w u1 d1 Z=>?_
 refine Qd fun w Z=>?_
 refine Ztk (Zgo A _ _ fa _ _ fc _ hA hRl (Z.sel 5 [1,3,0,0,0] rfl)) fun w bs1 u2 d2 Z ⟨f1,f2⟩=>?_
 refine Qd fun w Z=>?_
 refine Zsg [([0,2,6,7,1,3,8,4,9],some (5,[6,7,8,9])),([],some (10,[])),([11,12],none)] ?_
 refine Qd fun w Z=>?_
 refine Zsz (Dx (SM.order A.s) (Xn (AM.dmp A)).length _ _ (by omega) (by omega) (fun x hx=>by have:=hor x hx;omega) (Z.sel 6 [5,0,0,0,0,0] rfl)) fun w u3 d3 Z=>?_
 refine Qd fun w Z=>?_
 refine Zsz (Dx _ (Xn (AM.dmp A)).length _ _ (by omega) (by omega) (Co hA) (Z.sel 5 [4,0,0,0,0] rfl)) fun w u4 d4 Z=>?_
 refine Qd fun w Z=>?_
 refine Zst [1,2,4,6,7,8,9] [5,10] (fun kM vs jS=>∃(n:Nat),vs=[.N,.I (n:Int)]∧jS []∧(n≤A.s.cap.toNat)∧(A.s.cap.toNat-n)=kM) rfl ⟨0,rfl,Z,(Nat.zero_le _),rfl⟩ ?_
 rintro _ _ w j ⟨n,rfl,Z,hnl,rfl⟩
 replace Z:=Z.z
 as_aux_lemma =>
 refine Sz ?_
 refine Zsi (fun cd1=>?_) fun cd1=>?_
 ·refine Zsg [([0,3,5,1,4,2,6,7],some (8,[0,1,2,3,4,5,6,7])),([9],some (10,[]))] ?_
  have hkl:=Y8 A.kids A.s.cap.toNat;have hrl:=Y8 R (Xn (AM.dmp A)).length;have hdl:=Y8 (SM.order A.s) (Xn (AM.dmp A)).length;have hi1:=Zf (Yv A.kids A.s.cap.toNat);have hi2:=Zf (Yv R (Xn (AM.dmp A)).length);have hi3:=Zf (Yv (SM.order A.s) (Xn (AM.dmp A)).length);have hbl:=ZC bs1
  refine Qz ?_
  refine Zsj rfl rfl (i:=(n:Int)) (n) el_95 rfl rfl (by omega) (by omega) (Z.rdS 5 rfl (YJ (AM.dmp_at (A:=A) (k:=n) (by omega)))).1 ?_
  refine Ztq rfl rfl [.bool (A.dmpAt ((n:Int)+1)).al,.I (A.dmpAt ((n:Int)+1)).cn,.W (A.dmpAt ((n:Int)+1)).ge,.I (A.dmpAt ((n:Int)+1)).nd.key,.I (A.dmpAt ((n:Int)+1)).nd.val,.W (A.dmpAt ((n:Int)+1)).nd.lf,.W (A.dmpAt ((n:Int)+1)).nd.rg,.I (A.dmpAt ((n:Int)+1)).nd.size,.I (A.dmpAt ((n:Int)+1)).nd.sum,.I (A.dmpAt ((n:Int)+1)).nd.mn,.I (A.dmpAt ((n:Int)+1)).nd.mx] ag_312.h rfl (Z.rdS 5 rfl (YJ (AM.dmp_at (A:=A) (k:=n) (by omega)))).2 ?_
  refine Qd fun w Z=>?_
  refine Zsk fun b2 w Z=>?_
  refine⟨by exact⟨Zsl rfl rfl rfl rfl,Zsl rfl rfl rfl (congrArg (Value.int .i64) (Eq.symm (Yf (by omega)))),Zsl rfl rfl rfl (congrArg (Value.int .u32) (Eq.symm (Zkw (by omega)))),Zsl rfl rfl rfl rfl,Zs6 rfl rfl rfl rfl (Z.ld 8 rfl rfl),Zsl rfl rfl rfl rfl,Ztn rfl rfl (i:=(n:Int)) (n) el_95 rfl rfl (by omega) (by omega) (Z.rdS 6 rfl (YJ (AM.dmp_at (A:=A) (k:=n) (by omega)))).1 rfl rfl,Zuf rfl rfl [.bool (A.dmpAt ((n:Int)+1)).al,.I (A.dmpAt ((n:Int)+1)).cn,.W (A.dmpAt ((n:Int)+1)).ge,.I (A.dmpAt ((n:Int)+1)).nd.key,.I (A.dmpAt ((n:Int)+1)).nd.val,.W (A.dmpAt ((n:Int)+1)).nd.lf,.W (A.dmpAt ((n:Int)+1)).nd.rg,.I (A.dmpAt ((n:Int)+1)).nd.size,.I (A.dmpAt ((n:Int)+1)).nd.sum,.I (A.dmpAt ((n:Int)+1)).nd.mn,.I (A.dmpAt ((n:Int)+1)).nd.mx] ag_312.h rfl (Z.rdS 6 rfl (YJ (AM.dmp_at (A:=A) (k:=n) (by omega)))).2 rfl rfl⟩,?_⟩
  refine Qd fun w Z=>?_
  refine Zsh fun w Z=>?_
  refine Qe fun w Z=>?_
  refine Zsw<|WC.region ?_
  refine Sx ?_
  refine Zs9<|Zsw<|Zsw<|WC.region ?_
  refine Sx ?_
  refine Zs9<|Ztc [1,2,4,5,6,7,8,9,10,11,12,37,38,39,40,41,44,45,46,47,48,49,50,51,52,53] [13] [] Z (fun vs jS=>∃(fr:Int),vs=[.I fr]∧jS []∧(fr=if A.s.ok ((n:Int)+1)=true then 0 else 1)) rfl ?_ ?_
  ·refine Ztl (fun cd2=>?_) fun cd2=>?_
   ·exact⟨rfl,0,rfl,Z,(if_pos cd2).symm⟩
   exact⟨rfl,1,rfl,Z,(if_neg (Bool.eq_false_iff.1 cd2)).symm⟩
  rintro _ w j ⟨fr,rfl,Z,hfe⟩
  replace Z:=Z.z
  refine Sz ?_
  refine Zsq rfl rfl (i:=(n:Int)) (n) el_72 rfl rfl (by omega) (by omega) (Z.rdO 3 rfl (Zc (Xg (l:=SM.order A.s) (n:=(Xn (AM.dmp A)).length) (k:=n) (by omega)))).1 ?_
  refine Zsv 1 [.I (((SM.order A.s).count ((n:Int)+1):Nat):Int)] rfl (by exact(Z.rdO 3 rfl (Zc (Xg (l:=SM.order A.s) (n:=(Xn (AM.dmp A)).length) (k:=n) (by omega)))).2 0 _ rfl) ?_
  refine Sz ?_
  refine Zs8 rfl (decide_eq_false ((by rw[hfe,Zn2 hA (by omega)];simp))) ?_
  refine Ztw<|Zsw<|WC.region ?_
  refine Sx ?_
  refine Zs9<|Zsw<|Zsw<|WC.region ?_
  refine Sx ?_
  refine Zs9<|Ztc [1,2,4,6,7,8,9,10,11,12,13,14,37,38,39,40,41,44,45,46,47,48,49,50,51,52,53,54,55,56,57,58,59,60,68,69] [5,15] [] Z (fun vs jS=>∃(ct:Int),vs=[.N,.I ct]∧jS []∧(ct=A.cntD ((n:Int)+1))) rfl ?_ ?_
  ·refine Ztl (fun cd2=>?_) fun cd2=>?_
   ·refine Ztg (Ca (A.dmpAt ((n:Int)+1)) Z) fun w Z=>?_
    refine Zsk fun b3 w Z=>?_
    refine Ztz (vs:=#[.W (A.dmpAt ((n:Int)+1)).nd.lf,.W (A.dmpAt ((n:Int)+1)).nd.rg]) rfl rfl rfl 0 Z rfl rfl rfl rfl (Eq.trans (b:=2) rfl rfl) ag_315.h (fun w Z=>?_)
    replace Z:=Z.z
    as_aux_lemma =>
    refine Sz ?_
    refine Zst [1,2,4,6,7,8,9,10,11,12,13,14,15,16,37,38,39,40,41,44,45,46,47,48,49,50,51,52,53,54,55,56,57,58,59,60,68,69,70,71] [5,17,18] (fun kM vs jS=>∃(k:Nat)(sz:Int),vs=[.N,.I sz,.I (k:Int)]∧jS [Zq b3 (kd2 (A.nd ((n:Int)+1)).lf (A.nd ((n:Int)+1)).rg) 315]∧(k≤2)∧(sz=szK A (A.nd ((n:Int)+1)).lf (A.nd ((n:Int)+1)).rg k)∧(2-k)=kM) rfl ⟨0,1,rfl,Z,(Nat.zero_le _),rfl,rfl⟩ ?_
    rintro _ _ w j ⟨k,sz,rfl,Z,hk,hsz,rfl⟩
    replace Z:=Z.z
    refine Sz ?_
    refine Zsi (fun cd3=>?_) fun cd3=>?_
    ·refine Zsg [([0,1,2,3],some (4,[]))] ?_
     obtain⟨v,hv⟩:∃v,[(A.nd ((n:Int)+1)).lf,(A.nd ((n:Int)+1)).rg][k]?=some v:=⟨_,List.getElem?_eq_getElem (by show k<2;omega)⟩;have hvr:=Zgs hA hv
     refine Qz ?_
     refine Ztt rfl rfl (k) JK rfl rfl (by omega) (by omega) ?_
     refine Zsn 1 [.W v] rfl (by exact Z.ld 0 rfl (Uj hv)) ?_
     refine Qd fun w Z=>?_
     refine Zsy (Hb A _ _ fa _ fc v hA (by omega) (Z.sel 8 [7,0,0,0,0,0,0,0] rfl)) fun w b4 Z f3=>?_
     refine Qd fun w Z=>?_
     refine Ztm rfl (fun cd4=>?_) (fun cd4=>?_)
     ·refine Zsg [([0,1,3,2],some (4,[0,1,2])),([5,6],some (7,[0])),([8,9,10,11],some (12,[]))] ?_
      have hok:A.s.ok v=true:=(by rw[←f3];exact cd4);have hor:=SM.ok_rng hA.s (i:=v) hvr.1 hok;have hzr:=Zn1 hA (j:=(n:Int)+1) (by omega) cd2 (k+1);rw[Zbu hv,←hsz] at hzr;have hzv:(A.dmpAt (((v.toNat-1:Nat):Int)+1)).nd.size=A.sz v:=(by rw[show((v.toNat-1:Nat):Int)+1=v by omega,Zc7 hok];rfl)
      refine Qd fun w Z=>?_
      refine Zty rfl rfl (k) JK rfl rfl (by omega) (by omega) ?_
      refine Sz ?_
      refine Zsn 1 [.W v] rfl (by exact Z.ld 1 rfl (Uj hv)) ?_
      refine Qd fun w Z=>?_
      refine Zsq rfl rfl (i:=v-1) (v.toNat-1) el_95 rfl rfl (by omega) (by omega) (Z.rdS 0 rfl (YJ (AM.dmp_at (A:=A) (k:=v.toNat-1) (by omega)))).1 ?_
      refine Sz ?_
      refine Qz ?_
      refine Zsn 1 [.I (A.dmpAt (((v.toNat-1:Nat):Int)+1)).nd.size] rfl (by exact(Z.rdS 0 rfl (YJ (AM.dmp_at (A:=A) (k:=v.toNat-1) (by omega)))).2 7 _ rfl) ?_
      refine Qd fun w Z=>?_
      refine Qd fun w Z=>?_
      as_aux_lemma =>
      refine Sz ?_
      exact⟨_,by omega,rfl,k+1,sz+(A.dmpAt (((v.toNat-1:Nat):Int)+1)).nd.size,rfl,(Z.sel 8 [1,1,1,1,1,1,1,0] rfl),(by omega),(by rw[Zbu hv,hsz,hzv]),rfl⟩
     have hnok:¬A.s.ok v=true:=(by rw[←f3,cd4];decide);have hv0:v=0:=(hA.kid ((n:Int)+1) cd2 (by omega) v (Zqv hv)).resolve_right (fun h=>hnok h.2)
     refine Sz ?_
     refine Zty rfl rfl (k) JK rfl rfl (by omega) (by omega) ?_
     refine Zsv 1 [.W v] rfl (by exact Z.ld 1 rfl (Uj hv)) ?_
     refine Sz ?_
     refine Zsm rfl (decide_eq_false ((by omega))) ?_
     exact⟨_,by omega,rfl,k+1,sz,rfl,(Z.sel 8 [1,1,1,1,1,1,1,0] rfl),(by omega),(by rw[Zbu hv,hsz,sz_no hnok,Int.add_zero]),rfl⟩
    refine Zsm rfl (decide_eq_false ((fun h=>h (by have e9:k=2:=(by omega);rw[hsz,e9];exact(hA.sz ((n:Int)+1) cd2 (by omega)).1.symm)))) ?_
    refine Zsg [([0,1,4,5,2,6,3,7,8,9],none)] ?_
    have hct1:=List.count_le_length (a:=(n:Int)+1) (l:=R);have hct2:=Zjm hA (n:=n) cd2;have hct3:=Zlp hA ((n:Int)+1)
    refine Qz ?_
    refine Zsj rfl rfl (i:=(n:Int)) (n) el_72 rfl rfl (by omega) (by omega) (Z.rdO 8 rfl (Zc (Xg (l:=A.kids) (n:=A.s.cap.toNat) (k:=n) (by omega)))).1 ?_
    refine Zsj rfl rfl (i:=(n:Int)) (n) el_72 rfl rfl (by omega) (by omega) (Z.rdO 2 rfl (Zc (Xg (l:=R) (n:=(Xn (AM.dmp A)).length) (k:=n) (by omega)))).1 ?_
    refine Zsn 1 [.I ((A.kids.count ((n:Int)+1):Nat):Int)] rfl (by exact(Z.rdO 8 rfl (Zc (Xg (l:=A.kids) (n:=A.s.cap.toNat) (k:=n) (by omega)))).2 0 _ rfl) ?_
    refine Zsn 1 [.I ((R.count ((n:Int)+1):Nat):Int)] rfl (by exact(Z.rdO 2 rfl (Zc (Xg (l:=R) (n:=(Xn (AM.dmp A)).length) (k:=n) (by omega)))).2 0 _ rfl) ?_
    refine Qd fun w Z=>?_
    exact⟨rfl,((A.kids.count ((n:Int)+1):Nat):Int)+((R.count ((n:Int)+1):Nat):Int),rfl,(Z.sel 1 [] rfl),(Zjm hA cd2)⟩
   exact⟨rfl,0,rfl,Z,(c5_no (Bool.eq_false_iff.1 cd2))⟩
  rintro _ w j ⟨ct,rfl,Z,hcte⟩
  replace Z:=Z.z
  as_aux_lemma =>
  refine Sz ?_
  refine Zsm rfl (decide_eq_false ((fun h=>h hcte))) ?_
  by_cases cg1:(A.dmpAt ((n:Int)+1)).al=true
  ·refine Zsf 143 (.bool true) (congrArg Value.bool cg1) ?_
   have hbn:bs1[n]?=some true:=(by have h9:=f2 ((n:Int)+1) (by omega) cg1;rw[show((n:Int)+1-1).toNat=n by omega] at h9;exact h9)
   refine Sz ?_
   refine Zsq rfl rfl (i:=(n:Int)) (n) el_73 rfl rfl (by omega) (by omega) (Z.rdO 5 rfl (Zz hbn)).1 ?_
   refine Sz ?_
   refine Zsv 1 [.bool true] rfl (by exact(Z.rdO 5 rfl (Zz hbn)).2 0 _ rfl) ?_
   refine Sz ?_
   exact⟨_,by omega,rfl,n+1,rfl,(Z.sel 1 [] rfl),(by omega),rfl⟩
  refine Zsf 143 (.bool false) (congrArg Value.bool (Bool.eq_false_iff.2 cg1)) ?_
  refine Sz ?_
  exact⟨_,by omega,rfl,n+1,rfl,(Z.sel 1 [] rfl),(by omega),rfl⟩
 refine Zst [1,2,4] [5,19] (fun kM vs jS=>∃(k:Nat),vs=[.N,.I (k:Int)]∧jS []∧(k≤(SM.order A.s).length)∧((SM.order A.s).length-k)=kM) rfl ⟨0,rfl,Z,(Nat.zero_le _),rfl⟩ ?_
 rintro _ _ w j ⟨k,rfl,Z,hk,rfl⟩
 replace Z:=Z.z
 refine Sz ?_
 refine Zsi (fun cd2=>?_) fun cd2=>?_
 ·refine Zsg [([0,2,1,3,4,5,6,7,9,13,8,14,10,15,11,16,12,17,18],none)] ?_
  obtain⟨x,hx⟩:∃x,(SM.order A.s)[k]?=some x:=⟨_,List.getElem?_eq_getElem (by omega)⟩;have hxr:=hor x (List.mem_of_getElem? hx)
  refine Qz ?_
  refine Zsj rfl rfl (i:=(k:Int)) (k) el_70 rfl rfl (by omega) (by omega) (Z.rdS 3 rfl (Zn hx)).1 ?_
  refine Zsn 1 [.W x] rfl (by exact(Z.rdS 3 rfl (Zn hx)).2 0 _ rfl) ?_
  refine Qz ?_
  refine Zsu 168 (.bool false) (congrArg Value.bool (decide_eq_false ((by omega)))) ?_
  refine Qz ?_
  refine Zsj rfl rfl (i:=(k:Int)) (k) el_70 rfl rfl (by omega) (by omega) (Z.rdS 3 rfl (Zn hx)).1 ?_
  refine Qz ?_
  refine Zsn 1 [.W x] rfl (by exact(Z.rdS 3 rfl (Zn hx)).2 0 _ rfl) ?_
  refine Qd fun w Z=>?_
  as_aux_lemma =>
  refine Zsm rfl (decide_eq_false ((by omega))) ?_
  exact⟨_,by omega,rfl,k+1,rfl,Z,(by omega),rfl⟩
 refine Zst [1,2,4] [5,20] (fun kM vs jS=>∃(k:Nat),vs=[.N,.I (k:Int)]∧jS []∧(k≤R.length)∧(R.length-k)=kM) rfl ⟨0,rfl,Z,(Nat.zero_le _),rfl⟩ ?_
 rintro _ _ w j ⟨k,rfl,Z,hk,rfl⟩
 replace Z:=Z.z
 refine Sz ?_
 refine Zsi (fun cd3=>?_) fun cd3=>?_
 ·refine Zsg [([0,1,2,3,4,5,6,7,8,9,10],some (11,[])),([12,13],none)] ?_
  obtain⟨x,hx⟩:∃x,R[k]?=some x:=⟨_,List.getElem?_eq_getElem (by omega)⟩;have hxr:=Co hA x (List.mem_of_getElem? hx);have hxo:=hA.ref x (List.mem_of_getElem? hx)
  refine Qz ?_
  refine Zsj rfl rfl (i:=(k:Int)) (k) el_70 rfl rfl (by omega) (by omega) (Z.rdS 1 rfl (Zn hx)).1 ?_
  refine Zsn 1 [.W x] rfl (by exact(Z.rdS 1 rfl (Zn hx)).2 0 _ rfl) ?_
  refine Qz ?_
  by_cases cg1:x≠0
  ·refine Zsu 201 (.bool true) (congrArg Value.bool (decide_eq_true cg1)) ?_
   refine Qz ?_
   refine Zsj rfl rfl (i:=(k:Int)) (k) el_70 rfl rfl (by omega) (by omega) (Z.rdS 1 rfl (Zn hx)).1 ?_
   refine Qz ?_
   refine Zsn 1 [.W x] rfl (by exact(Z.rdS 1 rfl (Zn hx)).2 0 _ rfl) ?_
   refine Qd fun w Z=>?_
   refine Zsy (Hb A _ _ fa _ fc x hA hxr (Z.sel 6 [5,0,0,0,0,0] rfl)) fun w b2 Z f3=>?_
   refine Qd fun w Z=>?_
   as_aux_lemma =>
   refine Zsm rfl (by have h9:=(hxo.resolve_left cg1).2;rw[←f3] at h9;rw[h9];rfl) ?_
   exact⟨_,by omega,rfl,k+1,rfl,(Z.sel 6 [1,1,1,1,1,0] rfl),(by omega),rfl⟩
  refine Zsu 201 (.bool false) (congrArg Value.bool (decide_eq_false cg1)) ?_
  refine Qd fun w Z=>?_
  refine Qd fun w Z=>?_
  as_aux_lemma =>
  refine Sz ?_
  exact⟨_,by omega,rfl,k+1,rfl,Z,(by omega),rfl⟩
 replace Z:=(Z.sel 8 [5,3,1] rfl)
 exact⟨rfl,Z⟩
theorem Zg9(A:AM)(R:List Int)(da fa ra:Option Addr)(dc fc rc:Nat)(hA:ARf A R)(hRl:R.length≤1000000)(Z:St g (Sh 312 11 (Xn (AM.dmp A)) da dc::Sh 93 1 (Za (SM.order A.s)) fa fc::Sh 93 1 (Za R) ra rc::L) w) :
  Zr g L 25 [.agg #[.slice da (Xn (AM.dmp A)).length dc,.slice fa (Za (SM.order A.s)).length fc],.slice ra (Za R).length rc] w fun rV=>rV (.bool true) [Sh 312 11 (Xn (AM.dmp A)) da dc,Sh 93 1 (Za (SM.order A.s)) fa fc,Sh 93 1 (Za R) ra rc]:=by
 refine Sp.en Tryz.func25 ?_
 refine Zsp fun b1 w Z=>?_
 refine Zse (Zhg A _ _ _ _ _ _ _ hA hRl (Z.sel 4 [1,1,1,0] rfl)) fun w Z=>?_
 replace Z:=(Z.sel 4 [0,0,0] rfl)
 exact⟨rfl,Z⟩
end Go.Proofs.YtpebgkkmgffmaaaGreatDoor
namespace Go.Proofs.YtpebgkkmgffmaaaGreatDoor
open Go Go.V Go.RowKit
theorem QK{l r:Tr}{k v:Int}(h:Srt (Tr.node l k v r).ls):Srt l.ls∧Srt r.ls∧(∀x∈l.ls,x.1<k)∧∀x∈r.ls,k<x.1:=by
 have h1:=Srt.app (a:=l.ls) (b:=(k,v)::r.ls) h
 have h2:=List.pairwise_cons.1 h1.2.1
 exact⟨h1.1,h2.2,fun x hx=>h1.2.2 x hx (k,v) (by simp),fun x hx=>h2.1 x hx⟩
set_option maxHeartbeats 8000000
set_option maxRecDepth 8192
end Go.Proofs.YtpebgkkmgffmaaaGreatDoor
namespace Go.Proofs.YtpebgkkmgffmaaaGreatDoor
open Go Go.V Go.RowKit Go.Maps
def XP(V:VM)(x y:Int):Int:=if V.T.s.opn x=true∧V.T.s.opn y=true then Z9 V.xs (V.T.val x) (V.T.val y) else 0
def bsE(T:TM)(x y:Int):Int:=if T.s.opn x=true∧T.s.opn y=true then 0 else 5
theorem J7{V:VM}{z:Int}(h:∀r∈V.rs,r.n≠z):V.rootOf z=0:=by
 unfold VM.rootOf
 rw[List.find?_eq_none.2 fun r hr e=>h r hr (of_decide_eq_true e)];rfl
theorem De{b:Bool}(h:(if b=true then(0:Int) else 5)≠0):b=false:=by
 cases b with
 |false=>rfl
 |true=>exact absurd rfl h
theorem Zfx{b:Bool}(h:¬(if b=true then(0:Int) else 5)≠0):b=true:=by
 cases b with
 |true=>rfl
 |false=>exact absurd (by decide) h
theorem bs_1{T:TM}{x y:Int}(h:T.s.opn x=false):bsE T x y=5:=if_neg fun k=>by rw[k.1] at h;cases h
theorem bs_2{T:TM}{x y:Int}(h:T.s.opn y=false):bsE T x y=5:=if_neg fun k=>by rw[k.2] at h;cases h
theorem Zkm{T:TM}{x y:Int}(h:T.s.opn x=true)(k:T.s.opn y=true):bsE T x y=0:=if_pos ⟨h,k⟩
theorem bn_1{V:VM}{x y:Int}(h:V.T.s.opn x=false):XP V x y=0:=if_neg fun k=>by rw[k.1] at h;cases h
theorem bn_2{V:VM}{x y:Int}(h:V.T.s.opn y=false):XP V x y=0:=if_neg fun k=>by rw[k.2] at h;cases h
theorem bn_3{V:VM}{x y:Int}(h:V.T.s.opn x=true)(k:V.T.s.opn y=true):XP V x y=Z9 V.xs (V.T.val x) (V.T.val y):=if_pos ⟨h,k⟩
theorem VI.no0{V:VM}{A:AM}{R:List Int}(h:VI V A R):∀r∈V.rs,r.n≠0:=fun r hr e=>by
 have h1:=(h.pre r.n).1 ⟨r,hr,rfl⟩
 rw[Z'] at h1
 have:=h.g.ok.pos r.n h1
 omega
theorem Ziz{V:VM}(b:Int):(∃(j:Nat)(r:RN),V.rs[j]?=some r∧r.n=b)∨∀r∈V.rs,r.n≠b:=Zgb RN.n V.rs b
theorem Zos{b:Bool}(h:b=false):(if b=true then(0:Int) else 5)≠0:=by subst h;decide
theorem if5_f{b:Bool}(h:b=true):¬(if b=true then(0:Int) else 5)≠0:=by subst h;decide
set_option maxHeartbeats 8000000
set_option maxRecDepth 8192
variable{g w:World}{L:List HP}
theorem Zaa(s a:Nat)(V:VM)(A:AM)(R:List Int)(x y:Int)(hV:VI V A R)(hx:0≤x∧x≤18446744073709551615)(hy:0≤y∧y≤18446744073709551615)(hn:V.T.s.opn x=false)(Z:St g (Qp s a V::L) w) :
  Zr g L 228 [.P s,.U x,.U y] w fun rV=>rV (.tuple #[.W (V.rootOf (XP V x y)),.I (XP V x y),.I (bsE V.T x y)]) [Qp s a V]:=by
 refine Sp.en Tryz.func228 ?_
 have _:=hy
 refine Zse (V_ _ _ _ x hV.t hx Z) fun w Z=>?_
 refine Zs0 rfl (decide_eq_true ((Zos hn))) ?_
 exact⟨by rw[bn_1 hn,bs_1 hn,J7 (VI.no0 hV),if_neg (by rw[hn];decide)];rfl,Z⟩
theorem Zbr(s a:Nat)(V:VM)(A:AM)(R:List Int)(x y:Int)(hV:VI V A R)(hx:0≤x∧x≤18446744073709551615)(hy:0≤y∧y≤18446744073709551615)(hm:V.T.s.opn x=true)(hn:V.T.s.opn y=false)(Z:St g (Qp s a V::L) w) :
  Zr g L 228 [.P s,.U x,.U y] w fun rV=>rV (.tuple #[.W (V.rootOf (XP V x y)),.I (XP V x y),.I (bsE V.T x y)]) [Qp s a V]:=by
 refine Sp.en Tryz.func228 ?_
 refine Zse (V_ _ _ _ x hV.t hx Z) fun w Z=>?_
 refine Zsm rfl (decide_eq_false ((if5_f hm))) ?_
 refine Zse (V_ _ _ _ y hV.t hy Z) fun w Z=>?_
 refine Zs0 rfl (decide_eq_true ((Zos hn))) ?_
 exact⟨by rw[bn_2 hn,bs_2 hn,J7 (VI.no0 hV),if_neg (by rw[hn];decide)];rfl,Z⟩
theorem VZ(s a:Nat)(V:VM)(A:AM)(R:List Int)(x y:Int)(hV:VI V A R)(hx:0≤x∧x≤18446744073709551615)(hy:0≤y∧y≤18446744073709551615)(hm:V.T.s.opn x=true)(hn:V.T.s.opn y=true)(ho:∀r∈V.rs,r.n≠Z9 V.xs (V.T.val x) (V.T.val y))(Z:St g (Qp s a V::L) w) :
  Zr g L 228 [.P s,.U x,.U y] w fun rV=>rV (.tuple #[.W (V.rootOf (XP V x y)),.I (XP V x y),.I (bsE V.T x y)]) [Qp s a V]:=by
 refine Sp.en Tryz.func228 ?_
 refine Zse (Xe _ _ _ x hV.t hx hm Z) fun w Z=>?_
 refine Zse (Xe _ _ _ y hV.t hy hn Z) fun w Z=>?_
 obtain⟨⟨vt,vp,vm,vr⟩,Z⟩:=St.exOpen Z
 replace Z:=Z.z
 refine Sz ?_
 refine Zse (Dd _ _ V.cap V.last V.xs V.q (V.T.val x) (V.T.val y) hV.g.ok (Z.sel 5 [2,2,2,0,0] rfl)) fun w Z=>?_
 refine Zuc rfl rfl HV 5 Z rfl rfl rfl (by first|trivial|rfl) (r:=none) (Zjh hV.k.key ho) rfl ?_
 refine Sz ?_
 replace Z:=St.cl (f:=Ud s a V) ⟨_,_,_,_⟩ (Z.sel 5 [3,3,0,0,0] rfl)
 replace Z:=Z.z
 refine Sz ?_
 exact⟨by rw[bn_3 hm hn,Zkm hm hn,J7 ho];rfl,Z⟩
theorem Zbc(s a:Nat)(V:VM)(A:AM)(R:List Int)(x y:Int)(j:Nat)(r:RN)(hV:VI V A R)(hx:0≤x∧x≤18446744073709551615)(hy:0≤y∧y≤18446744073709551615)(hm:V.T.s.opn x=true)(hn:V.T.s.opn y=true)(hr:V.rs[j]?=some r)(hrn:r.n=Z9 V.xs (V.T.val x) (V.T.val y))(Z:St g (Qp s a V::L) w) :
  Zr g L 228 [.P s,.U x,.U y] w fun rV=>rV (.tuple #[.W (V.rootOf (XP V x y)),.I (XP V x y),.I (bsE V.T x y)]) [Qp s a V]:=by
 refine Sp.en Tryz.func228 ?_
 refine Zse (Xe _ _ _ x hV.t hx hm Z) fun w Z=>?_
 refine Zse (Xe _ _ _ y hV.t hy hn Z) fun w Z=>?_
 obtain⟨⟨vt,vp,vm,vr⟩,Z⟩:=St.exOpen Z
 replace Z:=Z.z
 refine Sz ?_
 refine Zse (Dd _ _ V.cap V.last V.xs V.q (V.T.val x) (V.T.val y) hV.g.ok (Z.sel 5 [2,2,2,0,0] rfl)) fun w Z=>?_
 refine Zuc rfl rfl HV 5 Z rfl rfl rfl (by first|trivial|rfl) (r:=some (j,.W r.root)) (hrn▸Zh7 hV.k.key hV.k.uniq hr) rfl ?_
 refine Sz ?_
 replace Z:=St.cl (f:=Ud s a V) ⟨_,_,_,_⟩ (Z.sel 5 [3,3,0,0,0] rfl)
 replace Z:=Z.z
 refine Sz ?_
 exact⟨by rw[bn_3 hm hn,Zkm hm hn,←hrn,VM.rootOf_at hV.k.uniq hr];rfl,Z⟩
theorem Zm8(s a:Nat)(V:VM)(A:AM)(R:List Int)(x y:Int)(hV:VI V A R)(hx:0≤x∧x≤18446744073709551615)(hy:0≤y∧y≤18446744073709551615)(Z:St g (Qp s a V::L) w) :
  Zr g L 228 [.P s,.U x,.U y] w fun rV=>rV (.tuple #[.W (V.rootOf (XP V x y)),.I (XP V x y),.I (bsE V.T x y)]) [Qp s a V]:=by
 cases h1:V.T.s.opn x with
 |false=>exact Zaa s a V A R x y hV hx hy h1 Z
 |true =>
  cases h2:V.T.s.opn y with
  |false=>exact Zbr s a V A R x y hV hx hy h1 h2 Z
  |true =>
   rcases Ziz (V:=V) (Z9 V.xs (V.T.val x) (V.T.val y)) with⟨j,r,hr,hn⟩|ho
   ·exact Zbc s a V A R x y j r hV hx hy h1 h2 hr hn Z
   exact VZ s a V A R x y hV hx hy h1 h2 ho Z
noncomputable def QJ(z:RSt)(x y:Int):Int:=if z.T.s.opn x=true∧z.T.s.opn y=true then QT z.P z.B (z.T.val x) (z.T.val y) else 0
theorem qn_1{z:RSt}{x y:Int}(h:z.T.s.opn x=false):QJ z x y=0:=if_neg fun k=>by rw[k.1] at h;cases h
theorem qn_2{z:RSt}{x y:Int}(h:z.T.s.opn y=false):QJ z x y=0:=if_neg fun k=>by rw[k.2] at h;cases h
theorem qn_3{z:RSt}{x y:Int}(h:z.T.s.opn x=true)(k:z.T.s.opn y=true):QJ z x y=QT z.P z.B (z.T.val x) (z.T.val y):=if_pos ⟨h,k⟩
theorem Zcl(z:RSt)(x y:Int)(hz:ROk z)(hx:0≤x∧x≤18446744073709551615)(hy:0≤y∧y≤18446744073709551615)(hb:QJ z x y≠0→∃(k:Nat)(l:LsE),QJ z x y=(k:Int)+1∧z.LL[k]?=some l)(Z:St g (ZE Xr [z]::L) w) :
  Cp g L 142 [.agg #[.I z.cap,.I z.T.s.cap,.slice z.ra (Za z.T.s.rel).length z.rc,.I (z.T.s.fresh+1),.slice z.ga (Za (z.T.s.gen.drop 1)).length z.gc,.slice z.oa (Zk (z.T.s.used.drop 1)).length z.oc,.slice z.va (Za (z.T.vals.drop 1)).length z.vc,.I z.cap,.slice z.pa (ZL z.P).length z.pc,.slice z.ba (Zk z.B).length z.bc,.slice z.la (Yz z.LL).length z.lc],.U x,.U y] w fun rV=>∃(l:LsE),rV (.tuple #[.slice l.a (Zm l.es).length l.c,.I (QJ z x y),.I (bsE z.T x y)]) [ZE Xr [z],Sh 32 2 (Zm l.es) l.a l.c] ((QJ z x y≠0∧∃k:Nat,QJ z x y=(k:Int)+1∧z.LL[k]?=some l)∨(QJ z x y=0∧l=⟨[],none,0⟩)):=by
 refine Sp.en Tryz.func142 ?_
 refine Zsp fun b1 w Z=>?_
 have hzn:=hz.n;have hzl:=hz.l;have hzb:=hz.b;have hel:=Zcg z.LL
 refine Sz ?_
 refine Zse (HC z x hz hx (Z.sel 2 [1,0] rfl)) fun w Z=>?_
 refine Zse (HC z y hz hy Z) fun w Z=>?_
 refine Ztd 3 rfl (fun j=>?_)
 refine Zsx 31 rfl (X2 (dd _) (dd _)) ?_
 refine Sz ?_
 refine Zsr rfl (fun cd1=>?_) (fun cd1=>?_)
 ·replace Z:St g (Sh 32 2 (Zm []) none 0::ZE Xr [z]::Zq b1 #[.I z.cap,.I z.T.s.cap,.slice z.ra (Za z.T.s.rel).length z.rc,.I (z.T.s.fresh+1),.slice z.ga (Za (z.T.s.gen.drop 1)).length z.gc,.slice z.oa (Zk (z.T.s.used.drop 1)).length z.oc,.slice z.va (Za (z.T.vals.drop 1)).length z.vc,.I z.cap,.slice z.pa (ZL z.P).length z.pc,.slice z.ba (Zk z.B).length z.bc,.slice z.la (Yz z.LL).length z.lc] 83::L) w:=Z.nilS 32 2
  refine Sz ?_
  replace Z:=(Z.sel 3 [1,0] rfl)
  exact cd1.elim (fun h=>⟨⟨[],none,0⟩,by rw[qn_1 (De h),bs_1 (De h)];rfl,Z,.inr ⟨qn_1 (De h),rfl⟩⟩) (fun h=>⟨⟨[],none,0⟩,by rw[qn_2 (De h),bs_2 (De h)];rfl,Z,.inr ⟨qn_2 (De h),rfl⟩⟩)
 have ho1:z.T.s.opn x=true:=Zfx (fun h=>cd1 (.inl h));have ho2:z.T.s.opn y=true:=Zfx (fun h=>cd1 (.inr h));have hq:QJ z x y=QT z.P z.B (if z.T.s.opn x=true then z.T.val x else 0) (if z.T.s.opn y=true then z.T.val y else 0):=(by rw[qn_3 ho1 ho2,if_pos ho1,if_pos ho2])
 replace Z:St g (Sh 93 1 (Za z.T.s.rel) z.ra z.rc::Sh 93 1 (Za (z.T.s.gen.drop 1)) z.ga z.gc::Sh 4 1 (Zk (z.T.s.used.drop 1)) z.oa z.oc::Sh 93 1 (Za (z.T.vals.drop 1)) z.va z.vc::Sh 72 1 (ZL z.P) z.pa z.pc::ZE Qg z.P::Sh 4 1 (Zk z.B) z.ba z.bc::Sh 22 1 (Yz z.LL) z.la z.lc::ZE CO z.LL::ZE Xr [z]::Zq b1 #[.I z.cap,.I z.T.s.cap,.slice z.ra (Za z.T.s.rel).length z.rc,.I (z.T.s.fresh+1),.slice z.ga (Za (z.T.s.gen.drop 1)).length z.gc,.slice z.oa (Zk (z.T.s.used.drop 1)).length z.oc,.slice z.va (Za (z.T.vals.drop 1)).length z.vc,.I z.cap,.slice z.pa (ZL z.P).length z.pc,.slice z.ba (Zk z.B).length z.bc,.slice z.la (Yz z.LL).length z.lc] 83::L) w:=Z.rsGet 0 rfl
 refine Sz ?_
 refine Zse (Za3 z.cap z.P z.pa z.pc z.B z.ba z.bc (if z.T.s.opn x=true then z.T.val x else 0) (if z.T.s.opn y=true then z.T.val y else 0) hz.p (by omega) hz.b (Z.sel 7 [4,4,4,0,0,0,0] rfl)) fun w Z=>?_
 refine Zsr rfl (fun hb0=>?_) (fun hb0=>?_)
 ·replace Z:St g (Sh 32 2 (Zm []) none 0::Sh 72 1 (ZL z.P) z.pa z.pc::ZE Qg z.P::Sh 4 1 (Zk z.B) z.ba z.bc::Sh 93 1 (Za z.T.s.rel) z.ra z.rc::Sh 93 1 (Za (z.T.s.gen.drop 1)) z.ga z.gc::Sh 4 1 (Zk (z.T.s.used.drop 1)) z.oa z.oc::Sh 93 1 (Za (z.T.vals.drop 1)) z.va z.vc::Sh 22 1 (Yz z.LL) z.la z.lc::ZE CO z.LL::ZE Xr [z]::Zq b1 #[.I z.cap,.I z.T.s.cap,.slice z.ra (Za z.T.s.rel).length z.rc,.I (z.T.s.fresh+1),.slice z.ga (Za (z.T.s.gen.drop 1)).length z.gc,.slice z.oa (Zk (z.T.s.used.drop 1)).length z.oc,.slice z.va (Za (z.T.vals.drop 1)).length z.vc,.I z.cap,.slice z.pa (ZL z.P).length z.pc,.slice z.ba (Zk z.B).length z.bc,.slice z.la (Yz z.LL).length z.lc] 83::L) w:=Z.nilS 32 2
  refine Sz ?_
  replace Z:=(Z.sel 12 [10,0] rfl)
  exact⟨⟨[],none,0⟩,by rw[hq,hb0,Zkm ho1 ho2];rfl,Z,.inr ⟨hq.trans hb0,rfl⟩⟩
 obtain⟨k,l,hk,hl⟩:=hb (by rw[hq];exact hb0);have hkl:=(List.getElem?_eq_some_iff.1 hl).1
 replace Z:St g (Sh 32 2 (Zm l.es) l.a l.c::Sh 72 1 (ZL z.P) z.pa z.pc::ZE Qg z.P::Sh 4 1 (Zk z.B) z.ba z.bc::Sh 93 1 (Za z.T.s.rel) z.ra z.rc::Sh 93 1 (Za (z.T.s.gen.drop 1)) z.ga z.gc::Sh 4 1 (Zk (z.T.s.used.drop 1)) z.oa z.oc::Sh 93 1 (Za (z.T.vals.drop 1)) z.va z.vc::Sh 22 1 (Yz z.LL) z.la z.lc::ZE CO z.LL::ZE Xr [z]::Zq b1 #[.I z.cap,.I z.T.s.cap,.slice z.ra (Za z.T.s.rel).length z.rc,.I (z.T.s.fresh+1),.slice z.ga (Za (z.T.s.gen.drop 1)).length z.gc,.slice z.oa (Zk (z.T.s.used.drop 1)).length z.oc,.slice z.va (Za (z.T.vals.drop 1)).length z.vc,.I z.cap,.slice z.pa (ZL z.P).length z.pc,.slice z.ba (Zk z.B).length z.bc,.slice z.la (Yz z.LL).length z.lc] 83::L) w:=Z.shsGet 8 rfl (List.mem_of_getElem? hl)
 refine Sz ?_
 refine Zsq rfl rfl (i:=(QT z.P z.B (if z.T.s.opn x=true then z.T.val x else 0) (if z.T.s.opn y=true then z.T.val y else 0))-1) (k) el_81 rfl rfl (by omega) (by omega) (Z.rdS 8 rfl (Cj hl)).1 ?_
 refine Zsv 1 [.slice l.a (Zm l.es).length l.c] rfl (by exact(Z.rdS 8 rfl (Cj hl)).2 0 _ rfl) ?_
 refine Sz ?_
 replace Z:=(Z.sel 12 [10,0] rfl)
 exact⟨l,by rw[hq,Zkm ho1 ho2];rfl,Z,.inl ⟨by rw[hq];exact hb0,k,hk,hl⟩⟩
theorem WR.bs{V:VM}{A:AM}{R:List Int}{z:RSt}{m:Nat}(h:WR V A R z m)(x y:Int):QJ z x y=XP V x y∧bsE z.T x y=bsE V.T x y:=by
 unfold QJ XP bsE
 rw[h.tt]
 refine⟨?_,rfl⟩
 split
 ·exact(h.ra.base h.vi.g.ok _ _).symm
 rfl
theorem WR.bst{V:VM}{A:AM}{R:List Int}{z:RSt}{m:Nat}(h:WR V A R z m){x y:Int}(hb:XP V x y≠0):∃(k:Nat)(l:LsE),XP V x y=(k:Int)+1∧z.LL[k]?=some l∧TrL A (V.rootOf (XP V x y)) l.es:=by
 have hp:ZF V.xs (XP V x y)=true:=by
  unfold XP at hb ⊢
  split at hb
  ·rename_i ho;rw[if_pos ho];exact HL h.vi.g.ok hb
  exact absurd rfl hb
 obtain⟨r,hr,hn⟩:=(h.vi.pre (XP V x y)).2 hp
 obtain⟨j,hj⟩:=List.mem_iff_getElem?.1 hr
 obtain⟨l,hl,ht⟩:=h.tr r hr
 have h1:=h.vi.g.ok.pos (XP V x y) (by rw[←Z'];exact hp)
 have h2:=VM.rootOf_at h.vi.k.uniq hj
 rw[hn] at h2 hl
 exact⟨(XP V x y-1).toNat,l,by omega,hl,by rw[h2];exact ht⟩
theorem TrL.nil(A:AM):TrL A 0 []:=⟨.nil,rfl,trivial,List.Pairwise.nil,rfl⟩
theorem WR.bt{V:VM}{A:AM}{R:List Int}{z:RSt}{m:Nat}(h:WR V A R z m){x y:Int}{l:LsE}(hl:(QJ z x y≠0∧∃k:Nat,QJ z x y=(k:Int)+1∧z.LL[k]?=some l)∨(QJ z x y=0∧l=⟨[],none,0⟩)):TrL A (V.rootOf (XP V x y)) l.es:=by
 rw[(h.bs x y).1] at hl
 rcases hl with⟨h0,k,h1,h2⟩|⟨h0,rfl⟩
 ·obtain⟨k',l',h3,h4,h5⟩:=h.bst h0
  have e:k=k':=by omega
  subst e
  rw[h2] at h4;rw[Option.some.inj h4];exact h5
 rw[h0,J7 (VI.no0 h.vi)];exact TrL.nil A
theorem WR.bx{V:VM}{A:AM}{R:List Int}{z:RSt}{m:Nat}(h:WR V A R z m){x y:Int}(hb:QJ z x y≠0):∃(k:Nat)(l:LsE),QJ z x y=(k:Int)+1∧z.LL[k]?=some l:=by
 rw[(h.bs x y).1] at hb ⊢
 obtain⟨k,l,h1,h2,_⟩:=h.bst hb
 exact⟨k,l,h1,h2⟩
end Go.Proofs.YtpebgkkmgffmaaaGreatDoor
namespace Go.V
open Go
theorem p128(i:Nat):(128:Int)^(i+1)=128*128^i:=by rw[Int.pow_succ,Int.mul_comm]
def UvB(i:Nat)(u:Int):Prop:=i≤9∧0≤u∧u<128^i
theorem UvB.start:UvB 0 0:=⟨by omega,by omega,by simp⟩
theorem UvB.next{i:Nat}{u c:Int}(h:UvB i u)(hb:¬((i=9∧1<c)∨(0<i∧c=0)))(hc:¬c<128)(h8:c≤255):UvB (i+1) (u+(c-128)*128^i):=by
 obtain⟨h1,h2,h3⟩:=h
 have hp:(0:Int)<128^i:=Int.pow_pos (by decide)
 have h9:i≠9:=fun e=>hb (.inl ⟨e,by omega⟩)
 refine⟨by omega,?_,?_⟩
 ·have:=Int.mul_nonneg (show 0≤c-128 by omega) (Int.le_of_lt hp);omega
 rw[p128]
 have:=Int.mul_le_mul_of_nonneg_right (show c-128≤127 by omega) (Int.le_of_lt hp)
 omega
end Go.V
namespace Go.V
open Go
structure OpM where
 code:Int
 a:Int
 b:Int
 key:Int
 val:Int
 lo:Int
 hi:Int
 n:Int
 flag:Bool
 name:ByteArray
 bytes:List Int
 ents:List (Int×Int)
 chs:List (Int×Int×Int×Int)
def tbl:List (List Int):=[[],[],[65,75],[65,75,86],[65,75],[65,75,86],[65,67],[69],[65],[65],[65,66,78],[65,66,78,86],[65,76,72,78],[65,66],[65,66],[65,75,78],[65,75],[65,78],[65,76,72],[65,76,72,78],[65,76,72,78,70,89],[65,76,72],[65,75,78],[65],[65,66,83],[83],[65],[65,75],[65,76,72],[65,75,86],[65,75],[65,66],[65],[65,66],[66,89],[]]
def fs(c:Int):List Int:=tbl.getD c.toNat []
def CW(c:Int):Bool:=decide (1≤c∧c≤35)
theorem Zb2{c:Int}(h:¬(1≤c∧c≤35)):fs c=[]:=by
 unfold fs
 rcases Int.lt_or_le c 1 with h1|h1
 ·have:c.toNat=0:=by omega
  rw[this];rfl
 rw[List.getD_eq_getElem?_getD,List.getElem?_eq_none (by show 36≤c.toNat;omega)];rfl
theorem CD{q:List Int→Prop}(h:∀l∈tbl,q l)(c:Int):q (fs c):=by
 unfold fs
 rw[List.getD_eq_getElem?_getD]
 cases hx:tbl[c.toNat]? with
 |none=>exact h [] (by decide)
 |some l=>exact h l (List.mem_of_getElem? hx)
theorem fs_as(c:Int):As7 (fs c):=CD (by unfold As7;decide) c
theorem Zm7(c:Int):As7 ((fs c).map (· + 32)):=CD (q:=fun l=>As7 (l.map (· + 32))) (by unfold As7;decide) c
theorem Zqj(c:Int):(fs c).length≤6:=CD (q:=fun l=>l.length≤6) (by decide) c
def Z8(f:Int):Prop:=f=65∨f=66∨f=75∨f=86∨f=76∨f=72∨f=78∨f=70∨f=83∨f=89∨f=69∨f=67
theorem Zr2(c:Int):∀f∈fs c,Z8 f:=CD (q:=fun l=>∀f∈l,Z8 f) (by unfold Z8;decide) c
def op0(c:Int):OpM:={ code:=c,a:=0,b:=0,key:=0,val:=0,lo:=0,hi:=0,n:=0,flag:=false,name:=⟨#[]⟩,bytes:=[],ents:=[],chs:=[] }
theorem Dl{l:List Int}{k:Nat}(h:k<l.length):l.drop k=l.getD k 0::l.drop (k+1):=by
 rw[List.drop_eq_getElem_cons h,List.getD_eq_getElem?_getD,List.getElem?_eq_getElem h];rfl
theorem getD_some{l:List Int}{k:Nat}(h:k<l.length):l[k]?=some (l.getD k 0):=by
 rw[List.getD_eq_getElem?_getD,List.getElem?_eq_getElem h];rfl
theorem as_B8{l:List Int}(h:As7 l):B8 l:=fun x hx=>by have:=h x hx;omega
theorem Zpw{c:Int}{k:Nat}(h:k<(fs c).length):(sb (JG ((fs c).map (· + 32))))[k]?=some ((fs c).getD k 0+32):=by
 rw[Zax (as_B8 (Zm7 c)),List.getElem?_map,getD_some h];rfl
theorem Zga(c:Int):(JG ((fs c).map (· + 32))).size=(fs c).length:=by rw[Ha,List.length_map]
theorem Zp2{c:Int}{k:Nat}(h:k<(fs c).length):Z8 ((fs c).getD k 0):=Zr2 c _ (List.mem_of_getElem? (getD_some h))
def QG(n:Int):Prop:=-9223372036854775808≤n∧n≤9223372036854775807
def I64s(l:List Int):Prop:=∀x∈l,QG x
def Zqg(l:List (Int×Int)):Prop:=∀x∈l,QG x.1∧QG x.2
def Zq8(l:List (Int×Int×Int×Int)):Prop:=∀x∈l,QG x.1∧QG x.2.1∧QG x.2.2.1∧QG x.2.2.2
structure OpW(x:OpM):Prop where
 a:0≤x.a∧x.a≤18446744073709551615
 b:0≤x.b∧x.b≤18446744073709551615
 key:QG x.key
 val:QG x.val
 lo:QG x.lo
 hi:QG x.hi
 ents:Zqg x.ents
 chs:Zq8 x.chs
structure OpL(x:OpM):Prop where
 n:0≤x.n∧x.n≤2147483647
 name:x.name.size≤32
 bytes:x.bytes.length≤65536
 ents:x.ents.length≤1000
 chs:x.chs.length≤1000
structure ZM where
 code:Int
 a:Int
 b:Int
 key:Int
 val:Int
 lo:Int
 hi:Int
 n:Int
 flag:Bool
 name:ByteArray
 lb:Nat
 le:Nat
 lc:Nat
def zOf(x:OpM):ZM:={ code:=x.code,a:=x.a,b:=x.b,key:=x.key,val:=x.val,lo:=x.lo,hi:=x.hi,n:=x.n,flag:=x.flag,name:=x.name,lb:=(Jk x.bytes).length,le:=(Zm x.ents).length,lc:=(Yo x.chs).length }
def Z_(f:Int)(y:ZM):ZM :=
 if f=65 then { y with a:=0 }
 else if f=66 then { y with b:=0 }
 else if f=75 then { y with key:=0 }
 else if f=86 then { y with val:=0 }
 else if f=76 then { y with lo:=0 }
 else if f=72 then { y with hi:=0 }
 else if f=78 then { y with n:=0 }
 else if f=70 then { y with flag:=false }
 else if f=83 then { y with name:=⟨#[]⟩ }
 else if f=89 then { y with lb:=0 }
 else if f=69 then { y with le:=0 }
 else if f=67 then { y with lc:=0 }
 else y
theorem Zpf{y:ZM}:Z_ 65 y={ y with a:=0 }:=rfl
theorem Zpl{y:ZM}:Z_ 66 y={ y with b:=0 }:=rfl
theorem Zqu{y:ZM}:Z_ 75 y={ y with key:=0 }:=rfl
theorem Zq0{y:ZM}:Z_ 86 y={ y with val:=0 }:=rfl
theorem Zp6{y:ZM}:Z_ 76 y={ y with lo:=0 }:=rfl
theorem Zpx{y:ZM}:Z_ 72 y={ y with hi:=0 }:=rfl
theorem Zra{y:ZM}:Z_ 78 y={ y with n:=0 }:=rfl
theorem Zo6{y:ZM}:Z_ 70 y={ y with flag:=false }:=rfl
theorem Zr7{y:ZM}:Z_ 83 y={ y with name:=⟨#[]⟩ }:=rfl
theorem Zqi{y:ZM}:Z_ 89 y={ y with lb:=0 }:=rfl
theorem Zqt{y:ZM}:Z_ 69 y={ y with le:=0 }:=rfl
theorem Zrd{y:ZM}:Z_ 67 y={ y with lc:=0 }:=rfl
theorem YI{f:Int}{y:ZM}(h:¬Z8 f):Z_ f y=y:=by
 unfold Z8 at h
 unfold Z_
 rw[if_neg (by omega)]
 rw[if_neg (by omega)]
 rw[if_neg (by omega)]
 rw[if_neg (by omega)]
 rw[if_neg (by omega)]
 rw[if_neg (by omega)]
 rw[if_neg (by omega)]
 rw[if_neg (by omega)]
 rw[if_neg (by omega)]
 rw[if_neg (by omega)]
 rw[if_neg (by omega)]
 rw[if_neg (by omega)]
def Z1:List Int→ZM→ZM
 |[],y=>y
 |f::l,y=>Z1 l (Z_ f y)
theorem Zhj{l:List Int}{y:ZM}{k:Nat}(h:k<l.length):Z1 (l.drop k) y=Z1 (l.drop (k+1)) (Z_ (l.getD k 0) y):=by rw[Dl h];rfl
theorem Ze1{l:List Int}{y:ZM}{k:Nat}(h:¬k<l.length):Z1 (l.drop k) y=y:=by rw[List.drop_eq_nil_of_le (by omega)];rfl
theorem Zkt{f:Int}{y:ZM}:(Z_ f y).a=if f=65 then 0 else y.a:=by
 by_cases hf:Z8 f
 ·unfold Z8 at hf
  rcases hf with rfl|rfl|rfl|rfl|rfl|rfl|rfl|rfl|rfl|rfl|rfl|rfl<;>rfl
 rw[YI hf,if_neg (by unfold Z8 at hf;omega)]
theorem Zea:∀{l:List Int}{y:ZM},(Z1 l y).a=if 65∈l then 0 else y.a
 |[],_=>rfl
 |g::l,y=>by
  rw[Z1,Zea,Zkt]
  by_cases h1:(65:Int)∈l
  ·rw[if_pos h1,if_pos (List.mem_cons_of_mem _ h1)]
  rw[if_neg h1]
  by_cases h2:g=65
  ·rw[if_pos h2,if_pos (by rw[h2];exact List.mem_cons_self ..)]
  rw[if_neg h2,if_neg (by simp only[List.mem_cons,not_or];exact⟨fun h=>h2 h.symm,h1⟩)]
theorem Zni{f:Int}{y:ZM}:(Z_ f y).b=if f=66 then 0 else y.b:=by
 by_cases hf:Z8 f
 ·unfold Z8 at hf
  rcases hf with rfl|rfl|rfl|rfl|rfl|rfl|rfl|rfl|rfl|rfl|rfl|rfl<;>rfl
 rw[YI hf,if_neg (by unfold Z8 at hf;omega)]
theorem Zco:∀{l:List Int}{y:ZM},(Z1 l y).b=if 66∈l then 0 else y.b
 |[],_=>rfl
 |g::l,y=>by
  rw[Z1,Zco,Zni]
  by_cases h1:(66:Int)∈l
  ·rw[if_pos h1,if_pos (List.mem_cons_of_mem _ h1)]
  rw[if_neg h1]
  by_cases h2:g=66
  ·rw[if_pos h2,if_pos (by rw[h2];exact List.mem_cons_self ..)]
  rw[if_neg h2,if_neg (by simp only[List.mem_cons,not_or];exact⟨fun h=>h2 h.symm,h1⟩)]
theorem Zns{f:Int}{y:ZM}:(Z_ f y).key=if f=75 then 0 else y.key:=by
 by_cases hf:Z8 f
 ·unfold Z8 at hf
  rcases hf with rfl|rfl|rfl|rfl|rfl|rfl|rfl|rfl|rfl|rfl|rfl|rfl<;>rfl
 rw[YI hf,if_neg (by unfold Z8 at hf;omega)]
theorem Zc4:∀{l:List Int}{y:ZM},(Z1 l y).key=if 75∈l then 0 else y.key
 |[],_=>rfl
 |g::l,y=>by
  rw[Z1,Zc4,Zns]
  by_cases h1:(75:Int)∈l
  ·rw[if_pos h1,if_pos (List.mem_cons_of_mem _ h1)]
  rw[if_neg h1]
  by_cases h2:g=75
  ·rw[if_pos h2,if_pos (by rw[h2];exact List.mem_cons_self ..)]
  rw[if_neg h2,if_neg (by simp only[List.mem_cons,not_or];exact⟨fun h=>h2 h.symm,h1⟩)]
theorem Zlz{f:Int}{y:ZM}:(Z_ f y).val=if f=86 then 0 else y.val:=by
 by_cases hf:Z8 f
 ·unfold Z8 at hf
  rcases hf with rfl|rfl|rfl|rfl|rfl|rfl|rfl|rfl|rfl|rfl|rfl|rfl<;>rfl
 rw[YI hf,if_neg (by unfold Z8 at hf;omega)]
theorem Zcr:∀{l:List Int}{y:ZM},(Z1 l y).val=if 86∈l then 0 else y.val
 |[],_=>rfl
 |g::l,y=>by
  rw[Z1,Zcr,Zlz]
  by_cases h1:(86:Int)∈l
  ·rw[if_pos h1,if_pos (List.mem_cons_of_mem _ h1)]
  rw[if_neg h1]
  by_cases h2:g=86
  ·rw[if_pos h2,if_pos (by rw[h2];exact List.mem_cons_self ..)]
  rw[if_neg h2,if_neg (by simp only[List.mem_cons,not_or];exact⟨fun h=>h2 h.symm,h1⟩)]
theorem Znz{f:Int}{y:ZM}:(Z_ f y).lo=if f=76 then 0 else y.lo:=by
 by_cases hf:Z8 f
 ·unfold Z8 at hf
  rcases hf with rfl|rfl|rfl|rfl|rfl|rfl|rfl|rfl|rfl|rfl|rfl|rfl<;>rfl
 rw[YI hf,if_neg (by unfold Z8 at hf;omega)]
theorem Zbx:∀{l:List Int}{y:ZM},(Z1 l y).lo=if 76∈l then 0 else y.lo
 |[],_=>rfl
 |g::l,y=>by
  rw[Z1,Zbx,Znz]
  by_cases h1:(76:Int)∈l
  ·rw[if_pos h1,if_pos (List.mem_cons_of_mem _ h1)]
  rw[if_neg h1]
  by_cases h2:g=76
  ·rw[if_pos h2,if_pos (by rw[h2];exact List.mem_cons_self ..)]
  rw[if_neg h2,if_neg (by simp only[List.mem_cons,not_or];exact⟨fun h=>h2 h.symm,h1⟩)]
theorem Zm4{f:Int}{y:ZM}:(Z_ f y).hi=if f=72 then 0 else y.hi:=by
 by_cases hf:Z8 f
 ·unfold Z8 at hf
  rcases hf with rfl|rfl|rfl|rfl|rfl|rfl|rfl|rfl|rfl|rfl|rfl|rfl<;>rfl
 rw[YI hf,if_neg (by unfold Z8 at hf;omega)]
theorem Zdp:∀{l:List Int}{y:ZM},(Z1 l y).hi=if 72∈l then 0 else y.hi
 |[],_=>rfl
 |g::l,y=>by
  rw[Z1,Zdp,Zm4]
  by_cases h1:(72:Int)∈l
  ·rw[if_pos h1,if_pos (List.mem_cons_of_mem _ h1)]
  rw[if_neg h1]
  by_cases h2:g=72
  ·rw[if_pos h2,if_pos (by rw[h2];exact List.mem_cons_self ..)]
  rw[if_neg h2,if_neg (by simp only[List.mem_cons,not_or];exact⟨fun h=>h2 h.symm,h1⟩)]
theorem Zlh{f:Int}{y:ZM}:(Z_ f y).n=if f=78 then 0 else y.n:=by
 by_cases hf:Z8 f
 ·unfold Z8 at hf
  rcases hf with rfl|rfl|rfl|rfl|rfl|rfl|rfl|rfl|rfl|rfl|rfl|rfl<;>rfl
 rw[YI hf,if_neg (by unfold Z8 at hf;omega)]
theorem Zd2:∀{l:List Int}{y:ZM},(Z1 l y).n=if 78∈l then 0 else y.n
 |[],_=>rfl
 |g::l,y=>by
  rw[Z1,Zd2,Zlh]
  by_cases h1:(78:Int)∈l
  ·rw[if_pos h1,if_pos (List.mem_cons_of_mem _ h1)]
  rw[if_neg h1]
  by_cases h2:g=78
  ·rw[if_pos h2,if_pos (by rw[h2];exact List.mem_cons_self ..)]
  rw[if_neg h2,if_neg (by simp only[List.mem_cons,not_or];exact⟨fun h=>h2 h.symm,h1⟩)]
theorem Zlk{f:Int}{y:ZM}:(Z_ f y).flag=if f=70 then false else y.flag:=by
 by_cases hf:Z8 f
 ·unfold Z8 at hf
  rcases hf with rfl|rfl|rfl|rfl|rfl|rfl|rfl|rfl|rfl|rfl|rfl|rfl<;>rfl
 rw[YI hf,if_neg (by unfold Z8 at hf;omega)]
theorem Zd3:∀{l:List Int}{y:ZM},(Z1 l y).flag=if 70∈l then false else y.flag
 |[],_=>rfl
 |g::l,y=>by
  rw[Z1,Zd3,Zlk]
  by_cases h1:(70:Int)∈l
  ·rw[if_pos h1,if_pos (List.mem_cons_of_mem _ h1)]
  rw[if_neg h1]
  by_cases h2:g=70
  ·rw[if_pos h2,if_pos (by rw[h2];exact List.mem_cons_self ..)]
  rw[if_neg h2,if_neg (by simp only[List.mem_cons,not_or];exact⟨fun h=>h2 h.symm,h1⟩)]
theorem Zna{f:Int}{y:ZM}:(Z_ f y).name=if f=83 then⟨#[]⟩ else y.name:=by
 by_cases hf:Z8 f
 ·unfold Z8 at hf
  rcases hf with rfl|rfl|rfl|rfl|rfl|rfl|rfl|rfl|rfl|rfl|rfl|rfl<;>rfl
 rw[YI hf,if_neg (by unfold Z8 at hf;omega)]
theorem Zd0:∀{l:List Int}{y:ZM},(Z1 l y).name=if 83∈l then⟨#[]⟩ else y.name
 |[],_=>rfl
 |g::l,y=>by
  rw[Z1,Zd0,Zna]
  by_cases h1:(83:Int)∈l
  ·rw[if_pos h1,if_pos (List.mem_cons_of_mem _ h1)]
  rw[if_neg h1]
  by_cases h2:g=83
  ·rw[if_pos h2,if_pos (by rw[h2];exact List.mem_cons_self ..)]
  rw[if_neg h2,if_neg (by simp only[List.mem_cons,not_or];exact⟨fun h=>h2 h.symm,h1⟩)]
theorem Zkl{f:Int}{y:ZM}:(Z_ f y).lb=if f=89 then 0 else y.lb:=by
 by_cases hf:Z8 f
 ·unfold Z8 at hf
  rcases hf with rfl|rfl|rfl|rfl|rfl|rfl|rfl|rfl|rfl|rfl|rfl|rfl<;>rfl
 rw[YI hf,if_neg (by unfold Z8 at hf;omega)]
theorem Zdh:∀{l:List Int}{y:ZM},(Z1 l y).lb=if 89∈l then 0 else y.lb
 |[],_=>rfl
 |g::l,y=>by
  rw[Z1,Zdh,Zkl]
  by_cases h1:(89:Int)∈l
  ·rw[if_pos h1,if_pos (List.mem_cons_of_mem _ h1)]
  rw[if_neg h1]
  by_cases h2:g=89
  ·rw[if_pos h2,if_pos (by rw[h2];exact List.mem_cons_self ..)]
  rw[if_neg h2,if_neg (by simp only[List.mem_cons,not_or];exact⟨fun h=>h2 h.symm,h1⟩)]
theorem Zkk{f:Int}{y:ZM}:(Z_ f y).le=if f=69 then 0 else y.le:=by
 by_cases hf:Z8 f
 ·unfold Z8 at hf
  rcases hf with rfl|rfl|rfl|rfl|rfl|rfl|rfl|rfl|rfl|rfl|rfl|rfl<;>rfl
 rw[YI hf,if_neg (by unfold Z8 at hf;omega)]
theorem Zdn:∀{l:List Int}{y:ZM},(Z1 l y).le=if 69∈l then 0 else y.le
 |[],_=>rfl
 |g::l,y=>by
  rw[Z1,Zdn,Zkk]
  by_cases h1:(69:Int)∈l
  ·rw[if_pos h1,if_pos (List.mem_cons_of_mem _ h1)]
  rw[if_neg h1]
  by_cases h2:g=69
  ·rw[if_pos h2,if_pos (by rw[h2];exact List.mem_cons_self ..)]
  rw[if_neg h2,if_neg (by simp only[List.mem_cons,not_or];exact⟨fun h=>h2 h.symm,h1⟩)]
theorem Zn7{f:Int}{y:ZM}:(Z_ f y).lc=if f=67 then 0 else y.lc:=by
 by_cases hf:Z8 f
 ·unfold Z8 at hf
  rcases hf with rfl|rfl|rfl|rfl|rfl|rfl|rfl|rfl|rfl|rfl|rfl|rfl<;>rfl
 rw[YI hf,if_neg (by unfold Z8 at hf;omega)]
theorem Zdm:∀{l:List Int}{y:ZM},(Z1 l y).lc=if 67∈l then 0 else y.lc
 |[],_=>rfl
 |g::l,y=>by
  rw[Z1,Zdm,Zn7]
  by_cases h1:(67:Int)∈l
  ·rw[if_pos h1,if_pos (List.mem_cons_of_mem _ h1)]
  rw[if_neg h1]
  by_cases h2:g=67
  ·rw[if_pos h2,if_pos (by rw[h2];exact List.mem_cons_self ..)]
  rw[if_neg h2,if_neg (by simp only[List.mem_cons,not_or];exact⟨fun h=>h2 h.symm,h1⟩)]
def He(x:OpM):Prop:=(65∉fs x.code→x.a=0)∧(66∉fs x.code→x.b=0)∧(75∉fs x.code→x.key=0)∧(86∉fs x.code→x.val=0)∧(76∉fs x.code→x.lo=0)∧(72∉fs x.code→x.hi=0)∧(78∉fs x.code→x.n=0)∧(70∉fs x.code→x.flag=false)∧(83∉fs x.code→x.name=⟨#[]⟩)∧(89∉fs x.code→x.bytes.length=0)∧(69∉fs x.code→x.ents.length=0)∧(67∉fs x.code→x.chs.length=0)
theorem ite_z{α:Type}{p:Prop}[Decidable p]{z v:α}:((if p then z else v)=z)=(¬p→v=z):=by
 by_cases h:p<;>simp[h]
theorem nat0{n:Nat}:((n:Int)=0)=(n=0):=by
 apply propext;omega
theorem Zjk{x:OpM}{y:ZM}(h:y=Z1 (fs x.code) (zOf x)):(y.a=0∧y.b=0∧y.key=0∧y.val=0∧y.lo=0∧y.hi=0∧y.n=0∧y.flag=false∧y.name=⟨#[]⟩∧y.lb=0∧y.le=0∧y.lc=0)↔He x:=by
 subst h
 rw[Zea,Zco,Zc4,Zcr,Zbx,Zdp,Zd2,Zd3,Zd0,Zdh,Zdn,Zdm]
 simp only[ite_z,zOf,YH,Zu,ZH]
 exact Iff.rfl
def QD(x:OpM):Prop:=CW x.code=true∧OpL x∧(∀c∈x.chs,0≤c.1∧c.1≤255)∧He x
structure AnM where
 err:Int
 handle:Int
 value:Int
 found:Bool
 n:Int
 ekey:Int
 eval:Int
 count:Int
 sum:Int
 mn:Int
 mx:Int
 ents:List (Int×Int)
 chs:List (Int×Int×Int×Int)
 keys:List Int
 bytes:List Int
structure AnW(x:AnM):Prop where
 err:QG x.err
 handle:0≤x.handle∧x.handle≤18446744073709551615
 value:QG x.value
 n:QG x.n
 ekey:QG x.ekey
 eval:QG x.eval
 count:QG x.count
 sum:QG x.sum
 mn:QG x.mn
 mx:QG x.mx
 ents:Zqg x.ents
 chs:Zq8 x.chs
 keys:I64s x.keys
 le:x.ents.length≤100
 lc:x.chs.length≤100
 lk:x.keys.length≤100
 lb:x.bytes.length≤1000
end Go.V
namespace Go.Proofs.YtpebgkkmgffmaaaGreatDoor
open Go Go.V
set_option maxHeartbeats 8000000
set_option maxRecDepth 8192
variable{g w:World}{L:List HP}
theorem Vo(c:Int)(Z:St g (L) w) :
  Zr g L 80 [.I c] w fun rV=>rV (.tuple #[.string (JG (fs c)),.bool (CW c)]) []:=by
 refine Sp.en Tryz.func80 ?_
 refine Zsi (fun cd1=>?_) fun cd1=>?_
 ·refine Zs0 rfl (decide_eq_true cd1) ?_
  subst cd1;exact⟨rfl,Z⟩
 refine Zsi (fun cd2=>?_) fun cd2=>?_
 ·subst cd2;exact⟨rfl,Z⟩
 refine Zsi (fun cd3=>?_) fun cd3=>?_
 ·refine Zs0 rfl (decide_eq_true cd3) ?_
  subst cd3;exact⟨rfl,Z⟩
 refine Zsi (fun cd4=>?_) fun cd4=>?_
 ·refine Zs0 rfl (decide_eq_true cd4) ?_
  subst cd4;exact⟨rfl,Z⟩
 refine Zsi (fun cd5=>?_) fun cd5=>?_
 ·refine Zs0 rfl (decide_eq_true cd5) ?_
  subst cd5;exact⟨rfl,Z⟩
 refine Zsi (fun cd6=>?_) fun cd6=>?_
 ·refine Zs0 rfl (decide_eq_true cd6) ?_
  subst cd6;exact⟨rfl,Z⟩
 refine Zsi (fun cd7=>?_) fun cd7=>?_
 ·subst cd7;exact⟨rfl,Z⟩
 refine Zsi (fun cd8=>?_) fun cd8=>?_
 ·refine Zs0 rfl (decide_eq_true cd8) ?_
  subst cd8;exact⟨rfl,Z⟩
 refine Zsi (fun cd9=>?_) fun cd9=>?_
 ·refine Zs0 rfl (decide_eq_true cd9) ?_
  subst cd9;exact⟨rfl,Z⟩
 refine Zsi (fun cd10=>?_) fun cd10=>?_
 ·subst cd10;exact⟨rfl,Z⟩
 refine Zsi (fun cd11=>?_) fun cd11=>?_
 ·subst cd11;exact⟨rfl,Z⟩
 refine Zsi (fun cd12=>?_) fun cd12=>?_
 ·subst cd12;exact⟨rfl,Z⟩
 refine Zsi (fun cd13=>?_) fun cd13=>?_
 ·refine Zs0 rfl (decide_eq_true cd13) ?_
  subst cd13;exact⟨rfl,Z⟩
 refine Zsi (fun cd14=>?_) fun cd14=>?_
 ·refine Zud rfl (decide_eq_true cd14) ?_
  as_aux_lemma =>
  refine Sz ?_
  subst cd14;exact⟨rfl,Z⟩
 refine Zsr rfl (fun cd15=>?_) (fun cd15=>?_)
 ·as_aux_lemma =>
  refine Sz ?_
  refine Zs0 rfl (decide_eq_true cd15) ?_
  subst cd15;exact⟨rfl,Z⟩
 as_aux_lemma =>
 refine Sz ?_
 refine Zsi (fun cd16=>?_) fun cd16=>?_
 ·refine Zs0 rfl (decide_eq_true cd16) ?_
  subst cd16;exact⟨rfl,Z⟩
 refine Zsi (fun cd17=>?_) fun cd17=>?_
 ·subst cd17;exact⟨rfl,Z⟩
 refine Zsi (fun cd18=>?_) fun cd18=>?_
 ·subst cd18;exact⟨rfl,Z⟩
 refine Zsi (fun cd19=>?_) fun cd19=>?_
 ·subst cd19;exact⟨rfl,Z⟩
 refine Zsi (fun cd20=>?_) fun cd20=>?_
 ·refine Zs0 rfl (decide_eq_true cd20) ?_
  subst cd20;exact⟨rfl,Z⟩
 refine Zsi (fun cd21=>?_) fun cd21=>?_
 ·subst cd21;exact⟨rfl,Z⟩
 refine Zsi (fun cd22=>?_) fun cd22=>?_
 ·refine Zs0 rfl (decide_eq_true cd22) ?_
  subst cd22;exact⟨rfl,Z⟩
 refine Zsi (fun cd23=>?_) fun cd23=>?_
 ·refine Zs0 rfl (decide_eq_true cd23) ?_
  subst cd23;exact⟨rfl,Z⟩
 refine Zsi (fun cd24=>?_) fun cd24=>?_
 ·refine Zs0 rfl (decide_eq_true cd24) ?_
  subst cd24;exact⟨rfl,Z⟩
 refine Zsi (fun cd25=>?_) fun cd25=>?_
 ·subst cd25;exact⟨rfl,Z⟩
 refine Zsi (fun cd26=>?_) fun cd26=>?_
 ·refine Zs0 rfl (decide_eq_true cd26) ?_
  subst cd26;exact⟨rfl,Z⟩
 refine Zsi (fun cd27=>?_) fun cd27=>?_
 ·subst cd27;exact⟨rfl,Z⟩
 refine Zsi (fun cd28=>?_) fun cd28=>?_
 ·subst cd28;exact⟨rfl,Z⟩
 refine Zsi (fun cd29=>?_) fun cd29=>?_
 ·refine Zs0 rfl (decide_eq_true cd29) ?_
  subst cd29;exact⟨rfl,Z⟩
 refine Zsi (fun cd30=>?_) fun cd30=>?_
 ·refine Zs0 rfl (decide_eq_true cd30) ?_
  subst cd30;exact⟨rfl,Z⟩
 refine Zsi (fun cd31=>?_) fun cd31=>?_
 ·subst cd31;exact⟨rfl,Z⟩
 refine Zsr rfl (fun cd32=>?_) (fun cd32=>?_)
 ·as_aux_lemma =>
  refine Sz ?_
  subst cd32;exact⟨rfl,Z⟩
 as_aux_lemma =>
 refine Sz ?_
 refine Zsi (fun cd33=>?_) fun cd33=>?_
 ·subst cd33;exact⟨rfl,Z⟩
 refine Zsi (fun cd34=>?_) fun cd34=>?_
 ·subst cd34;exact⟨rfl,Z⟩
 refine Zsi (fun cd35=>?_) fun cd35=>?_
 ·subst cd35;exact⟨rfl,Z⟩
 have h0:¬(1≤c∧c≤35):=by omega
 rw[Zb2 h0,CW,decide_eq_false h0];exact⟨rfl,Z⟩
theorem UH(c:Int)(Z:St g (L) w) :
  Zr g L 279 [.I c] w fun rV=>rV (.tuple #[.string (JG ((fs c).map (· + 32))),.bool (CW c)]) []:=by
 refine Sp.en Tryz.func279 ?_
 refine Zsi (fun cd1=>?_) fun cd1=>?_
 ·refine Zs0 rfl (decide_eq_true cd1) ?_
  subst cd1;exact⟨rfl,Z⟩
 refine Zsi (fun cd2=>?_) fun cd2=>?_
 ·subst cd2;exact⟨rfl,Z⟩
 refine Zsi (fun cd3=>?_) fun cd3=>?_
 ·refine Zs0 rfl (decide_eq_true cd3) ?_
  subst cd3;exact⟨rfl,Z⟩
 refine Zsi (fun cd4=>?_) fun cd4=>?_
 ·refine Zs0 rfl (decide_eq_true cd4) ?_
  subst cd4;exact⟨rfl,Z⟩
 refine Zsi (fun cd5=>?_) fun cd5=>?_
 ·refine Zs0 rfl (decide_eq_true cd5) ?_
  subst cd5;exact⟨rfl,Z⟩
 refine Zsi (fun cd6=>?_) fun cd6=>?_
 ·refine Zs0 rfl (decide_eq_true cd6) ?_
  subst cd6;exact⟨rfl,Z⟩
 refine Zsi (fun cd7=>?_) fun cd7=>?_
 ·subst cd7;exact⟨rfl,Z⟩
 refine Zsi (fun cd8=>?_) fun cd8=>?_
 ·refine Zs0 rfl (decide_eq_true cd8) ?_
  subst cd8;exact⟨rfl,Z⟩
 refine Zsi (fun cd9=>?_) fun cd9=>?_
 ·refine Zs0 rfl (decide_eq_true cd9) ?_
  subst cd9;exact⟨rfl,Z⟩
 refine Zsi (fun cd10=>?_) fun cd10=>?_
 ·subst cd10;exact⟨rfl,Z⟩
 refine Zsi (fun cd11=>?_) fun cd11=>?_
 ·subst cd11;exact⟨rfl,Z⟩
 refine Zsi (fun cd12=>?_) fun cd12=>?_
 ·subst cd12;exact⟨rfl,Z⟩
 refine Zsi (fun cd13=>?_) fun cd13=>?_
 ·refine Zs0 rfl (decide_eq_true cd13) ?_
  subst cd13;exact⟨rfl,Z⟩
 refine Zsi (fun cd14=>?_) fun cd14=>?_
 ·refine Zud rfl (decide_eq_true cd14) ?_
  as_aux_lemma =>
  refine Sz ?_
  subst cd14;exact⟨rfl,Z⟩
 refine Zsr rfl (fun cd15=>?_) (fun cd15=>?_)
 ·as_aux_lemma =>
  refine Sz ?_
  refine Zs0 rfl (decide_eq_true cd15) ?_
  subst cd15;exact⟨rfl,Z⟩
 as_aux_lemma =>
 refine Sz ?_
 refine Zsi (fun cd16=>?_) fun cd16=>?_
 ·refine Zs0 rfl (decide_eq_true cd16) ?_
  subst cd16;exact⟨rfl,Z⟩
 refine Zsi (fun cd17=>?_) fun cd17=>?_
 ·subst cd17;exact⟨rfl,Z⟩
 refine Zsi (fun cd18=>?_) fun cd18=>?_
 ·subst cd18;exact⟨rfl,Z⟩
 refine Zsi (fun cd19=>?_) fun cd19=>?_
 ·subst cd19;exact⟨rfl,Z⟩
 refine Zsi (fun cd20=>?_) fun cd20=>?_
 ·refine Zs0 rfl (decide_eq_true cd20) ?_
  subst cd20;exact⟨rfl,Z⟩
 refine Zsi (fun cd21=>?_) fun cd21=>?_
 ·subst cd21;exact⟨rfl,Z⟩
 refine Zsi (fun cd22=>?_) fun cd22=>?_
 ·refine Zs0 rfl (decide_eq_true cd22) ?_
  subst cd22;exact⟨rfl,Z⟩
 refine Zsi (fun cd23=>?_) fun cd23=>?_
 ·refine Zs0 rfl (decide_eq_true cd23) ?_
  subst cd23;exact⟨rfl,Z⟩
 refine Zsi (fun cd24=>?_) fun cd24=>?_
 ·refine Zs0 rfl (decide_eq_true cd24) ?_
  subst cd24;exact⟨rfl,Z⟩
 refine Zsi (fun cd25=>?_) fun cd25=>?_
 ·subst cd25;exact⟨rfl,Z⟩
 refine Zsi (fun cd26=>?_) fun cd26=>?_
 ·refine Zs0 rfl (decide_eq_true cd26) ?_
  subst cd26;exact⟨rfl,Z⟩
 refine Zsi (fun cd27=>?_) fun cd27=>?_
 ·subst cd27;exact⟨rfl,Z⟩
 refine Zsi (fun cd28=>?_) fun cd28=>?_
 ·subst cd28;exact⟨rfl,Z⟩
 refine Zsi (fun cd29=>?_) fun cd29=>?_
 ·refine Zs0 rfl (decide_eq_true cd29) ?_
  subst cd29;exact⟨rfl,Z⟩
 refine Zsi (fun cd30=>?_) fun cd30=>?_
 ·refine Zs0 rfl (decide_eq_true cd30) ?_
  subst cd30;exact⟨rfl,Z⟩
 refine Zsi (fun cd31=>?_) fun cd31=>?_
 ·subst cd31;exact⟨rfl,Z⟩
 refine Zsr rfl (fun cd32=>?_) (fun cd32=>?_)
 ·as_aux_lemma =>
  refine Sz ?_
  subst cd32;exact⟨rfl,Z⟩
 as_aux_lemma =>
 refine Sz ?_
 refine Zsi (fun cd33=>?_) fun cd33=>?_
 ·subst cd33;exact⟨rfl,Z⟩
 refine Zsi (fun cd34=>?_) fun cd34=>?_
 ·subst cd34;exact⟨rfl,Z⟩
 refine Zsi (fun cd35=>?_) fun cd35=>?_
 ·subst cd35;exact⟨rfl,Z⟩
 have h0:¬(1≤c∧c≤35):=by omega
 rw[Zb2 h0,CW,decide_eq_false h0];exact⟨rfl,Z⟩
end Go.Proofs.YtpebgkkmgffmaaaGreatDoor
namespace Go.Proofs.YtpebgkkmgffmaaaGreatDoor
open Go Go.V
set_option maxHeartbeats 8000000
set_option maxRecDepth 8192
variable{g w:World}{L:List HP}
theorem Zgm(xs ys:List (Int×Int))(a b:Option Addr)(c d:Nat)(hl:xs.length≤1000000000)(Z:St g (Sh 32 2 (Zm xs) a c::Sh 32 2 (Zm ys) b d::L) w) :
  Cp g L 10 [.slice a (Zm xs).length c,.slice b (Zm ys).length d] w fun rV=>∃(ok:Bool),rV (.bool ok) [Sh 32 2 (Zm xs) a c,Sh 32 2 (Zm ys) b d] (ok=true↔xs=ys):=by
 refine Sp.en Tryz.func10 ?_
 have _:=hl
 have h1:=Zu xs;have h2:=Zu ys
 refine Sz ?_
 refine Zsi (fun cd1=>?_) fun cd1=>?_
 ·exact⟨_,rfl,Z,⟨fun h=>(by cases h),fun h=>by rw[h1,h2,h] at cd1;exact absurd rfl cd1⟩⟩
 refine Zst [0,1] [5] (fun kM vs jS=>∃(k:Nat),vs=[.I (k:Int)]∧jS []∧(k≤xs.length)∧(xs.take k=ys.take k)∧(xs.length-k)=kM) rfl ⟨0,rfl,Z,(Nat.zero_le _),rfl,rfl⟩ ?_
 rintro _ _ w j ⟨k,rfl,Z,hk,he,rfl⟩
 replace Z:=Z.z
 refine Sz ?_
 refine Zsi (fun cd2=>?_) fun cd2=>?_
 ·refine Zsg [([0,1,4,5,2,6,3,7,8],none)] ?_
  obtain⟨x,hx⟩:∃x,xs[k]?=some x:=⟨_,List.getElem?_eq_getElem (by omega)⟩
  refine Qz ?_
  refine Zsj rfl rfl (i:=(k:Int)) (k) el_22 rfl rfl (by omega) (X1 (Zd hx)) (Z.rdS 0 rfl (Zd hx)).1 ?_
  obtain⟨y,hy⟩:∃y,ys[k]?=some y:=⟨_,List.getElem?_eq_getElem (by omega)⟩
  refine Zsj rfl rfl (i:=(k:Int)) (k) el_22 rfl rfl (by omega) (X1 (Zd hy)) (Z.rdS 1 rfl (Zd hy)).1 ?_
  refine Ztq rfl rfl [.I x.1,.I x.2] ag_32.h rfl (Z.rdS 0 rfl (Zd hx)).2<|Ztq rfl rfl [.I y.1,.I y.2] ag_32.h rfl (Z.rdS 1 rfl (Zd hy)).2<|Zvo rfl rfl Zog (xs:=[.I x.1,.I x.2]) (ys:=[.I y.1,.I y.2]) rfl rfl rfl rfl<|Zvl 25 rfl (Jy (Zy (dd _) (dd _))) ?_
  refine Qd fun w Z=>?_
  refine Zsi (fun cd3=>?_) fun cd3=>?_
  ·exact⟨_,rfl,Z,⟨fun h=>(by cases h),fun h=>by subst h;rw[hx] at hy;cases hy;exact absurd ⟨rfl,rfl⟩ cd3⟩⟩
  exact⟨_,by omega,rfl,k+1,rfl,Z,(by omega),(by rw[List.take_add_one,List.take_add_one,he,hx,hy,Prod.ext (Classical.not_not.1 cd3).1 (Classical.not_not.1 cd3).2]),rfl⟩
 exact⟨_,rfl,Z,⟨fun _=>by rw[←List.take_of_length_le (i:=k) (l:=xs) (by omega),he,List.take_of_length_le (by omega)],fun _=>rfl⟩⟩
theorem Zha(xs ys:List (Int×Int×Int×Int))(a b:Option Addr)(c d:Nat)(hl:xs.length≤1000000000)(Z:St g (Sh 181 4 (Yo xs) a c::Sh 181 4 (Yo ys) b d::L) w) :
  Cp g L 50 [.slice a (Yo xs).length c,.slice b (Yo ys).length d] w fun rV=>∃(ok:Bool),rV (.bool ok) [Sh 181 4 (Yo xs) a c,Sh 181 4 (Yo ys) b d] (ok=true↔xs=ys):=by
 refine Sp.en Tryz.func50 ?_
 have _:=hl
 have h1:=ZH xs;have h2:=ZH ys
 refine Sz ?_
 refine Zsr rfl (fun cd1=>?_) (fun cd1=>?_)
 ·refine Sz ?_
  exact⟨_,rfl,Z,⟨fun h=>(by cases h),fun h=>by rw[h1,h2,h] at cd1;exact absurd rfl cd1⟩⟩
 have hq:∀(x y:Int×Int×Int×Int),(x.1=y.1∧x.2.1=y.2.1∧x.2.2.1=y.2.2.1∧x.2.2.2=y.2.2.2)→x=y:=fun x y h=>Prod.ext h.1 (Prod.ext h.2.1 (Prod.ext h.2.2.1 h.2.2.2))
 refine Sz ?_
 refine Zst [0,1] [5] (fun kM vs jS=>∃(k:Nat),vs=[.I (k:Int)]∧jS []∧(k≤xs.length)∧(xs.take k=ys.take k)∧(xs.length-k)=kM) rfl ⟨0,rfl,Z,(Nat.zero_le _),rfl,rfl⟩ ?_
 rintro _ _ w j ⟨k,rfl,Z,hk,he,rfl⟩
 replace Z:=Z.z
 have hq:∀(x y:Int×Int×Int×Int),(x.1=y.1∧x.2.1=y.2.1∧x.2.2.1=y.2.2.1∧x.2.2.2=y.2.2.2)→x=y:=fun x y h=>Prod.ext h.1 (Prod.ext h.2.1 (Prod.ext h.2.2.1 h.2.2.2))
 refine Sz ?_
 refine Zsi (fun cd2=>?_) fun cd2=>?_
 ·refine Zsg [([0,1,4,5,2,6,3,7,8],none)] ?_
  obtain⟨x,hx⟩:∃x,xs[k]?=some x:=⟨_,List.getElem?_eq_getElem (by omega)⟩
  refine Qz ?_
  refine Zsj rfl rfl (i:=(k:Int)) (k) el_35 rfl rfl (by omega) (X1 (ZP hx)) (Z.rdS 0 rfl (ZP hx)).1 ?_
  obtain⟨y,hy⟩:∃y,ys[k]?=some y:=⟨_,List.getElem?_eq_getElem (by omega)⟩
  refine Zsj rfl rfl (i:=(k:Int)) (k) el_35 rfl rfl (by omega) (X1 (ZP hy)) (Z.rdS 1 rfl (ZP hy)).1 ?_
  refine Ztq rfl rfl [.I x.1,.I x.2.1,.I x.2.2.1,.I x.2.2.2] ag_181.h rfl (Z.rdS 0 rfl (ZP hx)).2<|Ztq rfl rfl [.I y.1,.I y.2.1,.I y.2.2.1,.I y.2.2.2] ag_181.h rfl (Z.rdS 1 rfl (ZP hy)).2<|Zvo rfl rfl Zo8 (xs:=[.I x.1,.I x.2.1,.I x.2.2.1,.I x.2.2.2]) (ys:=[.I y.1,.I y.2.1,.I y.2.2.1,.I y.2.2.2]) rfl rfl rfl rfl<|Zvl 25 rfl (Jy (Zy (dd _) (Zy (dd _) (Zy (dd _) (dd _))))) ?_
  refine Qd fun w Z=>?_
  refine Zsr rfl (fun cd3=>?_) (fun cd3=>?_)
  ·as_aux_lemma =>
   refine Sz ?_
   exact⟨_,rfl,Z,⟨fun h=>(by cases h),fun h=>by subst h;rw[hx] at hy;cases hy;exact absurd ⟨rfl,rfl,rfl,rfl⟩ cd3⟩⟩
  as_aux_lemma =>
  refine Sz ?_
  exact⟨_,by omega,rfl,k+1,rfl,Z,(by omega),(by rw[List.take_add_one,List.take_add_one,he,hx,hy,hq _ _ (Classical.not_not.1 cd3)]),rfl⟩
 exact⟨_,rfl,Z,⟨fun _=>by rw[←List.take_of_length_le (i:=k) (l:=xs) (by omega),he,List.take_of_length_le (by omega)],fun _=>rfl⟩⟩
end Go.Proofs.YtpebgkkmgffmaaaGreatDoor
namespace Go.V
open Go
def YW(f:Int)(x y:OpM):OpM :=
 if f=65 then { y with a:=x.a }
 else if f=66 then { y with b:=x.b }
 else if f=75 then { y with key:=x.key }
 else if f=86 then { y with val:=x.val }
 else if f=76 then { y with lo:=x.lo }
 else if f=72 then { y with hi:=x.hi }
 else if f=78 then { y with n:=x.n }
 else if f=70 then { y with flag:=x.flag }
 else if f=83 then { y with name:=x.name }
 else if f=89 then { y with bytes:=x.bytes }
 else if f=69 then { y with ents:=x.ents }
 else if f=67 then { y with chs:=x.chs }
 else y
theorem Zr3{x y:OpM}:YW 65 x y={ y with a:=x.a }:=rfl
theorem Zo4{x y:OpM}:YW 66 x y={ y with b:=x.b }:=rfl
theorem Zr9{x y:OpM}:YW 75 x y={ y with key:=x.key }:=rfl
theorem Zr6{x y:OpM}:YW 86 x y={ y with val:=x.val }:=rfl
theorem Zpz{x y:OpM}:YW 76 x y={ y with lo:=x.lo }:=rfl
theorem Zpc{x y:OpM}:YW 72 x y={ y with hi:=x.hi }:=rfl
theorem Zpn{x y:OpM}:YW 78 x y={ y with n:=x.n }:=rfl
theorem Zpr{x y:OpM}:YW 70 x y={ y with flag:=x.flag }:=rfl
theorem Zpt{x y:OpM}:YW 83 x y={ y with name:=x.name }:=rfl
theorem Zqd{x y:OpM}:YW 89 x y={ y with bytes:=x.bytes }:=rfl
theorem Zo7{x y:OpM}:YW 69 x y={ y with ents:=x.ents }:=rfl
theorem Zrs{x y:OpM}:YW 67 x y={ y with chs:=x.chs }:=rfl
def ZQ:List Int→OpM→OpM→OpM
 |[],_,y=>y
 |f::l,x,y=>ZQ l x (YW f x y)
theorem Yq{l:List Int}{x y:OpM}{k:Nat}(h:k<l.length):ZQ (l.drop k) x y=ZQ (l.drop (k+1)) x (YW (l.getD k 0) x y):=by rw[Dl h];rfl
theorem Zew{l:List Int}{x y:OpM}{k:Nat}(h:¬k<l.length):ZQ (l.drop k) x y=y:=by rw[List.drop_eq_nil_of_le (by omega)];rfl
def only(x:OpM):OpM:=ZQ (fs x.code) x (op0 x.code)
def SelA{α:Type}(a2:Option Addr)(c2:Nat)(ms:List α)(a:Option Addr)(c:Nat)(ls:List α):Prop:=(a2=a∧c2=c∧ms=ls)∨(a2=none∧c2=0∧ms=[])
theorem SelA.same{α:Type}{a:Option Addr}{c:Nat}{ls:List α}:SelA a c ls a c ls:=.inl ⟨rfl,rfl,rfl⟩
theorem SelA.nil{α:Type}{a:Option Addr}{c:Nat}{ls:List α}:SelA none 0 [] a c ls:=.inr ⟨rfl,rfl,rfl⟩
theorem St.selA{α:Type}{g w:World}{L:List HP}{e size:Nat}{en:List α→List (List Value)}{ms ls:List α}{a a2:Option Addr}{c c2:Nat}(Z:St g L w)(i:Nat)(hi:L[i]?=some (Sh e size (en ls) a c))(he:en []=[])(h:SelA a2 c2 ms a c ls):St g (Sh e size (en ms) a2 c2::L) w:=by
 rcases h with⟨rfl,rfl,rfl⟩|⟨rfl,rfl,rfl⟩
 ·exact Z.dup i hi fun _ _ h=>Sh.dup h
 rw[he];exact Z.nilS _ _
theorem OpM.ext'{x y:OpM}(h:x.code=y.code∧x.a=y.a∧x.b=y.b∧x.key=y.key∧x.val=y.val∧x.lo=y.lo∧x.hi=y.hi∧x.n=y.n∧x.flag=y.flag∧x.name=y.name∧x.bytes=y.bytes∧x.ents=y.ents∧x.chs=y.chs):x=y:=by
 cases x;cases y;simp only[OpM.mk.injEq];exact h
theorem Zdc{l m:List Int}(hl:B8 l)(hm:B8 m)(h:JG l=JG m):l=m:=by rw[←Zax hl,←Zax hm,h]
def Zf8(x:OpM):Prop:=CW x.code=true∧x=only x∧OpL x∧(∀c∈x.chs,0≤c.1∧c.1≤255)
theorem Yx{f:Int}{x y:OpM}(h:¬Z8 f):YW f x y=y:=by
 unfold Z8 at h
 unfold YW
 rw[if_neg (by omega)]
 rw[if_neg (by omega)]
 rw[if_neg (by omega)]
 rw[if_neg (by omega)]
 rw[if_neg (by omega)]
 rw[if_neg (by omega)]
 rw[if_neg (by omega)]
 rw[if_neg (by omega)]
 rw[if_neg (by omega)]
 rw[if_neg (by omega)]
 rw[if_neg (by omega)]
 rw[if_neg (by omega)]
theorem Ze5{f:Int}{x y:OpM}:(YW f x y).code=y.code:=by
 by_cases hf:Z8 f
 ·unfold Z8 at hf
  rcases hf with rfl|rfl|rfl|rfl|rfl|rfl|rfl|rfl|rfl|rfl|rfl|rfl<;>rfl
 rw[Yx hf]
theorem Zac{f:Int}{x y:OpM}(hx:B8 x.bytes)(hy:B8 y.bytes):B8 (YW f x y).bytes:=by
 by_cases hf:Z8 f
 ·unfold Z8 at hf
  rcases hf with rfl|rfl|rfl|rfl|rfl|rfl|rfl|rfl|rfl|rfl|rfl|rfl<;>first|exact hy|exact hx
 rw[Yx hf];exact hy
theorem HQ:∀{l:List Int}{x y:OpM},(ZQ l x y).code=y.code
 |[],_,_=>rfl
 |_::l,x,y=>by rw[ZQ,HQ,Ze5]
theorem Zmn{x:OpM}(h:B8 x.bytes):B8 (only x).bytes:=by
 have h1:∀(l:List Int)(y:OpM),B8 y.bytes→B8 (ZQ l x y).bytes:=by
  intro l
  induction l with
  |nil=>exact fun y hy=>hy
  |cons f l ih =>
   intro y hy
   exact ih _ (Zac h hy)
 exact h1 _ _ (fun _ h=>by cases h)
theorem Zmk{f:Int}{x y:OpM}:(YW f x y).a=if f=65 then x.a else y.a:=by
 by_cases hf:Z8 f
 ·unfold Z8 at hf
  rcases hf with rfl|rfl|rfl|rfl|rfl|rfl|rfl|rfl|rfl|rfl|rfl|rfl<;>rfl
 rw[Yx hf,if_neg (by unfold Z8 at hf;omega)]
theorem Zcj:∀{l:List Int}{x y:OpM},(ZQ l x y).a=if 65∈l then x.a else y.a
 |[],_,_=>rfl
 |g::l,x,y=>by
  rw[ZQ,Zcj,Zmk]
  by_cases h1:(65:Int)∈l
  ·rw[if_pos h1,if_pos (List.mem_cons_of_mem _ h1)]
  rw[if_neg h1]
  by_cases h2:g=65
  ·rw[if_pos h2,if_pos (by rw[h2];exact List.mem_cons_self ..)]
  rw[if_neg h2,if_neg (by simp only[List.mem_cons,not_or];exact⟨fun h=>h2 h.symm,h1⟩)]
theorem Zlq{f:Int}{x y:OpM}:(YW f x y).b=if f=66 then x.b else y.b:=by
 by_cases hf:Z8 f
 ·unfold Z8 at hf
  rcases hf with rfl|rfl|rfl|rfl|rfl|rfl|rfl|rfl|rfl|rfl|rfl|rfl<;>rfl
 rw[Yx hf,if_neg (by unfold Z8 at hf;omega)]
theorem Zd8:∀{l:List Int}{x y:OpM},(ZQ l x y).b=if 66∈l then x.b else y.b
 |[],_,_=>rfl
 |g::l,x,y=>by
  rw[ZQ,Zd8,Zlq]
  by_cases h1:(66:Int)∈l
  ·rw[if_pos h1,if_pos (List.mem_cons_of_mem _ h1)]
  rw[if_neg h1]
  by_cases h2:g=66
  ·rw[if_pos h2,if_pos (by rw[h2];exact List.mem_cons_self ..)]
  rw[if_neg h2,if_neg (by simp only[List.mem_cons,not_or];exact⟨fun h=>h2 h.symm,h1⟩)]
theorem Zkx{f:Int}{x y:OpM}:(YW f x y).key=if f=75 then x.key else y.key:=by
 by_cases hf:Z8 f
 ·unfold Z8 at hf
  rcases hf with rfl|rfl|rfl|rfl|rfl|rfl|rfl|rfl|rfl|rfl|rfl|rfl<;>rfl
 rw[Yx hf,if_neg (by unfold Z8 at hf;omega)]
theorem Zck:∀{l:List Int}{x y:OpM},(ZQ l x y).key=if 75∈l then x.key else y.key
 |[],_,_=>rfl
 |g::l,x,y=>by
  rw[ZQ,Zck,Zkx]
  by_cases h1:(75:Int)∈l
  ·rw[if_pos h1,if_pos (List.mem_cons_of_mem _ h1)]
  rw[if_neg h1]
  by_cases h2:g=75
  ·rw[if_pos h2,if_pos (by rw[h2];exact List.mem_cons_self ..)]
  rw[if_neg h2,if_neg (by simp only[List.mem_cons,not_or];exact⟨fun h=>h2 h.symm,h1⟩)]
theorem Zn0{f:Int}{x y:OpM}:(YW f x y).val=if f=86 then x.val else y.val:=by
 by_cases hf:Z8 f
 ·unfold Z8 at hf
  rcases hf with rfl|rfl|rfl|rfl|rfl|rfl|rfl|rfl|rfl|rfl|rfl|rfl<;>rfl
 rw[Yx hf,if_neg (by unfold Z8 at hf;omega)]
theorem Zcn:∀{l:List Int}{x y:OpM},(ZQ l x y).val=if 86∈l then x.val else y.val
 |[],_,_=>rfl
 |g::l,x,y=>by
  rw[ZQ,Zcn,Zn0]
  by_cases h1:(86:Int)∈l
  ·rw[if_pos h1,if_pos (List.mem_cons_of_mem _ h1)]
  rw[if_neg h1]
  by_cases h2:g=86
  ·rw[if_pos h2,if_pos (by rw[h2];exact List.mem_cons_self ..)]
  rw[if_neg h2,if_neg (by simp only[List.mem_cons,not_or];exact⟨fun h=>h2 h.symm,h1⟩)]
theorem Zk1{f:Int}{x y:OpM}:(YW f x y).lo=if f=76 then x.lo else y.lo:=by
 by_cases hf:Z8 f
 ·unfold Z8 at hf
  rcases hf with rfl|rfl|rfl|rfl|rfl|rfl|rfl|rfl|rfl|rfl|rfl|rfl<;>rfl
 rw[Yx hf,if_neg (by unfold Z8 at hf;omega)]
theorem Zc0:∀{l:List Int}{x y:OpM},(ZQ l x y).lo=if 76∈l then x.lo else y.lo
 |[],_,_=>rfl
 |g::l,x,y=>by
  rw[ZQ,Zc0,Zk1]
  by_cases h1:(76:Int)∈l
  ·rw[if_pos h1,if_pos (List.mem_cons_of_mem _ h1)]
  rw[if_neg h1]
  by_cases h2:g=76
  ·rw[if_pos h2,if_pos (by rw[h2];exact List.mem_cons_self ..)]
  rw[if_neg h2,if_neg (by simp only[List.mem_cons,not_or];exact⟨fun h=>h2 h.symm,h1⟩)]
theorem Znh{f:Int}{x y:OpM}:(YW f x y).hi=if f=72 then x.hi else y.hi:=by
 by_cases hf:Z8 f
 ·unfold Z8 at hf
  rcases hf with rfl|rfl|rfl|rfl|rfl|rfl|rfl|rfl|rfl|rfl|rfl|rfl<;>rfl
 rw[Yx hf,if_neg (by unfold Z8 at hf;omega)]
theorem Zeb:∀{l:List Int}{x y:OpM},(ZQ l x y).hi=if 72∈l then x.hi else y.hi
 |[],_,_=>rfl
 |g::l,x,y=>by
  rw[ZQ,Zeb,Znh]
  by_cases h1:(72:Int)∈l
  ·rw[if_pos h1,if_pos (List.mem_cons_of_mem _ h1)]
  rw[if_neg h1]
  by_cases h2:g=72
  ·rw[if_pos h2,if_pos (by rw[h2];exact List.mem_cons_self ..)]
  rw[if_neg h2,if_neg (by simp only[List.mem_cons,not_or];exact⟨fun h=>h2 h.symm,h1⟩)]
theorem Zmm{f:Int}{x y:OpM}:(YW f x y).n=if f=78 then x.n else y.n:=by
 by_cases hf:Z8 f
 ·unfold Z8 at hf
  rcases hf with rfl|rfl|rfl|rfl|rfl|rfl|rfl|rfl|rfl|rfl|rfl|rfl<;>rfl
 rw[Yx hf,if_neg (by unfold Z8 at hf;omega)]
theorem Zbv:∀{l:List Int}{x y:OpM},(ZQ l x y).n=if 78∈l then x.n else y.n
 |[],_,_=>rfl
 |g::l,x,y=>by
  rw[ZQ,Zbv,Zmm]
  by_cases h1:(78:Int)∈l
  ·rw[if_pos h1,if_pos (List.mem_cons_of_mem _ h1)]
  rw[if_neg h1]
  by_cases h2:g=78
  ·rw[if_pos h2,if_pos (by rw[h2];exact List.mem_cons_self ..)]
  rw[if_neg h2,if_neg (by simp only[List.mem_cons,not_or];exact⟨fun h=>h2 h.symm,h1⟩)]
theorem Zky{f:Int}{x y:OpM}:(YW f x y).flag=if f=70 then x.flag else y.flag:=by
 by_cases hf:Z8 f
 ·unfold Z8 at hf
  rcases hf with rfl|rfl|rfl|rfl|rfl|rfl|rfl|rfl|rfl|rfl|rfl|rfl<;>rfl
 rw[Yx hf,if_neg (by unfold Z8 at hf;omega)]
theorem Zcm:∀{l:List Int}{x y:OpM},(ZQ l x y).flag=if 70∈l then x.flag else y.flag
 |[],_,_=>rfl
 |g::l,x,y=>by
  rw[ZQ,Zcm,Zky]
  by_cases h1:(70:Int)∈l
  ·rw[if_pos h1,if_pos (List.mem_cons_of_mem _ h1)]
  rw[if_neg h1]
  by_cases h2:g=70
  ·rw[if_pos h2,if_pos (by rw[h2];exact List.mem_cons_self ..)]
  rw[if_neg h2,if_neg (by simp only[List.mem_cons,not_or];exact⟨fun h=>h2 h.symm,h1⟩)]
theorem Znx{f:Int}{x y:OpM}:(YW f x y).name=if f=83 then x.name else y.name:=by
 by_cases hf:Z8 f
 ·unfold Z8 at hf
  rcases hf with rfl|rfl|rfl|rfl|rfl|rfl|rfl|rfl|rfl|rfl|rfl|rfl<;>rfl
 rw[Yx hf,if_neg (by unfold Z8 at hf;omega)]
theorem Zce:∀{l:List Int}{x y:OpM},(ZQ l x y).name=if 83∈l then x.name else y.name
 |[],_,_=>rfl
 |g::l,x,y=>by
  rw[ZQ,Zce,Znx]
  by_cases h1:(83:Int)∈l
  ·rw[if_pos h1,if_pos (List.mem_cons_of_mem _ h1)]
  rw[if_neg h1]
  by_cases h2:g=83
  ·rw[if_pos h2,if_pos (by rw[h2];exact List.mem_cons_self ..)]
  rw[if_neg h2,if_neg (by simp only[List.mem_cons,not_or];exact⟨fun h=>h2 h.symm,h1⟩)]
theorem Zkn{f:Int}{x y:OpM}:(YW f x y).bytes=if f=89 then x.bytes else y.bytes:=by
 by_cases hf:Z8 f
 ·unfold Z8 at hf
  rcases hf with rfl|rfl|rfl|rfl|rfl|rfl|rfl|rfl|rfl|rfl|rfl|rfl<;>rfl
 rw[Yx hf,if_neg (by unfold Z8 at hf;omega)]
theorem Zc5:∀{l:List Int}{x y:OpM},(ZQ l x y).bytes=if 89∈l then x.bytes else y.bytes
 |[],_,_=>rfl
 |g::l,x,y=>by
  rw[ZQ,Zc5,Zkn]
  by_cases h1:(89:Int)∈l
  ·rw[if_pos h1,if_pos (List.mem_cons_of_mem _ h1)]
  rw[if_neg h1]
  by_cases h2:g=89
  ·rw[if_pos h2,if_pos (by rw[h2];exact List.mem_cons_self ..)]
  rw[if_neg h2,if_neg (by simp only[List.mem_cons,not_or];exact⟨fun h=>h2 h.symm,h1⟩)]
theorem Zk5{f:Int}{x y:OpM}:(YW f x y).ents=if f=69 then x.ents else y.ents:=by
 by_cases hf:Z8 f
 ·unfold Z8 at hf
  rcases hf with rfl|rfl|rfl|rfl|rfl|rfl|rfl|rfl|rfl|rfl|rfl|rfl<;>rfl
 rw[Yx hf,if_neg (by unfold Z8 at hf;omega)]
theorem Zct:∀{l:List Int}{x y:OpM},(ZQ l x y).ents=if 69∈l then x.ents else y.ents
 |[],_,_=>rfl
 |g::l,x,y=>by
  rw[ZQ,Zct,Zk5]
  by_cases h1:(69:Int)∈l
  ·rw[if_pos h1,if_pos (List.mem_cons_of_mem _ h1)]
  rw[if_neg h1]
  by_cases h2:g=69
  ·rw[if_pos h2,if_pos (by rw[h2];exact List.mem_cons_self ..)]
  rw[if_neg h2,if_neg (by simp only[List.mem_cons,not_or];exact⟨fun h=>h2 h.symm,h1⟩)]
theorem Zk8{f:Int}{x y:OpM}:(YW f x y).chs=if f=67 then x.chs else y.chs:=by
 by_cases hf:Z8 f
 ·unfold Z8 at hf
  rcases hf with rfl|rfl|rfl|rfl|rfl|rfl|rfl|rfl|rfl|rfl|rfl|rfl<;>rfl
 rw[Yx hf,if_neg (by unfold Z8 at hf;omega)]
theorem Zca:∀{l:List Int}{x y:OpM},(ZQ l x y).chs=if 67∈l then x.chs else y.chs
 |[],_,_=>rfl
 |g::l,x,y=>by
  rw[ZQ,Zca,Zk8]
  by_cases h1:(67:Int)∈l
  ·rw[if_pos h1,if_pos (List.mem_cons_of_mem _ h1)]
  rw[if_neg h1]
  by_cases h2:g=67
  ·rw[if_pos h2,if_pos (by rw[h2];exact List.mem_cons_self ..)]
  rw[if_neg h2,if_neg (by simp only[List.mem_cons,not_or];exact⟨fun h=>h2 h.symm,h1⟩)]
theorem Zg3(x:OpM):x=only x↔He x:=by
 have e:∀{α:Type}{p:Prop} [Decidable p] {v z:α},(v=if p then v else z)↔(¬p→v=z):=fun {α p _ v z}=>by
  by_cases h:p<;>simp[h]
 have key:x=only x↔(x.code=(only x).code∧x.a=(only x).a∧x.b=(only x).b∧x.key=(only x).key∧x.val=(only x).val∧x.lo=(only x).lo∧x.hi=(only x).hi∧x.n=(only x).n∧x.flag=(only x).flag∧x.name=(only x).name∧x.bytes=(only x).bytes∧x.ents=(only x).ents∧x.chs=(only x).chs) :=
  ⟨fun h=>by rw[←h];exact⟨rfl,rfl,rfl,rfl,rfl,rfl,rfl,rfl,rfl,rfl,rfl,rfl,rfl⟩,OpM.ext'⟩
 rw[key]
 unfold only He
 rw[HQ,Zcj,Zd8,Zck,Zcn,Zc0,Zeb,Zbv,Zcm,Zce,Zc5,Zct,Zca]
 simp only[e,op0,true_and,List.length_eq_zero_iff]
theorem Zp1(x:OpM):QD x↔Zf8 x:=by
 unfold QD Zf8
 rw[Zg3]
 constructor
 ·rintro⟨h1,h2,h3,h4⟩;exact⟨h1,h4,h2,h3⟩
 rintro⟨h1,h4,h2,h3⟩;exact⟨h1,h2,h3,h4⟩
def Zch(x:OpM):Prop:=x.name.size≤300∧x.bytes.length≤300∧x.ents.length≤100∧x.chs.length≤100
instance(x:OpM):Decidable (Zch x):=by unfold Zch;infer_instance
structure OpT(x:OpM):Prop where
 w:OpW x
 code:QG x.code
 n:QG x.n
 by_:B8 x.bytes
structure OpZ where
 m:OpM
 ab:Option Addr
 ae:Option Addr
 ac:Option Addr
 cb:Nat
 ce:Nat
 cc:Nat
def opC(z:OpZ):List Value:=[.int .i64 z.m.code,.int .u64 z.m.a,.int .u64 z.m.b,.int .i64 z.m.key,.int .i64 z.m.val,.int .i64 z.m.lo,.int .i64 z.m.hi,.int .i64 z.m.n,.bool z.m.flag,.string z.m.name,.slice z.ab (Jk z.m.bytes).length z.cb,.slice z.ae (Zm z.m.ents).length z.ce,.slice z.ac (Yo z.m.chs).length z.cc]
def enOp(zs:List OpZ):List (List Value):=zs.map opC
@[simp] theorem enOp_len(l:List OpZ):(enOp l).length=l.length:=by simp[enOp]
end Go.V
namespace Go.Proofs.YtpebgkkmgffmaaaGreatDoor
open Go Go.V
set_option maxHeartbeats 8000000
set_option maxRecDepth 8192
variable{g w:World}{L:List HP}
theorem Zfc(x:OpM)(ab ae ac:Option Addr)(cb ce cc:Nat)(Z:St g (Sh 5 1 (Jk x.bytes) ab cb::Sh 32 2 (Zm x.ents) ae ce::Sh 181 4 (Yo x.chs) ac cc::L) w) :
  Zr g L 281 [.agg #[.I x.code,.U x.a,.U x.b,.I x.key,.I x.val,.I x.lo,.I x.hi,.I x.n,.bool x.flag,.string x.name,.slice ab (Jk x.bytes).length cb,.slice ae (Zm x.ents).length ce,.slice ac (Yo x.chs).length cc]] w fun rV=>∃(ab2 ae2 ac2:Option Addr)(cb2 ce2 cc2:Nat),rV (.agg #[.I (only x).code,.U (only x).a,.U (only x).b,.I (only x).key,.I (only x).val,.I (only x).lo,.I (only x).hi,.I (only x).n,.bool (only x).flag,.string (only x).name,.slice ab2 (Jk (only x).bytes).length cb2,.slice ae2 (Zm (only x).ents).length ce2,.slice ac2 (Yo (only x).chs).length cc2]) [Sh 5 1 (Jk (only x).bytes) ab2 cb2,Sh 32 2 (Zm (only x).ents) ae2 ce2,Sh 181 4 (Yo (only x).chs) ac2 cc2,Sh 5 1 (Jk x.bytes) ab cb,Sh 32 2 (Zm x.ents) ae ce,Sh 181 4 (Yo x.chs) ac cc]:=by
 refine Sp.en Tryz.func281 ?_
 refine Zsp fun b1 w Z=>?_
 refine Zsk fun b2 w Z=>?_
 refine Zse (UH x.code Z) fun w Z=>?_
 have hsz:=Zga x.code;have h6:=Zqj x.code
 refine Sz ?_
 refine Zs4 rfl rfl (cs:=[.I x.code,.U 0,.U 0,.I 0,.I 0,.I 0,.I 0,.I 0,.bool false,.string ⟨#[]⟩,.N,.N,.N]) zv_43.h rfl rfl<|Zsk fun b3 w Z=>?_
 refine Zsh fun w Z=>?_
 refine Zst [1,2,3,5] [6] (fun kM vs jS=>∃(k:Nat)(y:OpM)(ab2 ae2 ac2:Option Addr)(cb2 ce2 cc2:Nat),vs=[.I (k:Int)]∧jS [Zq b3 #[.I y.code,.U y.a,.U y.b,.I y.key,.I y.val,.I y.lo,.I y.hi,.I y.n,.bool y.flag,.string y.name,.slice ab2 (Jk y.bytes).length cb2,.slice ae2 (Zm y.ents).length ce2,.slice ac2 (Yo y.chs).length cc2] 43]∧(k≤(fs x.code).length)∧(only x=ZQ ((fs x.code).drop k) x y)∧(SelA ab2 cb2 y.bytes ab cb x.bytes)∧(SelA ae2 ce2 y.ents ae ce x.ents)∧(SelA ac2 cc2 y.chs ac cc x.chs)∧((fs x.code).length-k)=kM) rfl ⟨0,op0 x.code,none,none,none,0,0,0,rfl,Z,(Nat.zero_le _),rfl,SelA.nil,SelA.nil,SelA.nil,rfl⟩ ?_
 rintro _ _ w j ⟨k,y,ab2,ae2,ac2,cb2,ce2,cc2,rfl,Z,hk,hr,hs1,hs2,hs3,rfl⟩
 replace Z:=Z.z
 refine Sz ?_
 refine Zsi (fun cd1=>?_) fun cd1=>?_
 ·refine Zt2 rfl rfl (v:=(k:Int)) (k) rfl rfl rfl (by omega) (Zpw (by omega)) ?_
  refine Sz ?_
  refine Zsi (fun cd2=>?_) fun cd2=>?_
  ·refine Zss fun w Z=>?_
   exact⟨_,by omega,rfl,k+1,{ y with a:=x.a },ab2,ae2,ac2,cb2,ce2,cc2,rfl,Z,(by omega),(by rw[hr,Yq (by omega),show(fs x.code).getD k 0=65 by omega,Zr3]),hs1,hs2,hs3,rfl⟩
  refine Zsi (fun cd3=>?_) fun cd3=>?_
  ·refine Zss fun w Z=>?_
   exact⟨_,by omega,rfl,k+1,{ y with b:=x.b },ab2,ae2,ac2,cb2,ce2,cc2,rfl,Z,(by omega),(by rw[hr,Yq (by omega),show(fs x.code).getD k 0=66 by omega,Zo4]),hs1,hs2,hs3,rfl⟩
  refine Zsi (fun cd4=>?_) fun cd4=>?_
  ·refine Zss fun w Z=>?_
   exact⟨_,by omega,rfl,k+1,{ y with key:=x.key },ab2,ae2,ac2,cb2,ce2,cc2,rfl,Z,(by omega),(by rw[hr,Yq (by omega),show(fs x.code).getD k 0=75 by omega,Zr9]),hs1,hs2,hs3,rfl⟩
  refine Zsi (fun cd5=>?_) fun cd5=>?_
  ·refine Zss fun w Z=>?_
   exact⟨_,by omega,rfl,k+1,{ y with val:=x.val },ab2,ae2,ac2,cb2,ce2,cc2,rfl,Z,(by omega),(by rw[hr,Yq (by omega),show(fs x.code).getD k 0=86 by omega,Zr6]),hs1,hs2,hs3,rfl⟩
  refine Zsi (fun cd6=>?_) fun cd6=>?_
  ·refine Zss fun w Z=>?_
   exact⟨_,by omega,rfl,k+1,{ y with lo:=x.lo },ab2,ae2,ac2,cb2,ce2,cc2,rfl,Z,(by omega),(by rw[hr,Yq (by omega),show(fs x.code).getD k 0=76 by omega,Zpz]),hs1,hs2,hs3,rfl⟩
  refine Zsi (fun cd7=>?_) fun cd7=>?_
  ·refine Zss fun w Z=>?_
   exact⟨_,by omega,rfl,k+1,{ y with hi:=x.hi },ab2,ae2,ac2,cb2,ce2,cc2,rfl,Z,(by omega),(by rw[hr,Yq (by omega),show(fs x.code).getD k 0=72 by omega,Zpc]),hs1,hs2,hs3,rfl⟩
  refine Zsr rfl (fun cd8=>?_) (fun cd8=>?_)
  ·refine Sz ?_
   refine Zss fun w Z=>?_
   as_aux_lemma =>
   refine Sz ?_
   exact⟨_,by omega,rfl,k+1,{ y with n:=x.n },ab2,ae2,ac2,cb2,ce2,cc2,rfl,Z,(by omega),(by rw[hr,Yq (by omega),show(fs x.code).getD k 0=78 by omega,Zpn]),hs1,hs2,hs3,rfl⟩
  as_aux_lemma =>
  refine Sz ?_
  refine Zsi (fun cd9=>?_) fun cd9=>?_
  ·refine Zss fun w Z=>?_
   exact⟨_,by omega,rfl,k+1,{ y with flag:=x.flag },ab2,ae2,ac2,cb2,ce2,cc2,rfl,Z,(by omega),(by rw[hr,Yq (by omega),show(fs x.code).getD k 0=70 by omega,Zpr]),hs1,hs2,hs3,rfl⟩
  refine Zsi (fun cd10=>?_) fun cd10=>?_
  ·refine Zss fun w Z=>?_
   exact⟨_,by omega,rfl,k+1,{ y with name:=x.name },ab2,ae2,ac2,cb2,ce2,cc2,rfl,Z,(by omega),(by rw[hr,Yq (by omega),show(fs x.code).getD k 0=83 by omega,Zpt]),hs1,hs2,hs3,rfl⟩
  refine Zsi (fun cd11=>?_) fun cd11=>?_
  ·refine Zss fun w Z=>?_
   exact⟨_,by omega,rfl,k+1,{ y with bytes:=x.bytes },ab,ae2,ac2,cb,ce2,cc2,rfl,Z,(by omega),(by rw[hr,Yq (by omega),show(fs x.code).getD k 0=89 by omega,Zqd]),SelA.same,hs2,hs3,rfl⟩
  refine Zsi (fun cd12=>?_) fun cd12=>?_
  ·refine Zss fun w Z=>?_
   exact⟨_,by omega,rfl,k+1,{ y with ents:=x.ents },ab2,ae,ac2,cb2,ce,cc2,rfl,Z,(by omega),(by rw[hr,Yq (by omega),show(fs x.code).getD k 0=69 by omega,Zo7]),hs1,SelA.same,hs3,rfl⟩
  refine Zsi (fun cd13=>?_) fun cd13=>?_
  ·refine Zss fun w Z=>?_
   exact⟨_,by omega,rfl,k+1,{ y with chs:=x.chs },ab2,ae2,ac,cb2,ce2,cc,rfl,Z,(by omega),(by rw[hr,Yq (by omega),show(fs x.code).getD k 0=67 by omega,Zrs]),hs1,hs2,SelA.same,rfl⟩
  exact⟨_,by omega,rfl,k+1,y,ab2,ae2,ac2,cb2,ce2,cc2,rfl,Z,(by omega),(by exfalso;have:=Zp2 (c:=x.code) (k:=k) (by omega);unfold Z8 at this;omega),hs1,hs2,hs3,rfl⟩
 refine Zsh fun w Z=>?_
 rw[hr,Zew (by omega)]
 refine⟨ab2,ae2,ac2,cb2,ce2,cc2,rfl,?_⟩
 have h3:=St.selA (en:=Yo) Z 5 rfl rfl hs3
 have h4:=St.selA (en:=Zm) h3 5 rfl rfl hs2
 have h5:=St.selA (en:=Jk) h4 5 rfl rfl hs1
 exact h5.sel 9 [0,0,0,3,3,3] rfl
theorem VT(x y:OpM)(ab ae ac ab2 ae2 ac2:Option Addr)(cb ce cc cb2 ce2 cc2:Nat)(h1:x.ents.length≤1000000000)(h2:x.chs.length≤1000000000)(hbx:B8 x.bytes)(hby:B8 y.bytes)(Z:St g (Sh 5 1 (Jk x.bytes) ab cb::Sh 32 2 (Zm x.ents) ae ce::Sh 181 4 (Yo x.chs) ac cc::Sh 5 1 (Jk y.bytes) ab2 cb2::Sh 32 2 (Zm y.ents) ae2 ce2::Sh 181 4 (Yo y.chs) ac2 cc2::L) w) :
  Cp g L 280 [.agg #[.I x.code,.U x.a,.U x.b,.I x.key,.I x.val,.I x.lo,.I x.hi,.I x.n,.bool x.flag,.string x.name,.slice ab (Jk x.bytes).length cb,.slice ae (Zm x.ents).length ce,.slice ac (Yo x.chs).length cc],.agg #[.I y.code,.U y.a,.U y.b,.I y.key,.I y.val,.I y.lo,.I y.hi,.I y.n,.bool y.flag,.string y.name,.slice ab2 (Jk y.bytes).length cb2,.slice ae2 (Zm y.ents).length ce2,.slice ac2 (Yo y.chs).length cc2]] w fun rV=>∃(ok:Bool),rV (.bool ok) [Sh 5 1 (Jk x.bytes) ab cb,Sh 32 2 (Zm x.ents) ae ce,Sh 181 4 (Yo x.chs) ac cc,Sh 5 1 (Jk y.bytes) ab2 cb2,Sh 32 2 (Zm y.ents) ae2 ce2,Sh 181 4 (Yo y.chs) ac2 cc2] (ok=true↔x=y):=by
 refine Sp.en Tryz.func280 ?_
 have _:=h2
 have _:=h1
 refine Zsp fun b1 w Z=>?_
 refine Zsp fun b2 w Z=>?_
 by_cases cg1:x.code=y.code
 ·refine Zsf 10 (.bool true) (congrArg Value.bool (decide_eq_true cg1)) ?_
  refine Sz ?_
  by_cases cg2:x.a=y.a
  ·refine Zsf 17 (.bool true) (congrArg Value.bool (decide_eq_true cg2)) ?_
   refine Sz ?_
   by_cases cg3:x.b=y.b
   ·refine Zsf 24 (.bool true) (congrArg Value.bool (decide_eq_true cg3)) ?_
    refine Sz ?_
    by_cases cg4:x.key=y.key
    ·refine Zsf 31 (.bool true) (congrArg Value.bool (decide_eq_true cg4)) ?_
     refine Sz ?_
     by_cases cg5:x.val=y.val
     ·refine Zsf 38 (.bool true) (congrArg Value.bool (decide_eq_true cg5)) ?_
      refine Sz ?_
      by_cases cg6:x.lo=y.lo
      ·refine Zsf 45 (.bool true) (congrArg Value.bool (decide_eq_true cg6)) ?_
       refine Sz ?_
       by_cases cg7:x.hi=y.hi
       ·refine Zsf 52 (.bool true) (congrArg Value.bool (decide_eq_true cg7)) ?_
        refine Sz ?_
        by_cases cg8:x.n=y.n
        ·refine Zsf 59 (.bool true) (congrArg Value.bool (decide_eq_true cg8)) ?_
         refine Sz ?_
         by_cases cg9:(x.flag==y.flag)=true
         ·refine Zsf 66 (.bool true) (congrArg Value.bool cg9) ?_
          refine Sz ?_
          by_cases cg10:x.name=y.name
          ·refine Zsf 73 (.bool true) (congrArg Value.bool (decide_eq_true cg10)) ?_
           refine Sx ?_
           refine Zsf 75 (.slice ab x.bytes.length cb) (congrArg (fun m=>Value.slice ab m cb) (YH x.bytes))<|Zup rfl rfl Tryz.underlying37 Tryz.underlying9 Tryz.underlying5 (Z.srcS 2 rfl) (by assumption) rfl ?_
           refine Sx ?_
           refine Zsf 78 (.slice ab2 y.bytes.length cb2) (congrArg (fun m=>Value.slice ab2 m cb2) (YH y.bytes))<|Zup rfl rfl Tryz.underlying37 Tryz.underlying9 Tryz.underlying5 (Z.srcS 5 rfl) (by assumption) rfl ?_
           refine Sz ?_
           by_cases cg11:(JG x.bytes)=(JG y.bytes)
           ·refine Zsf 82 (.bool true) (congrArg Value.bool (decide_eq_true cg11)) ?_
            refine Sz ?_
            refine Zsy (Zgm x.ents y.ents _ _ _ _ (by omega) (Z.sel 7 [3,5,0,0,0,0,0] rfl)) fun w ok1 Z f1=>?_
            by_cases cg12:ok1=true
            ·refine Zsf 89 (.bool true) (congrArg Value.bool cg12) ?_
             refine Sz ?_
             refine Zsy (Zha x.chs y.chs _ _ _ _ (by omega) (Z.sel 8 [5,6,0,0,0,0,0,0] rfl)) fun w ok2 Z f2=>?_
             as_aux_lemma =>
             refine Sz ?_
             replace Z:=(Z.sel 8 [6,2,0,4,1,0] rfl)
             exact⟨_,rfl,Z,⟨fun h=>OpM.ext' ⟨cg1,cg2,cg3,cg4,cg5,cg6,cg7,cg8,by simpa using cg9,cg10,Zdc hbx hby cg11,f1.1 cg12,f2.1 h⟩,fun h=>f2.2 (by rw[h])⟩⟩
            refine Zsf 89 (.bool false) (congrArg Value.bool (Bool.eq_false_iff.2 cg12)) ?_
            as_aux_lemma =>
            refine Sz ?_
            replace Z:=(Z.sel 7 [4,0,3,3,0] rfl)
            exact⟨_,rfl,Z,⟨fun h=>(by cases h),fun h=>absurd (f1.2 (by rw[h])) cg12⟩⟩
           refine Zsf 82 (.bool false) (congrArg Value.bool (decide_eq_false cg11)) ?_
           as_aux_lemma =>
           refine Sz ?_
           replace Z:=(Z.sel 2 [] rfl)
           exact⟨_,rfl,Z,⟨fun h=>(by cases h),fun h=>absurd (by subst h;simp) cg11⟩⟩
          refine Zsf 73 (.bool false) (congrArg Value.bool (decide_eq_false cg10)) ?_
          as_aux_lemma =>
          refine Sz ?_
          replace Z:=(Z.sel 2 [] rfl)
          exact⟨_,rfl,Z,⟨fun h=>(by cases h),fun h=>absurd (by subst h;simp) cg10⟩⟩
         refine Zsf 66 (.bool false) (congrArg Value.bool (Bool.eq_false_iff.2 cg9)) ?_
         as_aux_lemma =>
         refine Sz ?_
         replace Z:=(Z.sel 2 [] rfl)
         exact⟨_,rfl,Z,⟨fun h=>(by cases h),fun h=>absurd (by subst h;simp) cg9⟩⟩
        refine Zsf 59 (.bool false) (congrArg Value.bool (decide_eq_false cg8)) ?_
        as_aux_lemma =>
        refine Sz ?_
        replace Z:=(Z.sel 2 [] rfl)
        exact⟨_,rfl,Z,⟨fun h=>(by cases h),fun h=>absurd (by subst h;simp) cg8⟩⟩
       refine Zsf 52 (.bool false) (congrArg Value.bool (decide_eq_false cg7)) ?_
       as_aux_lemma =>
       refine Sz ?_
       replace Z:=(Z.sel 2 [] rfl)
       exact⟨_,rfl,Z,⟨fun h=>(by cases h),fun h=>absurd (by subst h;simp) cg7⟩⟩
      refine Zsf 45 (.bool false) (congrArg Value.bool (decide_eq_false cg6)) ?_
      as_aux_lemma =>
      refine Sz ?_
      replace Z:=(Z.sel 2 [] rfl)
      exact⟨_,rfl,Z,⟨fun h=>(by cases h),fun h=>absurd (by subst h;simp) cg6⟩⟩
     refine Zsf 38 (.bool false) (congrArg Value.bool (decide_eq_false cg5)) ?_
     as_aux_lemma =>
     refine Sz ?_
     replace Z:=(Z.sel 2 [] rfl)
     exact⟨_,rfl,Z,⟨fun h=>(by cases h),fun h=>absurd (by subst h;simp) cg5⟩⟩
    refine Zsf 31 (.bool false) (congrArg Value.bool (decide_eq_false cg4)) ?_
    as_aux_lemma =>
    refine Sz ?_
    replace Z:=(Z.sel 2 [] rfl)
    exact⟨_,rfl,Z,⟨fun h=>(by cases h),fun h=>absurd (by subst h;simp) cg4⟩⟩
   refine Zsf 24 (.bool false) (congrArg Value.bool (decide_eq_false cg3)) ?_
   as_aux_lemma =>
   refine Sz ?_
   replace Z:=(Z.sel 2 [] rfl)
   exact⟨_,rfl,Z,⟨fun h=>(by cases h),fun h=>absurd (by subst h;simp) cg3⟩⟩
  refine Zsf 17 (.bool false) (congrArg Value.bool (decide_eq_false cg2)) ?_
  as_aux_lemma =>
  refine Sz ?_
  replace Z:=(Z.sel 2 [] rfl)
  exact⟨_,rfl,Z,⟨fun h=>(by cases h),fun h=>absurd (by subst h;simp) cg2⟩⟩
 refine Zsf 10 (.bool false) (congrArg Value.bool (decide_eq_false cg1)) ?_
 as_aux_lemma =>
 refine Sz ?_
 replace Z:=(Z.sel 2 [] rfl)
 exact⟨_,rfl,Z,⟨fun h=>(by cases h),fun h=>absurd (by subst h;simp) cg1⟩⟩
theorem CY(x:OpM)(ab ae ac:Option Addr)(cb ce cc:Nat)(h1:x.ents.length≤1000000000)(h2:x.chs.length≤1000000000)(hbx:B8 x.bytes)(Z:St g (Sh 5 1 (Jk x.bytes) ab cb::Sh 32 2 (Zm x.ents) ae ce::Sh 181 4 (Yo x.chs) ac cc::L) w) :
  Cp g L 136 [.agg #[.I x.code,.U x.a,.U x.b,.I x.key,.I x.val,.I x.lo,.I x.hi,.I x.n,.bool x.flag,.string x.name,.slice ab (Jk x.bytes).length cb,.slice ae (Zm x.ents).length ce,.slice ac (Yo x.chs).length cc]] w fun rV=>∃(ok:Bool),rV (.bool ok) [Sh 5 1 (Jk x.bytes) ab cb,Sh 32 2 (Zm x.ents) ae ce,Sh 181 4 (Yo x.chs) ac cc] (ok=true↔Zf8 x):=by
 refine Sp.en Tryz.func136 ?_
 have _:=h1
 refine Zsp fun b1 w Z=>?_
 have hl4:=ZH x.chs;have hl2:=Zu x.ents;have hl1:=YH x.bytes
 refine Sz ?_
 refine Zse (UH x.code Z) fun w Z=>?_
 refine Zsg [([0,1,2,3,4],some (5,[3])),([],some (6,[])),([7,8],none)] ?_
 refine Qz ?_
 by_cases cg1:(! (CW x.code))=true
 ·refine Zsu 14 (.bool true) (congrArg Value.bool cg1) ?_
  refine Qd fun w Z=>?_
  refine Qd fun w Z=>?_
  refine Qd fun w Z=>?_
  replace Z:=(Z.sel 1 [] rfl)
  exact⟨_,rfl,Z,⟨fun h=>(by cases h),fun h=>by rw[h.1] at cg1;cases cg1⟩⟩
 refine Zsu 14 (.bool false) (congrArg Value.bool (Bool.eq_false_iff.2 cg1)) ?_
 refine Qd fun w Z=>?_
 refine Zum (Zfc x _ _ _ _ _ _ (Z.sel 4 [1,1,1,0] rfl)) fun w ab1 ae1 ac1 cb1 ce1 cc1 Z=>?_
 refine Qd fun w Z=>?_
 refine Zsy (VT x (only x) _ _ _ _ _ _ _ _ _ _ _ _ (by assumption) (by assumption) (by assumption) (Zmn hbx) (Z.sel 6 [3,3,3,0,0,0] rfl)) fun w ok1 Z f1=>?_
 refine Qd fun w Z=>?_
 refine Ztl (fun cd1=>?_) fun cd1=>?_
 ·replace Z:=(Z.sel 7 [0,0,0] rfl)
  exact⟨_,rfl,Z,⟨fun h=>(by cases h),fun h=>by rw[f1.2 h.2.1] at cd1;cases cd1⟩⟩
 refine Zs7 28 [.I x.n,.string x.name,.slice ab (Jk x.bytes).length cb,.slice ae (Zm x.ents).length ce,.slice ac (Yo x.chs).length cc] rfl (by exact⟨fun _=>Z.ld 6 rfl rfl,fun _=>Z.ld 6 rfl rfl,fun _=>Z.ld 6 rfl rfl,fun _=>Z.ld 6 rfl rfl,fun _=>Z.ld 6 rfl rfl⟩) (fun j=>?_)
 refine Zsx 52 rfl (X2 (X2 (X2 (X2 (X2 (dd _) (dd _)) (dd _)) (dd _)) (dd _)) (dd _)) ?_
 refine Sz ?_
 refine Zsr rfl (fun cd2=>?_) (fun cd2=>?_)
 ·as_aux_lemma =>
  refine Sz ?_
  replace Z:=(Z.sel 7 [0,0,0] rfl)
  refine⟨_,rfl,Z,⟨fun h=>(by cases h),fun h=>?_⟩⟩
  obtain⟨_,_,⟨h2,h3,h4,h5,h6⟩,_⟩:=h
  omega
 as_aux_lemma =>
 refine Sz ?_
 refine Zst [1] [5] (fun kM vs jS=>∃(k:Nat),vs=[.I (k:Int)]∧jS []∧(k≤x.chs.length)∧(∀y∈x.chs.take k,0≤y.1∧y.1≤255)∧(x.chs.length-k)=kM) rfl ⟨0,rfl,Z,(Nat.zero_le _),(fun _ h=>by cases h),rfl⟩ ?_
 rintro _ _ w j ⟨k,rfl,Z,hk,hall,rfl⟩
 replace Z:=Z.z
 refine Sz ?_
 refine Zsr rfl (fun cd3=>?_) (fun cd3=>?_)
 ·obtain⟨y,hy⟩:∃y,x.chs[k]?=some y:=⟨_,List.getElem?_eq_getElem (by omega)⟩
  refine Sz ?_
  refine Zsq rfl rfl (i:=(k:Int)) (k) el_35 rfl rfl (by omega) (X1 (ZP hy)) (Z.rdS 2 rfl (ZP hy)).1 ?_
  refine Sz ?_
  refine Zsv 1 [.I y.1] rfl (by exact(Z.rdS 2 rfl (ZP hy)).2 0 _ rfl) ?_
  refine Sz ?_
  by_cases cg2:y.1<0
  ·refine Zsf 67 (.bool true) (congrArg Value.bool (decide_eq_true cg2)) ?_
   refine Sz ?_
   replace Z:=(Z.sel 7 [0,0,0] rfl)
   refine⟨_,rfl,Z,⟨fun h=>(by cases h),fun h=>?_⟩⟩
   have:=h.2.2.2 y (List.mem_of_getElem? hy);omega
  refine Zsf 67 (.bool false) (congrArg Value.bool (decide_eq_false cg2)) ?_
  refine Sz ?_
  refine Zsq rfl rfl (i:=(k:Int)) (k) el_35 rfl rfl (by omega) (X1 (ZP hy)) (Z.rdS 2 rfl (ZP hy)).1 ?_
  refine Sz ?_
  refine Zsv 1 [.I y.1] rfl (by exact(Z.rdS 2 rfl (ZP hy)).2 0 _ rfl) ?_
  refine Sz ?_
  refine Zsi (fun cd4=>?_) fun cd4=>?_
  ·replace Z:=(Z.sel 7 [0,0,0] rfl)
   refine⟨_,rfl,Z,⟨fun h=>(by cases h),fun h=>?_⟩⟩
   have:=h.2.2.2 y (List.mem_of_getElem? hy);omega
  exact⟨_,by omega,rfl,k+1,rfl,Z,(by omega),(fun z hz=>by rw[List.take_add_one,hy] at hz;simp only[Option.toList,List.mem_append,List.mem_singleton] at hz;rcases hz with hz|rfl<;>first|exact hall z hz|omega),rfl⟩
 refine Sz ?_
 replace Z:=(Z.sel 7 [0,0,0] rfl)
 rw[List.take_of_length_le (by omega)] at hall
 exact⟨_,rfl,Z,⟨fun _=>⟨by simpa using cg1,f1.1 (by simpa using cd1),⟨by omega,by omega,by omega,by omega,by omega⟩,hall⟩,fun _=>rfl⟩⟩
end Go.Proofs.YtpebgkkmgffmaaaGreatDoor
namespace Go.Proofs.YtpebgkkmgffmaaaGreatDoor
open Go Go.V Go.RowKit
theorem Zf6{l:Zl}{j:Nat}{e:Int×Int}{k:Int}(he:l[j]?=some e)(hk:e.1=k)(hn:∀x∈l.take j,x.1≠k):Zo k l=some e.2:=by
 unfold Zo
 have hs:l=l.take j++e::l.drop (j+1):=by
  obtain⟨h1,h2⟩:=List.getElem?_eq_some_iff.1 he
  rw[←h2,←List.drop_eq_getElem_cons h1,List.take_append_drop]
 rw[hs,List.find?_append,List.find?_eq_none.2 fun x hx h=>hn x hx (of_decide_eq_true h),List.find?_cons_of_pos (by simpa using hk)];rfl
theorem Zl8{l:Zl}{j:Nat}{e:Int×Int}{k:Int}(he:l[j]?=some e)(hk:¬e.1=k)(hn:∀x∈l.take j,x.1≠k):∀x∈l.take (j+1),x.1≠k:=fun x hx=>by
 rw[List.take_add_one,he] at hx
 rcases List.mem_append.1 hx with hx|hx
 ·exact hn x hx
 have hx2:x∈[e]:=hx
 rw[List.mem_singleton.1 hx2];exact hk
set_option maxHeartbeats 8000000
set_option maxRecDepth 8192
variable{g w:World}{L:List HP}
theorem Xh(l:Zl)(u:Option Addr)(d:Nat)(k:Int)(hl:l.length≤1000000)(Z:St g (Sh 32 2 (Zm l) u d::L) w) :
  Zr g L 146 [.slice u (Zm l).length d,.I k] w fun rV=>rV (.tuple #[.I ((Zo k l).getD 0),.bool (Zo k l).isSome]) [Sh 32 2 (Zm l) u d]:=by
 refine Sp.en Tryz.func146 ?_
 have _:=hl
 have hll:=Zu l
 refine Sz ?_
 refine Zst [0,1] [6] (fun kM vs jS=>∃(j:Nat),vs=[.I (j:Int)]∧jS []∧(j≤l.length)∧(∀x∈l.take j,x.1≠k)∧(l.length-j)=kM) rfl ⟨0,rfl,Z,(Nat.zero_le _),(fun x hx=>by simp at hx),rfl⟩ ?_
 rintro _ _ w j ⟨j,rfl,Z,hj,hn,rfl⟩
 replace Z:=Z.z
 have hll:=Zu l
 refine Sz ?_
 refine Zsr rfl (fun cd1=>?_) (fun cd1=>?_)
 ·obtain⟨e,he⟩:∃e,l[j]?=some e:=⟨_,List.getElem?_eq_getElem (by omega)⟩
  refine Sz ?_
  refine Zsq rfl rfl (i:=(j:Int)) (j) el_22 rfl rfl (by omega) (by omega) (Z.rdS 0 rfl (Zd he)).1 ?_
  refine Sz ?_
  refine Zsv 1 [.I e.1] rfl (by exact(Z.rdS 0 rfl (Zd he)).2 0 _ rfl) ?_
  refine Sz ?_
  refine Zsi (fun hk=>?_) fun hk=>?_
  ·refine Zsq rfl rfl (i:=(j:Int)) (j) el_22 rfl rfl (by omega) (by omega) (Z.rdS 0 rfl (Zd he)).1 ?_
   refine Sz ?_
   refine Zsv 1 [.I e.2] rfl (by exact(Z.rdS 0 rfl (Zd he)).2 1 _ rfl) ?_
   refine Sz ?_
   rw[Zf6 he hk hn];exact⟨rfl,Z⟩
  exact⟨_,by omega,rfl,j+1,rfl,Z,(by omega),(Zl8 he hk hn),rfl⟩
 refine Sz ?_
 have hj9:j=l.length:=(by omega);subst hj9;rw[List.take_length] at hn;rw[J1 hn];exact⟨rfl,Z⟩
def Uf(b l:Zl):Zl:=l.foldl (fun a x=>Zs x.1 0 a) b
theorem UB{b l:Zl}{j:Nat}{e:Int×Int}(he:l[j]?=some e):Uf b (l.take (j+1))=Zs e.1 0 (Uf b (l.take j)):=by
 unfold Uf;rw[List.take_add_one,he,List.foldl_append];rfl
theorem Ys:∀{l b:Zl},Srt b→Srt (Uf b l)
 |[],_,h=>h
 |_::l,_,h=>Ys (l:=l) (ZD h)
theorem YL:∀{l b:Zl},Srt b→(Uf b l).length≤b.length+l.length
 |[],_,_=>Nat.le_refl _
 |x::l,b,h=>by
  have h1:=YL (l:=l) (ZD (k:=x.1) (v:=0) h)
  have h2:=JF (k:=x.1) (v:=0) h
  show(Uf (Zs x.1 0 b) l).length≤_
  rw[List.length_cons]
  split at h2<;>omega
theorem Zjp{k v z:Int}{l:Zl}:(∃x∈Zs k v l,x.1=z)↔z=k∨∃x∈l,x.1=z:=by
 unfold Zs
 constructor
 ·rintro⟨x,hx,rfl⟩
  rcases List.mem_append.1 hx with hx|hx
  ·exact .inr ⟨x,(List.mem_filter.1 hx).1,rfl⟩
  rcases List.mem_cons.1 hx with rfl|hx
  ·exact .inl rfl
  exact .inr ⟨x,(List.mem_filter.1 hx).1,rfl⟩
 rintro(rfl|⟨x,hx,rfl⟩)
 ·exact⟨(z,v),List.mem_append_right _ (List.mem_cons_self ..),rfl⟩
 rcases Int.lt_trichotomy x.1 k with h|h|h
 ·exact⟨x,List.mem_append_left _ (List.mem_filter.2 ⟨hx,decide_eq_true h⟩),rfl⟩
 ·exact⟨(k,v),List.mem_append_right _ (List.mem_cons_self ..),h.symm⟩
 exact⟨x,List.mem_append_right _ (List.mem_cons_of_mem _ (List.mem_filter.2 ⟨hx,decide_eq_true h⟩)),rfl⟩
theorem Q2{z:Int}:∀{l b:Zl},(∃x∈Uf b l,x.1=z)↔(∃x∈b,x.1=z)∨∃x∈l,x.1=z
 |[],b=>⟨fun h=>.inl h,fun h=>h.elim id fun⟨_,hx,_⟩=>by cases hx⟩
 |x::l,b=>by
  refine(Q2 (l:=l) (b:=Zs x.1 0 b)).trans ?_
  rw[Zjp]
  constructor
  ·rintro((rfl|h)|⟨y,hy,h⟩)
   ·exact .inr ⟨x,List.mem_cons_self ..,rfl⟩
   ·exact .inl h
   exact .inr ⟨y,List.mem_cons_of_mem _ hy,h⟩
  rintro(h|⟨y,hy,rfl⟩)
  ·exact .inl (.inr h)
  rcases List.mem_cons.1 hy with rfl|hy
  ·exact .inl (.inl rfl)
  exact .inr ⟨y,hy,rfl⟩
def YN(l m n:Zl):List Int:=(Uf (Uf (Uf [] l) m) n).map (·.1)
theorem Ze2(l m n:Zl):(YN l m n).Pairwise (· < ·):=List.pairwise_map.2 (Ys (Ys (Ys List.Pairwise.nil)))
theorem Dz(l m n:Zl):(YN l m n).length≤l.length+m.length+n.length:=by
 have h0:Srt ([]:Zl):=List.Pairwise.nil
 have h1:=YL (l:=l) h0
 have h2:=YL (l:=m) (Ys (l:=l) h0)
 have h3:=YL (l:=n) (Ys (l:=m) (Ys (l:=l) h0))
 unfold YN
 rw[List.length_map]
 simp only[List.length_nil] at h1
 omega
theorem Zej{l m n:Zl}{z:Int}:z∈YN l m n↔(∃x∈l,x.1=z)∨(∃x∈m,x.1=z)∨∃x∈n,x.1=z:=by
 unfold YN
 rw[List.mem_map,Q2,Q2,Q2]
 constructor
 ·rintro(((⟨_,h,_⟩|h)|h)|h)
  ·cases h
  ·exact .inl h
  ·exact .inr (.inl h)
  exact .inr (.inr h)
 rintro(h|h|h)
 ·exact .inl (.inl (.inr h))
 ·exact .inl (.inr h)
 exact .inr h
theorem VQ(l m n:Zl)(ua ub uc:Option Addr)(da db dc:Nat)(hl:l.length≤1000)(hm:m.length≤1000)(hn:n.length≤1000)(Z:St g (Sh 32 2 (Zm l) ua da::Sh 32 2 (Zm m) ub db::Sh 32 2 (Zm n) uc dc::L) w) :
  Zr g L 291 [.slice ua (Zm l).length da,.slice ub (Zm m).length db,.slice uc (Zm n).length dc] w fun rV=>∃(a2:Option Addr)(c2:Nat),rV (.slice a2 (Ze (YN l m n)).length c2) [Zp 2 1 (Ze (YN l m n)) a2 c2,Sh 32 2 (Zm l) ua da,Sh 32 2 (Zm m) ub db,Sh 32 2 (Zm n) uc dc]:=by
 refine Sp.en Tryz.func291 ?_
 have _:=hn
 have _:=hm
 have _:=hl
 have h1:=Zu l;have h2:=Zu m;have h3:=Zu n;have h0:Srt ([]:Zl):=List.Pairwise.nil
 replace Z:=Z.nil_ 32 2
 refine Sz ?_
 refine Zst [0,1,2,6] [7,8] (fun kM vs jS=>∃(j:Nat)(acc:Zl)(va:Option Addr)(vc:Nat),vs=[.slice va (Zm acc).length vc,.I (j:Int)]∧jS [Zp 32 2 (Zm acc) va vc]∧(j≤l.length)∧(acc=Uf [] (l.take j))∧(l.length-j)=kM) rfl ⟨0,[],none,0,rfl,Z,(Nat.zero_le _),rfl,rfl⟩ ?_
 rintro _ _ w j ⟨j,acc,va,vc,rfl,Z,hj,ha,rfl⟩
 replace Z:=Z.z
 have h1:=Zu l;have h2:=Zu m;have h3:=Zu n;have h0:Srt ([]:Zl):=List.Pairwise.nil
 refine Sz ?_
 refine Zsr rfl (fun cd1=>?_) (fun cd1=>?_)
 ·obtain⟨e,he⟩:∃e,l[j]?=some e:=⟨_,List.getElem?_eq_getElem (by omega)⟩;have hs1:Srt acc:=(by rw[ha];exact Ys h0);have hal:acc.length≤1000:=(by have:=YL (l:=l.take j) h0;rw[←ha,List.length_take] at this;simp only[List.length_nil] at this;omega)
  refine Sz ?_
  refine Zsq rfl rfl (i:=(j:Int)) (j) el_22 rfl rfl (by omega) (by omega) (Z.rdS 1 rfl (Zd he)).1 ?_
  refine Sz ?_
  refine Zsv 1 [.I e.1] rfl (by exact(Z.rdS 1 rfl (Zd he)).2 0 _ rfl) ?_
  refine Zs4 rfl rfl (cs:=[.I e.1,.I 0]) zv_32.h rfl rfl ?_
  replace Z:=(Z.at_ 0 rfl).share
  replace Z:=Z.z
  refine Zsz (Yn _ _ _ e.1 0 hs1 (by omega) Z) fun w a1 c1 Z=>?_
  exact⟨_,by omega,rfl,j+1,Zs e.1 0 acc,a1,c1,rfl,(Z.sel 2 [0] rfl),(by omega),(by rw[UB he,←ha]),rfl⟩
 have hj1:j=l.length:=(by omega);rw[hj1,List.take_length] at ha;have hs1:Srt acc:=(by rw[ha];exact Ys h0);have hal1:acc.length≤1000:=(by have:=YL (l:=l) h0;rw[←ha] at this;simp only[List.length_nil] at this;omega)
 refine Sz ?_
 refine Zst [1,2,6] [7,9] (fun kM vs jS=>∃(j2:Nat)(acc2:Zl)(va2:Option Addr)(vc2:Nat),vs=[.slice va2 (Zm acc2).length vc2,.I (j2:Int)]∧jS [Zp 32 2 (Zm acc2) va2 vc2]∧(j2≤m.length)∧(acc2=Uf acc (m.take j2))∧(m.length-j2)=kM) rfl ⟨0,acc,va,vc,rfl,Z,(Nat.zero_le _),rfl,rfl⟩ ?_
 rintro _ _ w j ⟨j2,acc2,va2,vc2,rfl,Z,hj2,ha2,rfl⟩
 replace Z:=Z.z
 refine Sz ?_
 refine Zsr rfl (fun cd2=>?_) (fun cd2=>?_)
 ·obtain⟨e2,he2⟩:∃e,m[j2]?=some e:=⟨_,List.getElem?_eq_getElem (by omega)⟩;have hs2:Srt acc2:=(by rw[ha2];exact Ys hs1);have hal2:acc2.length≤2000:=(by have:=YL (l:=m.take j2) hs1;rw[←ha2,List.length_take] at this;omega)
  refine Sz ?_
  refine Zsq rfl rfl (i:=(j2:Int)) (j2) el_22 rfl rfl (by omega) (by omega) (Z.rdS 2 rfl (Zd he2)).1 ?_
  refine Sz ?_
  refine Zsv 1 [.I e2.1] rfl (by exact(Z.rdS 2 rfl (Zd he2)).2 0 _ rfl) ?_
  refine Zs4 rfl rfl (cs:=[.I e2.1,.I 0]) zv_32.h rfl rfl ?_
  replace Z:=(Z.at_ 0 rfl).share
  replace Z:=Z.z
  refine Zsz (Yn _ _ _ e2.1 0 hs2 (by omega) Z) fun w a1 c1 Z=>?_
  as_aux_lemma =>
  refine Sz ?_
  exact⟨_,by omega,rfl,j2+1,Zs e2.1 0 acc2,a1,c1,rfl,(Z.sel 2 [0] rfl),(by omega),(by rw[UB he2,←ha2]),rfl⟩
 have hj3:j2=m.length:=(by omega);rw[hj3,List.take_length] at ha2;have hs2:Srt acc2:=(by rw[ha2];exact Ys hs1);have hal2:acc2.length≤2000:=(by have:=YL (l:=m) hs1;rw[←ha2] at this;omega)
 refine Sz ?_
 refine Zst [2,6] [7,10] (fun kM vs jS=>∃(j4:Nat)(acc4:Zl)(va4:Option Addr)(vc4:Nat),vs=[.slice va4 (Zm acc4).length vc4,.I (j4:Int)]∧jS [Zp 32 2 (Zm acc4) va4 vc4]∧(j4≤n.length)∧(acc4=Uf acc2 (n.take j4))∧(n.length-j4)=kM) rfl ⟨0,acc2,va2,vc2,rfl,Z,(Nat.zero_le _),rfl,rfl⟩ ?_
 rintro _ _ w j ⟨j4,acc4,va4,vc4,rfl,Z,hj4,ha4,rfl⟩
 replace Z:=Z.z
 as_aux_lemma =>
 refine Sz ?_
 refine Zsr rfl (fun cd3=>?_) (fun cd3=>?_)
 ·obtain⟨e4,he4⟩:∃e,n[j4]?=some e:=⟨_,List.getElem?_eq_getElem (by omega)⟩;have hs4:Srt acc4:=(by rw[ha4];exact Ys hs2);have hal4:acc4.length≤3000:=(by have:=YL (l:=n.take j4) hs2;rw[←ha4,List.length_take] at this;omega)
  refine Sz ?_
  refine Zsq rfl rfl (i:=(j4:Int)) (j4) el_22 rfl rfl (by omega) (by omega) (Z.rdS 3 rfl (Zd he4)).1 ?_
  refine Sz ?_
  refine Zsv 1 [.I e4.1] rfl (by exact(Z.rdS 3 rfl (Zd he4)).2 0 _ rfl) ?_
  refine Zs4 rfl rfl (cs:=[.I e4.1,.I 0]) zv_32.h rfl rfl ?_
  replace Z:=(Z.at_ 0 rfl).share
  replace Z:=Z.z
  refine Zsz (Yn _ _ _ e4.1 0 hs4 (by omega) Z) fun w a1 c1 Z=>?_
  exact⟨_,by omega,rfl,j4+1,Zs e4.1 0 acc4,a1,c1,rfl,(Z.sel 2 [0] rfl),(by omega),(by rw[UB he4,←ha4]),rfl⟩
 have hj5:j4=n.length:=(by omega);rw[hj5,List.take_length] at ha4;have hal4:acc4.length≤3000:=(by have:=YL (l:=n) hs2;rw[←ha4] at this;omega);have hae:=Zu acc4;have hk3:YN l m n=acc4.map (·.1):=(by unfold YN;rw[ha4,ha2,ha])
 replace Z:=Z.nil_ 2 1
 refine Sz ?_
 refine Zst [6,7] [11,12] (fun kM vs jS=>∃(p:Nat)(out:List Int)(wa:Option Addr)(wc:Nat),vs=[.slice wa (Ze out).length wc,.I (p:Int)]∧jS [Zp 2 1 (Ze out) wa wc]∧(p≤acc4.length)∧(out=(acc4.take p).map (·.1))∧(acc4.length-p)=kM) rfl ⟨0,[],none,0,rfl,Z,(Nat.zero_le _),rfl,rfl⟩ ?_
 rintro _ _ w j ⟨p,out,wa,wc,rfl,Z,hp,ho,rfl⟩
 replace Z:=Z.z
 refine Sz ?_
 refine Zsr rfl (fun cd4=>?_) (fun cd4=>?_)
 ·obtain⟨x,hx⟩:∃x,acc4[p]?=some x:=⟨_,List.getElem?_eq_getElem (by omega)⟩;have hol:out.length≤3000:=(by rw[ho,List.length_map,List.length_take];omega);have hoe:=Zf out
  refine Sz ?_
  refine Zsq rfl rfl (i:=(p:Int)) (p) el_22 rfl rfl (by omega) (by omega) (Z.rdO 1 rfl (Zd hx)).1 ?_
  refine Sz ?_
  refine Zsv 1 [.I x.1] rfl (by exact(Z.rdO 1 rfl (Zd hx)).2 0 _ rfl) ?_
  refine Zs1 rfl rfl (Ze [x.1]) el_36 Z (by exact⟨rfl,rfl⟩) (YR _) rfl (Nat.le_of_ble_eq_true rfl) (fun b1 w Z=>?_)
  refine Zs3 rfl rfl 1 (Ze (out++[x.1])) el_36 Z rfl (Z.srcO 0 rfl) (XO _ _).symm (Rm.of (by first|omega|(simp<;>omega)) (by decide)) rfl rfl (fun a1 c1 w Z=>?_)
  replace Z:=Z.z
  refine Sz ?_
  exact⟨_,by omega,rfl,p+1,out++[x.1],a1,c1,rfl,(Z.sel 1 [] rfl),(by omega),(by rw[List.take_add_one,hx,List.map_append,←ho];rfl),rfl⟩
 refine Sz ?_
 replace Z:=(Z.sel 2 [0] rfl)
 have e9:out=YN l m n:=(by rw[ho,List.take_of_length_le (by omega),hk3]);rw[e9] at Z ⊢;exact⟨_,_,rfl,Z⟩
end Go.Proofs.YtpebgkkmgffmaaaGreatDoor
namespace Go.Proofs.YtpebgkkmgffmaaaGreatDoor
open Go Go.V Go.RowKit
theorem Hu:ArP Tryz.prog 576 81 3:=⟨by kernel_rfl,by kernel_rfl⟩
theorem Zgr{h:Nat}(hh:h<81):IntKind.i64.wrap ((Tr.wt h:Int)+((Tr.wt h:Int)+2)/3)=(Tr.wt (h+1):Int):=by
 have:=Zae h (by omega)
 rw[Yf (by omega),show Tr.wt (h+1)=Tr.wt h+(Tr.wt h+2)/3 from rfl];omega
theorem wtA0:U4 0=(List.replicate 81 (.I 0)).toArray:=by unfold U4;rfl
theorem wtW(h:Nat):QV Tryz.prog 576 (U4 h).size:=by rw[X9];exact ag_576.h
theorem wt1(h:Nat):(U4 h).toList.all (·.oneCell')=true:=List.all_eq_true.2 fun x hx=>by
 obtain⟨i,_,rfl⟩:=List.mem_map.1 (show x∈(List.range 81).map _ by simpa[U4] using hx)
 rfl
attribute [local irreducible] U4
set_option maxHeartbeats 8000000
set_option maxRecDepth 8192
variable{g w:World}{L:List HP}
theorem Zad(Z:St g (L) w) :
  Zr g L 464 [] w fun rV=>rV (.agg (U4 81)) []:=by
 refine Sp.en Tryz.func464 ?_
 refine Zua rfl rfl zv_576.h Z (fun b1 w Z=>?_)
 replace Z:St g (Zq b1 (U4 0) 576::L) w:=by rw[wtA0];exact Z
 refine Sz ?_
 refine Zsk fun b2 w Z=>?_
 replace Z:=Z.n2 L (a0:=Zq b2 (U4 0) 576) (by rw[wtA0];rfl)
 refine Zty rfl rfl (0) Hu rfl rfl (by omega) (by omega) ?_
 refine Zuo rfl rfl rfl 0 Z rfl rfl rfl rfl (by rw[X9];rfl) rfl (fun w Z=>?_)
 replace Z:=Z.n2 L (a0:=Zq b2 (Array.setIfInBounds (U4 0) 0 (.I 1)) 576) rfl
 rw[(show Array.setIfInBounds (U4 0) 0 (.I 1)=U4 1 from Zb8 (by omega))] at Z
 refine Sz ?_
 refine Zst [0,1] [2] (fun kM vs jS=>∃(h:Nat),vs=[.I ((h:Int)+1)]∧jS [Zq b2 (U4 (h+1)) 576]∧(h≤80)∧(80-h)=kM) rfl ⟨0,rfl,Z,(by omega),rfl⟩ ?_
 rintro _ _ w j ⟨h,rfl,Z,hh,rfl⟩
 replace Z:=Z.z
 refine Sz ?_
 refine Zsi (fun cd1=>?_) fun cd1=>?_
 ·refine Zsg [([0,1,5,2,6,3,7,4,8,9,10,11,12],some (13,[]))] ?_
  have hbg:=Zae h (by omega)
  refine Ztf 3 rfl<|Ztf 1 rfl<|Zuu 10 rfl (Yf (by omega)) ?_
  refine Ztf 1 rfl<|Zuu 14 rfl (Yf (by omega)) ?_
  refine Ztt rfl rfl (h) Hu rfl rfl (by omega) (by omega) ?_
  refine Ztt rfl rfl (h) Hu rfl rfl (by omega) (by omega) ?_
  refine Zsn 1 [.I (Tr.wt h:Int)] rfl (by exact Z.ld 0 rfl (DV (by omega) (by omega))) ?_
  refine Zsn 1 [.I (Tr.wt h:Int)] rfl (by exact Z.ld 0 rfl (DV (by omega) (by omega))) ?_
  refine Ztf 1 rfl<|Zuu 17 rfl (Yf (by omega)) ?_
  refine Ztf 1 rfl<|Zsu 18 (.I (((Tr.wt h:Int)+2)/3)) (congrArg (Value.int .i64) (Cu (p:=(Tr.wt h:Int)+2) (q:=3) (by omega))) ?_
  refine Ztf 1 rfl<|Zsu 19 (.I (Tr.wt (h+1):Int)) (congrArg (Value.int .i64) (by exact Zgr (by omega))) ?_
  refine Ztt rfl rfl (h+1) Hu rfl rfl (by omega) (by omega) ?_
  refine WQ.dn Z (fun w Z=>?_)
  refine Zuo rfl rfl rfl 0 Z rfl rfl rfl rfl (by rw[X9];exact YX.2 (by omega)) rfl (fun w Z=>?_)
  replace Z:=Z.n2 L (a0:=Zq b2 (Array.setIfInBounds (U4 (h+1)) (h+1) (.I (Tr.wt (h+1):Int))) 576) rfl
  rw[(show Array.setIfInBounds (U4 (h+1)) (h+1) (.I (Tr.wt (h+1):Int))=U4 (h+1+1) from Zb8 (by omega))] at Z
  refine Sz ?_
  refine Qd fun w Z=>?_
  as_aux_lemma =>
  refine Sz ?_
  exact⟨_,by omega,rfl,h+1,rfl,Z,(by omega),rfl⟩
 refine Zv0 rfl rfl 0 Z rfl rfl (wtW _) ?_
 refine Ztz rfl rfl rfl 1 Z rfl rfl rfl (wt1 _) (by rw[X9];rfl) (wtW _) (fun w Z=>?_)
 replace Z:=Z.z
 refine Sz ?_
 refine⟨[.agg (U4 (h+1))],⟨⟨_,rfl, Z.lvF 1 rfl (wtW _)⟩,trivial⟩,?_⟩
 replace Z:=(Z.sel 2 [] rfl)
 have hh9:h=80:=(by omega);subst hh9;exact⟨rfl,Z⟩
theorem Dg(keys:Nat)(hk:keys≤2147483647)(Z:St g (L) w) :
  Zr g L 403 [.I (keys:Int)] w fun rV=>rV (.I (Tr.mxH keys:Int)) []:=by
 refine Sp.en Tryz.func403 ?_
 have _:=hk
 refine Ztd 3 rfl (fun j=>?_)
 refine Zsx 10 rfl (X2 (dd _) (dd _)) ?_
 refine Sz ?_
 refine Zsm rfl (decide_eq_false ((by omega))) ?_
 refine Ztg (Zad Z) fun w Z=>?_
 refine Zsk fun b1 w Z=>?_
 refine Ztz rfl rfl rfl 0 Z rfl rfl rfl (wt1 _) (by rw[X9];rfl) (wtW _) (fun w Z=>?_)
 replace Z:=Z.z
 refine Sz ?_
 refine Zst [0,2,3] [4] (fun kM vs jS=>∃(h:Nat),vs=[.I (h:Int)]∧jS []∧(h≤80)∧(Tr.mxA keys (80-h) h=Tr.mxH keys)∧(80-h)=kM) rfl ⟨0,rfl,Z,(by omega),rfl,rfl⟩ ?_
 rintro _ _ w j ⟨h,rfl,Z,hh,hm,rfl⟩
 replace Z:=Z.z
 refine Sz ?_
 by_cases cg1:(h:Int)<80
 ·refine Zsf 14 (.bool true) (congrArg Value.bool (decide_eq_true cg1)) ?_
  refine Sz ?_
  refine Zty rfl rfl (h+1) Hu rfl rfl (by omega) (by omega) ?_
  refine Sy ?_
  refine Zsv 1 [.I (Tr.wt (h+1):Int)] rfl (by exact Z.ld 0 rfl (DV (by omega) (by omega))) ?_
  refine Sy ?_
  refine Zso 1 rfl<|Zvk 19 rfl (Yf (by have hbg:=Zae (h+1) (by omega);omega)) ?_
  as_aux_lemma =>
  refine Sz ?_
  refine Zsi (fun cd1=>?_) fun cd1=>?_
  ·exact⟨_,by omega,rfl,h+1,rfl,Z,(by omega),(by rw[Zg6 (by omega) (by omega)];exact hm),rfl⟩
  replace Z:=(Z.sel 1 [] rfl)
  exact⟨congrArg (fun n:Nat=>Value.I n) ((Vr (keys:=keys) (by omega) (by omega)).symm.trans hm),Z⟩
 refine Zsf 14 (.bool false) (congrArg Value.bool (decide_eq_false cg1)) ?_
 as_aux_lemma =>
 refine Sz ?_
 replace Z:=(Z.sel 1 [] rfl)
 exact⟨congrArg (fun n:Nat=>Value.I n) (by rw[←hm,show 80-h=0 by omega];rfl),Z⟩
theorem Znf(n:Nat)(hn:n≤65536)(Z:St g (L) w) :
  Zr g L 285 [.I (n:Int),.I 0,.I 0,.I 1,.I 0,.I 4] w fun rV=>rV (.I (4*((Tr.mxH (n+1):Int)+2))) []:=by
 refine Sp.en Tryz.func285 ?_
 have _:=hn
 refine Ztd 19 rfl (fun j=>?_)
 refine Zsx 34 rfl (X2 (X2 (X2 (X2 (X2 (dd _) (dd _)) (dd _)) (dd _)) (dd _)) (dd _)) ?_
 refine Sz ?_
 refine Zs8 rfl (decide_eq_false ((by omega))) ?_
 refine Sy ?_
 have hmx:=Tr.mxH_le (n+1)
 refine Zt3 rfl rfl rfl (by omega) ?_
 refine Sy ?_
 refine Zt3 rfl rfl rfl (by omega) ?_
 refine Sy ?_
 refine Zso 1 rfl<|Zsf 43 (.I ((n+1:Nat):Int)) (congrArg (Value.int .i64) (by rw[Yf (by omega)];omega)) ?_
 refine Zse (Dg (n+1:Nat) (by omega) Z) fun w Z=>?_
 exact⟨congrArg (Value.int .i64) (by omega),Z⟩
theorem Zie(n:Nat)(hn:n≤65536)(Z:St g (L) w) :
  Zr g L 149 [.I (n:Int)] w fun rV=>rV (.I (4*((Tr.mxH (n+1):Int)+2))) []:=by
 refine Sp.en Tryz.func149 ?_
 refine Zse (Znf n hn Z) fun w Z=>?_
 exact⟨rfl,Z⟩
end Go.Proofs.YtpebgkkmgffmaaaGreatDoor
namespace Go.V
open Go Go.RowKit Go.Maps Go.Sort
structure WE where
 k:Int
 p:Bool
 v:Int
 b:Nat
def wK(x:WE):Value×Value×Nat:=(.int .i64 x.k,.agg #[.bool x.p,.int .i64 x.v],x.b)
abbrev J3:=List (Int×Bool×Int)
def wT(x:WE):Int×Bool×Int:=(x.k,x.p,x.v)
def wSrt(M:J3):Prop:=M.Pairwise fun a b=>a.1<b.1
def UP(k:Int)(M:J3):Option (Bool×Int):=(M.find? fun x=>decide (x.1=k)).map (·.2)
def Zem(k:Int)(y:Bool×Int)(M:J3):J3:=M.filter (fun x=>decide (x.1<k))++(k,y)::M.filter (fun x=>decide (k<x.1))
theorem Vt{k:Int}{y:Bool×Int}{M:J3}(h:wSrt M):wSrt (Zem k y M):=by
 unfold Zem
 refine List.pairwise_append.2 ⟨h.sublist List.filter_sublist,List.pairwise_cons.2 ⟨fun y hy=>?_,h.sublist List.filter_sublist⟩,fun x hx y hy=>?_⟩
 ·exact of_decide_eq_true (List.mem_filter.1 hy).2
 have h1:=of_decide_eq_true (List.mem_filter.1 hx).2
 rcases List.mem_cons.1 hy with rfl|hy
 ·exact h1
 have h2:=of_decide_eq_true (List.mem_filter.1 hy).2
 omega
theorem Vm{k:Int}{y:Bool×Int}{M:J3}(x:Int×Bool×Int):x∈Zem k y M↔x=(k,y)∨(x∈M∧x.1≠k):=by
 unfold Zem
 rw[List.mem_append,List.mem_cons,List.mem_filter,List.mem_filter,decide_eq_true_iff,decide_eq_true_iff]
 constructor
 ·rintro(⟨h1,h2⟩|h|⟨h1,h2⟩)
  ·exact .inr ⟨h1,by omega⟩
  ·exact .inl h
  exact .inr ⟨h1,by omega⟩
 rintro(h|⟨h1,h2⟩)
 ·exact .inr (.inl h)
 by_cases h3:x.1<k
 ·exact .inl ⟨h1,h3⟩
 exact .inr (.inr ⟨h1,by omega⟩)
theorem wSrt.nodup{M:J3}(h:wSrt M):M.Nodup:=h.imp fun {a b} h e=>by rw[e] at h;omega
theorem Db{k:Int}{M:J3}(hs:wSrt M){y:Bool×Int}:UP k M=some y↔(k,y)∈M:=by
 unfold UP
 constructor
 ·intro h
  cases hf:M.find? fun x=>decide (x.1=k) with
  |none=>rw[hf] at h;cases h
  |some z =>
   rw[hf] at h
   have h1:z.1=k:=of_decide_eq_true (List.find?_some (p:=fun x:Int×Bool×Int=>decide (x.1=k)) hf)
   simp only[Option.map_some,Option.some.injEq] at h
   have h2:=List.mem_of_find?_eq_some hf
   rw[←h1,←h];exact h2
 intro h
 induction M with
 |nil=>cases h
 |cons x t ih =>
  obtain⟨h1,h2⟩:=List.pairwise_cons.1 hs
  rw[List.find?_cons]
  rcases List.mem_cons.1 h with rfl|h
  ·simp
  have h3:x.1<k:=h1 _ h
  rw[decide_eq_false (show ¬x.1=k by omega)]
  exact ih h2 h
theorem Up{k:Int}{M:J3}(h:∀x∈M,x.1≠k):UP k M=none:=by
 unfold UP
 rw[List.find?_eq_none.2 fun x hx e=>h x hx (of_decide_eq_true e)];rfl
structure WOk(xs:List WE)(q:Nat)(M:J3):Prop where
 k:KOk wK WE.k xs q
 perm:(xs.map wT).Perm M
 srt:wSrt M
theorem WOk.nil:WOk [] 0 []:=⟨KOk.nil,List.Perm.refl _,List.Pairwise.nil⟩
section
variable{xs:List WE}{q:Nat}{M:J3}
theorem WOk.len(h:WOk xs q M):xs.length=M.length:=by rw[←h.perm.length_eq,List.length_map]
theorem WOk.mem(h:WOk xs q M)(x:Int×Bool×Int):x∈M↔∃y∈xs,wT y=x:=by rw[←h.perm.mem_iff,List.mem_map]
theorem WOk.get(h:WOk xs q M){j:Nat}{x:WE}(hx:xs[j]?=some x):UP x.k M=some (x.p,x.v) :=
 (Db h.srt).2 ((h.mem _).2 ⟨x,List.mem_of_getElem? hx,rfl⟩)
theorem WOk.no(h:WOk xs q M){k:Int}(hx:∀x∈xs,x.k≠k):UP k M=none :=
 Up fun x hm=>by
  obtain⟨y,hy,rfl⟩:=(h.mem x).1 hm
  exact hx y hy
theorem KOk.set{α:Type}{f:α→Value×Value×Nat}{n:α→Int}{l:List α}{q:Nat}(h:KOk f n l q){j:Nat}{x y:α}(hx:l[j]?=some x)(h1:n y=n x)(h2:(f y).1=(f x).1)(h3:(f y).2.2=(f x).2.2):KOk f n (l.set j y) q:=by
 have hj:=(List.getElem?_eq_some_iff.1 hx).1
 have hxe:=(List.getElem?_eq_some_iff.1 hx).2
 have hm:∀{β:Type}(g:α→β),g y=g x→(l.set j y).map g=l.map g:=fun g hg=>by
  apply List.ext_getElem?
  intro i
  rw[List.getElem?_map,List.getElem?_map,List.getElem?_set]
  split
  ·rename_i hij;subst hij
   rw[hx];simp[hg]
  rfl
 have hxm:=List.mem_of_getElem? hx
 refine⟨fun z hz=>?_,?_,fun z hz=>?_,?_,fun z hz=>?_,by rw[List.length_set];exact h.num⟩
 ·rcases List.mem_or_eq_of_mem_set hz with hz|rfl
  ·exact h.key z hz
  rw[h2,h1];exact h.key x hxm
 ·have:=List.pairwise_map.2 h.uniq
  rw[←hm n h1] at this
  exact List.pairwise_map.1 this
 ·rcases List.mem_or_eq_of_mem_set hz with hz|rfl
  ·exact h.born z hz
  rw[h3];exact h.born x hxm
 ·rw[hm (fun x=>(f x).2.2) h3];exact h.bnd
 rcases List.mem_or_eq_of_mem_set hz with hz|rfl
 ·exact h.rng z hz
 rw[h1];exact h.rng x hxm
theorem WOk.ofMem{xs':List WE}{q':Nat}{M':J3}(hk:KOk wK WE.k xs' q')(hs:wSrt M')(hm:∀x,(∃y∈xs',wT y=x)↔x∈M'):WOk xs' q' M':=by
 refine⟨hk,?_,hs⟩
 have hn:(xs'.map wT).Nodup:=List.pairwise_map.2 (hk.uniq.imp fun {a b} h e=>h (congrArg Prod.fst e))
 exact(List.perm_ext_iff_of_nodup hn hs.nodup).2 fun x=>by rw[List.mem_map];exact hm x
theorem WOk.set(h:WOk xs q M){j:Nat}{x:WE}(hx:xs[j]?=some x)(p:Bool)(v:Int):WOk (xs.set j ⟨x.k,p,v,x.b⟩) q (Zem x.k (p,v) M):=by
 refine WOk.ofMem (h.k.set hx rfl rfl rfl) (Vt h.srt) fun z=>?_
 rw[Vm,h.mem]
 have hj:=(List.getElem?_eq_some_iff.1 hx).1
 constructor
 ·rintro⟨y,hy,rfl⟩
  obtain⟨i,hi⟩:=List.mem_iff_getElem?.1 hy
  rw[List.getElem?_set] at hi
  split at hi
  ·rw[←Option.some.inj hi];exact .inl rfl
  rename_i hij
  have hil:=(List.getElem?_eq_some_iff.1 hi).1
  refine .inr ⟨⟨y,List.mem_of_getElem? hi,rfl⟩,fun e=>?_⟩
  have hu:=List.pairwise_iff_getElem.1 h.k.uniq
  have e1:=(List.getElem?_eq_some_iff.1 hi).2
  have e2:=(List.getElem?_eq_some_iff.1 hx).2
  have he:y.k=x.k:=e
  rcases Nat.lt_or_gt_of_ne hij with hlt|hgt
  ·exact hu j i hj hil hlt (by rw[e1,e2];exact he.symm)
  exact hu i j hil hj hgt (by rw[e1,e2];exact he)
 rintro(rfl|⟨⟨y,hy,rfl⟩,hn⟩)
 ·exact⟨⟨x.k,p,v,x.b⟩,List.mem_iff_getElem?.2 ⟨j,by rw[List.getElem?_set,if_pos rfl];simp[hj]⟩,rfl⟩
 obtain⟨i,hi⟩:=List.mem_iff_getElem?.1 hy
 refine⟨y,List.mem_iff_getElem?.2 ⟨i,?_⟩,rfl⟩
 rw[List.getElem?_set,if_neg (fun e=>?_),hi]
 subst e
 rw[hx] at hi
 have:=Option.some.inj hi
 subst this
 exact hn rfl
theorem WOk.snoc(h:WOk xs q M){k:Int}(hn:∀x∈xs,x.k≠k)(hr:-9223372036854775808≤k∧k≤9223372036854775807)(hl:xs.length<4096)(p:Bool)(v:Int):WOk (xs++[⟨k,p,v,q⟩]) (q+1) (Zem k (p,v) M):=by
 refine WOk.ofMem (h.k.snoc rfl hn rfl hr hl) (Vt h.srt) fun z=>?_
 rw[Vm,h.mem]
 constructor
 ·rintro⟨y,hy,rfl⟩
  rcases List.mem_append.1 hy with hy|hy
  ·exact .inr ⟨⟨y,hy,rfl⟩,hn y hy⟩
  rw[List.mem_singleton.1 hy];exact .inl rfl
 rintro(rfl|⟨⟨y,hy,rfl⟩,_⟩)
 ·exact⟨_,List.mem_append_right _ (List.mem_singleton.2 rfl),rfl⟩
 exact⟨y,List.mem_append_left _ hy,rfl⟩
theorem WOk.keys(h:WOk xs q M):(M.map (·.1)).Perm (xs.map WE.k)∧(M.map (·.1)).Pairwise (·≤·):=by
 refine⟨?_,List.pairwise_map.2 (h.srt.imp fun {a b} h=>by omega)⟩
 have:=(h.perm.map (fun x:Int×Bool×Int=>x.1)).symm
 rw[List.map_map] at this
 exact this
end
structure RdS where
 lo:Int
 hi:Int
 less:Zl
 gr:Zl
def Uu(s:RdS)(x:Int×Int):RdS :=
 if x.2+1<s.lo then⟨s.lo,s.hi,s.less++[x],s.gr⟩
 else if s.hi<x.1-1 then⟨s.lo,s.hi,s.less,s.gr++[x]⟩
 else⟨min s.lo x.1,max s.hi x.2,s.less,s.gr⟩
def rdAll(lo hi:Int)(S:Zl):RdS:=S.foldl Uu ⟨lo,hi,[],[]⟩
def rdF(lo hi:Int)(S:Zl):Zl:=let r:=rdAll lo hi S;r.less++[(r.lo,r.hi)]++r.gr
end Go.V
namespace Go.V
open Go
def QB(a b:Int×Int):Prop:=a.2+1<b.1
def SpG(S:Zl):Prop:=S.Pairwise QB∧∀s∈S,s.1≤s.2
def X4(x:Int)(S:Zl):Prop:=∃s∈S,s.1≤x∧x≤s.2
theorem Xy(x:Int):¬X4 x []:=fun⟨_,h,_⟩=>by cases h
theorem US{x:Int}{A B:Zl}:X4 x (A++B)↔X4 x A∨X4 x B:=by
 constructor
 ·rintro⟨s,hs,h⟩
  rcases List.mem_append.1 hs with hs|hs
  ·exact .inl ⟨s,hs,h⟩
  exact .inr ⟨s,hs,h⟩
 rintro(⟨s,hs,h⟩|⟨s,hs,h⟩)
 ·exact⟨s,List.mem_append_left _ hs,h⟩
 exact⟨s,List.mem_append_right _ hs,h⟩
theorem YP{x:Int}{s:Int×Int}{B:Zl}:X4 x (s::B)↔(s.1≤x∧x≤s.2)∨X4 x B:=by
 constructor
 ·rintro⟨y,hy,h⟩
  rcases List.mem_cons.1 hy with rfl|hy
  ·exact .inl h
  exact .inr ⟨y,hy,h⟩
 rintro(h|⟨y,hy,h⟩)
 ·exact⟨s,List.mem_cons_self ..,h⟩
 exact⟨y,List.mem_cons_of_mem _ hy,h⟩
structure RdI(r:RdS)(T:Zl):Prop where
 less:SpG r.less
 gr:SpG r.gr
 le:r.lo≤r.hi
 lb:∀y∈r.less,y.2+1<r.lo
 gb:∀y∈r.gr,r.hi<y.1-1
 lt:∀y∈r.less,∀e∈T,QB y e
 gt:∀y∈r.gr,∀e∈T,QB y e
 rest:SpG T
theorem SpG.snoc{S:Zl}{e:Int×Int}(h:SpG S)(he:e.1≤e.2)(hg:∀y∈S,QB y e):SpG (S++[e]):=by
 refine⟨List.pairwise_append.2 ⟨h.1,List.pairwise_singleton _ _,fun a ha b hb=>?_⟩,fun s hs=>?_⟩
 ·rw[List.mem_singleton.1 hb];exact hg a ha
 rcases List.mem_append.1 hs with hs|hs
 ·exact h.2 s hs
 rw[List.mem_singleton.1 hs];exact he
def JO(r:RdS):Zl:=r.less++[(r.lo,r.hi)]++r.gr
theorem RdI.out{r:RdS}(h:RdI r []):SpG (JO r):=by
 refine⟨List.pairwise_append.2 ⟨List.pairwise_append.2 ⟨h.less.1,List.pairwise_singleton _ _,fun a ha b hb=>?_⟩,h.gr.1,fun a ha b hb=>?_⟩,fun s hs=>?_⟩
 ·rw[List.mem_singleton.1 hb];exact h.lb a ha
 ·have hb':=h.gb b hb
  have hl:=h.le
  rcases List.mem_append.1 ha with ha|ha
  ·have:=h.lb a ha;unfold QB;omega
  rw[List.mem_singleton.1 ha];unfold QB;show r.hi+1<b.1;omega
 rcases List.mem_append.1 hs with hs|hs
 ·rcases List.mem_append.1 hs with hs|hs
  ·exact h.less.2 s hs
  rw[List.mem_singleton.1 hs];exact h.le
 exact h.gr.2 s hs
theorem RdI.step{r:RdS}{e:Int×Int}{T:Zl}(h:RdI r (e::T)):RdI (Uu r e) T∧∀x,X4 x (JO (Uu r e))↔X4 x (JO r)∨(e.1≤x∧x≤e.2):=by
 have hee:=h.rest.2 e (List.mem_cons_self ..)
 obtain⟨hp1,hp2⟩:=List.pairwise_cons.1 h.rest.1
 have hT:SpG T:=⟨hp2,fun s hs=>h.rest.2 s (List.mem_cons_of_mem _ hs)⟩
 have hle:=h.le
 have hlt:∀y∈r.less,∀z∈T,QB y z:=fun y hy z hz=>h.lt y hy z (List.mem_cons_of_mem _ hz)
 have hgt:∀y∈r.gr,∀z∈T,QB y z:=fun y hy z hz=>h.gt y hy z (List.mem_cons_of_mem _ hz)
 unfold Uu
 by_cases c1:e.2+1<r.lo
 ·rw[if_pos c1]
  refine⟨⟨h.less.snoc hee fun y hy=>h.lt y hy e (List.mem_cons_self ..),h.gr,hle,fun y hy=>?_,h.gb,fun y hy z hz=>?_,hgt,hT⟩,fun x=>?_⟩
  ·rcases List.mem_append.1 hy with hy|hy
   ·exact h.lb y hy
   rw[List.mem_singleton.1 hy];exact c1
  ·rcases List.mem_append.1 hy with hy|hy
   ·exact hlt y hy z hz
   rw[List.mem_singleton.1 hy];exact hp1 z hz
  simp only[JO,US,YP,Xy,or_false]
  constructor
  ·rintro(((h1|h1)|h1)|h1)
   ·exact .inl (.inl (.inl h1))
   ·exact .inr h1
   ·exact .inl (.inl (.inr h1))
   exact .inl (.inr h1)
  rintro(((h1|h1)|h1)|h1)
  ·exact .inl (.inl (.inl h1))
  ·exact .inl (.inr h1)
  ·exact .inr h1
  exact .inl (.inl (.inr h1))
 rw[if_neg c1]
 by_cases c2:r.hi<e.1-1
 ·rw[if_pos c2]
  refine⟨⟨h.less,h.gr.snoc hee fun y hy=>h.gt y hy e (List.mem_cons_self ..),hle,h.lb,fun y hy=>?_,hlt,fun y hy z hz=>?_,hT⟩,fun x=>?_⟩
  ·rcases List.mem_append.1 hy with hy|hy
   ·exact h.gb y hy
   rw[List.mem_singleton.1 hy];exact c2
  ·rcases List.mem_append.1 hy with hy|hy
   ·exact hgt y hy z hz
   rw[List.mem_singleton.1 hy];exact hp1 z hz
  simp only[JO,US,YP,Xy,or_false,or_assoc]
 rw[if_neg c2]
 have hgr:r.gr=[]:=by
  cases hg:r.gr with
  |nil=>rfl
  |cons y t =>
   have hy:y∈r.gr:=by rw[hg];exact List.mem_cons_self ..
   have h1:=h.gb y hy
   have h2:y.2+1<e.1:=h.gt y hy e (List.mem_cons_self ..)
   have h3:=h.gr.2 y hy
   omega
 refine⟨⟨h.less,h.gr,?_,fun y hy=>?_,fun y hy=>?_,hlt,hgt,hT⟩,fun x=>?_⟩
 ·show min r.lo e.1≤max r.hi e.2;omega
 ·have h1:=h.lb y hy
  have h2:y.2+1<e.1:=h.lt y hy e (List.mem_cons_self ..)
  show y.2+1<min r.lo e.1;omega
 ·have hy':y∈r.gr:=hy
  rw[hgr] at hy';cases hy'
 have e1:(min r.lo e.1≤x∧x≤max r.hi e.2)↔((r.lo≤x∧x≤r.hi)∨(e.1≤x∧x≤e.2)):=by omega
 simp only[JO,US,YP,Xy,or_false,e1]
 constructor
 ·rintro((h1|h1|h1)|h1)
  ·exact .inl (.inl (.inl h1))
  ·exact .inl (.inl (.inr h1))
  ·exact .inr h1
  exact .inl (.inr h1)
 rintro(((h1|h1)|h1)|h1)
 ·exact .inl (.inl h1)
 ·exact .inl (.inr (.inl h1))
 ·exact .inr h1
 exact .inl (.inr (.inr h1))
theorem RdI.all:∀(T:Zl){r:RdS},RdI r T→SpG (JO (T.foldl Uu r))∧∀x,X4 x (JO (T.foldl Uu r))↔X4 x (JO r)∨X4 x T
 |[],r,h=>⟨h.out,fun x=>⟨.inl,fun h=>h.elim id fun h=>(Xy x h).elim⟩⟩
 |e::T,r,h=>by
  obtain⟨h1,h2⟩:=h.step
  obtain⟨h3,h4⟩:=RdI.all T h1
  refine⟨h3,fun x=>?_⟩
  rw[List.foldl_cons,h4 x,h2 x,YP,or_assoc]
def rdS(lo hi:Int)(S:Zl):Zl:=if lo≤hi then rdF lo hi S else S
theorem Zru{lo hi:Int}{S:Zl}(h:SpG S):SpG (rdS lo hi S)∧∀x,X4 x (rdS lo hi S)↔X4 x S∨(lo≤x∧x≤hi):=by
 unfold rdS
 split
 ·rename_i hl
  have h0:RdI ⟨lo,hi,[],[]⟩ S:=⟨⟨List.Pairwise.nil,fun _ h=>(by cases h)⟩,⟨List.Pairwise.nil,fun _ h=>(by cases h)⟩,hl,fun _ h=>(by cases h),fun _ h=>(by cases h),fun _ h=>(by cases h),fun _ h=>(by cases h),h⟩
  obtain⟨h1,h2⟩:=h0.all S
  refine⟨h1,fun x=>?_⟩
  have h3:=h2 x
  have h4:X4 x (JO ⟨lo,hi,[],[]⟩)↔(lo≤x∧x≤hi):=by simp only[JO,US,YP,Xy,or_false,false_or]
  rw[h4] at h3
  exact h3.trans or_comm
 rename_i hl
 refine⟨h,fun x=>⟨.inl,fun h=>h.elim id fun h=>?_⟩⟩
 omega
def rdL(l:Zl):Zl:=l.foldl (fun S x=>rdS x.1 x.2 S) []
theorem Zht:∀(l:Zl)(S:Zl),SpG S→SpG (l.foldl (fun S x=>rdS x.1 x.2 S) S)∧∀x,X4 x (l.foldl (fun S x=>rdS x.1 x.2 S) S)↔X4 x S∨X4 x l
 |[],S,h=>⟨h,fun x=>⟨.inl,fun h=>h.elim id fun h=>(Xy x h).elim⟩⟩
 |e::l,S,h=>by
  obtain⟨h1,h2⟩:=Zru (lo:=e.1) (hi:=e.2) h
  obtain⟨h3,h4⟩:=Zht l _ h1
  refine⟨h3,fun x=>?_⟩
  rw[List.foldl_cons,h4 x,h2 x,YP,or_assoc]
theorem Zrk(l:Zl):SpG (rdL l)∧∀x,X4 x (rdL l)↔X4 x l:=by
 obtain⟨h1,h2⟩:=Zht l [] ⟨List.Pairwise.nil,fun _ h=>by cases h⟩
 exact⟨h1,fun x=>(h2 x).trans ⟨fun h=>h.elim (fun h=>(Xy x h).elim) id,.inr⟩⟩
end Go.V
namespace Go.V
open Go
def lw1(l:Zl)(w:Int×Bool×Int):Zl:=if w.2.1 then Zs w.1 w.2.2 l else Va w.1 l
def lwA(M:J3)(l:Zl):Zl:=M.foldl lw1 l
theorem D4{l:Zl}{w:Int×Bool×Int}(h:Srt l):Srt (lw1 l w):=by
 unfold lw1;split
 ·exact ZD h
 exact Vy h
theorem Zbz:∀(M:J3){l:Zl},Srt l→Srt (lwA M l)
 |[],_,h=>h
 |_::M,_,h=>Zbz M (D4 h)
theorem Zmu{l:Zl}{w:Int×Bool×Int}(h:Srt l)(z:Int):Zo z (lw1 l w)=if z=w.1 then(if w.2.1 then some w.2.2 else none) else Zo z l:=by
 unfold lw1
 cases w.2.1 with
 |true=>rw[if_pos rfl,Xb h];rfl
 |false=>rw[if_neg (by decide),Ze8 h];rfl
def wvw(z:Int)(M:J3)(o:Option Int):Option Int:=match UP z M with
 |some y=>if y.1 then some y.2 else none
 |none=>o
theorem Zfi(z:Int)(w:Int×Bool×Int)(M:J3):UP z (w::M)=if w.1=z then some w.2 else UP z M:=by
 unfold UP
 rw[List.find?_cons]
 by_cases h:w.1=z
 ·rw[if_pos h,decide_eq_true h];rfl
 rw[if_neg h,decide_eq_false h]
theorem Zd5:∀(M:J3){l:Zl},Srt l→wSrt M→∀z,Zo z (lwA M l)=wvw z M (Zo z l)
 |[],_,_,_,_=>rfl
 |w::M,l,hl,hM,z=>by
  obtain⟨h1,h2⟩:=List.pairwise_cons.1 hM
  show Zo z (lwA M (lw1 l w))=_
  rw[Zd5 M (D4 hl) h2 z,Zmu hl z]
  unfold wvw
  rw[Zfi]
  by_cases h:w.1=z
  ·rw[if_pos h,if_pos h.symm,Up (M:=M) (k:=z) fun x hx=>by have:=h1 x hx;omega]
  rw[if_neg h,if_neg fun e=>h e.symm]
theorem Zb9{a b:Zl}(ha:Srt a)(hb:Srt b)(h:∀e,e∈a↔e∈b):a=b:=by
 have nd:∀{l:Zl},Srt l→l.Nodup:=fun hl=>hl.imp fun {x y} hxy e=>by rw[e] at hxy;omega
 refine List.Perm.eq_of_pairwise (le:=fun x y:Int×Int=>x.1<y.1∨x=y) (fun x y _ _ h1 h2=>?_) (ha.imp fun h=>.inl h) (hb.imp fun h=>.inl h) ((List.perm_ext_iff_of_nodup (nd ha) (nd hb)).2 h)
 rcases h1 with h1|h1
 ·rcases h2 with h2|h2
  ·omega
  exact h2.symm
 exact h1
def inK(lo hi:Int)(x:Int×Int):Bool:=decide (lo≤x.1)&&decide (x.1≤hi)
def Ql(lo hi:Int)(l:Zl):Zl:=l.filter (inK lo hi)
theorem SpG.ext:∀{S T:Zl},SpG S→SpG T→(∀x,X4 x S↔X4 x T)→S=T
 |[],[],_,_,_=>rfl
 |[],t::T,_,hT,h=>absurd ((h t.1).2 ⟨t,by simp,Int.le_refl _,hT.2 t (by simp)⟩) (Xy _)
 |s::S,[],Z,_,h=>absurd ((h s.1).1 ⟨s,by simp,Int.le_refl _,Z.2 s (by simp)⟩) (Xy _)
 |s::S,t::T,Z,hT,h=>by
  obtain⟨hs1,hs2⟩:=List.pairwise_cons.1 Z.1
  obtain⟨ht1,ht2⟩:=List.pairwise_cons.1 hT.1
  have hsl:=Z.2 s (by simp)
  have htl:=hT.2 t (by simp)
  have low:∀{u:Int×Int}{U:Zl},u.1≤u.2→(∀y∈U,QB u y)→∀x,X4 x (u::U)→u.1≤x:=fun hu hU x hx=>by
   rcases YP.1 hx with hx|⟨y,hy,hx⟩
   ·exact hx.1
   have:=hU y hy;unfold QB at this;omega
  have e1:s.1=t.1:=by
   have a1:=low htl ht1 s.1 ((h _).1 ⟨s,by simp,Int.le_refl _,hsl⟩)
   have a2:=low hsl hs1 t.1 ((h _).2 ⟨t,by simp,Int.le_refl _,htl⟩)
   omega
  have top:∀{u v:Int×Int}{U V:Zl},u.1=v.1→u.1≤u.2→(∀y∈U,QB u y)→(∀x,X4 x (v::V)→X4 x (u::U))→v.2≤u.2:=fun {u v U V} e hu hU hV=>by
   refine Classical.byContradiction fun hlt=>?_
   rcases YP.1 (hV (u.2+1) ⟨v,by simp,by omega,by omega⟩) with hx|⟨y,hy,hx⟩
   ·omega
   have:=hU y hy;unfold QB at this;omega
  have e2:s.2=t.2:=by
   have a1:=top (V:=T) e1 hsl hs1 fun x hx=>(h x).2 hx
   have a2:=top (V:=S) e1.symm htl ht1 fun x hx=>(h x).1 hx
   omega
  have est:s=t:=Prod.ext e1 e2
  have tl:∀{u:Int×Int}{U V:Zl},(∀y∈U,QB u y)→u.1≤u.2→(∀y∈U,y.1≤y.2)→(∀x,X4 x (u::U)→X4 x (u::V))→∀x,X4 x U→X4 x V:=fun {u U V} hU hu hUl hV x hx=>by
   obtain⟨y,hy,hxy⟩:=hx
   rcases YP.1 (hV x (YP.2 (.inr ⟨y,hy,hxy⟩))) with h1|h1
   ·have:=hU y hy;unfold QB at this;omega
   exact h1
  subst est
  rw[SpG.ext ⟨hs2,fun y hy=>Z.2 y (by simp[hy])⟩ ⟨ht2,fun y hy=>hT.2 y (by simp[hy])⟩ fun x=>⟨tl hs1 hsl (fun y hy=>Z.2 y (by simp[hy])) (fun x hx=>(h x).1 hx) x,tl ht1 htl (fun y hy=>hT.2 y (by simp[hy])) (fun x hx=>(h x).2 hx) x⟩]
theorem Zb7{R:Zl}{b:Int}(hb:∀s∈R,b≤s.1):∀(n:Nat)(x:Int),(x-b).toNat≤n→X4 x R→∃lo,lo≤x∧(∀y,lo≤y→y≤x→X4 y R)∧¬X4 (lo-1) R
 |0,x,hn,hx=>by
  obtain⟨s,hs,h1,h2⟩:=hx
  have hbs:=hb s hs
  refine⟨x,Int.le_refl _,fun y h3 h4=>?_,fun⟨s',hs',h3,h4⟩=>?_⟩
  ·rw[show y=x by omega];exact⟨s,hs,h1,h2⟩
  have:=hb s' hs';omega
 |n+1,x,hn,hx=>by
  by_cases hp:X4 (x-1) R
  ·obtain⟨lo,h1,h2,h3⟩:=Zb7 hb n (x-1) (by omega) hp
   refine⟨lo,by omega,fun y h4 h5=>?_,h3⟩
   by_cases e:y=x
   ·rw[e];exact hx
   exact h2 y h4 (by omega)
  refine⟨x,Int.le_refl _,fun y h3 h4=>?_,hp⟩
  rw[show y=x by omega];exact hx
structure SpI(R:Zl)(st:List Int)(out:Zl):Prop where
 mem:∀s∈out,s.1∈st∧s.1≤s.2∧(∀x,s.1≤x→x≤s.2→X4 x R)∧¬X4 (s.2+1) R∧¬X4 (s.1-1) R
 asc:out.Pairwise fun a b=>a.1<b.1
 all:∀lo∈st,¬X4 (lo-1) R→∃s∈out,s.1=lo
theorem SpI.nil(R:Zl):SpI R [] []:=⟨fun _ h=>(by cases h),List.Pairwise.nil,fun _ h=>(by cases h)⟩
theorem SpI.skip{R:Zl}{st:List Int}{out:Zl}{lo:Int}(h:SpI R st out)(hc:X4 (lo-1) R):SpI R (st++[lo]) out :=
 ⟨fun s hs=>by obtain⟨h1,h2⟩:=h.mem s hs;exact⟨List.mem_append_left _ h1,h2⟩,h.asc,fun x hx hn=>by
  rcases List.mem_append.1 hx with hx|hx
  ·exact h.all x hx hn
  rw[List.mem_singleton.1 hx] at hn;exact absurd hc hn⟩
theorem SpI.put{R:Zl}{st:List Int}{out:Zl}{lo hi:Int}(h:SpI R st out)(ha:∀z∈st,z<lo)(hl:lo≤hi)(hc:∀x,lo≤x→x≤hi→X4 x R)(h1:¬X4 (hi+1) R)(h2:¬X4 (lo-1) R):SpI R (st++[lo]) (out++[(lo,hi)]):=by
 refine⟨fun s hs=>?_,List.pairwise_append.2 ⟨h.asc,List.pairwise_singleton ..,fun a ha' b hb=>?_⟩,fun x hx hn=>?_⟩
 ·rcases List.mem_append.1 hs with hs|hs
  ·obtain⟨h3,h4⟩:=h.mem s hs;exact⟨List.mem_append_left _ h3,h4⟩
  rw[List.mem_singleton.1 hs];exact⟨by simp,hl,hc,h1,h2⟩
 ·rw[List.mem_singleton.1 hb];exact ha _ (h.mem a ha').1
 rcases List.mem_append.1 hx with hx|hx
 ·obtain⟨s,hs,e⟩:=h.all x hx hn;exact⟨s,List.mem_append_left _ hs,e⟩
 exact⟨(lo,hi),by simp,(List.mem_singleton.1 hx).symm⟩
theorem SpI.spans{R:Zl}{st:List Int}{out:Zl}{b:Int}(h:SpI R st out)(hb:∀s∈R,b≤s.1)(hst:∀s∈R,s.1∈st):SpG out∧∀x,X4 x out↔X4 x R:=by
 refine⟨⟨?_,fun s hs=>(h.mem s hs).2.1⟩,fun x=>⟨fun⟨s,hs,h1,h2⟩=>(h.mem s hs).2.2.1 x h1 h2,fun hx=>?_⟩⟩
 ·have h0:=List.pairwise_iff_getElem.1 h.asc
  refine List.pairwise_iff_getElem.2 fun i j hi hj hij=>?_
  have hab:=h0 i j hi hj hij
  obtain⟨_,a2,a3,a4,_⟩:=h.mem _ (List.getElem_mem hi)
  obtain⟨_,b2,b3,_,b5⟩:=h.mem _ (List.getElem_mem hj)
  generalize out[i]=u at *
  generalize out[j]=v at *
  unfold QB
  refine Classical.byContradiction fun hn=>?_
  by_cases hle:v.1≤u.2
  ·exact b5 (a3 (v.1-1) (by omega) (by omega))
  have e:v.1=u.2+1:=by omega
  exact a4 (e▸b3 v.1 (Int.le_refl _) b2)
 obtain⟨lo,h1,h2,h3⟩:=Zb7 hb (x-b).toNat x (Nat.le_refl _) hx
 obtain⟨s,hs,s1,s2⟩:=h2 lo (Int.le_refl _) h1
 have e:s.1=lo:=Classical.byContradiction fun hne=>h3 ⟨s,hs,by omega,by omega⟩
 obtain⟨u,hu,e2⟩:=h.all lo (e▸hst s hs) h3
 refine⟨u,hu,by omega,?_⟩
 have h4:=(h.mem u hu).2.2.2.1
 exact Classical.byContradiction fun hn=>h4 (h2 (u.2+1) (by have:=(h.mem u hu).2.1;omega) (by omega))
theorem SpI.eq{R:Zl}{st:List Int}{out:Zl}{b:Int}(h:SpI R st out)(hb:∀s∈R,b≤s.1)(hst:∀s∈R,s.1∈st):out=rdL R:=by
 obtain⟨h1,h2⟩:=h.spans hb hst
 obtain⟨h3,h4⟩:=Zrk R
 exact h1.ext h3 fun x=>by rw[h2,h4]
end Go.V
namespace Go.V
open Go Go.RowKit Go.Maps
abbrev A4:=Int×Int×Int×Int
structure TS where
 M:J3
 S:Zl
 sn:Zl
theorem kve{a b:Zl}(ha:Srt a)(hb:Srt b)(h:∀z,Zo z a=Zo z b):a=b :=
 Zb9 ha hb fun e=>by rw[←ZN ha,←ZN hb,h]
end Go.V
namespace Go.V
open Go
theorem Zbb{k:Int}{l r:Zl}(h1:∀x∈l,k<x.1)(h2:∀x∈r,k<x.1):∀c∈Y4 l r,k<c.2.1:=fun c hc=>by
 rcases Xk l r c hc with⟨x,hx,e⟩|⟨x,hx,e⟩
 ·rw[←e];exact h1 x hx
 rw[←e];exact h2 x hx
theorem Qc:∀(l r:Zl),Srt l→Srt r→∀c∈Y4 l r,Zo c.2.1 r=if c.1≠2 then some c.2.2.2 else none
 |[],[],_,_,c,hc=>by rw[Y4] at hc;cases hc
 |[],(k,w)::r,hl,hr,c,hc=>by
  rw[Y4] at hc
  obtain⟨r1,r2⟩:=List.pairwise_cons.1 hr
  rcases List.mem_cons.1 hc with rfl|hc
  ·rw[ZA,if_pos rfl];rfl
  have h1:=Zbb (k:=k) (fun x hx=>by cases hx) r1 c hc
  rw[ZA,if_neg (Int.ne_of_lt h1)];exact Qc [] r hl r2 c hc
 |(k,v)::l,[],hl,hr,c,hc=>by
  rw[Y4] at hc
  obtain⟨l1,l2⟩:=List.pairwise_cons.1 hl
  rcases List.mem_cons.1 hc with rfl|hc
  ·rfl
  exact Qc l [] l2 hr c hc
 |(k,v)::l,(k',w)::r,hl,hr,c,hc=>by
  obtain⟨l1,l2⟩:=List.pairwise_cons.1 hl
  obtain⟨r1,r2⟩:=List.pairwise_cons.1 hr
  rw[Y4] at hc
  split at hc
  ·rename_i hlt
   rcases List.mem_cons.1 hc with rfl|hc
   ·rw[ZA,if_neg (by show ¬k'=k;omega),J1 fun x hx=>(by have:=r1 x hx;show x.1≠k;omega)];rfl
   exact Qc l ((k',w)::r) l2 hr c hc
  split at hc
  ·rename_i hlt hgt
   rcases List.mem_cons.1 hc with rfl|hc
   ·rw[ZA,if_pos rfl];rfl
   have h1:=Zbb (k:=k') (fun x hx=>(by
    rcases List.mem_cons.1 hx with rfl|hx
    ·exact hgt
    have:=l1 x hx;omega)) r1 c hc
   rw[ZA,if_neg (Int.ne_of_lt h1)];exact Qc ((k,v)::l) r hl r2 c hc
  rename_i hlt hgt
  have hk:k'=k:=by omega
  subst hk
  have tail:∀c∈Y4 l r,Zo c.2.1 ((k',w)::r)=if c.1≠2 then some c.2.2.2 else none:=fun c hc=>by
   have h1:=Zbb (k:=k') l1 r1 c hc
   rw[ZA,if_neg (Int.ne_of_lt h1)];exact Qc l r l2 r2 c hc
  split at hc
  ·rcases List.mem_cons.1 hc with rfl|hc
   ·rw[ZA,if_pos rfl];rfl
   exact tail c hc
  exact tail c hc
 termination_by l r=>l.length+r.length
def Hs(c:Qo):Int×Bool×Int:=(c.2.1,decide (c.1≠2),c.2.2.2)
def Zfo(b t:Zl):J3:=(Y4 b t).map Hs
def Z4(b t o:Zl):Zl:=lwA (Zfo b t) o
variable{b t o:Zl}
theorem Vh(hb:Srt b)(ht:Srt t):wSrt (Zfo b t):=List.pairwise_map.2 (Zmf b t hb ht)
theorem Y2(ho:Srt o):Srt (Z4 b t o):=Zbz _ ho
theorem XV(hb:Srt b)(ht:Srt t)(ho:Srt o)(z:Int):Zo z (Z4 b t o)=if Zo z b=Zo z t then Zo z o else Zo z t:=by
 unfold Z4
 rw[Zd5 _ ho (Vh hb ht) z]
 by_cases h:Zo z b=Zo z t
 ·rw[if_pos h,wvw,Up fun x hx e=>?_]
  obtain⟨c,hc,rfl⟩:=List.mem_map.1 hx
  exact(Xx b t hb ht z).1 ⟨c,hc,e⟩ h
 obtain⟨c,hc,e⟩:=(Xx b t hb ht z).2 h
 have h1:UP z (Zfo b t)=some (decide (c.1≠2),c.2.2.2):=(Db (Vh hb ht)).2 (List.mem_map.2 ⟨c,hc,by unfold Hs;rw[e]⟩)
 have h2:=Qc b t hb ht c hc
 rw[e] at h2
 rw[if_neg h,wvw,h1,h2]
 by_cases h3:c.1=2
 ·simp[h3]
 simp[h3]
theorem Zgg(hb:Srt b)(ht:Srt t):Z4 b t b=t:=kve (Y2 hb) ht fun z=>by
 rw[XV hb ht hb];split
 ·assumption
 rfl
theorem Zbk(hb:Srt b)(ho:Srt o):Z4 b b o=o:=kve (Y2 ho) ho fun z=>by rw[XV hb hb ho,if_pos rfl]
theorem Ziq(hb:Srt b)(ht:Srt t):Z4 b t t=t:=kve (Y2 ht) ht fun z=>by
 rw[XV hb ht ht];split<;>rfl
def Apart(b o t:Zl):Prop:=∀z,Zo z o=Zo z b∨Zo z t=Zo z b
theorem Apart.keys(h:Apart b o t)(hb:Srt b)(ho:Srt o)(ht:Srt t):∀c∈Y4 b o,∀d∈Y4 b t,c.2.1≠d.2.1:=fun c hc d hd e=>by
 rcases h c.2.1 with h|h
 ·exact(Xx b o hb ho c.2.1).1 ⟨c,hc,rfl⟩ h.symm
 exact(Xx b t hb ht c.2.1).1 ⟨d,hd,e.symm⟩ h.symm
def UQ(M:Zl)(ks:List Int):Zl:=ks.filterMap fun k=>(Zo k M).map fun v=>(k,v)
theorem Dv{M:Zl}{ks:List Int}{p:Nat}{k:Int}(h:ks[p]?=some k):UQ M (ks.take (p+1))=UQ M (ks.take p)++(match Zo k M with|some v=>[(k,v)]|none=>[]):=by
 unfold UQ
 rw[List.take_add_one,h,List.filterMap_append]
 cases hg:Zo k M<;>simp[hg]
theorem Zgd(M:Zl)(ks:List Int):(UQ M ks).length≤ks.length:=List.length_filterMap_le _ _
theorem Zil{M:Zl}{ks:List Int}(hM:Srt M)(hk:ks.Pairwise (· < ·))(h:∀x∈M,x.1∈ks):UQ M ks=M:=by
 refine Zb9 ?_ hM fun e=>?_
 ·unfold UQ Srt
  rw[List.pairwise_filterMap]
  refine hk.imp fun {a c} hac x hx y hy=>?_
  obtain⟨v,_,rfl⟩:=Option.map_eq_some_iff.1 hx
  obtain⟨u,_,rfl⟩:=Option.map_eq_some_iff.1 hy
  exact hac
 unfold UQ
 rw[List.mem_filterMap]
 constructor
 ·rintro⟨k,_,h1⟩
  obtain⟨v,h2,rfl⟩:=Option.map_eq_some_iff.1 h1
  exact(ZN hM).1 h2
 intro he
 exact⟨e.1,h e he,by rw[(ZN hM (k:=e.1) (v:=e.2)).2 he];rfl⟩
end Go.V
namespace Go.V
open Go Go.RowKit Go.Maps
structure MdlA where
 ga:Option Addr
 oa:Option Addr
 va:Option Addr
 gb:Option Addr
 ob:Option Addr
 vb:Option Addr
 gc:Nat
 oc:Nat
 vc:Nat
 gd:Nat
 od:Nat
 vd:Nat
def QE(m:Nat)(z:RSt)(y:MdlA):List HP:=[Zq m #[.int .i64 z.cap,.int .i64 z.T.s.cap,.slice z.ra (Za z.T.s.rel).length z.rc,.int .i64 (z.T.s.fresh+1),.slice z.ga (Za (z.T.s.gen.drop 1)).length z.gc,.slice z.oa (Zk (z.T.s.used.drop 1)).length z.oc,.slice z.va (Za (z.T.vals.drop 1)).length z.vc,.int .i64 z.cap,.slice z.pa (ZL z.P).length z.pc,.slice z.ba (Zk z.B).length z.bc,.slice z.la (Yz z.LL).length z.lc,.slice none 0 0,
 .int .i64 (TM.new 1).s.cap,.slice none (Za (TM.new 1).s.rel).length 0,.int .i64 ((TM.new 1).s.fresh+1),.slice y.ga (Za ((TM.new 1).s.gen.drop 1)).length y.gc,.slice y.oa (Zk ((TM.new 1).s.used.drop 1)).length y.oc,.slice y.va (Za ((TM.new 1).vals.drop 1)).length y.vc,
 .int .i64 (TM.new 1).s.cap,.slice none (Za (TM.new 1).s.rel).length 0,.int .i64 ((TM.new 1).s.fresh+1),.slice y.gb (Za ((TM.new 1).s.gen.drop 1)).length y.gd,.slice y.ob (Zk ((TM.new 1).s.used.drop 1)).length y.od,.slice y.vb (Za ((TM.new 1).vals.drop 1)).length y.vd,.slice none 0 0,.slice none 0 0] 90,ZE Xr [z],
 Sh 93 1 (Za ((TM.new 1).s.gen.drop 1)) y.ga y.gc,Sh 4 1 (Zk ((TM.new 1).s.used.drop 1)) y.oa y.oc,Sh 93 1 (Za ((TM.new 1).s.gen.drop 1)) y.gb y.gd,Sh 4 1 (Zk ((TM.new 1).s.used.drop 1)) y.ob y.od]
def Xp(m:Nat)(z:RSt):HP:=ExB (QE m z)
structure DrvA where
 u:Option Addr
 c:Nat
def Yw(d p m:Nat)(hs:List Int)(y:DrvA):List HP:=[Zq d #[.pointer (some ⟨p,0,none⟩),.pointer (some ⟨m,0,none⟩),.slice y.u (Zv hs).length y.c,.slice none 0 0,.slice none 0 0,.slice none 0 0,.slice none 0 0,.int .i64 0] 58,Zp 23 1 (Zv hs) y.u y.c]
def HZ(d p m:Nat)(hs:List Int):HP:=ExB (Yw d p m hs)
end Go.V
namespace Go.V
open Go Go.RowKit Go.Maps
structure StoA where
 nm:Nat
 c:Nat
 x:Nat
 m:Nat
def JI(p s a:Nat)(V:VM)(y:StoA):List HP:=[Zq p #[.pointer (some ⟨s,0,none⟩),.pointer (some ⟨y.nm,0,none⟩),.pointer (some ⟨y.c,0,none⟩),.pointer (some ⟨y.x,0,none⟩),.map (some y.m)] 109,Qp s a V,Yy y.m (.map (mE []) 0)]
def YO(p s a:Nat)(V:VM):HP:=ExB (JI p s a V)
end Go.V
namespace Go.Proofs.YtpebgkkmgffmaaaGreatDoor
open Go Go.V Go.RowKit Go.Maps
set_option maxHeartbeats 8000000
set_option maxRecDepth 8192
variable{g w:World}{L:List HP}
theorem Znw(Z:St g (L) w) :
  Zr g L 29 [] w fun rV=>∃(t:Nat),rV (.P t) []:=by
 refine Sp.en Tryz.func29 ?_
 refine Zuq rfl rfl Z (fun b1 w Z=>?_)
 refine Zs4 rfl rfl (cs:=[.map (some b1)]) zv_173.h rfl rfl<|Zsp fun b2 w Z=>?_
 replace Z:=(Z.sel 2 [] rfl)
 exact⟨_,rfl,Z⟩
def Zdr(sl cv cc cx:Int):Prop:=(1≤sl∧sl≤65536)∧(1≤cv∧cv≤4096)∧(1≤cc∧cc≤4096)∧(1≤cx∧cx≤4096)
instance(sl cv cc cx:Int):Decidable (Zdr sl cv cc cx):=by unfold Zdr;infer_instance
theorem Zes(sl cv cc cx:Int)(hc:Zdr sl cv cc cx)(Z:St g (L) w) :
  Zr g L 13 [.agg #[.I sl,.I cv,.I cc,.I cx]] w fun rV=>∃(p s a:Nat),rV (.tuple #[.P p,.I 0]) [YO p s a (VM.new cv.toNat),Zt a (AM.new sl.toNat)]:=by
 refine Sp.en Tryz.func13 ?_
 refine Zsp fun b1 w Z=>?_
 obtain⟨h1,h2,h3,h4⟩:=hc
 refine Sz ?_
 refine Zsz (Zfq sl cv h2 h1 Z) fun w s1 a1 Z=>?_
 refine Zt7 (Uw cc h3 Z) fun w t1 Z=>?_
 refine Zt7 (Uw cx h4 Z) fun w t2 Z=>?_
 refine Zt7 (Znw Z) fun w t3 Z=>?_
 refine Zuq rfl rfl Z (fun b2 w Z=>?_)
 refine Zs4 rfl rfl (cs:=[.P s1,.P t3,.P t1,.P t2,.map (some b2)]) zv_109.h rfl rfl<|Zsp fun b3 w Z=>?_
 replace Z:=St.cl (f:=JI b3 s1 a1 (VM.new cv.toNat)) ⟨_,_,_,_⟩ (Z.sel 5 [0,3,0,0,0] rfl)
 replace Z:=Z.z
 refine Sz ?_
 replace Z:=(Z.sel 5 [0,2] rfl)
 exact⟨_,_,_,rfl,Z⟩
theorem YB(p s a:Nat)(V:VM)(Z:St g (YO p s a V::L) w) :
  Zr g L 32 [.P p] w fun rV=>rV (.P a) [YO p s a V]:=by
 refine Sp.en Tryz.func32 ?_
 obtain⟨⟨nm,c,x,m⟩,Z⟩:=St.exOpen Z
 replace Z:=Z.z
 refine Sz ?_
 refine Zse (Zgx _ _ _ (Z.sel 2 [1,0] rfl)) fun w Z=>?_
 replace Z:=St.cl (f:=JI p s a V) ⟨_,_,_,_⟩ (Z.sel 2 [1,0] rfl)
 replace Z:=Z.z
 refine Sz ?_
 exact⟨rfl,Z⟩
end Go.Proofs.YtpebgkkmgffmaaaGreatDoor
namespace Go.Proofs.YtpebgkkmgffmaaaGreatDoor
open Go Go.V
set_option maxHeartbeats 8000000
set_option maxRecDepth 8192
variable{g w:World}{L:List HP}
theorem Zag(y:ZM)(ab ae ac:Option Addr)(cb ce cc:Nat)(f:Int)(Z:St g (L) w) :
  Zr g L 81 [.agg #[.I y.code,.U y.a,.U y.b,.I y.key,.I y.val,.I y.lo,.I y.hi,.I y.n,.bool y.flag,.string y.name,.slice ab y.lb cb,.slice ae y.le ce,.slice ac y.lc cc],.int .i32 f] w fun rV=>∃(ab2 ae2 ac2:Option Addr)(cb2 ce2 cc2:Nat),rV (.agg #[.I (Z_ f y).code,.U (Z_ f y).a,.U (Z_ f y).b,.I (Z_ f y).key,.I (Z_ f y).val,.I (Z_ f y).lo,.I (Z_ f y).hi,.I (Z_ f y).n,.bool (Z_ f y).flag,.string (Z_ f y).name,.slice ab2 (Z_ f y).lb cb2,.slice ae2 (Z_ f y).le ce2,.slice ac2 (Z_ f y).lc cc2]) []:=by
 refine Sp.en Tryz.func81 ?_
 refine Zsp fun b1 w Z=>?_
 refine Zsk fun b2 w Z=>?_
 refine Zsi (fun cd1=>?_) fun cd1=>?_
 ·refine Zss fun w Z=>?_
  refine Zsh fun w Z=>?_
  replace Z:=(Z.sel 2 [] rfl)
  subst cd1;rw[Zpf];exact⟨_,_,_,_,_,_,rfl,Z⟩
 refine Zsi (fun cd2=>?_) fun cd2=>?_
 ·refine Zss fun w Z=>?_
  refine Zsh fun w Z=>?_
  replace Z:=(Z.sel 2 [] rfl)
  subst cd2;rw[Zpl];exact⟨_,_,_,_,_,_,rfl,Z⟩
 refine Zsi (fun cd3=>?_) fun cd3=>?_
 ·refine Zss fun w Z=>?_
  refine Zsh fun w Z=>?_
  replace Z:=(Z.sel 2 [] rfl)
  subst cd3;rw[Zqu];exact⟨_,_,_,_,_,_,rfl,Z⟩
 refine Zsi (fun cd4=>?_) fun cd4=>?_
 ·refine Zss fun w Z=>?_
  refine Zsh fun w Z=>?_
  replace Z:=(Z.sel 2 [] rfl)
  subst cd4;rw[Zq0];exact⟨_,_,_,_,_,_,rfl,Z⟩
 refine Zsi (fun cd5=>?_) fun cd5=>?_
 ·refine Zss fun w Z=>?_
  refine Zsh fun w Z=>?_
  replace Z:=(Z.sel 2 [] rfl)
  subst cd5;rw[Zp6];exact⟨_,_,_,_,_,_,rfl,Z⟩
 refine Zsi (fun cd6=>?_) fun cd6=>?_
 ·refine Zss fun w Z=>?_
  refine Zsh fun w Z=>?_
  replace Z:=(Z.sel 2 [] rfl)
  subst cd6;rw[Zpx];exact⟨_,_,_,_,_,_,rfl,Z⟩
 refine Zsi (fun cd7=>?_) fun cd7=>?_
 ·refine Zss fun w Z=>?_
  refine Zsh fun w Z=>?_
  replace Z:=(Z.sel 2 [] rfl)
  subst cd7;rw[Zra];exact⟨_,_,_,_,_,_,rfl,Z⟩
 refine Zsi (fun cd8=>?_) fun cd8=>?_
 ·refine Zss fun w Z=>?_
  refine Zsh fun w Z=>?_
  replace Z:=(Z.sel 2 [] rfl)
  subst cd8;rw[Zo6];exact⟨_,_,_,_,_,_,rfl,Z⟩
 refine Zsi (fun cd9=>?_) fun cd9=>?_
 ·refine Zss fun w Z=>?_
  refine Zsh fun w Z=>?_
  replace Z:=(Z.sel 2 [] rfl)
  subst cd9;rw[Zr7];exact⟨_,_,_,_,_,_,rfl,Z⟩
 refine Zsi (fun cd10=>?_) fun cd10=>?_
 ·refine Zss fun w Z=>?_
  refine Zsh fun w Z=>?_
  replace Z:=(Z.sel 2 [] rfl)
  subst cd10;rw[Zqi];exact⟨_,_,_,_,_,_,rfl,Z⟩
 refine Zsi (fun cd11=>?_) fun cd11=>?_
 ·refine Zss fun w Z=>?_
  refine Zsh fun w Z=>?_
  replace Z:=(Z.sel 2 [] rfl)
  subst cd11;rw[Zqt];exact⟨_,_,_,_,_,_,rfl,Z⟩
 refine Zsi (fun cd12=>?_) fun cd12=>?_
 ·refine Zss fun w Z=>?_
  refine Zsh fun w Z=>?_
  replace Z:=(Z.sel 2 [] rfl)
  subst cd12;rw[Zrd];exact⟨_,_,_,_,_,_,rfl,Z⟩
 refine Zsh fun w Z=>?_
 replace Z:=(Z.sel 2 [] rfl)
 rw[YI (by unfold Z8;omega)];exact⟨_,_,_,_,_,_,rfl,Z⟩
end Go.Proofs.YtpebgkkmgffmaaaGreatDoor
namespace Go.Proofs.YtpebgkkmgffmaaaGreatDoor
open Go Go.V
set_option maxHeartbeats 8000000
set_option maxRecDepth 8192
variable{g w:World}{L:List HP}
theorem Zai(x:OpM)(ab ae ac:Option Addr)(cb ce cc:Nat)(Z:St g (Sh 181 4 (Yo x.chs) ac cc::L) w) :
  Cp g L 34 [.agg #[.I x.code,.U x.a,.U x.b,.I x.key,.I x.val,.I x.lo,.I x.hi,.I x.n,.bool x.flag,.string x.name,.slice ab (Jk x.bytes).length cb,.slice ae (Zm x.ents).length ce,.slice ac (Yo x.chs).length cc]] w fun rV=>∃(ok:Bool),rV (.bool ok) [Sh 181 4 (Yo x.chs) ac cc] (ok=true↔QD x):=by
 refine Sp.en Tryz.func34 ?_
 refine Zsp fun b1 w Z=>?_
 refine Zse (Vo x.code Z) fun w Z=>?_
 refine Zs7 33 [.I x.n,.I x.n,.string x.name,.slice ab (Jk x.bytes).length cb,.slice ae (Zm x.ents).length ce,.slice ac (Yo x.chs).length cc] rfl (by exact⟨fun _=>Z.ld 0 rfl rfl,fun _=>Z.ld 0 rfl rfl,fun _=>Z.ld 0 rfl rfl,fun _=>Z.ld 0 rfl rfl,fun _=>Z.ld 0 rfl rfl,fun _=>Z.ld 0 rfl rfl⟩) (fun j=>?_)
 refine Zsx 52 rfl (X2 (X2 (X2 (X2 (X2 (X2 (Jy (dv _)) (dd _)) (dd _)) (dd _)) (dd _)) (dd _)) (dd _)) ?_
 refine Sz ?_
 refine Zsr rfl (fun cd1=>?_) (fun cd1=>?_)
 ·have hl4:=ZH x.chs;have hl2:=Zu x.ents;have hl1:=YH x.bytes
  refine Sz ?_
  replace Z:=(Z.sel 1 [] rfl)
  refine⟨_,rfl,Z,⟨fun h=>(by cases h),fun h=>?_⟩⟩
  obtain⟨h1,⟨h2,h3,h4,h5,h6⟩,_⟩:=h
  rcases cd1 with((((((c|c)|c)|c)|c)|c)|c)
  ·exact absurd h1 c
  all_goals omega
 have hl4:=ZH x.chs;have hl2:=Zu x.ents;have hl1:=YH x.bytes
 refine Sz ?_
 refine Zst [1,3,54,55] [56] (fun kM vs jS=>∃(k:Nat),vs=[.I (k:Int)]∧jS []∧(k≤x.chs.length)∧(∀y∈x.chs.take k,0≤y.1∧y.1≤255)∧(x.chs.length-k)=kM) rfl ⟨0,rfl,Z,(Nat.zero_le _),(fun _ h=>by cases h),rfl⟩ ?_
 rintro _ _ w j ⟨k,rfl,Z,hk,hall,rfl⟩
 replace Z:=Z.z
 have hl4:=ZH x.chs;have hl2:=Zu x.ents;have hl1:=YH x.bytes
 refine Sz ?_
 refine Zsr rfl (fun cd2=>?_) (fun cd2=>?_)
 ·obtain⟨y,hy⟩:∃y,x.chs[k]?=some y:=⟨_,List.getElem?_eq_getElem (by omega)⟩
  refine Sz ?_
  refine Zsq rfl rfl (i:=(k:Int)) (k) el_35 rfl rfl (by omega) (X1 (ZP hy)) (Z.rdS 1 rfl (ZP hy)).1 ?_
  refine Ztx rfl rfl [.I y.1,.I y.2.1,.I y.2.2.1,.I y.2.2.2] ag_181.h rfl (Z.rdS 1 rfl (ZP hy)).2<|Zsk fun b2 w Z=>?_
  refine Zsh fun w Z=>?_
  refine Zs7 4 [.I y.1] rfl (by exact(fun _=>Z.ld 0 rfl rfl)) (fun j=>?_)
  refine Zsx 67 rfl (X2 (dd _) (dd _)) ?_
  refine Sz ?_
  refine Zsi (fun cd3=>?_) fun cd3=>?_
  ·replace Z:=(Z.sel 2 [] rfl)
   refine⟨_,rfl,Z,⟨fun h=>(by cases h),fun h=>?_⟩⟩
   have:=h.2.2.1 y (List.mem_of_getElem? hy);omega
  exact⟨_,by omega,rfl,k+1,rfl,(Z.sel 1 [] rfl),(by omega),(fun z hz=>by rw[List.take_add_one,hy] at hz;simp only[Option.toList,List.mem_append,List.mem_singleton] at hz;rcases hz with hz|rfl<;>first|exact hall z hz|omega),rfl⟩
 refine Sz ?_
 refine Zsk fun b2 w Z=>?_
 refine Zsh fun w Z=>?_
 try simp only[not_or,Classical.not_not] at cd1
 refine Sz ?_
 refine Zv4 rfl rfl rfl Z rfl (fun b3 w Z=>?_)
 replace Z:=Z.z
 refine Sz ?_
 refine Zst [7,71] [] (fun kM vs jS=>∃(k:Nat)(y:ZM)(zb ze zc:Option Addr)(yb ye yc:Nat),vs=[]∧jS [Yy b3 (.stringIter (JG (fs x.code)) k),Zq b2 #[.I y.code,.U y.a,.U y.b,.I y.key,.I y.val,.I y.lo,.I y.hi,.I y.n,.bool y.flag,.string y.name,.slice zb y.lb yb,.slice ze y.le ye,.slice zc y.lc yc] 43]∧(Z1 (fs x.code) (zOf x)=Z1 ((fs x.code).drop k) y)∧((fs x.code).length-k)=kM) rfl ⟨0,zOf x,_,_,_,_,_,_,rfl,Z,rfl,rfl⟩ ?_
 rintro _ _ w j ⟨k,y,zb,ze,zc,yb,ye,yc,rfl,Z,hr,rfl⟩
 replace Z:=Z.z
 try simp only[not_or,Classical.not_not] at cd1
 refine Sz ?_
 refine Zv5 rfl rfl rfl rfl rfl rfl rfl 0 (fs_as _) Z rfl rfl (fun w Z=>?_)
 replace Z:=Z.z
 as_aux_lemma =>
 refine Sz ?_
 refine Zsr rfl (fun cd3=>?_) (fun cd3=>?_)
 ·refine Zvw 72 (.tuple #[.bool true,.I (k:Int),.int .i32 (List.getD (fs x.code) k 0)]) (Zok cd3) ?_
  rw[if_pos cd3] at Z
  refine Sz ?_
  refine Zte rfl rfl (Zag y zb ze zc yb ye yc (List.getD (fs x.code) k 0) Z) rfl ?_
  generalize hY1:Z_ (List.getD (fs x.code) k 0) y=Y1
  clear Z;rintro _ w ⟨ab1,ae1,ac1,cb1,ce1,cc1,rfl,Z⟩
  replace Z:=Z.z
  refine Zsh fun w Z=>?_
  exact⟨_,by omega,rfl,k+1,Y1,_,_,_,_,_,_,rfl,Z,(by rw[hr,Zhj cd3,hY1]),rfl⟩
 rw[if_neg cd3] at Z
 refine Sz ?_
 refine Zs7 30 [.U y.b,.I y.key,.I y.val,.I y.lo,.I y.hi,.I y.n] rfl (by exact⟨fun _=>Z.ld 1 rfl rfl,fun _=>Z.ld 1 rfl rfl,fun _=>Z.ld 1 rfl rfl,fun _=>Z.ld 1 rfl rfl,fun _=>Z.ld 1 rfl rfl,fun _=>Z.ld 1 rfl rfl⟩) (fun j=>?_)
 refine Zsx 110 rfl (Zy (Zy (Zy (Zy (Zy (Zy (dd _) (dd _)) (dd _)) (dd _)) (dd _)) (dd _)) (dd _)) ?_
 refine Sz ?_
 refine Zs7 28 [.bool y.flag,.string y.name,.slice zb y.lb yb,.slice ze y.le ye,.slice zc y.lc yc] rfl (by exact⟨fun _=>Z.ld 1 rfl rfl,fun _=>Z.ld 1 rfl rfl,fun _=>Z.ld 1 rfl rfl,fun _=>Z.ld 1 rfl rfl,fun _=>Z.ld 1 rfl rfl⟩) (fun j=>?_)
 refine Zsx 139 rfl (Zy (Zy (Zy (Zy (Zy (Zy (Zy (Zy (Zy (Zy (Zy (dd _) (dd _)) (dd _)) (dd _)) (dd _)) (dd _)) (dd _)) (Jy (dv _))) (dd _)) (dd _)) (dd _)) (dd _)) ?_
 refine Sz ?_
 replace Z:=(Z.sel 3 [] rfl)
 refine⟨_,rfl,Z,?_⟩
 simp only[Bool.cond_false_right,Bool.and_eq_true,decide_eq_true_eq,Bool.not_eq_true',and_assoc,nat0]
 rw[Zjk (by rw[hr,Ze1 cd3])]
 refine⟨fun h=>⟨?_,⟨?_,?_,?_,?_,?_⟩,?_,h⟩,fun h=>h.2.2.2⟩
 ·exact cd1.1.1.1.1.1.1
 all_goals first|omega|skip
 rw[List.take_of_length_le (by omega)] at hall;exact hall
end Go.Proofs.YtpebgkkmgffmaaaGreatDoor
namespace Go.Proofs.YtpebgkkmgffmaaaGreatDoor
open Go Go.V Go.RowKit Go.Maps
set_option maxHeartbeats 8000000
set_option maxRecDepth 8192
theorem opn_0{V:VM}(hT:TOk V.T):V.T.s.opn 0=false:=by
 have:V.T.s.ok 0=false:=hT.s.u0
 unfold SM.opn
 rw[show(0:Int)%4294967296=0 from rfl,this];rfl
variable{g w:World}{L:List HP}
theorem D6(p s a:Nat)(V:VM)(hT:TOk V.T)(Z:St g (YO p s a V::L) w) :
  Zr g L 87 [.P p,.U 0] w fun rV=>rV (.W 0) [YO p s a V]:=by
 refine Sp.en Tryz.func87 ?_
 obtain⟨⟨nm,c,x,m⟩,Z⟩:=St.exOpen Z
 replace Z:=Z.z
 refine Sz ?_
 refine Zse (Vb _ _ _ 0 hT (by decide) (opn_0 hT) (Z.sel 2 [1,0] rfl)) fun w Z=>?_
 replace Z:=St.cl (f:=JI p s a V) ⟨_,_,_,_⟩ (Z.sel 2 [1,0] rfl)
 replace Z:=Z.z
 refine Sz ?_
 exact⟨rfl,Z⟩
end Go.Proofs.YtpebgkkmgffmaaaGreatDoor
namespace Go.V
open Go Go.RowKit
structure FZ(c u:Int)(V:VM)(A:AM)(hd root:Int)(t:Tr):Prop where
 vi:VI V A []
 opn:V.T.s.opn hd=true
 rng:0≤hd∧hd≤18446744073709551615
 val:V.T.val hd=V.last
 pre:∀z,ZF V.xs z=true↔z=V.last
 free:V.T.s.free=c-1
 cap:V.cap=c
 rs:∃b,V.rs=[⟨V.last,root,b⟩]
 is:Is A t root
 ok:t.ok
 srt:Srt t.ls
 acap:(A.s.used.length:Int)=u+1
theorem FZ.len{c u:Int}{V:VM}{A:AM}{hd root:Int}{t:Tr}(h:FZ c u V A hd root t):V.xs.length=1:=Hq h.vi.g.ok.uniq h.pre
theorem FZ.room{c u:Int}{V:VM}{A:AM}{hd root:Int}{t:Tr}(h:FZ c u V A hd root t):V.room=c-1:=by
 have h1:=h.len;have h2:=h.vi.cp;have h3:=h.cap;have h4:=h.free
 unfold VM.room;omega
theorem FZ.root{c u:Int}{V:VM}{A:AM}{hd root:Int}{t:Tr}(h:FZ c u V A hd root t):V.rootOf (V.T.val hd)=root:=by
 obtain⟨b,hb⟩:=h.rs
 rw[h.val]
 exact VM.rootOf_at (V:=V) h.vi.k.uniq (k:=0) (r:=⟨V.last,root,b⟩) (by rw[hb];rfl)
theorem FZ.ref{c u:Int}{V:VM}{A:AM}{hd root:Int}{t:Tr}(h:FZ c u V A hd root t):ARf A [root]:=by
 obtain⟨b,hb⟩:=h.rs
 have:=h.vi.ref
 rw[hb] at this;exact this
theorem FZ.used{c u:Int}{V:VM}{A:AM}{hd root:Int}{t:Tr}(h:FZ c u V A hd root t):A.s.cap=u∧A.s.cap-A.s.free=t.n:=by
 have h1:=C6 h.ref h.is h.srt
 have h2:A.s.cap=(A.s.used.length:Int)-1:=rfl
 have h3:=h.acap
 omega
end Go.V
namespace Go.Proofs.YtpebgkkmgffmaaaGreatDoor
open Go Go.V Go.RowKit Go.Maps
theorem Com.pre{V V2:VM}{A:AM}{R ps:List Int}{root:Int}(hV:VI V A R)(h:Com V root ps V2):(∀z,ZF V2.xs z=(ZF V.xs z || decide (z=V.last+1)))∧(∀z,Zi V2.xs z=(Zi V.xs z || decide (z=V.last+1)))∧V2.rs=V.rs++[⟨V.last+1,root,V.q2⟩]:=by
 obtain⟨⟨xs2,q,rfl,hA⟩,h0⟩:=h
 obtain⟨_,_,_,h1,h2,_⟩:=(AddP.facts hV.g.le hA).resolve_left fun e=>e.1 h0
 exact⟨h2,h1,rfl⟩
theorem FZ.init{cc uu:Nat}(hc:2≤cc∧cc≤4096)(hu:1≤uu∧uu≤65536){V1:VM}(f1:VI V1 (AM.new uu) [])(f2:Com (VM.new cc) 0 [] V1):FZ (cc:Int) (uu:Int) V1 (AM.new uu) (VM.new cc).T.newH 0 .nil∧V1.last=1:=by
 have hV0:=VI.new (slots:=uu) (cap:=cc) (by omega) (by omega)
 have hr0:=Zfz (n:=cc)
 have a1:=Com.add1 hV0 f2 (by rw[hr0];omega)
 obtain⟨p1,_,p3⟩:=Com.pre hV0 f2
 have la:V1.last=1:=a1.la
 refine⟨⟨f1,a1.opn,a1.rng,by rw[a1.val,la];rfl,fun z=>?_,?_,a1.cap,⟨0,by rw[p3,la];rfl⟩,rfl,trivial,List.Pairwise.nil,(by show((List.replicate (uu+1) false).length:Int)=uu+1;rw[List.length_replicate];omega)⟩,la⟩
 ·rw[p1,la]
  show((ZF [] z) || decide (z=0+1))=true↔z=1
  simp[ZF,Z0]
 rw[a1.free,show(VM.new cc).T.s.free=((cc:Nat):Int) from SM.new_free cc]
theorem FZ.step{cc uu:Int}(hcc:2≤cc){V V2 V3:VM}{A A1 A3 A4:AM}{hd root j1:Int}{t t':Tr}{c:Nat}(h:FZ cc uu V A hd root t)(hI:TOp A A1 (V.rs.map RN.root++[]) j1 t' c)(hok:t'.ok)(hsr:Srt t'.ls)(hC:Com V j1 [V.T.val hd] V2)(hV2:VI V2 (A1.ret j1) [j1])(hL:Rl (A1.ret j1) A3 (V2.rs.map RN.root++[]))(hR:Rls V2 hd V3)(hV3:VI V3 A4 [])(kp:Kp A3 A4 (V3.rs.map RN.root++[]))(hu:A4.s.used.length=A3.s.used.length):FZ cc uu V3 A4 V.T.newH j1 t'∧V3.last=V.last+1:=by
 have hr:=h.room
 have hV1:VI V A1 [j1]:=h.vi.ar (hI.ref.perm (by simpa using(List.perm_middle (a:=j1) (l₁:=V.rs.map RN.root) (l₂:=[])).symm))
 have a1:=Com.add1 hV1 hC (by omega)
 obtain⟨p1,p2,p3⟩:=Com.pre hV1 hC
 have hold:=a1.old hd h.opn
 have l3:V3.last=V.last+1:=by rw[congrArg VM.last hR.eq];exact a1.la
 have hvh:V2.T.val hd=V.last:=by rw[hold.2,h.val]
 have hcl:=hV2.t.opn_close hold.1 a1.opn (by rw[hvh,a1.val];omega)
 have hT3:V3.T=V2.T.close hd:=congrArg VM.T hR.eq
 rw[←hT3] at hcl
 have hlast:Zi V.xs V.last=true:=by have:=(VM.open_val h.vi h.opn).1;rw[h.val] at this;exact this
 have hrel:=hR.rel
 rw[hvh] at hrel
 have hpre:=Zak (m:=V.last+1) hrel (by rw[p2,hlast];rfl) (fun z hz=>by
  rw[p2,Bool.or_eq_true] at hz
  rcases hz with hz|hz
  ·exact .inl ((h.pre z).1 (Ya hz))
  exact .inr (of_decide_eq_true hz)) (by rw[p2];simp) (by omega)
 obtain⟨b,hb⟩:=h.rs
 have hrs:V3.rs=[⟨V.last+1,j1,V.q2⟩]:=Zfg hV3.k.uniq fun x=>by
  rw[hR.sub x,p3,hb,hpre]
  constructor
  ·rintro⟨h1,h2⟩
   simp only[List.cons_append,List.nil_append,List.mem_cons,List.not_mem_nil,or_false] at h1
   rcases h1 with h1|h1
   ·rw[h1] at h2;exact absurd h2 (by show ¬V.last=V.last+1;omega)
   exact h1
  intro h1;rw[h1];exact⟨by simp,rfl⟩
 refine⟨⟨hV3,hcl.1,a1.rng,by rw[hcl.2,a1.val,l3],fun z=>by rw[hpre,l3],?_,?_,⟨V.q2,by rw[hrs,l3]⟩,?_,hok,hsr,?_⟩,l3⟩
 ·rw[hT3,show(V2.T.close hd).s.free=V2.T.s.free+1 from SM.release_free _,a1.free,h.free];omega
 ·rw[congrArg VM.cap hR.eq];show V2.cap=cc;rw[a1.cap,h.cap]
 ·have h1:=hL.kp j1 (by rw[p3];simp) t' (hI.is.ret j1)
  exact kp j1 (by rw[hrs];simp) t' h1
 rw[hu,hL.cap,(AM.ret_same _ _).1,hI.cap,h.acap]
set_option maxHeartbeats 8000000
set_option maxRecDepth 8192
variable{g w:World}{L:List HP}
theorem HU(p s a:Nat)(V:VM)(A:AM)(R:List Int)(h:Int)(hV:VI V A R)(hh:0≤h∧h≤18446744073709551615)(hn:V.T.s.opn h=true)(Z:St g (YO p s a V::L) w) :
  Zr g L 87 [.P p,.U h] w fun rV=>rV (.W (V.rootOf (V.T.val h))) [YO p s a V]:=by
 refine Sp.en Tryz.func87 ?_
 obtain⟨⟨nm,c,x,m⟩,Z⟩:=St.exOpen Z
 replace Z:=Z.z
 refine Sz ?_
 refine Zse (QH _ _ _ A R h hV hh hn (Z.sel 2 [1,0] rfl)) fun w Z=>?_
 replace Z:=St.cl (f:=JI p s a V) ⟨_,_,_,_⟩ (Z.sel 2 [1,0] rfl)
 replace Z:=Z.z
 refine Sz ?_
 exact⟨rfl,Z⟩
theorem Zez(p s a:Nat)(V:VM)(A:AM)(R:List Int)(h k:Int)(t:Tr)(hV:VI V A R)(hh:0≤h∧h≤18446744073709551615)(hn:V.T.s.opn h=true)(hi:Is A t (V.rootOf (V.T.val h)))(Z:St g (YO p s a V::Zt a A::L) w) :
  Zr g L 47 [.P p,.agg (qO 2 h 0 k 0 0 0 0 .N)] w fun rV=>rV (.agg (qA 0 0 ((Tr.get k t).getD 0) ((Tr.get k t).isSome) 0 .N)) [YO p s a V,Zt a A]:=by
 refine Sp.en Tryz.func47 ?_
 refine Zsp fun b1 w Z=>?_
 refine Zsk fun b2 w Z=>?_
 refine Zsk fun b3 w Z=>?_
 refine Zsg [([0,1,4,5,2,6],some (3,[4,5,6])),([],some (7,[])),([8,9],none)] ?_
 refine Qd fun w Z=>?_
 refine Zse (HU _ _ _ _ A R h hV hh hn (Z.sel 4 [3,0,0,0] rfl)) fun w Z=>?_
 refine Qd fun w Z=>?_
 refine Zse (D6 _ _ _ _ hV.t Z) fun w Z=>?_
 refine Qd fun w Z=>?_
 refine Zsg [([0,2,3,4],some (1,[2,3,4])),([],some (5,[])),([6,7,8,9],some (10,[8])),([11],some (12,[]))] ?_
 refine Qd fun w Z=>?_
 refine Zse (YB (Z:=Z)) fun w Z=>?_
 refine Qd fun w Z=>?_
 refine Zse (Zhc _ _ (List.map RN.root V.rs++R) (V.rootOf (V.T.val h)) k t hV.ref hi (Z.sel 5 [4,0,0,0,0] rfl)) fun w Z=>?_
 refine Qd fun w Z=>?_
 refine Zss fun w Z=>?_
 refine Qd fun w Z=>?_
 refine Zss fun w Z=>?_
 refine Qd fun w Z=>?_
 refine Zsh fun w Z=>?_
 replace Z:=(Z.sel 5 [1,0] rfl)
 exact⟨rfl,Z⟩
end Go.Proofs.YtpebgkkmgffmaaaGreatDoor
namespace Go.V
open Go Go.RowKit
structure SiA where
 u:Option Addr
 c:Nat
def Vi(s:Nat)(P:List Pt)(x:SiA):List HP:=[Zq s #[.slice x.u (HG P).length x.c] 504,Zp 507 5 (HG P) x.u x.c]
def Sid(s:Nat)(P:List Pt):HP:=ExB (Vi s P)
structure DfA where
 lb:Nat
 hb:Nat
 u:Option Addr
 c:Nat
def Zef(b ob:Nat)(lo hi:Int)(out:List Qo)(x:DfA):List HP:=[Zq b #[.func (.func 357) #[] #[.pointer (some ⟨x.lb,0,none⟩),.pointer (some ⟨x.hb,0,none⟩),.pointer (some ⟨ob,0,none⟩)]] 468,Zq x.lb #[.int .i64 lo] 2,Zq x.hb #[.int .i64 hi] 2,Zq ob #[.slice x.u (Yo out).length x.c] 35,Zp 181 4 (Yo out) x.u x.c]
def Dfs(b ob:Nat)(lo hi:Int)(out:List Qo):HP:=ExB (Zef b ob lo hi out)
end Go.V
namespace Go.Proofs.YtpebgkkmgffmaaaGreatDoor
open Go Go.V
set_option maxHeartbeats 8000000
set_option maxRecDepth 8192
variable{g w:World}{L:List HP}
theorem UV(s a:Nat)(P:List Pt)(A:AM)(R:List Int)(i:Int)(t:Tr)(hA:ARf A R)(hi:Is A t i)(hl:P.length≤900000000)(Z:St g (Sid s P::Zt a A::L) w) :
  Zr g L 385 [.P s,.P a,.W i] w fun rV=>rV (.tuple #[]) [Sid s (Y7 P i t),Zt a A]:=by
 refine Sp.en Tryz.func385 ?_
 have _:=hl
 refine Zsr rfl (fun hne=>?_) (fun hne=>?_)
 ·refine Zsg [([0,1,5,6,7,2,3,4],some (8,[0,1,2,3,4,5])),([],some (9,[0,1,2,3,4])),([],some (10,[0,1,2,3,4])),([],some (11,[0])),([12,13],some (14,[]))] ?_
  obtain⟨⟨su,sc⟩,Z⟩:=St.exOpen Z
  replace Z:=Z.z
  have hpl:=U5 P
  refine Qd fun w Z=>?_
  refine Zse (YF _ _ R i t hA hi (Z.sel 3 [2,0,0] rfl)) fun w Z=>?_
  refine Qd fun w Z=>?_
  refine Zs4 rfl rfl (cs:=[.W i,.I (t.n:Int),.I 0,.I 0,.bool false]) zv_507.h rfl rfl ?_
  refine Sz ?_
  refine Qd fun w Z=>?_
  refine Zs1 rfl rfl (HG [Pt.sub i t]) el_502 Z (by exact⟨rfl,rfl⟩) (Zi5 _) rfl (Nat.le_of_ble_eq_true rfl) (fun b1 w Z=>?_)
  refine Sz ?_
  refine Qd fun w Z=>?_
  refine Zs3 rfl rfl 3 (HG (P++[Pt.sub i t])) el_502 Z rfl (Z.srcO 0 rfl) (Zb1 _ _).symm (Rm.of (by first|omega|(simp<;>omega)) (by decide)) rfl rfl (fun a1 c1 w Z=>?_)
  replace Z:=Z.z
  refine Sz ?_
  refine Qd fun w Z=>?_
  refine Zss fun w Z=>?_
  refine Qd fun w Z=>?_
  replace Z:=St.cl (f:=Vi s (P++[Pt.sub i t])) ⟨_,_⟩ (Z.sel 4 [2,2,0,0] rfl)
  replace Z:=Z.z
  refine Sz ?_
  replace Z:=(Z.sel 2 [0] rfl)
  exact⟨rfl,by unfold Y7;first|(rw[if_neg hne];exact Z)|(rw[if_pos (by omega)];exact Z)⟩
 refine Sz ?_
 exact⟨rfl,by unfold Y7;first|(rw[if_neg hne];exact Z)|(rw[if_pos (by omega)];exact Z)⟩
theorem Zar(s:Nat)(P:List Pt)(hl:P.length≤900000000)(Z:St g (Sid s P::L) w) :
  Zr g L 386 [.P s] w fun rV=>rV (.tuple #[.agg #[.W (pI (Zj P)),.I (pN (Zj P)),.I (pK (Zj P)),.I (pV (Zj P)),.bool (pS (Zj P))],.bool (Zj P).isSome]) [Sid s P]:=by
 refine Sp.en Tryz.func386 ?_
 have _:=hl
 obtain⟨⟨su,sc⟩,Z⟩:=St.exOpen Z
 replace Z:=Z.z
 have hpl:=U5 P
 refine Zsk fun b1 w Z=>?_
 refine Zsi (fun he=>?_) fun he=>?_
 ·refine Zs4 rfl rfl (cs:=[.W 0,.I 0,.I 0,.I 0,.bool false]) zv_507.h rfl rfl<|Zsh fun w Z=>?_
  replace Z:=St.cl (f:=Vi s P) ⟨_,_⟩ (Z.sel 3 [1,1,0] rfl)
  replace Z:=Z.z
  refine Sz ?_
  replace Z:=(Z.sel 2 [0] rfl)
  have hn:P=[]:=List.length_eq_zero_iff.1 (by omega);subst hn;exact⟨rfl,Z⟩
 refine Zsg [([0,4,1,5,2,6,3,7,8,9],some (10,[])),([],some (11,[])),([],some (12,[])),([13],none)] ?_
 refine Qd fun w Z=>?_
 obtain⟨x,hx⟩:∃x,P[P.length-1]?=some x:=⟨_,List.getElem?_eq_getElem (by omega)⟩;have hgl:Zj P=some x:=(by unfold Zj;rw[List.getLast?_eq_getElem?];exact hx)
 refine Zsq rfl rfl (i:=(List.length (HG P):Int)-1) (P.length-1) el_502 rfl rfl (by omega) (by omega) (Z.rdO 2 rfl (Zjf hx)).1 ?_
 refine Sz ?_
 refine Qd fun w Z=>?_
 refine Ztx rfl rfl [.W (pI (some x)),.I (pN (some x)),.I (pK (some x)),.I (pV (some x)),.bool (pS (some x))] ag_507.h rfl (Z.rdO 2 rfl (Zjf hx)).2 ?_
 refine Sz ?_
 refine Qd fun w Z=>?_
 refine Zsh fun w Z=>?_
 refine Qd fun w Z=>?_
 replace Z:=St.cl (f:=Vi s P) ⟨_,_⟩ (Z.sel 3 [1,1,0] rfl)
 replace Z:=Z.z
 refine Sz ?_
 replace Z:=(Z.sel 2 [0] rfl)
 exact⟨by rw[hgl];rfl,Z⟩
theorem Uy(s:Nat)(P:List Pt)(hl:P.length≤900000000)(hne:P≠[])(Z:St g (Sid s P::L) w) :
  Zr g L 387 [.P s] w fun rV=>rV (.tuple #[]) [Sid s P.dropLast]:=by
 refine Sp.enter Tryz.func387 rfl (by kernel_rfl) (by kernel_rfl) ?_
 have _:=hl
 refine Zsg [([0,1,5,2,6,3,7,4,8,9,10],some (11,[0])),([12,13],some (14,[]))] ?_
 obtain⟨⟨su,sc⟩,Z⟩:=St.exOpen Z
 replace Z:=Z.z
 have hpl:=U5 P;have hpos:=List.length_pos_iff.2 hne
 refine Qd fun w Z=>?_
 refine Zuj rfl rfl (v:=(List.length (HG P):Int)-1) 1 (P.length-1) (HG P.dropLast) el_502 Z rfl rfl rfl (by omega) (by omega) (by rw[List.dropLast_eq_take,Zgz]) (fun Z=>?_)
 replace Z:=Z.z
 refine Sz ?_
 refine Qd fun w Z=>?_
 refine Zss fun w Z=>?_
 refine Qd fun w Z=>?_
 replace Z:=St.cl (f:=Vi s P.dropLast) ⟨_,_⟩ Z
 replace Z:=Z.z
 refine Sz ?_
 exact⟨rfl,Z⟩
theorem Zjj(s a:Nat)(P:List Pt)(A:AM)(R:List Int)(i k z:Int)(tl tr:Tr)(hA:ARf A R)(hP:(Zj P)=some (.sub i (.node tl k z tr)))(hi:Is A (.node tl k z tr) i)(hl:P.length≤800000000)(Z:St g (Sid s P::Zt a A::L) w) :
  Zr g L 388 [.P s,.P a] w fun rV=>rV (.tuple #[]) [Sid s (Uo P.dropLast A i k z tl tr),Zt a A]:=by
 refine Sp.en Tryz.func388 ?_
 have _:=hl
 have hne:P≠[]:=(fun e=>by subst e;cases hP);have hri:=hA.okrng hi.ref;have hpI:pI (Zj P)=i:=(by rw[hP];rfl);have hdl:P.dropLast.length≤P.length:=(by rw[List.length_dropLast];omega)
 refine Sz ?_
 refine Zse (Zar _ _ (by omega) Z) fun w Z=>?_
 refine Zsk fun b1 w Z=>?_
 refine Zsh fun w Z=>?_
 refine Zse (Uy _ _ (by omega) hne (Z.sel 2 [1,0] rfl)) fun w Z=>?_
 refine Zse (UY _ _ (pI (Zj P)) hA.toAWf (by omega) (by rw[hpI];exact hi.2.1) (Z.sel 3 [2,0,0] rfl)) fun w Z=>?_
 refine Zsk fun b2 w Z=>?_
 refine Zsh fun w Z=>?_
 have hir:Is A tr (A.nd (pI (Zj P))).rg:=(by rw[hpI];exact hi.2.2.2.2.2);have hil:Is A tl (A.nd (pI (Zj P))).lf:=(by rw[hpI];exact hi.2.2.2.2.1);have hpl2:=Zfp P.dropLast (A.nd (pI (Zj P))).rg tr
 refine Sz ?_
 refine Zse (UV _ _ P.dropLast _ R (A.nd (pI (Zj P))).rg tr hA hir (by omega) (Z.sel 3 [2,1,0] rfl)) fun w Z=>?_
 refine Zsg [([0,1,5,7,2,6,8,3,4],some (9,[0,1,2,3,4])),([],some (10,[0,1,2,3,4])),([],some (11,[0,1,2,3,4])),([],some (12,[0])),([13,14],some (15,[]))] ?_
 obtain⟨⟨su,sc⟩,Z⟩:=St.exOpen Z
 replace Z:=Z.z
 have hpl3:=U5 (Y7 P.dropLast (A.nd (pI (Zj P))).rg tr)
 refine Qd fun w Z=>?_
 refine Zs4 rfl rfl (cs:=[.I (A.nd (pI (Zj P))).key,.I (A.nd (pI (Zj P))).val]) zv_32.h rfl rfl ?_
 refine Sz ?_
 refine Qd fun w Z=>?_
 refine Zs4 rfl rfl (cs:=[.W 0,.I 0,.I (A.nd (pI (Zj P))).key,.I (A.nd (pI (Zj P))).val,.bool true]) zv_507.h rfl rfl ?_
 refine Sz ?_
 refine Qd fun w Z=>?_
 refine Zs1 rfl rfl (HG [Pt.one (A.nd (pI (Zj P))).key (A.nd (pI (Zj P))).val]) el_502 Z (by exact⟨rfl,rfl⟩) (Zi5 _) rfl (Nat.le_of_ble_eq_true rfl) (fun b3 w Z=>?_)
 refine Sz ?_
 refine Qd fun w Z=>?_
 refine Zs3 rfl rfl 2 (HG ((Y7 P.dropLast (A.nd (pI (Zj P))).rg tr)++[Pt.one (A.nd (pI (Zj P))).key (A.nd (pI (Zj P))).val])) el_502 Z rfl (Z.srcO 0 rfl) (Zb1 _ _).symm (Rm.of (by first|omega|(simp<;>omega)) (by decide)) rfl rfl (fun a1 c1 w Z=>?_)
 replace Z:=Z.z
 refine Sz ?_
 refine Qd fun w Z=>?_
 refine Zss fun w Z=>?_
 refine Qd fun w Z=>?_
 as_aux_lemma =>
 refine Sz ?_
 replace Z:=St.cl (f:=Vi s (Y7 P.dropLast (A.nd (pI (Zj P))).rg tr++[Pt.one (A.nd (pI (Zj P))).key (A.nd (pI (Zj P))).val])) ⟨_,_⟩ (Z.sel 3 [1,1,0] rfl)
 replace Z:=Z.z
 refine Sz ?_
 refine Zse (UV _ _ (Y7 P.dropLast (A.nd (pI (Zj P))).rg tr++[Pt.one (A.nd (pI (Zj P))).key (A.nd (pI (Zj P))).val]) _ R (A.nd (pI (Zj P))).lf tl hA hil (by simp;omega) (Z.sel 3 [0,1,0] rfl)) fun w Z=>?_
 replace Z:=(Z.sel 5 [0,0] rfl)
 exact⟨rfl,by unfold Uo;rw[hpI,hi.2.2.1,hi.2.2.2.1] at Z;exact Z⟩
end Go.Proofs.YtpebgkkmgffmaaaGreatDoor
