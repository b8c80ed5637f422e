/-
  What the proof of Jtb stands on, part 3.
  Conditions: none.
-/
import Derived.Test.YtpebgkkmgffmaaaGreatDoorZtaB
set_option maxRecDepth 8192
namespace Go.Proofs.YtpebgkkmgffmaaaGreatDoor
open Go Go.V
theorem Q1{n:Nat}:(XW (AM.new n).nodes).length=n+1:=by simp[AM.new]
theorem Ua{n:Nat}:(Ze (AM.new n).cnt).length=n+1:=by simp[AM.new]
set_option maxHeartbeats 8000000
set_option maxRecDepth 8192
variable{g w:World}{L:List HP}
theorem Zfa(cap:Int)(hc:1≤cap∧cap≤65536)(Z:St g (L) w) :
  Zr g L 73 [.I cap] w fun rV=>∃(a:Nat),rV (.tuple #[.P a,.I 0]) [Zt a (AM.new cap.toNat)]:=by
 refine Sp.en Tryz.func73 ?_
 refine Zt7 (Dk cap hc Z) fun w s1 Z=>?_
 refine Zto (.two [0,1,4,2,5] 3 [0,4,5] (.one [] 6 [0,1,2] (.one [7] 8 [] (.seg [9,10] .nil))) 6 [0,1,2] (.one [] 3 [0,4,5] (.one [7] 8 [] (.seg [9,10] .nil)))) ?_
 refine Qz ?_
 refine Zta ?_
 intro m1
 replace Z:=Z.drewN m1;generalize hwm1:World.drewN _ _=w at *;clear hwm1
 refine⟨?_,?_⟩
 ·refine Zth rfl rfl (v:=cap+1) (v':=cap+1) (cap.toNat+1) (cap.toNat+1) el_65 Z rfl (by omega) rfl (by omega) (by omega) (Rm.of (by omega) (by decide)) (fun b1 w Z=>?_)
  replace Z:=Z.z
  refine Sz ?_
  refine Qd fun w Z=>?_
  refine Zth rfl rfl (v:=cap+1) (v':=cap+1) (cap.toNat+1) (cap.toNat+1) el_72 Z rfl (by omega) rfl (by omega) (by omega) (Rm.of (by omega) (by decide)) (fun b2 w Z=>?_)
  replace Z:=Z.z
  refine Sz ?_
  refine Ztj rfl rfl (cs:=[.P s1,.slice (some ⟨b1,0,none⟩) (cap.toNat+1) (cap.toNat+1),.slice (some ⟨b2,0,none⟩) (cap.toNat+1) (cap.toNat+1),.U 0]) zv_177.h rfl rfl ?_
  refine Qd fun w Z=>?_
  refine Zsp fun b3 w Z=>?_
  refine Qe fun w Z=>?_
  rw[Zdu,VP] at Z
  refine Sz ?_
  first
  |(replace Z:=St.exClose (f:=Y9 b3 (AM.new cap.toNat)) ⟨s1,some ⟨b1,0,none⟩,cap.toNat+1,some ⟨b2,0,none⟩,cap.toNat+1,0⟩ (by
    unfold Y9
    rw[Q1,Ua]
    exact Z.sel 4 [0,2,1,0] rfl))
  |(replace Z:=St.exClose (f:=Y9 b3 (AM.new cap.toNat)) ⟨s1,some ⟨b2,0,none⟩,cap.toNat+1,some ⟨b1,0,none⟩,cap.toNat+1,0⟩ (by
    unfold Y9
    rw[Q1,Ua]
    exact Z.sel 4 [0,2,0,0] rfl))
  replace Z:St g (Zt b3 (AM.new cap.toNat)::L) w:=Z
  refine Sz ?_
  exact⟨_,rfl,Z⟩
 refine Zth rfl rfl (v:=cap+1) (v':=cap+1) (cap.toNat+1) (cap.toNat+1) el_72 Z rfl (by omega) rfl (by omega) (by omega) (Rm.of (by omega) (by decide)) (fun b1 w Z=>?_)
 replace Z:=Z.z
 refine Sz ?_
 refine Qd fun w Z=>?_
 refine Zth rfl rfl (v:=cap+1) (v':=cap+1) (cap.toNat+1) (cap.toNat+1) el_65 Z rfl (by omega) rfl (by omega) (by omega) (Rm.of (by omega) (by decide)) (fun b2 w Z=>?_)
 replace Z:=Z.z
 refine Sz ?_
 refine Ztj rfl rfl (cs:=[.P s1,.slice (some ⟨b2,0,none⟩) (cap.toNat+1) (cap.toNat+1),.slice (some ⟨b1,0,none⟩) (cap.toNat+1) (cap.toNat+1),.U 0]) zv_177.h rfl rfl ?_
 refine Qd fun w Z=>?_
 refine Zsp fun b3 w Z=>?_
 refine Qe fun w Z=>?_
 rw[Zdu,VP] at Z
 refine Sz ?_
 first
 |(replace Z:=St.exClose (f:=Y9 b3 (AM.new cap.toNat)) ⟨s1,some ⟨b1,0,none⟩,cap.toNat+1,some ⟨b2,0,none⟩,cap.toNat+1,0⟩ (by
   unfold Y9
   rw[Q1,Ua]
   exact Z.sel 4 [0,2,1,0] rfl))
 |(replace Z:=St.exClose (f:=Y9 b3 (AM.new cap.toNat)) ⟨s1,some ⟨b2,0,none⟩,cap.toNat+1,some ⟨b1,0,none⟩,cap.toNat+1,0⟩ (by
   unfold Y9
   rw[Q1,Ua]
   exact Z.sel 4 [0,2,0,0] rfl))
 replace Z:St g (Zt b3 (AM.new cap.toNat)::L) w:=Z
 refine Sz ?_
 exact⟨_,rfl,Z⟩
theorem D9(a:Nat)(A:AM)(hA:AWf A)(Z:St g (Zt a A::L) w) :
  Zr g L 33 [.P a] w fun rV=>rV (.I A.s.free) [Zt a A]:=by
 refine Sp.enter Tryz.func33 rfl (by kernel_rfl) (by kernel_rfl) ?_
 obtain⟨⟨p,na,nc,ca,cc,rd⟩,Z⟩:=St.exOpen (f:=Y9 a A) Z;have hAs:=hA.s;have hcp:=hAs.cap;have hnl:=hA.nl;have hcl:=hA.cl;have hbn:=Xf A.nodes;have hbc:=Zf A.cnt
 replace Z:St g (Zq a #[.P p,.slice na (XW A.nodes).length nc,.slice ca (Ze A.cnt).length cc,.U rd] 177::XE p A.s::Zp 141 8 (XW A.nodes) na nc::Zp 3 1 (Ze A.cnt) ca cc::L) w:=Z
 refine Sz ?_
 refine Ztg (DL _ A.s (by assumption) (Z.sel 2 [1,0] rfl)) fun w Z=>?_
 refine Sz ?_
 replace Z:=St.exClose (f:=Y9 a A) ⟨p,na,nc,ca,cc,rd⟩ (by first|exact Z|exact Z.sel 4 [1,0,0,0] rfl)
 replace Z:St g (Zt a A::L) w:=Z
 refine Sz ?_
 exact⟨rfl,Z⟩
theorem JV(a:Nat)(A:AM)(i:Int)(hA:AWf A)(hi:0≤i∧i<4294967296)(Z:St g (Zt a A::L) w) :
  Zr g L 89 [.P a,.W i] w fun rV=>rV (.I (A.retE i)) [Zt a (A.ret i)]:=by
 refine Sp.enter Tryz.func89 rfl (by kernel_rfl) (by kernel_rfl) ?_
 obtain⟨⟨p,na,nc,ca,cc,rd⟩,Z⟩:=St.exOpen (f:=Y9 a A) Z;have hAs:=hA.s;have hcp:=hAs.cap;have hnl:=hA.nl;have hcl:=hA.cl;have hbn:=Xf A.nodes;have hbc:=Zf A.cnt
 replace Z:St g (Zq a #[.P p,.slice na (XW A.nodes).length nc,.slice ca (Ze A.cnt).length cc,.U rd] 177::XE p A.s::Zp 141 8 (XW A.nodes) na nc::Zp 3 1 (Ze A.cnt) ca cc::L) w:=Z
 refine Sz ?_
 refine Zsi (fun cd1=>?_) fun cd1=>?_
 ·replace Z:=St.exClose (f:=Y9 a A) ⟨p,na,nc,ca,cc,rd⟩ Z;replace Z:St g (Zt a (A.ret i)::L) w:=by rw[AM.ret,if_neg (fun h=>h.1 cd1)];exact Z
  replace Z:St g (Zt a (A.ret i)::L) w:=Z
  refine Sz ?_
  exact⟨congrArg (Value.int .i64) (if_pos (.inl cd1)).symm,Z⟩
 refine Zse (Ub _ A.s i (by first|assumption|exact SOk.le (by assumption)) (by omega) (Z.sel 2 [1,0] rfl)) fun w Z=>?_
 refine Ztm rfl (fun cd2=>?_) (fun cd2=>?_)
 ·refine Sz ?_
  replace Z:=St.exClose (f:=Y9 a A) ⟨p,na,nc,ca,cc,rd⟩ (by first|exact Z|exact Z.sel 4 [1,0,0,0] rfl);replace Z:St g (Zt a (A.ret i)::L) w:=by rw[AM.ret,if_neg (fun h=>by rw[h.2] at cd2;cases cd2)];exact Z
  replace Z:St g (Zt a (A.ret i)::L) w:=Z
  refine Sz ?_
  exact⟨congrArg (Value.int .i64) (if_neg (fun h=>h.elim cd1 (fun k=>by rw[k] at cd2;cases cd2))).symm,Z⟩
 have hik:=SM.ok_rng hAs hi.1 (by simpa using cd2)
 obtain⟨x,hx⟩:∃x,A.cnt[i.toNat]?=some x:=⟨_,List.getElem?_eq_getElem (by omega)⟩
 refine Sz ?_
 refine Zsq rfl rfl (i:=i) (i.toNat) el_72 rfl rfl (by omega) (by omega) (Z.rdO 3 rfl (Zc hx)).1 ?_
 refine Zsv 1 [.I x] rfl (by exact(Z.rdO 3 rfl (Zc hx)).2 0 _ rfl) ?_
 refine Zso 1 rfl<|Zsq rfl rfl (i:=i) (i.toNat) el_72 rfl rfl (by omega) (by omega) (Z.rdO 3 rfl (Zc hx)).1 ?_
 refine Zs5 rfl rfl rfl 3 (i.toNat) 0 [.I x] (Ze (A.cnt.set i.toNat (IntKind.i64.wrap (x+1)))) Z rfl (Zc hx) rfl rfl rfl rfl rfl (XJ _ _ _) (fun w Z=>?_)
 replace Z:=Z.z
 refine Sz ?_
 replace Z:=St.exClose (f:=Y9 a (A.inc i)) ⟨p,na,nc,ca,cc,rd⟩ (by
  have e1:(Ze (A.inc i).cnt).length=(Ze A.cnt).length:=by simp[AM.inc]
  have e2:(A.inc i).cnt=A.cnt.set i.toNat (IntKind.i64.wrap (x+1)):=by unfold AM.inc AM.cntOf;rw[hx];rfl
  unfold Y9
  rw[e1,e2]
  first|exact Z|exact Z.sel 4 [1,0,0,0] rfl)
 replace Z:St g (Zt a (A.ret i)::L) w:=by rw[AM.ret,if_pos ⟨cd1,by simpa using cd2⟩];exact Z
 replace Z:St g (Zt a (A.ret i)::L) w:=Z
 refine Sz ?_
 exact⟨congrArg (Value.int .i64) (if_pos (.inr (by simpa using cd2))).symm,Z⟩
theorem UL(a:Nat)(A:AM)(Z:St g (Zt a A::L) w) :
  Zr g L 102 [.P a,.W 0] w fun rV=>rV (.tuple #[.I 0,.I 0]) [Zt a A]:=by
 refine Sp.en Tryz.func102 ?_
 exact⟨rfl,Z⟩
end Go.Proofs.YtpebgkkmgffmaaaGreatDoor
namespace Go.Proofs.YtpebgkkmgffmaaaGreatDoor
open Go Go.V
structure Shr(A B:AM):Prop where
 ok:∀j,0≤j→B.s.ok j=true→A.s.ok j=true∧B.nd j=A.nd j
 cap:B.s.used.length=A.s.used.length
 gen:B.s.gen=A.s.gen
theorem Shr.refl(A:AM):Shr A A:=⟨fun _ _ h=>⟨h,rfl⟩,rfl,rfl⟩
theorem Shr.dec{A B:AM}(h:Shr A B)(k:Int):Shr A (B.dec k):=⟨h.ok,h.cap,h.gen⟩
theorem Shr.free{A B:AM}{k:Int}(h:Shr A B)(hB:AWf B)(hk:B.s.ok k=true)(h0:0≤k):Shr A (B.freed k):=⟨fun j hj hjk=>by
 rw[AM.freed_ok hB.s hk h0 j hj] at hjk
 split at hjk
 ·cases hjk
 rename_i e
 have h1:=h.ok j hj hjk
 refine⟨h1.1,?_⟩
 unfold AM.freed
 rw[AM.nd_set (by rw[hB.nl];exact(SM.ok_rng hB.s h0 hk).2.2.2) h0 hj,if_neg e]
 exact h1.2,by rw[←h.cap];exact List.length_set,h.gen⟩
theorem Zbh{W:List Int}{k:Int}(h:W[W.length-1]?=some k):W=W.take (W.length-1)++[k]:=by
 have hl:=(List.getElem?_eq_some_iff.1 h).1
 have h1:=List.take_append_drop (W.length-1) W
 rw[List.drop_eq_getElem_cons hl,(List.getElem?_eq_some_iff.1 h).2,List.drop_of_length_le (by omega)] at h1
 exact h1.symm
theorem Zn3{B:AM}{R T:List Int}{l r:Int}(h:ARf B (l::r::(T++R))):ARf B ((T++(if r≠0 then[r] else[])++(if l≠0 then[l] else[]))++R):=by
 have pr:(r::(T++R)).Perm ((T++[r])++R):=by simpa using(List.perm_middle (a:=r) (l₁:=T) (l₂:=R)).symm
 have pl:(l::(T++R)).Perm ((T++[l])++R):=by simpa using(List.perm_middle (a:=l) (l₁:=T) (l₂:=R)).symm
 by_cases hl:l=0
 ·by_cases hr:r=0
  ·subst hl;subst hr;simpa using h.tail0.tail0
  subst hl
  have h1:=h.tail0.perm pr
  simpa[hr] using h1
 by_cases hr:r=0
 ·subst hr
  have h0:ARf B (0::l::(T++R)):=h.perm (List.Perm.swap _ _ _)
  have h1:=h0.tail0.perm pl
  simpa[hl] using h1
 have p2:(l::((T++[r])++R)).Perm (((T++[r])++[l])++R):=by simpa using(List.perm_middle (a:=l) (l₁:=T++[r]) (l₂:=R)).symm
 have h1:=h.perm ((List.Perm.cons l pr).trans p2)
 simpa[hl,hr] using h1
theorem UT{p:Int→Prop}{T:List Int}{r:Int}(h:∀x∈T,p x)(hr:p r):∀x∈T++[r],p x:=fun x hx=>by
 rcases List.mem_append.1 hx with hx|hx
 ·exact h x hx
 rw[List.mem_singleton.1 hx];exact hr
set_option maxHeartbeats 8000000
set_option maxRecDepth 8192
variable{g w:World}{L:List HP}
theorem H3(a:Nat)(A:AM)(R:List Int)(i:Int)(hA:ARf A (i::R))(hi:1≤i∧i<4294967296)(hR:R.length≤900000000)(Z:St g (Zt a A::L) w) :
  Cp g L 102 [.P a,.W i] w fun rV=>∃(A2:AM)(f:Int),rV (.tuple #[.I f,.I 0]) [Zt a A2] ((ARf A2 R)∧(Shr A A2)∧(f=A2.s.free-A.s.free)):=by
 refine Sp.en Tryz.func102 ?_
 have _:=hR
 have _:=hi
 have hir:=(hA.ref i (List.mem_cons_self ..)).resolve_left (by omega)
 refine Sz ?_
 refine Zs8 rfl (decide_eq_false ((by omega))) ?_
 obtain⟨⟨p,na,nc,ca,cc,rd⟩,Z⟩:=St.exOpen (f:=Y9 a A) Z;have hAs:=hA.s;have hcp:=hAs.cap;have hnl:=hA.nl;have hcl:=hA.cl;have hbn:=Xf A.nodes;have hbc:=Zf A.cnt
 replace Z:St g (Zq a #[.P p,.slice na (XW A.nodes).length nc,.slice ca (Ze A.cnt).length cc,.U rd] 177::XE p A.s::Zp 141 8 (XW A.nodes) na nc::Zp 3 1 (Ze A.cnt) ca cc::L) w:=Z
 refine Sz ?_
 refine Zse (Ub _ A.s i (by first|assumption|exact SOk.le (by assumption)) (by omega) (Z.sel 2 [1,0] rfl)) fun w Z=>?_
 refine Zsm rfl (by rw[hir.2];decide) ?_
 refine Zs1 rfl rfl (Za [i]) el_70 Z (by exact⟨rfl,rfl⟩) (YY _) rfl (Nat.le_of_ble_eq_true rfl) (fun b1 w Z=>?_)
 refine Sz ?_
 refine Zst [0,4,5] [6,7] (fun kM vs jS=>∃(W:List Int)(B:AM)(fr:Int)(u:Option Addr)(d:Nat),vs=[.I fr,.slice u (Za W).length d]∧jS [Zp 93 1 (Za W) u d,XE p B.s,Zq a #[.P p,.slice na (XW A.nodes).length nc,.slice ca (Ze A.cnt).length cc,.U rd] 177,Zp 141 8 (XW B.nodes) na nc,Zp 3 1 (Ze B.cnt) ca cc]∧(∀x∈W,1≤x∧x<4294967296)∧(ARf B (W++R))∧(Shr A B)∧(fr=B.s.free-A.s.free)∧(W.length+B.live.length≤65600)∧(2*B.live.length+W.length)=kM) rfl ⟨[i],A,0,some ⟨b1,0,none⟩,1,rfl,Z,(by simp;omega),(by exact hA),(Shr.refl A),(by omega),(by have:=A.live_len;simp;omega),rfl⟩ ?_
 rintro _ _ w j ⟨W,B,fr,u,d,rfl,Z,hW,hB,hSh,hf,hlen,rfl⟩
 replace Z:=Z.z
 refine Sz ?_
 refine Zsr rfl (fun cd1=>?_) (fun cd1=>?_)
 ·have hfB:=hB.s.free_rng;have hfA:=hA.s.free_rng;have hWl:=Zh W;obtain⟨k,hk⟩:∃k,W[W.length-1]?=some k:=⟨_,List.getElem?_eq_getElem (by omega)⟩;have hk1:=hW k (List.mem_of_getElem? hk);have hsp:=Zbh hk;have hkR:=(hB.ref k (List.mem_append_left _ (List.mem_of_getElem? hk))).resolve_left (by omega);have hkr:=SM.ok_rng hB.s (by omega) hkR.2;have hle:=hB.cnt_le hkR.2 (by omega);obtain⟨c,hc⟩:∃c,B.cnt[k.toNat]?=some c:=⟨_,List.getElem?_eq_getElem (by rw[hB.cl];omega)⟩;obtain⟨nd,hnd⟩:∃nd,B.nodes[k.toNat]?=some nd:=⟨_,List.getElem?_eq_getElem (by rw[hB.nl];omega)⟩;have hbc2:=Zf B.cnt;have hbn2:=Xf B.nodes;have e1:=hB.cl;have e2:=hB.nl;have e3:=hSh.cap;have hce:B.cntOf k=c:=by unfold AM.cntOf;rw[hc];rfl
  have hpk:ARf B (k::(W.take (W.length-1)++R)):=hB.perm (by rw[hsp];simp);have hTl:∀x∈W.take (W.length-1),1≤x∧x<4294967296:=(fun x hx=>hW x (List.mem_of_mem_take hx));have hTn:(W.take (W.length-1)).length=W.length-1:=by simp
  refine Sz ?_
  refine Zsq rfl rfl (i:=(List.length (Za W):Int)-1) (W.length-1) el_70 rfl rfl (by omega) (by omega) (Z.rdO 0 rfl (Zn hk)).1 ?_
  refine Zsv 1 [.W k] rfl (by exact(Z.rdO 0 rfl (Zn hk)).2 0 _ rfl) ?_
  refine Sz ?_
  refine Zuj rfl rfl (v:=(List.length (Za W):Int)-1) 0 (W.length-1) (Za (W.take (W.length-1))) el_70 Z rfl rfl rfl (by omega) (by omega) (JS _ _) (fun Z=>?_)
  replace Z:=Z.z
  as_aux_lemma =>
  refine Sz ?_
  refine Zsq rfl rfl (i:=k) (k.toNat) el_72 rfl rfl (by omega) (by omega) (Z.rdO 4 rfl (Zc hc)).1 ?_
  refine Zsv 1 [.I c] rfl (by exact(Z.rdO 4 rfl (Zc hc)).2 0 _ rfl) ?_
  refine Sz ?_
  refine Zsq rfl rfl (i:=k) (k.toNat) el_72 rfl rfl (by omega) (by omega) (Z.rdO 4 rfl (Zc hc)).1 ?_
  refine Zs5 rfl rfl rfl 4 (k.toNat) 0 [.I c] (Ze (B.cnt.set k.toNat (c-1))) Z rfl (Zc hc) rfl rfl rfl rfl rfl (XJ _ _ _) (fun w Z=>?_)
  replace Z:=Z.z
  have hdk:B.dec k=AM.mk B.s B.nodes (B.cnt.set k.toNat (c-1)):=(by unfold AM.dec;rw[hce,Yf (by omega)])
  have hc2:(B.cnt.set k.toNat (c-1))[k.toNat]?=some (c-1):=by rw[List.getElem?_set,if_pos rfl,if_pos (by omega)]
  refine Sz ?_
  refine Zsq rfl rfl (i:=k) (k.toNat) el_72 rfl rfl (by omega) (by omega) (Z.rdO 4 rfl (Zc hc2)).1 ?_
  refine Zsv 1 [.I (c-1)] rfl (by exact(Z.rdO 4 rfl (Zc hc2)).2 0 _ rfl) ?_
  refine Sz ?_
  refine Zsi (fun cd2=>?_) fun cd2=>?_
  ·exact⟨_,(by first|(simp only[List.length_append,List.length_singleton];omega)|omega|(show 2*B.live.length+_<_;omega)),rfl,W.take (W.length-1),AM.mk B.s B.nodes (B.cnt.set k.toNat (c-1)),fr,u,d,rfl,Z,hTl,(by rw[←hdk];exact hpk.dec hkR.2 (by omega) (by omega)),(by rw[←hdk];exact hSh.dec k),hf,(by show(W.take (W.length-1)).length+B.live.length≤65600;omega),rfl⟩
  refine Zsq rfl rfl (i:=k) (k.toNat) el_65 rfl rfl (by omega) (by omega) (Z.rdO 3 rfl (ZZ hnd)).1 ?_
  refine Ztx rfl rfl [.I nd.key,.I nd.val,.W nd.lf,.W nd.rg,.I nd.size,.I nd.sum,.I nd.mn,.I nd.mx] ag_141.h rfl (Z.rdO 3 rfl (ZZ hnd)).2<|Zsk fun b2 w Z=>?_
  refine Zsh fun w Z=>?_
  refine Zs4 rfl rfl (cs:=[.I 0,.I 0,.W 0,.W 0,.I 0,.I 0,.I 0,.I 0]) zv_141.h rfl rfl<|Zsq rfl rfl (i:=k) (k.toNat) el_65 rfl rfl (by omega) (by omega) (Z.rdO 4 rfl (ZZ hnd)).1 ?_
  refine Zvi rfl rfl rfl 4 (k.toNat) [.I nd.key,.I nd.val,.W nd.lf,.W nd.rg,.I nd.size,.I nd.sum,.I nd.mn,.I nd.mx] (XW (B.nodes.set k.toNat Nd.zero)) Z rfl (ZZ hnd) rfl rfl rfl rfl ag_141.h (Zcp _ _ Nd.zero) (fun w Z=>?_)
  replace Z:=Z.z
  refine Sz ?_
  refine Zse (H1 _ B.s k hB.s (by omega) hkR.2 (Z.sel 3 [2,0,0] rfl)) fun w Z=>?_
  have hfk:B.freed k=AM.mk (B.s.release k) (B.nodes.set k.toNat Nd.zero) (B.cnt.set k.toNat (c-1)):=(by unfold AM.freed;rw[hce,Yf (by omega)]);have hne:B.nd k=nd:=(by unfold AM.nd;rw[hnd];rfl);have hB2:=hpk.free hkR.2 (by omega) (by omega) (by rw[List.length_append,hTn];omega);have hS2:=hSh.free hB.toAWf hkR.2 (by omega);have hlv:=(Dc hkR.2 (by omega) (AM.freed_ok hB.s hkR.2 (by omega))).length_eq;rw[List.length_cons] at hlv;have hfe:(B.freed k).s.free=B.s.free+1:=SM.release_free k;rw[hne] at hB2;rw[hfk] at hB2 hS2 hlv hfe;have hrr:=hB2.rng (r:=nd.rg) (by simp);have hll:=hB2.rng (r:=nd.lf) (by simp);have hpp:=Zn3 hB2
  as_aux_lemma =>
  refine Sz ?_
  refine Zsi (fun cd3=>?_) fun cd3=>?_
  ·refine Zs1 rfl rfl (Za [nd.rg]) el_70 Z (by exact⟨rfl,rfl⟩) (YY _) rfl (Nat.le_of_ble_eq_true rfl) (fun b3 w Z=>?_)
   refine Zs3 rfl rfl 3 (Za ((W.take ((List.length W)-1))++[nd.rg])) el_70 Z rfl (Z.srcO 0 rfl) (YM _ _).symm (Rm.of (by first|omega|(simp<;>omega)) (by decide)) rfl rfl (fun a2 c1 w Z=>?_)
   replace Z:=Z.z
   refine Sz ?_
   refine Zsi (fun cd4=>?_) fun cd4=>?_
   ·refine Zs1 rfl rfl (Za [nd.lf]) el_70 Z (by exact⟨rfl,rfl⟩) (YY _) rfl (Nat.le_of_ble_eq_true rfl) (fun b4 w Z=>?_)
    refine Zs3 rfl rfl 4 (Za (((W.take ((List.length W)-1))++[nd.rg])++[nd.lf])) el_70 Z rfl (Z.srcO 0 rfl) (YM _ _).symm (Rm.of (by first|omega|(simp<;>omega)) (by decide)) rfl rfl (fun a3 c2 w Z=>?_)
    replace Z:=Z.z
    refine Sz ?_
    exact⟨_,(by first|(simp only[List.length_append,List.length_singleton];omega)|omega|(show 2*B.live.length+_<_;omega)),rfl,W.take (W.length-1)++[nd.rg]++[nd.lf],AM.mk (B.s.release k) (B.nodes.set k.toNat Nd.zero) (B.cnt.set k.toNat (c-1)),fr+1,a3,c2,rfl,(Z.sel 5 [4,2] rfl),(UT (UT hTl (by omega)) (by omega)),(by simpa[cd3,cd4] using hpp),hS2,(by rw[hfe];omega),(by simp only[List.length_append,List.length_singleton];omega),rfl⟩
   exact⟨_,(by first|(simp only[List.length_append,List.length_singleton];omega)|omega|(show 2*B.live.length+_<_;omega)),rfl,W.take (W.length-1)++[nd.rg],AM.mk (B.s.release k) (B.nodes.set k.toNat Nd.zero) (B.cnt.set k.toNat (c-1)),fr+1,a2,c1,rfl,(Z.sel 4 [3,1] rfl),(UT hTl (by omega)),(by simpa[cd3,cd4] using hpp),hS2,(by rw[hfe];omega),(by simp only[List.length_append,List.length_singleton];omega),rfl⟩
  refine Zsi (fun cd4=>?_) fun cd4=>?_
  ·refine Zs1 rfl rfl (Za [nd.lf]) el_70 Z (by exact⟨rfl,rfl⟩) (YY _) rfl (Nat.le_of_ble_eq_true rfl) (fun b3 w Z=>?_)
   refine Zs3 rfl rfl 3 (Za ((W.take ((List.length W)-1))++[nd.lf])) el_70 Z rfl (Z.srcO 0 rfl) (YM _ _).symm (Rm.of (by first|omega|(simp<;>omega)) (by decide)) rfl rfl (fun a2 c1 w Z=>?_)
   replace Z:=Z.z
   refine Sz ?_
   exact⟨_,(by first|(simp only[List.length_append,List.length_singleton];omega)|omega|(show 2*B.live.length+_<_;omega)),rfl,W.take (W.length-1)++[nd.lf],AM.mk (B.s.release k) (B.nodes.set k.toNat Nd.zero) (B.cnt.set k.toNat (c-1)),fr+1,a2,c1,rfl,(Z.sel 4 [3,1] rfl),(UT hTl (by omega)),(by simpa[cd3,cd4] using hpp),hS2,(by rw[hfe];omega),(by simp only[List.length_append,List.length_singleton];omega),rfl⟩
  exact⟨_,(by first|(simp only[List.length_append,List.length_singleton];omega)|omega|(show 2*B.live.length+_<_;omega)),rfl,W.take (W.length-1),AM.mk (B.s.release k) (B.nodes.set k.toNat Nd.zero) (B.cnt.set k.toNat (c-1)),fr+1,u,d,rfl,(Z.sel 3 [2,0] rfl),hTl,(by simpa[cd3,cd4] using hpp),hS2,(by rw[hfe];omega),(by omega),rfl⟩
 have hWn:W=[]:=List.length_eq_zero_iff.1 (by rw[Zh] at cd1;omega)
 subst hWn
 have eN:(XW B.nodes).length=(XW A.nodes).length:=by rw[Xf,Xf,hB.nl,hnl,hSh.cap]
 have eC:(Ze B.cnt).length=(Ze A.cnt).length:=by rw[Zf,Zf,hB.cl,hcl,hSh.cap]
 refine Sz ?_
 replace Z:=St.exClose (f:=Y9 a B) ⟨p,na,nc,ca,cc,rd⟩ (by unfold Y9;rw[eN,eC];exact Z.sel 5 [2,1,1,1] rfl)
 replace Z:St g (Zt a B::L) w:=Z
 refine Sz ?_
 exact⟨B,_,rfl,Z,hB,hSh,hf⟩
end Go.Proofs.YtpebgkkmgffmaaaGreatDoor
namespace Go.Proofs.YtpebgkkmgffmaaaGreatDoor
open Go Go.V
set_option maxHeartbeats 8000000
set_option maxRecDepth 8192
variable{g w:World}{L:List HP}
theorem Znq(a:Nat)(A:AM)(key val l r:Int)(hA:AWf A)(hK:Kd A l r)(hf:0<A.s.free)(Z:St g (Zt a A::L) w) :
  Zr g L 369 [.P a,.I key,.I val,.W l,.W r] w fun rV=>rV (.tuple #[.W A.s.next,.I 0]) [Zt a (A.make (A.nodeOf key val l r))]:=by
 refine Sp.enter Tryz.func369 rfl (by kernel_rfl) (by kernel_rfl) ?_
 obtain⟨⟨p,na,nc,ca,cc,rd⟩,Z⟩:=St.exOpen (f:=Y9 a A) Z;have hAs:=hA.s;have hcp:=hAs.cap;have hnl:=hA.nl;have hcl:=hA.cl;have hbn:=Xf A.nodes;have hbc:=Zf A.cnt
 replace Z:St g (Zq a #[.P p,.slice na (XW A.nodes).length nc,.slice ca (Ze A.cnt).length cc,.U rd] 177::XE p A.s::Zp 141 8 (XW A.nodes) na nc::Zp 3 1 (Ze A.cnt) ca cc::L) w:=Z
 refine Sz ?_
 refine Zs4 rfl rfl (cs:=[.I key,.I val,.W l,.W r,.I 1,.I val,.I val,.I val]) zv_141.h rfl rfl<|Zsk fun b1 w Z=>?_
 refine Zsh fun w Z=>?_
 refine Zuv rfl rfl (cs:=[.W l,.W r]) Zbg zv_315.h rfl ?_
 refine Sz ?_
 refine Zst [0,3,4,12,28] [29] (fun kM vs jS=>∃(k:Nat)(n1:Nd),vs=[.I k]∧jS [Zq b1 #[.I n1.key,.I n1.val,.W n1.lf,.W n1.rg,.I n1.size,.I n1.sum,.I n1.mn,.I n1.mx] 141]∧(k≤2)∧(n1=JC A l r (QC key val l r) k)∧(2-k)=kM) rfl ⟨0,QC key val l r,rfl,Z,(by omega),rfl,rfl⟩ ?_
 rintro _ _ w j ⟨k,n1,rfl,Z,hk,hn,rfl⟩
 replace Z:=Z.z
 refine Sz ?_
 refine Zsr rfl (fun cd1=>?_) (fun cd1=>?_)
 ·have hk1:k<2:=(by omega);have hkk:=hK.at_ k;have hcz:=Zl6 hA hK (key:=key) (val:=val) (k:=k) (by omega);rw[←hn] at hcz;have hce:A.s.cap=(A.s.used.length:Int)-1:=rfl
  refine Sz ?_
  refine Zwc rfl rfl (v:=k) (k) Zbg rfl rfl (by omega) (by omega) (lr_at (l:=l) (r:=r) (k:=k) hk1) ?_
  refine Sz ?_
  refine Zsi (fun cd2=>?_) fun cd2=>?_
  ·exact⟨_,by omega,rfl,k+1,n1,rfl,Z,(by omega),(by rw[JC,if_pos cd2];exact hn),rfl⟩
  refine Zse (Ub _ A.s (JA l r k) (by first|assumption|exact SOk.le (by assumption)) (by have:=SM.ok_rng hAs (i:=JA l r k) (by omega) (hkk.1.resolve_left cd2).2;omega) (Z.sel 3 [2,0,0] rfl)) fun w Z=>?_
  refine Zs8 rfl (by rw[(hkk.1.resolve_left cd2).2];rfl) ?_
  have hcr:=SM.ok_rng hAs (i:=JA l r k) (by omega) (hkk.1.resolve_left cd2).2;obtain⟨x,hx⟩:∃x,A.nodes[(JA l r k).toNat]?=some x:=⟨_,List.getElem?_eq_getElem (by omega)⟩;have hxe:A.nd (JA l r k)=x:=(by unfold AM.nd;rw[hx];rfl);have hxz:A.sz (JA l r k)=x.size:=(by rw[Zc7 (hkk.1.resolve_left cd2).2,hxe])
  refine Sz ?_
  refine Zsq rfl rfl (i:=JA l r k) ((JA l r k).toNat) el_65 rfl rfl (by omega) (by omega) (Z.rdO 3 rfl (ZZ hx)).1 ?_
  refine Sz ?_
  refine Zsg [([0,2,1,3,4,5,6,7],some (8,[]))] ?_
  refine Qz ?_
  refine Zsn 1 [.I x.size] rfl (by exact(Z.rdO 3 rfl (ZZ hx)).2 4 _ rfl) ?_
  refine Qd fun w Z=>?_
  refine Zss fun w Z=>?_
  refine Qd fun w Z=>?_
  as_aux_lemma =>
  refine Sz ?_
  refine Zsg [([0,2,1,3,4,5,6,7],some (8,[]))] ?_
  refine Qz ?_
  refine Zsn 1 [.I x.sum] rfl (by exact(Z.rdO 3 rfl (ZZ hx)).2 5 _ rfl) ?_
  refine Ztf 1 rfl ?_
  refine Qd fun w Z=>?_
  refine Zss fun w Z=>?_
  refine Qd fun w Z=>?_
  refine Zsg [([0,2,1,3,4,5,6,7],some (8,[]))] ?_
  refine Qz ?_
  refine Zsn 1 [.I x.mn] rfl (by exact(Z.rdO 3 rfl (ZZ hx)).2 6 _ rfl) ?_
  refine Qd fun w Z=>?_
  refine Zss fun w Z=>?_
  refine Qd fun w Z=>?_
  refine Zsg [([0,2,1,3,4,5,6,7],some (8,[]))] ?_
  refine Qz ?_
  refine Zsn 1 [.I x.mx] rfl (by exact(Z.rdO 3 rfl (ZZ hx)).2 7 _ rfl) ?_
  refine Qd fun w Z=>?_
  refine Zss fun w Z=>?_
  refine Qd fun w Z=>?_
  exact⟨_,by omega,rfl,k+1,Zod n1 x,rfl,(Z.sel 3 [1,1,0] rfl),(by omega),(by rw[JC,if_neg cd2,hxe,←hn]),rfl⟩
 have hk2:k=2:=by omega
 have hnd:n1=A.nodeOf key val l r:=by rw[hn,hk2];rfl
 have hnz:=Da hA (key:=key) (val:=val) hK;have hzz:=hK.z;rw[←hnd] at hnz
 refine Sz ?_
 refine Zsm rfl (decide_eq_false ((by omega))) ?_
 refine Zse (UF _ A.s (by assumption) hf (Z.sel 3 [2,0,0] rfl)) fun w Z=>?_
 refine Zsg [([0,4,1,2,3],some (5,[0,1,2,3,4])),([],some (6,[])),([],some (7,[]))] ?_
 have hnx:=A.s.next_rng hAs hf;obtain⟨y,hy⟩:∃y,A.nodes[A.s.next.toNat]?=some y:=⟨_,List.getElem?_eq_getElem (by omega)⟩
 refine Qd fun w Z=>?_
 refine Qd fun w Z=>?_
 refine Zsq rfl rfl (i:=A.s.next) (A.s.next.toNat) el_65 rfl rfl (by omega) (by omega) (Z.rdO 3 rfl (ZZ hy)).1 ?_
 refine Sz ?_
 refine Qd fun w Z=>?_
 refine Zvi rfl rfl rfl 3 (A.s.next.toNat) [.I y.key,.I y.val,.W y.lf,.W y.rg,.I y.size,.I y.sum,.I y.mn,.I y.mx] (XW (A.nodes.set A.s.next.toNat n1)) Z rfl (ZZ hy) rfl rfl rfl rfl ag_141.h (Zcp _ _ n1) (fun w Z=>?_)
 replace Z:=Z.z
 refine Sz ?_
 refine Qd fun w Z=>?_
 as_aux_lemma =>
 obtain⟨z,hz⟩:∃z,A.cnt[A.s.next.toNat]?=some z:=⟨_,List.getElem?_eq_getElem (by omega)⟩
 refine Sz ?_
 refine Zsq rfl rfl (i:=A.s.next) (A.s.next.toNat) el_72 rfl rfl (by omega) (by omega) (Z.rdO 4 rfl (Zc hz)).1 ?_
 refine Zs5 rfl rfl rfl 4 (A.s.next.toNat) 0 [.I z] (Ze (A.cnt.set A.s.next.toNat 1)) Z rfl (Zc hz) rfl rfl rfl rfl rfl (XJ _ _ _) (fun w Z=>?_)
 replace Z:=Z.z
 have hlr2:=hK.at_ 0;have hrr2:=hK.at_ 1;have hlR:=Zbn hA hK.cl;have hrR:=Zbn hA hK.cr;obtain⟨z2,hz2⟩:∃z,(A.cnt.set A.s.next.toNat 1)[l.toNat]?=some z:=⟨_,List.getElem?_eq_getElem (by rw[List.length_set];omega)⟩
 refine Sz ?_
 refine Zsq rfl rfl (i:=l) (l.toNat) el_72 rfl rfl (by omega) (by omega) (Z.rdO 4 rfl (Zc hz2)).1 ?_
 refine Zsv 1 [.I z2] rfl (by exact(Z.rdO 4 rfl (Zc hz2)).2 0 _ rfl) ?_
 refine Zso 1 rfl<|Zsq rfl rfl (i:=l) (l.toNat) el_72 rfl rfl (by omega) (by omega) (Z.rdO 4 rfl (Zc hz2)).1 ?_
 refine Zs5 rfl rfl rfl 4 (l.toNat) 0 [.I z2] (Ze ((A.cnt.set A.s.next.toNat 1).set l.toNat (IntKind.i64.wrap (z2+1)))) Z rfl (Zc hz2) rfl rfl rfl rfl rfl (XJ _ _ _) (fun w Z=>?_)
 replace Z:=Z.z
 obtain⟨z3,hz3⟩:∃z,((A.cnt.set A.s.next.toNat 1).set l.toNat (IntKind.i64.wrap (z2+1)))[r.toNat]?=some z:=⟨_,List.getElem?_eq_getElem (by rw[List.length_set,List.length_set];omega)⟩
 refine Sz ?_
 refine Zsq rfl rfl (i:=r) (r.toNat) el_72 rfl rfl (by omega) (by omega) (Z.rdO 4 rfl (Zc hz3)).1 ?_
 refine Zsv 1 [.I z3] rfl (by exact(Z.rdO 4 rfl (Zc hz3)).2 0 _ rfl) ?_
 refine Zso 1 rfl<|Zsq rfl rfl (i:=r) (r.toNat) el_72 rfl rfl (by omega) (by omega) (Z.rdO 4 rfl (Zc hz3)).1 ?_
 refine Zs5 rfl rfl rfl 4 (r.toNat) 0 [.I z3] (Ze (((A.cnt.set A.s.next.toNat 1).set l.toNat (IntKind.i64.wrap (z2+1))).set r.toNat (IntKind.i64.wrap (z3+1)))) Z rfl (Zc hz3) rfl rfl rfl rfl rfl (XJ _ _ _) (fun w Z=>?_)
 replace Z:=Z.z
 have eM:A.make n1=AM.mk A.s.alloc (A.nodes.set A.s.next.toNat n1) (((A.cnt.set A.s.next.toNat 1).set l.toNat (IntKind.i64.wrap (z2+1))).set r.toNat (IntKind.i64.wrap (z3+1))):=Zma hz2 hz3 (by rw[hnd];exact(QP ..).1) (by rw[hnd];exact(QP ..).2.1)
 rw[hnd] at eM Z
 have eN:(XW (A.nodes.set A.s.next.toNat (A.nodeOf key val l r))).length=(XW A.nodes).length:=by simp
 have eC:(Ze (((A.cnt.set A.s.next.toNat 1).set l.toNat (IntKind.i64.wrap (z2+1))).set r.toNat (IntKind.i64.wrap (z3+1)))).length=(Ze A.cnt).length:=by simp
 refine Sz ?_
 replace Z:=St.exClose (f:=Y9 a (A.make (A.nodeOf key val l r))) ⟨p,na,nc,ca,cc,rd⟩ (by rw[eM];unfold Y9;simp only[eN,eC];exact Z.sel 5 [2,0,1,1] rfl)
 replace Z:St g (Zt a (A.make (A.nodeOf key val l r))::L) w:=Z
 refine Sz ?_
 exact⟨rfl,Z⟩
theorem Zld(a:Nat)(A:AM)(i:Int)(hA:AWf A)(hi:0≤i∧i<4294967296)(Z:St g (Zt a A::L) w) :
  Zr g L 218 [.P a,.W i] w fun rV=>rV (.I (A.sz i)) [Zt a A]:=by
 refine Sp.enter Tryz.func218 rfl (by kernel_rfl) (by kernel_rfl) ?_
 obtain⟨⟨p,na,nc,ca,cc,rd⟩,Z⟩:=St.exOpen (f:=Y9 a A) Z;have hAs:=hA.s;have hcp:=hAs.cap;have hnl:=hA.nl;have hcl:=hA.cl;have hbn:=Xf A.nodes;have hbc:=Zf A.cnt
 replace Z:St g (Zq a #[.P p,.slice na (XW A.nodes).length nc,.slice ca (Ze A.cnt).length cc,.U rd] 177::XE p A.s::Zp 141 8 (XW A.nodes) na nc::Zp 3 1 (Ze A.cnt) ca cc::L) w:=Z
 refine Sz ?_
 refine Zse (Ub _ A.s i (by first|assumption|exact SOk.le (by assumption)) hi (Z.sel 2 [1,0] rfl)) fun w Z=>?_
 refine Ztm rfl (fun cd1=>?_) (fun cd1=>?_)
 ·refine Sz ?_
  replace Z:=St.exClose (f:=Y9 a A) ⟨p,na,nc,ca,cc,rd⟩ (by first|exact Z|exact Z.sel 4 [1,0,0,0] rfl)
  replace Z:St g (Zt a A::L) w:=Z
  refine Sz ?_
  exact⟨congrArg (Value.int .i64) (by unfold AM.sz;rw[if_neg (by simpa using cd1)]),Z⟩
 refine Sy ?_
 refine Zso 1 rfl ?_
 refine Sz ?_
 refine Zss fun w Z=>?_
 have hio:A.s.ok i=true:=(by simpa using cd1);have hir:=SM.ok_rng hAs hi.1 hio;obtain⟨x,hx⟩:∃x,A.nodes[i.toNat]?=some x:=⟨_,List.getElem?_eq_getElem (by omega)⟩;have hxe:A.nd i=x:=(by unfold AM.nd;rw[hx];rfl)
 refine Zsq rfl rfl (i:=i) (i.toNat) el_65 rfl rfl (by omega) (by omega) (Z.rdO 2 rfl (ZZ hx)).1 ?_
 refine Sz ?_
 refine Zsv 1 [.I x.size] rfl (by exact(Z.rdO 2 rfl (ZZ hx)).2 4 _ rfl) ?_
 refine Sz ?_
 replace Z:=St.exClose (f:=Y9 a A) ⟨p,na,nc,ca,cc,IntKind.u64.wrap (rd+1)⟩ (by first|exact Z|exact Z.sel 4 [1,0,0,0] rfl)
 replace Z:St g (Zt a A::L) w:=Z
 refine Sz ?_
 exact⟨congrArg (Value.int .i64) (by rw[Zc7 hio,hxe]),Z⟩
theorem UY(a:Nat)(A:AM)(i:Int)(hA:AWf A)(hi:0≤i∧i<4294967296)(hio:A.s.ok i=true)(Z:St g (Zt a A::L) w) :
  Zr g L 262 [.P a,.W i] w fun rV=>rV (.tuple #[.agg #[.I (A.nd i).key,.I (A.nd i).val,.W (A.nd i).lf,.W (A.nd i).rg,.I (A.nd i).size,.I (A.nd i).sum,.I (A.nd i).mn,.I (A.nd i).mx],.bool true]) [Zt a A]:=by
 refine Sp.enter Tryz.func262 rfl (by kernel_rfl) (by kernel_rfl) ?_
 obtain⟨⟨p,na,nc,ca,cc,rd⟩,Z⟩:=St.exOpen (f:=Y9 a A) Z;have hAs:=hA.s;have hcp:=hAs.cap;have hnl:=hA.nl;have hcl:=hA.cl;have hbn:=Xf A.nodes;have hbc:=Zf A.cnt
 replace Z:St g (Zq a #[.P p,.slice na (XW A.nodes).length nc,.slice ca (Ze A.cnt).length cc,.U rd] 177::XE p A.s::Zp 141 8 (XW A.nodes) na nc::Zp 3 1 (Ze A.cnt) ca cc::L) w:=Z
 refine Sz ?_
 refine Zsk fun b1 w Z=>?_
 refine Zse (Ub _ A.s i (by first|assumption|exact SOk.le (by assumption)) hi (Z.sel 3 [2,0,0] rfl)) fun w Z=>?_
 refine Zs8 rfl (by rw[hio];rfl) ?_
 refine Sy ?_
 refine Zso 1 rfl ?_
 refine Sz ?_
 refine Zss fun w Z=>?_
 have hir:=SM.ok_rng hAs hi.1 hio;obtain⟨x,hx⟩:∃x,A.nodes[i.toNat]?=some x:=⟨_,List.getElem?_eq_getElem (by omega)⟩;have hxe:A.nd i=x:=(by unfold AM.nd;rw[hx];rfl)
 refine Zsq rfl rfl (i:=i) (i.toNat) el_65 rfl rfl (by omega) (by omega) (Z.rdO 3 rfl (ZZ hx)).1 ?_
 refine Ztx rfl rfl [.I x.key,.I x.val,.W x.lf,.W x.rg,.I x.size,.I x.sum,.I x.mn,.I x.mx] ag_141.h rfl (Z.rdO 3 rfl (ZZ hx)).2 ?_
 refine Ztz rfl rfl rfl 1 Z rfl rfl rfl rfl rfl ag_141.h (fun w Z=>?_)
 refine Sz ?_
 replace Z:=St.exClose (f:=Y9 a A) (L:=Zq b1 #[.I x.key,.I x.val,.W x.lf,.W x.rg,.I x.size,.I x.sum,.I x.mn,.I x.mx] 141::L) ⟨p,na,nc,ca,cc,IntKind.u64.wrap (rd+1)⟩ (Z.sel 5 [2,0,1,1,0] rfl)
 replace Z:St g (Zt a A::Zq b1 #[.I x.key,.I x.val,.W x.lf,.W x.rg,.I x.size,.I x.sum,.I x.mn,.I x.mx] 141::L) w:=Z
 refine Sz ?_
 replace Z:=(Z.sel 2 [0] rfl)
 exact⟨by rw[hxe];rfl,Z⟩
theorem Zqx(a:Nat)(A:AM)(R:List Int)(i:Int)(hA:ARf A (i::R))(hR:R.length≤900000000)(Z:St g (Zt a A::L) w) :
  Cp g L 102 [.P a,.W i] w fun rV=>∃(A2:AM)(f:Int),rV (.tuple #[.I f,.I 0]) [Zt a A2] ((ARf A2 R)∧(Shr A A2)∧(f=A2.s.free-A.s.free∧0≤f)):=by
 rcases hA.ref i (List.mem_cons_self ..) with rfl|⟨h1,h2⟩
 ·exact(UL a A Z).mono fun v w' ⟨hv,hS'⟩=>⟨A,0,hv,hS',hA.tail0,Shr.refl A,by omega,by omega⟩
 have hr:=hA.rng (List.mem_cons_self ..)
 refine(H3 a A R i hA ⟨h1,hr.2.1⟩ hR Z).mono fun v w' ⟨A2,f,hv,hS',h3,h4,h5⟩=>⟨A2,f,hv,hS',h3,h4,h5,?_⟩
 have e1:=AM.cnt_live hA.s
 have e2:=AM.cnt_live h3.s
 have e3:=Zhu (A:=A) (B:=A2) fun j h0 hj=>(h4.ok j h0 hj).1
 have e4:A.s.cap=(A.s.used.length:Int)-1:=rfl
 have e5:A2.s.cap=(A2.s.used.length:Int)-1:=rfl
 have e6:=h4.cap
 omega
theorem Shr.kp{A B:AM}{R:List Int}(h:Shr A B)(hB:ARf B R):Kp A B R :=
 have h1:∀r∈R,∀t,Is A t r→Is B t r:=fun r hr t ht=>Is.mono hB (fun j h0 hj=>(h.ok j h0 hj).2) t r ht ((hB.ref r hr).imp id (·.2))
 ⟨h1,fun r hr t ht=>(JD (fun j h0 hj=>((h.ok j (by omega) hj).2).symm) t r (h1 r hr t ht)).symm⟩
end Go.Proofs.YtpebgkkmgffmaaaGreatDoor
namespace Go.V
open Go Go.RowKit
structure RN where
 n:Int
 root:Int
 born:Nat
def rK(x:RN):Value×Value×Nat:=(.int .i64 x.n,.int .u32 x.root,x.born)
structure VM where
 T:TM
 xs:List VN
 q:Nat
 last:Int
 rs:List RN
 q2:Nat
 cap:Int
structure VsA where
 t:Nat
 p:Nat
 m:Nat
 m2:Nat
def Ud(s a:Nat)(V:VM)(x:VsA):List HP:=[Zq s #[.pointer (some ⟨a,0,none⟩),.pointer (some ⟨x.t,0,none⟩),.pointer (some ⟨x.p,0,none⟩),.map (some x.m2),.int .i64 V.cap] 165,Tbl x.t V.T,Zq x.p #[.int .i64 V.cap,.int .i64 V.last,.map (some x.m)] 321,Yy x.m (.map (mE (List.map vK V.xs)) V.q),ZE vF V.xs,Yy x.m2 (.map (mE (List.map rK V.rs)) V.q2)]
def Qp(s a:Nat)(V:VM):HP:=ExB (Ud s a V)
def TM.vl(T:TM)(i:Int):Int:=(T.vals[i.toNat]?).getD 0
structure VI(V:VM)(A:AM)(R:List Int):Prop where
 t:TOk V.T
 g:GI V.xs V.q V.cap V.last
 k:KOk rK RN.n V.rs V.q2
 pre:∀z,(∃r∈V.rs,r.n=z)↔ZF V.xs z=true
 lv:∀i:Int,0≤i→V.T.s.ok i=true→Zi V.xs (V.T.vl i)=true
 inj:∀i j:Int,0≤i→0≤j→V.T.s.ok i=true→V.T.s.ok j=true→V.T.vl i=V.T.vl j→i=j
 all:∀z,Zi V.xs z=true→∃i:Int,0≤i∧V.T.s.ok i=true∧V.T.vl i=z
 ref:ARf A (V.rs.map RN.root++R)
 cp:V.T.s.cap=V.cap
def VM.new(cap:Nat):VM:=⟨TM.new cap,[],0,0,[],0,cap⟩
theorem VM.open_val{V:VM}{A:AM}{R:List Int}(h:VI V A R){x:Int}(ho:V.T.s.opn x=true):Zi V.xs (V.T.val x)=true∧∃(k:Nat)(r:RN),V.rs[k]?=some r∧r.n=V.T.val x:=by
 have h1:=h.lv (x%4294967296) (by omega) (SM.opn_ok ho).1
 refine⟨h1,?_⟩
 obtain⟨r,hr,hn⟩:=(h.pre _).2 (Ya h1)
 obtain⟨k,hk⟩:=List.mem_iff_getElem?.1 hr
 exact⟨k,r,hk,hn⟩
theorem SM.new_live(cap:Nat)(i:Int):(SM.new cap).ok i=false:=by
 unfold SM.ok SM.new
 simp only
 cases hx:(List.replicate (cap+1) false)[i.toNat]? with
 |none=>rfl
 |some b=>rw[List.eq_of_mem_replicate (List.mem_of_getElem? hx)];rfl
theorem AM.new_rf{cap:Nat}(h:1≤cap∧cap≤65536):ARf (AM.new cap) []:=by
 have hno:=SM.new_live cap
 refine⟨AM.new_wf h,fun i hi=>?_,fun i hi=>?_,fun i hi=>?_,fun _ hr=>(by cases hr),fun i hi=>?_,fun i _ _=>?_,by simp⟩
 ·have:=hno i;rw[show(AM.new cap).s=SM.new cap from rfl,this] at hi;cases hi
 ·have:=hno i;rw[show(AM.new cap).s=SM.new cap from rfl,this] at hi;cases hi
 ·have:=hno i;rw[show(AM.new cap).s=SM.new cap from rfl,this] at hi;cases hi
 ·have:=hno i;rw[show(AM.new cap).s=SM.new cap from rfl,this] at hi;cases hi
 unfold AM.nd AM.new
 simp only
 cases hx:(List.replicate (cap+1) Nd.zero)[i.toNat]? with
 |none=>rfl
 |some b=>rw[List.eq_of_mem_replicate (List.mem_of_getElem? hx)];rfl
theorem VI.new{slots cap:Nat}(h1:1≤slots∧slots≤65536)(h2:1≤cap∧cap≤4096):VI (VM.new cap) (AM.new slots) []:=by
 have hno:=SM.new_live cap
 refine⟨TM.new_ok (by omega),⟨GOk.nil,fun _ h=>(by cases h),Int.le_refl _,by show 1≤(cap:Int)∧(cap:Int)≤4096;omega⟩,KOk.nil,fun z=>?_,fun i _ hi=>?_,fun i j _ _ hi=>?_,fun z hz=>(by cases hz),AM.new_rf h1,?_⟩
 ·exact⟨fun⟨_,h,_⟩=>(by cases h),fun h=>(by cases h)⟩
 ·rw[show(VM.new cap).T.s=SM.new cap from rfl,hno i] at hi;cases hi
 ·rw[show(VM.new cap).T.s=SM.new cap from rfl,hno i] at hi;cases hi
 show(((List.replicate (cap+1) false).length:Nat):Int)-1=cap
 simp
def VM.room(V:VM):Int:=min (V.cap-V.xs.length) (V.cap-(V.T.s.cap-V.T.s.free))
def VM.rootOf(V:VM)(z:Int):Int:=((V.rs.find? fun r=>decide (r.n=z)).map RN.root).getD 0
theorem VM.rootOf_at{V:VM}(hu:V.rs.Pairwise fun x y=>RN.n x≠RN.n y){k:Nat}{r:RN}(hr:V.rs[k]?=some r):V.rootOf r.n=r.root:=by
 unfold VM.rootOf
 have:V.rs.find? (fun x=>decide (x.n=r.n))=some r:=by
  cases hf:V.rs.find? (fun x=>decide (x.n=r.n)) with
  |none=>exact absurd (decide_eq_true rfl) (List.find?_eq_none.1 hf r (List.mem_of_getElem? hr))
  |some y =>
   have hn:y.n=r.n:=of_decide_eq_true (List.find?_some (p:=fun q:RN=>decide (q.n=r.n)) hf)
   obtain⟨j,hj⟩:=List.mem_iff_getElem?.1 (List.mem_of_find?_eq_some hf)
   have h1:=(List.getElem?_eq_some_iff.1 hj).1
   have h2:=(List.getElem?_eq_some_iff.1 hr).1
   have e1:V.rs[j]=y:=(List.getElem?_eq_some_iff.1 hj).2
   have e2:V.rs[k]=r:=(List.getElem?_eq_some_iff.1 hr).2
   rcases Nat.lt_trichotomy j k with hl|hl|hl
   ·exact absurd (by rw[e1,e2];exact hn) (List.pairwise_iff_getElem.1 hu j k h1 h2 hl)
   ·subst hl;rw[hj] at hr;exact hr
   exact absurd (by rw[e1,e2];exact hn.symm) (List.pairwise_iff_getElem.1 hu k j h2 h1 hl)
 rw[this];rfl
end Go.V
namespace Go.V
open Go Go.RowKit
theorem TM.open_vl{T:TM}(h:TOk T)(hf:0<T.s.free)(v:Int){i:Int}(hi:0≤i):(T.open v).vl i=if i=T.s.next then v else T.vl i:=by
 have hn:=SM.next_rng h.s hf
 unfold TM.vl TM.open
 simp only
 rw[List.getElem?_set]
 by_cases e:i=T.s.next
 ·subst e;rw[if_pos rfl,if_pos (by rw[h.vl];exact hn.2.2.1),if_pos rfl];rfl
 rw[if_neg (by omega),if_neg e]
theorem TM.open_ok{T:TM}(h:TOk T)(hf:0<T.s.free)(v:Int){i:Int}(hi:0≤i):(T.open v).s.ok i=if i=T.s.next then true else T.s.ok i:=SM.alloc_ok' h.s hf hi
theorem Uq{V:VM}{A:AM}{R:List Int}(h:VI V A R):V.rs.length≤V.xs.length:=by
 have h1:=Dr (l:=V.rs.map RN.n) (m:=V.xs.map VN.n) (List.pairwise_map.2 h.k.uniq) (fun z hz=>by
  obtain⟨r,hr,e⟩:=List.mem_map.1 hz
  obtain⟨x,hx,e2⟩:=ZO.1 ((h.pre z).1 ⟨r,hr,e⟩)
  exact List.mem_map.2 ⟨x,hx,e2⟩)
 simpa using h1
def VM.add(V:VM)(xs2:List VN)(q:Nat)(root:Int):VM:=⟨V.T.open (V.last+1),xs2,q,V.last+1,V.rs++[⟨V.last+1,root,V.q2⟩],V.q2+1,V.cap⟩
theorem VI.add{V:VM}{A:AM}{R:List Int}(h:VI V A R){root:Int}(hr:root=0∨(1≤root∧A.s.ok root=true)){ps:List Int}{xs2:List VN}{q:Nat}(h0:Xj V.xs V.cap ps=0)(hA:AddP V.xs V.cap V.last ps xs2 (V.last+1))(hG:GI xs2 q V.cap (V.last+1))(hf:0<V.T.s.free)(hla:V.last<1000000000)(hlen:R.length≤900000000):VI (V.add xs2 q root) (A.ret root) R:=by
 have hla0:=h.g.la
 have hle:=Uq h
 have hnum:=hG.ok.num
 obtain⟨_,_,hn,hlv,hpr,hxl⟩:=(AddP.facts h.g.le hA).resolve_left fun e=>e.1 h0
 have hlast:∀z,ZF V.xs z=true→z≤V.last:=fun z hz=>by
  obtain⟨x,hx,e⟩:=ZO.1 hz
  have:=h.g.le x hx;omega
 have hnx:=SM.next_rng h.t.s hf
 have hlvl:∀i:Int,0≤i→V.T.s.ok i=true→V.T.vl i≤V.last:=fun i h0 hi=>hlast _ (Ya (h.lv i h0 hi))
 refine⟨h.t.open hf (by omega),hG,h.k.snoc rfl (fun y hy e=>?_) rfl (by show _≤V.last+1∧V.last+1≤_;omega) (by omega),fun z=>?_,fun i hi ho=>?_,fun i j hi hj ho ho2 e=>?_,fun z hz=>?_,?_,?_⟩
 ·have:=hlast _ ((h.pre y.n).1 ⟨y,hy,rfl⟩)
  have e2:y.n=V.last+1:=e
  omega
 ·show(∃r∈V.rs++[_],r.n=z)↔ZF xs2 z=true
  rw[hpr z,Bool.or_eq_true,←h.pre z]
  constructor
  ·rintro⟨r,hr2,e⟩
   rcases List.mem_append.1 hr2 with hr2|hr2
   ·exact .inl ⟨r,hr2,e⟩
   rw[List.mem_singleton.1 hr2] at e
   exact .inr (decide_eq_true e.symm)
  rintro(⟨r,hr2,e⟩|e)
  ·exact⟨r,List.mem_append_left _ hr2,e⟩
  exact⟨_,List.mem_append_right _ (List.mem_singleton.2 rfl),(of_decide_eq_true e).symm⟩
 ·show Zi xs2 ((V.T.open (V.last+1)).vl i)=true
  rw[TM.open_vl h.t hf _ hi,hlv]
  rw[show(V.add xs2 q root).T.s.ok i=_ from TM.open_ok h.t hf _ hi] at ho
  by_cases e:i=V.T.s.next
  ·rw[if_pos e];simp
  rw[if_neg e] at ho ⊢
  rw[h.lv i hi ho,Bool.true_or]
 ·rw[show(V.add xs2 q root).T.s.ok i=_ from TM.open_ok h.t hf _ hi] at ho
  rw[show(V.add xs2 q root).T.s.ok j=_ from TM.open_ok h.t hf _ hj] at ho2
  rw[show(V.add xs2 q root).T.vl i=_ from TM.open_vl h.t hf _ hi,show(V.add xs2 q root).T.vl j=_ from TM.open_vl h.t hf _ hj] at e
  by_cases e1:i=V.T.s.next
  ·by_cases e2:j=V.T.s.next
   ·rw[e1,e2]
   rw[if_neg e2] at ho2
   rw[if_pos e1,if_neg e2] at e
   have:=hlvl j hj ho2;omega
  rw[if_neg e1] at ho
  by_cases e2:j=V.T.s.next
  ·rw[if_neg e1,if_pos e2] at e
   have:=hlvl i hi ho;omega
  rw[if_neg e2] at ho2
  rw[if_neg e1,if_neg e2] at e
  exact h.inj i j hi hj ho ho2 e
 ·have hz2:(Zi V.xs z || decide (z=V.last+1))=true:=by rw[←hlv z];exact hz
  rcases Bool.or_eq_true_iff.1 hz2 with hz2|hz2
  ·obtain⟨i,h1,h2,h3⟩:=h.all z hz2
   have hne:i≠V.T.s.next:=fun e=>by rw[e,hnx.2.2.2] at h2;cases h2
   exact⟨i,h1,by rw[show(V.add xs2 q root).T.s.ok i=_ from TM.open_ok h.t hf _ h1,if_neg hne];exact h2,by rw[show(V.add xs2 q root).T.vl i=_ from TM.open_vl h.t hf _ h1,if_neg hne];exact h3⟩
  have h1:0≤V.T.s.next:=by omega
  exact⟨V.T.s.next,h1,by rw[show(V.add xs2 q root).T.s.ok _=_ from TM.open_ok h.t hf _ h1,if_pos rfl],by rw[show(V.add xs2 q root).T.vl _=_ from TM.open_vl h.t hf _ h1,if_pos rfl];exact(of_decide_eq_true hz2).symm⟩
 ·have h1:=(AM.ret_eq h.ref hr (by rw[List.length_append,List.length_map];omega)).1
  refine h1.perm ?_
  show(root::(V.rs.map RN.root++R)).Perm ((V.rs++[(⟨V.last+1,root,V.q2⟩:RN)]).map RN.root++R)
  rw[List.map_append]
  simpa using(List.perm_middle (a:=root) (l₁:=V.rs.map RN.root) (l₂:=R)).symm
 show(V.T.s.alloc).cap=V.cap
 rw[←h.cp]
 unfold SM.cap SM.alloc;simp
theorem Zi0{V:VM}{A:AM}{R:List Int}(h:VI V A R){x y:Int}(hx:V.T.s.opn x=true)(hy:V.T.s.opn y=true)(e:V.T.val x=V.T.val y):x=y:=by
 obtain⟨h1,h2⟩:=SM.opn_ok hx
 obtain⟨h3,h4⟩:=SM.opn_ok hy
 have:=h.inj (x%4294967296) (y%4294967296) (by omega) (by omega) h1 h3 e
 rw[←h2,←h4,this]
theorem C8{V:VM}{A:AM}{R:List Int}(h:VI V A R){hs:List Int}(hp:ZY hs)(ho:∀x∈hs,V.T.s.opn x=true):ZY (hs.map V.T.val):=by
 refine⟨by simpa using hp.1,fun x y e=>?_⟩
 match hs,hp,ho,e with
 |[u,v],hp,ho,e =>
  simp only[List.map_cons,List.map_nil,List.cons.injEq,and_true] at e
  obtain⟨e1,e2⟩:=e
  intro e3
  exact hp.2 u v rfl (Zi0 h (ho u (by simp)) (ho v (by simp)) (by rw[e1,e2];exact e3))
theorem Hd{V:VM}{A:AM}{R:List Int}(h:VI V A R)(hr:0<V.room):(V.xs.length:Int)<V.cap∧0<V.T.s.free:=by
 have:=h.cp
 unfold VM.room at hr
 omega
theorem Zfm{V:VM}{A:AM}{R:List Int}(h:VI V A R){hs:List Int}(hp:ZY hs)(ho:∀x∈hs,V.T.s.opn x=true)(hr:0<V.room):Xj V.xs V.cap (hs.map V.T.val)=0:=by
 refine Zdl (C8 h hp ho) (fun z hz=>?_) (by have:=(Hd h hr).1;omega)
 obtain⟨x,hx,rfl⟩:=List.mem_map.1 hz
 exact(VM.open_val h (ho x hx)).1
end Go.V
namespace Go.V
open Go Go.RowKit
theorem TM.newH_mod{T:TM}(h:TOk T)(hf:0<T.s.free):T.newH%4294967296=T.s.next∧0≤T.newH∧T.newH≤18446744073709551615:=by
 have hn:=SM.next_rng h.s hf
 have hc:=h.s.cap
 have e:T.s.cap=(T.s.used.length:Int)-1:=rfl
 have hg:=(SM.alloc_sok h.s hf)
 have h1:=SOk.gen_rng hg T.s.next
 unfold TM.newH SM.hd
 omega
theorem TOk.newH_opn{T:TM}(h:TOk T)(hf:0<T.s.free)(v:Int):(T.open v).s.opn T.newH=true∧(T.open v).val T.newH=v:=by
 obtain⟨h1,h2,h3⟩:=TM.newH_mod h hf
 have hn:=SM.next_rng h.s hf
 constructor
 ·unfold SM.opn
  rw[h1]
  have e1:(T.open v).s.ok T.s.next=true:=by rw[TM.open_ok h hf v (by omega),if_pos rfl]
  rw[e1]
  simp[TM.open,TM.newH]
 show(T.open v).vl (T.newH%4294967296)=v
 rw[h1,TM.open_vl h hf v (by omega),if_pos rfl]
theorem SM.alloc_gen{S:SM}(i:Int)(h0:0≤i)(hn:0≤S.next)(hne:i≠S.next):S.alloc.genOf i=S.genOf i:=by
 unfold SM.genOf SM.alloc
 simp only
 rw[List.getElem?_set,if_neg (by omega)]
theorem TOk.opn_open{T:TM}(h:TOk T)(hf:0<T.s.free)(v:Int){x:Int}(hx:T.s.opn x=true):(T.open v).s.opn x=true∧(T.open v).val x=T.val x:=by
 obtain⟨h1,h2⟩:=SM.opn_ok hx
 have hn:=SM.next_rng h.s hf
 have hne:x%4294967296≠T.s.next:=fun e=>by rw[e,hn.2.2.2] at h1;cases h1
 constructor
 ·unfold SM.opn
  have e1:(T.open v).s.ok (x%4294967296)=true:=by rw[TM.open_ok h hf v (by omega),if_neg hne];exact h1
  rw[e1]
  have e2:(T.open v).s.hd (x%4294967296)=x:=by
   show T.s.alloc.genOf (x%4294967296)*4294967296+x%4294967296=x
   rw[SM.alloc_gen _ (by omega) (by omega) hne];exact h2
  rw[e2];simp
 show(T.open v).vl (x%4294967296)=T.vl (x%4294967296)
 rw[TM.open_vl h hf v (by omega),if_neg hne]
theorem TOk.opn_close{T:TM}(h:TOk T){x y:Int}(hx:T.s.opn x=true)(hy:T.s.opn y=true)(hne:T.val x≠T.val y):(T.close x).s.opn y=true∧(T.close x).val y=T.val y:=by
 obtain⟨h1,h2⟩:=SM.opn_ok hx
 obtain⟨h3,h4⟩:=SM.opn_ok hy
 have hne2:y%4294967296≠x%4294967296:=fun e=>hne (by unfold TM.val;rw[e])
 refine⟨?_,rfl⟩
 unfold SM.opn
 have e1:(T.close x).s.ok (y%4294967296)=true:=by
  show(T.s.release (x%4294967296)).ok (y%4294967296)=true
  rw[SM.release_ok' h.s (by omega) h1 (by omega),if_neg hne2];exact h3
 rw[e1]
 have e2:(T.close x).s.hd (y%4294967296)=y:=h4
 rw[e2];simp
end Go.V
namespace Go.V
open Go Go.RowKit
theorem VI.ar{V:VM}{A A2:AM}{R R2:List Int}(h:VI V A R)(hA:ARf A2 (V.rs.map RN.root++R2)):VI V A2 R2:=⟨h.t,h.g,h.k,h.pre,h.lv,h.inj,h.all,hA,h.cp⟩
theorem Zak{xs xs2:List VN}{n m:Int}(hR:RelQ xs n xs2)(hn:Zi xs n=true)(hl:∀z,Zi xs z=true→z=n∨z=m)(hm:Zi xs m=true)(hne:m≠n):∀z,ZF xs2 z=true↔z=m:=by
 obtain⟨_,xs1,N,e1,e2,e3⟩:=Or.resolve_right hR (fun h=>by rw[hn] at h;cases h.1)
 have hlv:∀z,Zi xs1 z=true↔Zi xs z=true∧z≠n:=fun z=>by
  rw[ZT,e1,ZT]
  unfold dead
  by_cases e:z=n
  ·rw[if_pos e]
   cases vw xs z<;>simp[e]
  rw[if_neg e];simp[e]
 have hone:∀z,Zi xs1 z=true↔z=m:=fun z=>by
  rw[hlv]
  constructor
  ·rintro⟨h1,h2⟩;exact(hl z h1).resolve_left h2
  rintro rfl;exact⟨hm,hne⟩
 have hN:∀z,N z=true↔z=m:=fun z=>by
  rw[e2]
  unfold Zcu
  constructor
  ·rintro(h|⟨_,x,y,hx,hy,hxy,_⟩)
   ·exact(hone z).1 h
   have:=(hone x).1 hx;have:=(hone y).1 hy;omega
  intro h;exact .inl ((hone z).2 h)
 intro z
 rw[Z',e3]
 unfold keep
 by_cases e:z=m
 ·rw[if_pos ((hN z).2 e)]
  have h1:=(hone z).2 e
  rw[ZT] at h1
  cases hv:vw xs1 z with
  |none=>rw[hv] at h1;cases h1
  |some p=>simp[e]
 rw[if_neg (fun h=>e ((hN z).1 h))];simp[e]
theorem Zfg{α:Type}{n:α→Int}{xs:List α}{a:α}(hu:xs.Pairwise fun x y=>n x≠n y)(h:∀x,x∈xs↔x=a):xs=[a]:=by
 match xs,hu,h with
 |[],_,h=>exact absurd ((h a).2 rfl) (by simp)
 |[x],_,h=>rw[(h x).1 (by simp)]
 |x::y::t,hu,h =>
  have h1:=(h x).1 (by simp)
  have h2:=(h y).1 (by simp)
  have:=(List.pairwise_cons.1 hu).1 y (by simp)
  rw[h1,h2] at this;exact absurd rfl this
theorem Hq{xs:List VN}{m:Int}(hu:VUq xs)(h:∀z,ZF xs z=true↔z=m):xs.length=1:=by
 match xs,hu,h with
 |[],_,h=>exact absurd ((h m).2 rfl) (by simp[ZF,Z0])
 |[_],_,_=>rfl
 |x::y::t,hu,h =>
  have h1:=(h x.n).1 (ZO.2 ⟨x,by simp,rfl⟩)
  have h2:=(h y.n).1 (ZO.2 ⟨y,by simp,rfl⟩)
  have:=(List.pairwise_cons.1 hu).1 y (by simp)
  rw[h1,h2] at this;exact absurd rfl this
structure FvS(V:VM)(A:AM)(hd root:Int)(t:Tr):Prop where
 vi:VI V A []
 opn:V.T.s.opn hd=true
 rng:0≤hd∧hd≤18446744073709551615
 val:V.T.val hd=V.last
 pre:∀z,ZF V.xs z=true↔z=V.last
 free:V.T.s.free=49
 cap:V.cap=50
 rs:∃b,V.rs=[⟨V.last,root,b⟩]
 is:Is A t root
 ok:t.ok
 srt:Srt t.ls
 acap:A.s.used.length=601
theorem FvS.len{V:VM}{A:AM}{hd root:Int}{t:Tr}(h:FvS V A hd root t):V.xs.length=1:=Hq h.vi.g.ok.uniq h.pre
theorem FvS.room{V:VM}{A:AM}{hd root:Int}{t:Tr}(h:FvS V A hd root t):V.room=49:=by
 have h1:=h.len;have h2:=h.vi.cp;have h3:=h.cap;have h4:=h.free
 unfold VM.room;omega
theorem FvS.root{V:VM}{A:AM}{hd root:Int}{t:Tr}(h:FvS V A hd root t):V.rootOf (V.T.val hd)=root:=by
 obtain⟨b,hb⟩:=h.rs
 rw[h.val]
 exact VM.rootOf_at (V:=V) h.vi.k.uniq (k:=0) (r:=⟨V.last,root,b⟩) (by rw[hb];rfl)
theorem FvS.ref{V:VM}{A:AM}{hd root:Int}{t:Tr}(h:FvS V A hd root t):ARf A [root]:=by
 obtain⟨b,hb⟩:=h.rs
 have:=h.vi.ref
 rw[hb] at this;exact this
theorem FvS.used{V:VM}{A:AM}{hd root:Int}{t:Tr}(h:FvS V A hd root t):A.s.cap=600∧A.s.cap-A.s.free=t.n:=by
 have h1:=C6 h.ref h.is h.srt
 have h2:A.s.cap=(A.s.used.length:Int)-1:=rfl
 have h3:=h.acap
 omega
end Go.V
namespace Go.Proofs.YtpebgkkmgffmaaaGreatDoor
open Go Go.V Go.RowKit Go.Maps Go.Sort Go.Shelf
set_option maxHeartbeats 8000000
set_option maxRecDepth 8192
variable{g w:World}{L:List HP}
theorem Zfq(sl cap:Int)(hc:1≤cap∧cap≤4096)(hs:1≤sl∧sl≤65536)(Z:St g (L) w) :
  Zr g L 27 [.I sl,.I cap] w fun rV=>∃(s a:Nat),rV (.tuple #[.P s,.I 0]) [Qp s a (VM.new cap.toNat),Zt a (AM.new sl.toNat)]:=by
 refine Sp.en Tryz.func27 ?_
 refine Ztd 3 rfl (fun j=>?_)
 refine Zsx 15 rfl (X2 (dd _) (dd _)) ?_
 refine Sz ?_
 refine Zsm rfl (decide_eq_false ((by omega))) ?_
 refine Zt7 (Zfa sl hs Z) fun w a1 Z=>?_
 refine Zt7 (Uw cap hc Z) fun w t1 Z=>?_
 refine Zsz (new_ok cap hc Z) fun w p1 m1 Z=>?_
 refine Zuq rfl rfl Z (fun b1 w Z=>?_)
 refine Zs4 rfl rfl (cs:=[.P p1,.map (some b1)]) zv_163.h rfl rfl ?_
 refine Sz ?_
 refine Zs4 rfl rfl (cs:=[.P a1,.P t1,.P p1,.map (some b1),.I cap]) zv_165.h rfl rfl<|Zsp fun b2 w Z=>?_
 replace Z:=St.exClose (f:=Ud b2 a1 (VM.new cap.toNat)) (L:=Zt a1 (AM.new sl.toNat)::L) ⟨t1,p1,m1,b1⟩ (by
  have hc2:(VM.new cap.toNat).cap=cap:=(by show((cap.toNat:Nat):Int)=cap;omega)
  unfold Ud
  rw[hc2]
  exact(Z.sel 6 [0,4,1,1,1,0] rfl))
 replace Z:=Z.z
 refine Sz ?_
 exact⟨_,_,rfl,Z⟩
theorem U'(s a:Nat)(V:VM)(h:Int)(hT:TOk V.T)(hh:0≤h∧h≤18446744073709551615)(hn:V.T.s.opn h=false)(Z:St g (Qp s a V::L) w) :
  Zr g L 211 [.P s,.U h] w fun rV=>rV (.tuple #[.I 0,.I 5]) [Qp s a V]:=by
 refine Sp.en Tryz.func211 ?_
 obtain⟨⟨vt,vp,vm,vr⟩,Z⟩:=St.exOpen Z
 replace Z:=Z.z
 refine Sz ?_
 refine Zse (H5 _ V.T h hT hh hn (Z.sel 2 [1,0] rfl)) fun w Z=>?_
 replace Z:=St.cl (f:=Ud s a V) ⟨_,_,_,_⟩ (Z.sel 2 [1,0] rfl)
 replace Z:=Z.z
 refine Sz ?_
 exact⟨rfl,Z⟩
theorem Xe(s a:Nat)(V:VM)(h:Int)(hT:TOk V.T)(hh:0≤h∧h≤18446744073709551615)(hn:V.T.s.opn h=true)(Z:St g (Qp s a V::L) w) :
  Zr g L 211 [.P s,.U h] w fun rV=>rV (.tuple #[.I (V.T.val h),.I 0]) [Qp s a V]:=by
 refine Sp.en Tryz.func211 ?_
 obtain⟨⟨vt,vp,vm,vr⟩,Z⟩:=St.exOpen Z
 replace Z:=Z.z
 refine Sz ?_
 refine Zse (CC _ V.T h hT hh hn (Z.sel 2 [1,0] rfl)) fun w Z=>?_
 have hv:=hT.val_rng h
 refine Sz ?_
 replace Z:=St.cl (f:=Ud s a V) ⟨_,_,_,_⟩ (Z.sel 2 [1,0] rfl)
 replace Z:=Z.z
 refine Sz ?_
 exact⟨rfl,Z⟩
theorem Vb(s a:Nat)(V:VM)(h:Int)(hT:TOk V.T)(hh:0≤h∧h≤18446744073709551615)(hn:V.T.s.opn h=false)(Z:St g (Qp s a V::L) w) :
  Zr g L 84 [.P s,.U h] w fun rV=>rV (.tuple #[.W 0,.I 5]) [Qp s a V]:=by
 refine Sp.en Tryz.func84 ?_
 refine Zse (U' _ _ _ h hT hh hn Z) fun w Z=>?_
 exact⟨rfl,Z⟩
theorem QH(s a:Nat)(V:VM)(A:AM)(R:List Int)(h:Int)(hV:VI V A R)(hh:0≤h∧h≤18446744073709551615)(hn:V.T.s.opn h=true)(Z:St g (Qp s a V::L) w) :
  Zr g L 84 [.P s,.U h] w fun rV=>rV (.tuple #[.W (V.rootOf (V.T.val h)),.I 0]) [Qp s a V]:=by
 refine Sp.en Tryz.func84 ?_
 refine Zse (Xe _ _ _ h hV.t hh hn Z) fun w Z=>?_
 obtain⟨⟨vt,vp,vm,vr⟩,Z⟩:=St.exOpen Z
 replace Z:=Z.z
 obtain⟨_,k,r,hr,hrn⟩:=VM.open_val hV hn
 refine Sz ?_
 refine Zuc rfl rfl HV 5 Z rfl rfl rfl (by first|trivial|rfl) (r:=some (k,.W r.root)) (hrn▸Zh7 hV.k.key hV.k.uniq hr) rfl ?_
 refine Sz ?_
 replace Z:=St.cl (f:=Ud s a V) ⟨_,_,_,_⟩ Z
 replace Z:=Z.z
 refine Sz ?_
 exact⟨by rw[←hrn,VM.rootOf_at hV.k.uniq hr];rfl,Z⟩
end Go.Proofs.YtpebgkkmgffmaaaGreatDoor
namespace Go.Proofs.YtpebgkkmgffmaaaGreatDoor
open Go Go.V Go.RowKit Go.Maps Go.Sort Go.Shelf
def hup(T:TM)(k:Nat):List Int:=((List.range k).filter fun i:Nat=>T.s.ok (i:Int)).map fun i:Nat=>T.s.hd (i:Int)
theorem Zrz{T:TM}{k:Nat}(h:T.s.ok (k:Int)=true):hup T (k+1)=hup T k++[T.s.hd k]:=by
 unfold hup;rw[List.range_succ,List.filter_append,List.map_append];simp[h]
theorem Zcs{T:TM}{k:Nat}(h:T.s.ok (k:Int)=false):hup T (k+1)=hup T k:=by
 unfold hup;rw[List.range_succ,List.filter_append,List.map_append];simp[h]
theorem Zqn(T:TM)(k:Nat):(hup T k).length≤k:=by
 unfold hup;rw[List.length_map]
 exact Nat.le_trans (List.length_filter_le _ _) (by simp)
theorem hup_1{T:TM}(h:T.s.ok 0=false):hup T 1=[]:=by
 rw[Zcs (by exact h)];rfl
set_option maxHeartbeats 8000000
set_option maxRecDepth 8192
variable{g w:World}{L:List HP}
theorem Zau(m:Nat)(Z:St g (L) w) :
  Zr g L 248 [.map (some m)] w fun rV=>∃(c:Nat),rV (.func (.func 373) #[] #[.P c]) [Zq c #[.map (some m)] 161]:=by
 have h:=callsIn_wide.1 (AnyZI.keys_in Tryz.keysB Fence.wide 5 trivial rfl (some m) w)
 refine⟨⟨_,_,Tryz.func248,by kernel_rfl,rfl⟩,h.mono fun e w' ⟨he,hw⟩=>⟨_,he,?_⟩⟩
 subst hw
 exact⟨_,rfl,Z.new _⟩
theorem CH(m c q:Nat)(rs:List RN)(ss:List Int)(ht:KOk rK RN.n rs q)(hp:ss.Perm (rs.map RN.n))(hs:ss.Pairwise (·≤·))(Z:St g (Zq c #[.map (some m)] 161::Yy m (.map (mE (List.map rK rs)) q)::L) w) :
  Zr g L 212 [.func (.func 373) #[] #[.P c]] w fun rV=>∃(a2:Option Addr)(c2:Nat),rV (.slice a2 (Ze ss).length c2) [Zp 3 1 (Ze ss) a2 c2,Zq c #[.map (some m)] 161,Yy m (.map (mE (List.map rK rs)) q)]:=by
 have hc:w.cell? ⟨c,0,none⟩=some (.map (some m)):=Z.ld 0 rfl rfl
 have hcl:c<w.heap.size:=by
  have h1:=Z.heap 0 rfl
  exact(Array.getElem?_eq_some_iff.1 h1).1
 have hm:=Z.heap 1 rfl
 obtain⟨D,hD,hsz,hk⟩:=Zll (P:=Tryz.prog) (k:=3) rs q ht Tryz.underlying3 hm
 have hseq:=AnyZI.keys_gives (ρ:=Tryz.keysB_ren) { Tryz.keysB with } Fence.wide 2 trivial rfl (by omega) c m 4096 D w hcl hc hD
 have h:=callsIn_wide.1 (AnyZI.sorted_in Tryz.sortedA Fence.wide 5 trivial trivial trivial trivial rfl (by omega) (Tryz.sortsA _) (enters_of Tryz.func331 (by kernel_rfl) rfl) 373 #[.P c] trivial (enters_of Tryz.func373 (by kernel_rfl) rfl) _ _ (by rw[hsz];exact Nat.le_trans ht.num (by decide)) (by rw[hsz];have:=ht.num;omega) w hseq)
 refine⟨⟨_,_,Tryz.func212,by kernel_rfl,rfl⟩,h.mono fun e w' ⟨v,ys,he,hys,hrow,_,hb⟩=>⟨v,he,?_⟩⟩
 have hpp:ss.Perm ys:=hp.trans (hys.trans hk).symm
 obtain⟨a,c2,rfl,hS2⟩:=St.of_row (Ze ss) Z hb hrow (by rw[HK hpp hs,JZ]) (by simpa using hpp.length_eq) (YR ss)
 exact⟨a,c2,rfl,hS2⟩
theorem Zqq(s a:Nat)(V:VM)(ss:List Int)(hk:KOk rK RN.n V.rs V.q2)(hp:ss.Perm (V.rs.map RN.n))(hs:ss.Pairwise (·≤·))(Z:St g (Qp s a V::L) w) :
  Zr g L 105 [.P s] w fun rV=>∃(a2:Option Addr)(c2:Nat),rV (.slice a2 (Ze ss).length c2) [Zp 3 1 (Ze ss) a2 c2,Qp s a V]:=by
 refine Sp.en Tryz.func105 ?_
 obtain⟨⟨vt,vp,vm,vr⟩,Z⟩:=St.exOpen Z
 replace Z:=Z.z
 refine Sz ?_
 refine Zve (Zau vr Z) fun w c1 Z=>?_
 refine Zsz (CH _ _ V.q2 V.rs ss hk hp hs (Z.sel 7 [0,5,0,0,0,0,0] rfl)) fun w a1 c2 Z=>?_
 replace Z:=St.cl (f:=Ud s a V) ⟨_,_,_,_⟩ (Z.sel 8 [3,3,3,3,3,2,0,0] rfl)
 replace Z:=Z.z
 refine Sz ?_
 replace Z:=(Z.sel 3 [1,0] rfl)
 exact⟨_,_,rfl,Z⟩
theorem QY(s a:Nat)(V:VM)(ss:List Int)(hT:TOk V.T)(hG:GI V.xs V.q V.cap V.last)(hp:ss.Perm (V.xs.map VN.n))(hs:ss.Pairwise (·≤·))(Z:St g (Qp s a V::L) w) :
  Zr g L 39 [.P s] w fun rV=>rV (.I V.room) [Qp s a V]:=by
 refine Sp.en Tryz.func39 ?_
 refine Zsg [([0,4,12,16,1,5,13,17,2,6,14,18,3,7,15,19,8],some (9,[0,1,2,3,12,13,14,15,16,17,18,19])),([10,11],some (20,[0,1,2,3,10,11,12,13,14,15])),([21,22,23],none)] ?_
 obtain⟨⟨vt,vp,vm,vr⟩,Z⟩:=St.exOpen Z
 replace Z:=Z.z
 have hsl:=Zf ss;have hpl:=hp.length_eq;rw[List.length_map] at hpl;have hnum:=hG.ok.num;have hcp:=hG.cp;have hfr:=hT.s.free_rng;have hcc:=hT.s.cap;have hce:V.T.s.cap=(V.T.s.used.length:Int)-1:=rfl
 refine Qd fun w Z=>?_
 refine Zsz (Zfe _ _ V.cap V.last V.xs V.q ss hG.ok.toVOk hp hs (Z.sel 5 [2,2,2,0,0] rfl)) fun w a1 c1 Z=>?_
 refine Qd fun w Z=>?_
 refine Zse (Zpg _ V.T hT (Z.sel 6 [5,0,0,0,0,0] rfl)) fun w Z=>?_
 refine Qd fun w Z=>?_
 replace Z:=St.cl (f:=Ud s a V) ⟨_,_,_,_⟩ (Z.sel 7 [5,0,1,1,1,1,0] rfl)
 replace Z:=Z.z
 refine Sz ?_
 replace Z:=(Z.sel 2 [0] rfl)
 exact⟨by unfold VM.room;rw[hsl,hpl];rfl,Z⟩
end Go.Proofs.YtpebgkkmgffmaaaGreatDoor
namespace Go.Proofs.YtpebgkkmgffmaaaGreatDoor
open Go Go.V Go.RowKit
structure Com(V:VM)(root:Int)(ps:List Int)(V2:VM):Prop where
 ex:∃xs2 q,V2=V.add xs2 q root∧AddP V.xs V.cap V.last ps xs2 (V.last+1)
 e0:Xj V.xs V.cap ps=0
set_option maxHeartbeats 8000000
set_option maxRecDepth 8192
variable{g w:World}{L:List HP}
theorem Qa(s a:Nat)(V:VM)(A:AM)(R:List Int)(root:Int)(hs:List Int)(pa:Option Addr)(pc:Nat)(hV:VI V A R)(hr:root=0∨(1≤root∧A.s.ok root=true))(hps:ZY hs)(hop:∀x∈hs,(0≤x∧x≤18446744073709551615)∧V.T.s.opn x=true)(hrm:0<V.room)(hla:V.last<1000000000)(hlen:R.length≤900000000)(Z:St g (Qp s a V::Zt a A::Sh 23 1 (Zv hs) pa pc::L) w) :
  Cp g L 101 [.P s,.W root,.slice pa (Zv hs).length pc] w fun rV=>∃(V2:VM),rV (.tuple #[.U V.T.newH,.I 0]) [Qp s a V2,Zt a (A.ret root),Sh 23 1 (Zv hs) pa pc] ((VI V2 (A.ret root) R)∧(Com V root (hs.map V.T.val) V2)):=by
 refine Sp.enter Tryz.func101 rfl (by kernel_rfl) (by kernel_rfl) ?_
 refine Zsw<|WC.region ?_
 have hpl:=YE hs
 have hp2:=hps.1
 refine Sx ?_
 refine Zs9<|Zsw<|Zsw<|Ztc [0,1,2,6,7] [31] [] Z (fun vs jS=>∃(t31:Bool),vs=[.bool t31]∧jS []∧(t31=false)) rfl ?_ ?_
 ·refine Zsg [([0,1,2,3,4,5,6,7,8,11,9,12,10,13,14,15,16],none)] ?_
  refine Qz ?_
  refine Zsu 18 (.bool false) (congrArg Value.bool (decide_eq_false ((by omega)))) ?_
  refine Qz ?_
  by_cases cg1:(List.length (Zv hs):Int)=2
  ·refine Zsu 22 (.bool true) (congrArg Value.bool (decide_eq_true cg1)) ?_
   obtain⟨p0,h0⟩:∃u,hs[0]?=some u:=⟨_,List.getElem?_eq_getElem (by omega)⟩;obtain⟨p1,h1⟩:∃u,hs[1]?=some u:=⟨_,List.getElem?_eq_getElem (by omega)⟩
   refine Qz ?_
   refine Zsj rfl rfl (i:=0) (0) el_47 rfl rfl (by omega) (by omega) (Z.rdS 2 rfl (Zw h0)).1 ?_
   refine Qz ?_
   refine Zsj rfl rfl (i:=1) (1) el_47 rfl rfl (by omega) (by omega) (Z.rdS 2 rfl (Zw h1)).1 ?_
   refine Qz ?_
   refine Zsn 1 [.U p0] rfl (by exact(Z.rdS 2 rfl (Zw h0)).2 0 _ rfl) ?_
   refine Qz ?_
   refine Zsn 1 [.U p1] rfl (by exact(Z.rdS 2 rfl (Zw h1)).2 0 _ rfl) ?_
   refine Qd fun w Z=>?_
   exact⟨rfl,decide (p0=p1),rfl,Z,(decide_eq_false (Jv hps h0 h1))⟩
  refine Zsu 22 (.bool false) (congrArg Value.bool (decide_eq_false cg1)) ?_
  refine Qd fun w Z=>?_
  exact⟨rfl,false,rfl,Z,rfl⟩
 rintro _ w j ⟨t31,rfl,Z,h31⟩
 replace Z:=Z.z
 refine Zs8 rfl h31 ?_
 replace Z:=Z.nil_ 3 1
 refine Sz ?_
 refine Zst [0,1,32,33] [8,34] (fun kM vs jS=>∃(k:Nat)(acc:List Int)(u:Option Addr)(d:Nat),vs=[.slice u (Ze acc).length d,.I (k:Int)]∧jS [Zp 3 1 (Ze acc) u d]∧(k≤hs.length)∧(acc=(List.take k hs).map V.T.val)∧(hs.length-k)=kM) rfl ⟨0,[],none,0,rfl,Z,(Nat.zero_le _),rfl,rfl⟩ ?_
 rintro _ _ w j ⟨k,acc,u,d,rfl,Z,hk,ha,rfl⟩
 replace Z:=Z.z
 refine Sz ?_
 refine Zsr rfl (fun cd1=>?_) (fun cd1=>?_)
 ·obtain⟨z,hz⟩:∃u,hs[k]?=some u:=⟨_,List.getElem?_eq_getElem (by omega)⟩;have hzo:=hop z (List.mem_of_getElem? hz);have hacl:=Zf acc;have hacl2:acc.length=k:=(by rw[ha,List.length_map,List.length_take];omega)
  refine Sz ?_
  refine Zsq rfl rfl (i:=(k:Int)) (k) el_47 rfl rfl (by omega) (by omega) (Z.rdS 3 rfl (Zw hz)).1 ?_
  refine Zsv 1 [.U z] rfl (by exact(Z.rdS 3 rfl (Zw hz)).2 0 _ rfl) ?_
  refine Sz ?_
  refine Zse (Xe _ _ _ z hV.t hzo.1 hzo.2 (Z.sel 2 [1,0] rfl)) fun w Z=>?_
  refine Zs1 rfl rfl (Ze [V.T.val z]) el_72 Z (by exact⟨rfl,rfl⟩) (YR _) rfl (Nat.le_of_ble_eq_true rfl) (fun b1 w Z=>?_)
  refine Zs3 rfl rfl 2 (Ze (acc++[V.T.val z])) el_72 Z rfl (Z.srcO 0 rfl) (XO _ _).symm (Rm.of (by first|omega|(simp<;>omega)) (by decide)) rfl rfl (fun a1 c1 w Z=>?_)
  replace Z:=Z.z
  as_aux_lemma =>
  refine Sz ?_
  exact⟨_,by omega,rfl,k+1,acc++[V.T.val z],a1,c1,rfl,(Z.sel 3 [2,1] rfl),(by omega),(by rw[ha,List.take_add_one,hz];simp),rfl⟩
 have hke:acc=hs.map V.T.val:=(by rw[ha,List.take_of_length_le (by omega)]);obtain⟨ss,hK⟩:=XT hV.g.ok.uniq
 refine Sz ?_
 refine Zse (QY _ _ _ ss hV.t hV.g hK.perm hK.le (Z.sel 2 [1,0] rfl)) fun w Z=>?_
 refine Zs8 rfl (decide_eq_false ((by omega))) ?_
 obtain⟨⟨vt,vp,vm,vr⟩,Z⟩:=St.exOpen Z
 replace Z:=Z.z
 replace Z:=(Z.at_ 6 rfl).share
 replace Z:=Z.z
 refine Sz ?_
 refine Ztk (Zhh _ _ V.cap V.last V.xs V.q _ _ _ hV.g hla (Z.sel 6 [0,2,2,2,0,0] rfl)) fun w xs1 q1 last1 Z ⟨f1,f2⟩=>?_
 as_aux_lemma =>
 have he0:=Zfm hV hps (fun x hx=>(hop x hx).2) hrm;rw[←hke] at he0
 refine Sz ?_
 refine Zs8 rfl (decide_eq_false ((by rw[he0];decide))) ?_
 refine Ztw<|Zsw<|WC.region ?_
 rw[hke] at he0 f2;obtain⟨_,rfl,_⟩:=(AddP.facts hV.g.le f2).resolve_left (fun e=>e.1 he0);have hv0:Za1 V.xs V.cap V.last acc=V.last+1:=(by unfold Za1;rw[hke,if_pos he0]);have hfr:=(Hd hV hrm).2;have hla0:=hV.g.la;have hV2:=hV.add hr he0 f2 f1 hfr hla hlen
 refine Zsf 13 (.I (V.last+1)) (congrArg (Value.int .i64) hv0) ?_
 refine Sz ?_
 refine Zse (JV _ _ root hV.ref.toAWf (by have:=Zbn hV.ref.toAWf hr;omega) (Z.sel 8 [7,0,0,0,0,0,0,0] rfl)) fun w Z=>?_
 refine Zvp rfl rfl rfl HV 7 Z rfl rfl rfl rfl (by first|trivial|rfl) (Zjh (f:=rK) hV.k.key (fun x hx e=>by have h9:=(AddP.facts hV.g.le f2).resolve_left (fun e=>e.1 he0);have h8:=(hV.pre x.n).1 ⟨x,hx,rfl⟩;rw[e,h9.2.2.1] at h8;cases h8)) (fun w Z=>?_)
 replace Z:=Z.n9 L (a7:=Yy vr (.map (mE ((List.map rK V.rs)++[⟨.I (V.last+1),.W root,V.q2⟩])) (V.q2+1))) rfl
 refine Sz ?_
 refine Zse (Zao _ V.T (V.last+1) hV.t hfr (Z.sel 7 [6,0,0,0,0,0,0] rfl)) fun w Z=>?_
 replace Z:=St.exClose (f:=Ud s a (V.add xs1 q1 root)) (L:=Zt a (A.ret root)::Sh 3 1 (Ze acc) u d::Sh 23 1 (Zv hs) pa pc::L) ⟨vt,vp,vm,vr⟩ (by
  have hm:List.map rK V.rs++[(.I (V.last+1),.W root,V.q2)]=List.map rK (V.add xs1 q1 root).rs:=by simp[rK,VM.add]
  rw[hm] at Z
  exact(Z.sel 8 [6,0,2,2,2,2,0,0] rfl))
 replace Z:=Z.z
 refine Sz ?_
 replace Z:=(Z.sel 3 [0,0] rfl)
 exact⟨_,rfl,Z,hV2,⟨xs1,q1,rfl,f2⟩,he0⟩
theorem Z5:ZY []:=⟨by simp,fun _ _ h=>by cases h⟩
theorem YK(x:Int):ZY [x]:=⟨by simp,fun _ _ h=>by cases h⟩
end Go.Proofs.YtpebgkkmgffmaaaGreatDoor
namespace Go.Proofs.YtpebgkkmgffmaaaGreatDoor
open Go Go.V Go.RowKit
structure Kept0(V:VM)(xs2:List VN)(ss:List Int)(k:Nat)(rs:List RN):Prop where
 ok:KOk rK RN.n rs V.q2
 mem:∀r,r∈rs↔r∈V.rs∧(r.n∈ss.take k→ZF xs2 r.n=true)
theorem Kept0.zero{V:VM}{A:AM}{R:List Int}(h:VI V A R)(xs2:List VN)(ss:List Int):Kept0 V xs2 ss 0 V.rs:=⟨h.k,fun r=>by simp⟩
theorem Kept0.skip{V:VM}{xs2:List VN}{ss:List Int}{k:Nat}{rs:List RN}{n:Int}(h:Kept0 V xs2 ss k rs)(hn:ss[k]?=some n)(hp:ZF xs2 n=true):Kept0 V xs2 ss (k+1) rs:=⟨h.ok,fun r=>by
 rw[h.mem r,List.take_add_one,hn]
 constructor
 ·rintro⟨h1,h2⟩
  refine⟨h1,fun h3=>?_⟩
  rcases List.mem_append.1 h3 with h3|h3
  ·exact h2 h3
  rw[show r.n=n by simpa using h3];exact hp
 rintro⟨h1,h2⟩;exact⟨h1,fun h3=>h2 (List.mem_append_left _ h3)⟩⟩
theorem Kept0.at_{V:VM}{xs2:List VN}{ss:List Int}{k:Nat}{rs:List RN}{n:Int}(h:Kept0 V xs2 ss k rs)(hn:ss[k]?=some n)(hs:Asc ss)(hk:∀z,z∈ss↔∃r∈V.rs,r.n=z):∃(j:Nat)(r:RN),rs[j]?=some r∧r.n=n:=by
 obtain⟨r,hr,hrn⟩:=(hk n).1 (List.mem_of_getElem? hn)
 have:r∈rs:=(h.mem r).2 ⟨hr,fun h3=>by
  have:=Zkr hs hn r.n h3
  omega⟩
 obtain⟨j,hj⟩:=List.mem_iff_getElem?.1 this
 exact⟨j,r,hj,hrn⟩
theorem Kept0.del{V:VM}{xs2:List VN}{ss:List Int}{k j:Nat}{rs:List RN}{n:Int}{r:RN}(h:Kept0 V xs2 ss k rs)(hn:ss[k]?=some n)(hj:rs[j]?=some r)(hr:r.n=n)(hp:ZF xs2 n=false):Kept0 V xs2 ss (k+1) (rs.eraseIdx j):=⟨h.ok.erase j,fun x=>by
 rw[Qr h.ok.uniq hj x,h.mem x,List.take_add_one,hn,hr]
 constructor
 ·rintro⟨⟨h1,h2⟩,h3⟩
  refine⟨h1,fun h4=>?_⟩
  rcases List.mem_append.1 h4 with h4|h4
  ·exact h2 h4
  exact absurd (show x.n=n by simpa using h4) h3
 rintro⟨h1,h2⟩
 refine⟨⟨h1,fun h3=>h2 (List.mem_append_left _ h3)⟩,fun e=>?_⟩
 have:=h2 (List.mem_append_right _ (by simp[e]))
 rw[e,hp] at this;cases this⟩
structure Rls(V:VM)(h:Int)(V2:VM):Prop where
 eq:V2=VM.mk (V.T.close h) V2.xs V.q V.last V2.rs V.q2 V.cap
 rel:RelQ V.xs (V.T.val h) V2.xs
 sub:∀r,r∈V2.rs↔r∈V.rs∧ZF V2.xs r.n=true
theorem VI.rel{V:VM}{A A2:AM}{R:List Int}{h:Int}{xs2:List VN}{rs:List RN}{ss:List Int}(hV:VI V A R)(hn:V.T.s.opn h=true)(hG:GI xs2 V.q V.cap V.last)(hR:RelQ V.xs (V.T.val h) xs2)(hK:Kept0 V xs2 ss ss.length rs)(hk:∀z,z∈ss↔∃r∈V.rs,r.n=z)(hA:ARf A2 (rs.map RN.root++R)):VI (VM.mk (V.T.close h) xs2 V.q V.last rs V.q2 V.cap) A2 R∧Rls V h (VM.mk (V.T.close h) xs2 V.q V.last rs V.q2 V.cap):=by
 have hop:=SM.opn_ok hn
 have hlv0:=(VM.open_val hV hn).1
 have hsub:∀r,r∈rs↔r∈V.rs∧ZF xs2 r.n=true:=fun r=>by
  rw[hK.mem r,List.take_of_length_le (Nat.le_refl _)]
  constructor
  ·rintro⟨h1,h2⟩;exact⟨h1,h2 ((hk r.n).2 ⟨r,h1,rfl⟩)⟩
  rintro⟨h1,h2⟩;exact⟨h1,fun _=>h2⟩
 have hcl:∀i:Int,0≤i→(V.T.close h).s.ok i=if i=h%4294967296 then false else V.T.s.ok i:=fun i hi=>SM.release_ok' hV.t.s (by omega) hop.1 hi
 have hlive:∀z,Zi xs2 z=true↔Zi V.xs z=true∧z≠V.T.val h:=fun z=>by
  constructor
  ·exact fun hz=>RelQ.live hV.g.ok hR hz
  rintro⟨h1,h2⟩
  rcases hR with⟨_,xs1,N,e1,e2,e3⟩|⟨h3,_⟩
  ·have q1:Zi xs1 z=true:=by
    rw[ZT,e1];unfold dead;rw[if_neg h2,←ZT];exact h1
   rw[ZT,e3];unfold keep;rw[if_pos ((e2 z).2 (.inl q1))]
   rw[ZT] at q1
   cases hv:vw xs1 z with
   |none=>rw[hv] at q1;cases q1
   |some p=>rw[hv] at q1;simpa using q1
  rw[hlv0] at h3;cases h3
 have hpre:∀z,ZF xs2 z=true→ZF V.xs z=true:=fun z hz=>by
  rcases hR with⟨_,xs1,N,e1,e2,e3⟩|⟨_,h4⟩
  ·rw[Z',e3] at hz
   unfold keep at hz
   split at hz
   ·rw[Z']
    rw[←Jf (vw V.xs) (V.T.val h) z,←e1]
    simpa using hz
   cases hz
  rw[h4] at hz;exact hz
 refine⟨⟨hV.t.close hn,hG,hK.ok,fun z=>?_,fun i hi ho=>?_,fun i j hi hj ho ho2 e=>?_,fun z hz=>?_,hA,?_⟩,⟨rfl,hR,hsub⟩⟩
 ·constructor
  ·rintro⟨r,hr,e⟩;rw[←e];exact((hsub r).1 hr).2
  intro hz
  obtain⟨r,hr,e⟩:=(hV.pre z).2 (hpre z hz)
  exact⟨r,(hsub r).2 ⟨hr,by rw[e];exact hz⟩,e⟩
 ·rw[show(VM.mk (V.T.close h) xs2 V.q V.last rs V.q2 V.cap).T.s.ok i=_ from hcl i hi] at ho
  split at ho
  ·cases ho
  rename_i hne
  refine(hlive _).2 ⟨hV.lv i hi ho,fun e=>hne ?_⟩
  exact hV.inj i (h%4294967296) hi (by omega) ho hop.1 e
 ·rw[show(VM.mk (V.T.close h) xs2 V.q V.last rs V.q2 V.cap).T.s.ok i=_ from hcl i hi] at ho
  rw[show(VM.mk (V.T.close h) xs2 V.q V.last rs V.q2 V.cap).T.s.ok j=_ from hcl j hj] at ho2
  split at ho
  ·cases ho
  split at ho2
  ·cases ho2
  exact hV.inj i j hi hj ho ho2 e
 ·obtain⟨h1,h2⟩:=(hlive z).1 hz
  obtain⟨i,i0,i1,i2⟩:=hV.all z h1
  refine⟨i,i0,?_,i2⟩
  rw[show(VM.mk (V.T.close h) xs2 V.q V.last rs V.q2 V.cap).T.s.ok i=_ from hcl i i0,if_neg (fun e=>h2 ?_)]
  ·exact i1
  rw[←i2,e];rfl
 rw[←hV.cp]
 show(((V.T.s.used.set _ _).length:Nat):Int)-1=(V.T.s.used.length:Int)-1
 rw[List.length_set]
set_option maxHeartbeats 8000000
set_option maxRecDepth 8192
end Go.Proofs.YtpebgkkmgffmaaaGreatDoor
namespace Go.Proofs.YtpebgkkmgffmaaaGreatDoor
open Go Go.V Go.RowKit
theorem Com.get{V V2:VM}{root:Int}{ps:List Int}(h:Com V root ps V2):V2.T=V.T.open (V.last+1)∧V2.last=V.last+1∧V2.cap=V.cap∧AddP V.xs V.cap V.last ps V2.xs (V.last+1)∧V2.xs.length=V.xs.length+1∨(∃x∈V.xs,V.last<x.n):=by
 obtain⟨⟨xs2,q,rfl,hA⟩,h0⟩:=h
 by_cases hx:∃x∈V.xs,V.last<x.n
 ·exact .inr hx
 left
 have hle:∀x∈V.xs,x.n≤V.last:=fun x hm=>Classical.byContradiction fun h=>hx ⟨x,hm,by omega⟩
 exact⟨rfl,rfl,rfl,hA,((AddP.facts hle hA).resolve_left fun e=>e.1 h0).2.2.2.2.2⟩
structure Add1(V:VM)(ps:List Int)(V2:VM):Prop where
 T:V2.T=V.T.open (V.last+1)
 la:V2.last=V.last+1
 cap:V2.cap=V.cap
 xs:AddP V.xs V.cap V.last ps V2.xs (V.last+1)
 len:V2.xs.length=V.xs.length+1
 opn:V2.T.s.opn V.T.newH=true
 val:V2.T.val V.T.newH=V.last+1
 rng:0≤V.T.newH∧V.T.newH≤18446744073709551615
 free:V2.T.s.free=V.T.s.free-1
 old:∀x,V.T.s.opn x=true→V2.T.s.opn x=true∧V2.T.val x=V.T.val x
theorem Com.add1{V V2:VM}{A:AM}{R ps:List Int}{root:Int}(hV:VI V A R)(h:Com V root ps V2)(hr:0<V.room):Add1 V ps V2:=by
 obtain⟨h1,h2,h3,h4,h5⟩:=h.get.resolve_right (fun⟨x,hx,hlt⟩=>by have:=hV.g.le x hx;omega)
 have hf:=(Hd hV hr).2
 have h6:=hV.t.newH_opn hf (V.last+1)
 refine⟨h1,h2,h3,h4,h5,by rw[h1];exact h6.1,by rw[h1];exact h6.2,(TM.newH_mod hV.t hf).2,by rw[h1];exact SM.alloc_free _,fun x hx=>?_⟩
 rw[h1]
 exact hV.t.opn_open hf _ hx
theorem Zfz{n:Nat}:(VM.new n).room=n:=by
 unfold VM.room
 show min ((n:Int)-0) ((n:Int)-((SM.new n).cap-(SM.new n).free))=n
 rw[SM.new_free]
 have:(SM.new n).cap=n:=by unfold SM.cap SM.new;simp
 rw[this];omega
set_option maxHeartbeats 8000000
set_option maxRecDepth 8192
variable{g w:World}{L:List HP}
theorem Zgx(s a:Nat)(V:VM)(Z:St g (Qp s a V::L) w) :
  Zr g L 78 [.P s] w fun rV=>rV (.P a) [Qp s a V]:=by
 refine Sp.en Tryz.func78 ?_
 obtain⟨⟨vt,vp,vm,vr⟩,Z⟩:=St.exOpen Z
 replace Z:=Z.z
 refine Sz ?_
 replace Z:=St.cl (f:=Ud s a V) ⟨_,_,_,_⟩ Z
 replace Z:=Z.z
 refine Sz ?_
 exact⟨rfl,Z⟩
end Go.Proofs.YtpebgkkmgffmaaaGreatDoor
namespace Go.Proofs.YtpebgkkmgffmaaaGreatDoor
open Go Go.V Go.RowKit Go.Maps
set_option maxHeartbeats 8000000
set_option maxRecDepth 8192
variable{g w:World}{L:List HP}
theorem V_(s a:Nat)(V:VM)(h:Int)(hT:TOk V.T)(hh:0≤h∧h≤18446744073709551615)(Z:St g (Qp s a V::L) w) :
  Zr g L 211 [.P s,.U h] w fun rV=>rV (.tuple #[.I (if V.T.s.opn h=true then V.T.val h else 0),.I (if V.T.s.opn h=true then 0 else 5)]) [Qp s a V]:=by
 by_cases hn:V.T.s.opn h=true
 ·rw[if_pos hn,if_pos hn];exact Xe s a V h hT hh hn Z
 rw[if_neg hn,if_neg hn];exact U' s a V h hT hh (Bool.eq_false_iff.2 hn) Z
end Go.Proofs.YtpebgkkmgffmaaaGreatDoor
namespace Go.V
open Go Go.RowKit
section
variable{P:Program}{T:Tab}[hT:TabOk P T]{n:Nat}{os l:List Oper}{K:Kt}{F:Fm}{w g:World}{L:List HP}{t kt et:TypeId}{d:TypeDesc}{z:Value}{b b2 c c2:Nat}{es:Array MapEntry}
theorem Zwo{o:Oper}{x:Operand}(hg:o.guard=none)(ho:o.op=.range t x)(hM:MapT P t kt d et z)(i:Nat)(Z:St g L w)(hi:L[i]?=some (Yy b (.map es c)))(hx:ev F x=.map (some b))(hk:∀b' w',St g (Yy b' (.mapIter (some b) c #[] c)::L) w'→WL P n os l K (ZI F o.dst (.pointer (some ⟨b',0,none⟩))) w'):WL P n os (o::l) K F w:=by
 refine Ztb hg (fun hok=>?_) (hk w.heap.size (w.alloc (.mapIter (some b) c #[] c)) (Z.new _))
 have e1:=Zg (F:=F) hok (x:=x) (by simp[ho,Op.operands])
 simp only[execOp,ho,e1,hx,Instr.range,newObj,Sem.run_bind,run_underlying hM.und,Result.andThen_ok,MapKept.run_getObj_map (Z.heap i hi),Sem.run_pure]
 rfl
theorem Zwp{o:Oper}{x:Operand}(hg:o.guard=none)(ho:o.op=.next x false)(i j:Nat)(Z:St g L w)(hi:L[i]?=some (Yy b2 (.mapIter (some b) c #[] c)))(hj:L[j]?=some (Yy b (.map es c2)))(he:es=#[])(hx:ev F x=.pointer (some ⟨b2,0,none⟩))(hk:WL P n os l K (ZI F o.dst (.tuple #[.bool false])) w):WL P n os (o::l) K F w:=by
 subst he
 refine Ztb hg (fun hok=>?_) hk
 have e1:=Zg (F:=F) hok (x:=x) (by simp[ho,Op.operands])
 have h1:=Z.heap i hi
 have h2:=Z.heap j hj
 have hr:(Instr.next (.pointer (some ⟨b2,0,none⟩)) false o.type).run P w=.ok (.tuple #[.bool false]) w:=by
  simp[Instr.next,getObj,Sem.run,h1,h2,choose,Question.forced,Result.andThen]
 simp only[execOp,ho,e1,hx,Sem.run_bind,hr,Result.andThen_ok,Sem.run_pure]
theorem Zut{o:Oper}{x y:Operand}{b off:Nat}{cs vs ds:Array Value}{t':TypeId}(hg:o.guard=none)(hd:o.dst=none)(ho:o.op=.store t x y)(i:Nat)(Z:St g L w)(hi:L[i]?=some (Zq b cs t'))(hx:ev F x=.pointer (some ⟨b,off,none⟩))(hv:ev F y=.agg vs)(h1:vs.toList.all (·.oneCell')=true)(hc:off+vs.size≤cs.size)(he:spl cs off vs.toList=ds)(ht:QV P t vs.size)(hk:∀w',St g (L.set i (Zq b ds t')) w'→WL P n os l K F w'):WL P n os (o::l) K F w:=by
 have hh:=Z.heap i hi
 have hS':St g (L.set i (Zq b ds t')) (w.setRow b ds):=(St.setRow (Z.at_ i hi)).back i hi
 refine Zue hg hd (fun hok=>?_) (hk _ hS')
 have e1:=Zg (F:=F) hok (x:=x) (by simp[ho,Op.operands])
 have e2:=Zg (F:=F) hok (x:=y) (by simp[ho,Op.operands])
 have hst:=Js (P:=P) (t:=t) (off:=off) (v:=.agg vs) ht.2.2 hh (fun u hu=>List.all_eq_true.1 h1 u hu) hc
 rw[show(Value.agg vs).cells.toList=vs.toList from rfl,he] at hst
 simp only[execOp,ho,e1,e2,hx,hv,Instr.storeAt,Instr.sureAddr,Sem.run_bind,Sem.run_pure,Result.andThen_ok,hst]
end
end Go.V
namespace Go.Proofs.YtpebgkkmgffmaaaGreatDoor
open Go Go.V
theorem Yd{α:Type}{l:List α}{k:Nat}{x:α}(hk:1≤k)(h:l[k]?=some x):(l.drop 1)[k-1]?=some x:=by
 rw[List.getElem?_drop,show 1+(k-1)=k by omega];exact h
theorem ok_hi{S:SM}{i:Int}(h:S.cap<i):S.ok i=false:=by
 unfold SM.ok;rw[List.getElem?_eq_none (by have:S.cap=(S.used.length:Int)-1:=rfl;omega)];rfl
theorem Zof{S:SM}(hO:SOk S):S.ok 0=false:=Bool.eq_false_iff.2 fun h=>by
 have:=S.ok_rng hO (Int.le_refl 0) h;omega
theorem Zp5{S:SM}(hO:SOk S){i:Int}(h:S.cap<i):S.genOf i=0:=by
 unfold SM.genOf;rw[List.getElem?_eq_none (by have:S.cap=(S.used.length:Int)-1:=rfl;have:=hO.gl;omega)];rfl
set_option maxHeartbeats 8000000
set_option maxRecDepth 8192
variable{g w:World}{L:List HP}
theorem q_ok(S:SM)(ra ga oa:Option Addr)(rc gc oc:Nat)(i:Int)(hO:SOk S)(hi:0≤i∧i≤4294967295)(Z:St g (Sh 4 1 (Zk (S.used.drop 1)) oa oc::L) w) :
  Zr g L 68 [.agg #[.I S.cap,.slice ra (Za S.rel).length rc,.I (S.fresh+1),.slice ga (Za (S.gen.drop 1)).length gc,.slice oa (Zk (S.used.drop 1)).length oc],.W i] w fun rV=>rV (.bool (S.ok i)) [Sh 4 1 (Zk (S.used.drop 1)) oa oc]:=by
 refine Sp.en Tryz.func68 ?_
 have _:=hi
 have hcp:S.cap=(S.used.length:Int)-1:=rfl;have hle:=hO.cap;have hu1:=ZC (S.used.drop 1);have hdu:(S.used.drop 1).length=S.used.length-1:=List.length_drop ..;have hw:IntKind.i64.wrap i=i:=Yf (by omega)
 refine Zsp fun b1 w Z=>?_
 by_cases cg1:1≤i
 ·refine Zsf 7 (.bool true) (congrArg Value.bool (decide_eq_true cg1)) ?_
  refine Sz ?_
  by_cases cg2:i≤S.cap
  ·refine Zsf 14 (.bool true) (congrArg Value.bool (decide_eq_true cg2)) ?_
   obtain⟨u,hu⟩:∃u,S.used[i.toNat]?=some u:=⟨_,List.getElem?_eq_getElem (by omega)⟩
   refine Sz ?_
   refine Zsq rfl rfl (i:=i-1) (i.toNat-1) el_73 rfl rfl (by omega) (by omega) (Z.rdS 1 rfl (Zz (Yd (by omega) hu))).1 ?_
   refine Sz ?_
   refine Zsv 1 [.bool u] rfl (by exact(Z.rdS 1 rfl (Zz (Yd (by omega) hu))).2 0 _ rfl) ?_
   refine Sz ?_
   replace Z:=(Z.sel 1 [] rfl)
   exact⟨by unfold SM.ok;rw[hu];rfl,Z⟩
  refine Zsf 14 (.bool false) (congrArg Value.bool (decide_eq_false cg2)) ?_
  refine Sz ?_
  replace Z:=(Z.sel 1 [] rfl)
  exact⟨by rw[ok_hi (by omega)];rfl,Z⟩
 refine Zsf 7 (.bool false) (congrArg Value.bool (decide_eq_false cg1)) ?_
 refine Sz ?_
 replace Z:=(Z.sel 1 [] rfl)
 have h0:i=0:=(by omega);subst h0;exact⟨by rw[Zof hO];rfl,Z⟩
theorem Zh4(S:SM)(ra ga oa:Option Addr)(rc gc oc:Nat)(i:Int)(hO:SOk S)(hi:0≤i∧i≤4294967295)(hi0:i≠0)(Z:St g (Sh 93 1 (Za (S.gen.drop 1)) ga gc::L) w) :
  Zr g L 70 [.agg #[.I S.cap,.slice ra (Za S.rel).length rc,.I (S.fresh+1),.slice ga (Za (S.gen.drop 1)).length gc,.slice oa (Zk (S.used.drop 1)).length oc],.W i] w fun rV=>rV (.W (S.genOf i)) [Sh 93 1 (Za (S.gen.drop 1)) ga gc]:=by
 refine Sp.en Tryz.func70 ?_
 have _:=hi0
 have _:=hi
 refine Zsp fun b1 w Z=>?_
 have hcp:S.cap=(S.used.length:Int)-1:=rfl;have hle:=hO.cap;have hgl:=hO.gl;have hg1:=Zh (S.gen.drop 1);have hdg:(S.gen.drop 1).length=S.gen.length-1:=List.length_drop ..;have hw:IntKind.i64.wrap i=i:=Yf (by omega)
 refine Sz ?_
 refine Zs7 6 [.I S.cap] rfl (by exact(fun _=>Z.ld 0 rfl rfl)) (fun j=>?_)
 refine Zsx 13 rfl (X2 (dd _) (dd _)) ?_
 refine Sz ?_
 refine Zsr rfl (fun hb=>?_) (fun hb=>?_)
 ·refine Sz ?_
  replace Z:=(Z.sel 1 [] rfl)
  exact⟨by rw[Zp5 hO (by omega)];rfl,Z⟩
 obtain⟨u,hu⟩:∃u,S.gen[i.toNat]?=some u:=⟨_,List.getElem?_eq_getElem (by omega)⟩
 refine Sz ?_
 refine Zsq rfl rfl (i:=i-1) (i.toNat-1) el_70 rfl rfl (by omega) (by omega) (Z.rdS 1 rfl (Zn (Yd (by omega) hu))).1 ?_
 refine Zsv 1 [.W u] rfl (by exact(Z.rdS 1 rfl (Zn (Yd (by omega) hu))).2 0 _ rfl) ?_
 refine Sz ?_
 replace Z:=(Z.sel 1 [] rfl)
 exact⟨by unfold SM.genOf;rw[hu];rfl,Z⟩
theorem Zbi{S:SM}(h:¬0<(List.length (Za S.rel):Int)):S.rel=[]:=by
 rw[Zh] at h;exact List.length_eq_zero_iff.1 (by omega)
theorem X5{α:Type}(l:List α){n:Nat}(hn:1≤n)(x:α):(l.set n x).drop 1=(l.drop 1).set (n-1) x:=by
 obtain⟨m,rfl⟩:∃m,n=m+1:=⟨n-1,by omega⟩
 cases l<;>rfl
theorem Zkz(S:SM)(ra ga oa:Option Addr)(rc gc oc:Nat)(hO:SOk S)(hf:0<S.free)(Z:St g (Sh 93 1 (Za S.rel) ra rc::Sh 93 1 (Za (S.gen.drop 1)) ga gc::Sh 4 1 (Zk (S.used.drop 1)) oa oc::L) w) :
  Cp g L 297 [.agg #[.I S.cap,.slice ra (Za S.rel).length rc,.I (S.fresh+1),.slice ga (Za (S.gen.drop 1)).length gc,.slice oa (Zk (S.used.drop 1)).length oc]] w fun rV=>∃(ra2 ga2 oa2:Option Addr)(rc2 gc2 oc2:Nat),rV (.tuple #[.agg #[.I S.alloc.cap,.slice ra2 (Za S.alloc.rel).length rc2,.I (S.alloc.fresh+1),.slice ga2 (Za (S.alloc.gen.drop 1)).length gc2,.slice oa2 (Zk (S.alloc.used.drop 1)).length oc2],.W S.next,.I 0]) [Sh 93 1 (Za S.alloc.rel) ra2 rc2,Sh 93 1 (Za (S.alloc.gen.drop 1)) ga2 gc2,Sh 4 1 (Zk (S.alloc.used.drop 1)) oa2 oc2] (1≤S.next∧S.next≤S.cap):=by
 refine Sp.en Tryz.func297 ?_
 refine Zsp fun b1 w Z=>?_
 refine Zsk fun b2 w Z=>?_
 have hrb:=hO.rle;have hfr:=hO.fr;have hcp:S.cap=(S.used.length:Int)-1:=rfl;have hle:=hO.cap;have hgl:=hO.gl;have hfe:S.free=(S.rel.length:Int)+S.cap-S.fresh:=rfl;have hnx:=S.next_rng hO hf;have hrl:=Zh S.rel;have hdg:(S.gen.drop 1).length=S.gen.length-1:=List.length_drop ..;have hdu:(S.used.drop 1).length=S.used.length-1:=List.length_drop ..;have hg1:=Zh (S.gen.drop 1);have hu1:=ZC (S.used.drop 1)
 refine Sz ?_
 refine Zsr rfl (fun cd1=>?_) (fun cd1=>?_)
 ·have hne:S.rel≠[]:=(fun e=>by have h9:=congrArg List.length e;rw[List.length_nil] at h9;omega);have hx:S.rel[S.rel.length-1]?=some S.next:=by rw[Ji hne];simp
  refine Sz ?_
  refine Zsq rfl rfl (i:=(List.length (Za S.rel):Int)-1) (S.rel.length-1) el_70 rfl rfl (by omega) (by omega) (Z.rdS 2 rfl (Zn hx)).1 ?_
  refine Zsv 1 [.W S.next] rfl (by exact(Z.rdS 2 rfl (Zn hx)).2 0 _ rfl) ?_
  refine Sz ?_
  refine Zvm rfl rfl (v:=(List.length (Za S.rel):Int)-1) 2 (S.rel.length-1) (Za (S.rel.take (S.rel.length-1))) el_70 Z rfl rfl rfl (by omega) (by omega) (JS _ _) (fun a1 Z=>?_)
  replace Z:=Z.z
  replace Z:=Z.nil_ 93 1
  refine Zs3 rfl rfl 0 (Za (S.rel.take ((List.length S.rel)-1))) el_70 Z rfl (Z.srcS 1 rfl) (List.nil_append _) (Rm.of (by first|omega|(simp<;>omega)) (by decide)) rfl rfl (fun a2 c1 w Z=>?_)
  replace Z:=Z.z
  refine Sz ?_
  refine Zss fun w Z=>?_
  refine Zsg [([0,3,1,4],some (2,[3,4])),([6],some (5,[6])),([],some (7,[])),([8],some (9,[]))] ?_
  refine Qd fun w Z=>?_
  replace Z:=Z.nil_ 93 1
  refine Zs3 rfl rfl 0 (Za (S.gen.drop 1)) el_70 Z rfl (Z.srcS 6 rfl) (List.nil_append _) (Rm.of (by first|omega|(simp<;>omega)) (by decide)) rfl rfl (fun a3 c2 w Z=>?_)
  replace Z:=Z.z
  refine Sz ?_
  refine Qd fun w Z=>?_
  replace Z:=Z.nil_ 4 1
  refine Zs3 rfl rfl 0 (Zk (S.used.drop 1)) el_73 Z rfl (Z.srcS 8 rfl) (List.nil_append _) (Rm.of (by first|omega|(simp<;>omega)) (by decide)) rfl rfl (fun a4 c3 w Z=>?_)
  replace Z:=Z.z
  refine Sz ?_
  refine Qd fun w Z=>?_
  refine Zss fun w Z=>?_
  refine Qd fun w Z=>?_
  refine Zss fun w Z=>?_
  refine Qd fun w Z=>?_
  as_aux_lemma =>
  obtain⟨v,hv⟩:∃v,S.gen[S.next.toNat]?=some v:=⟨_,List.getElem?_eq_getElem (by omega)⟩;obtain⟨u,hu⟩:∃u,S.used[S.next.toNat]?=some u:=⟨_,List.getElem?_eq_getElem (by omega)⟩
  refine Sz ?_
  refine Zsq rfl rfl (i:=S.next-1) (S.next.toNat-1) el_70 rfl rfl (by omega) (by omega) (Z.rdO 1 rfl (Zn (Yd (by omega) hv))).1 ?_
  refine Zsv 1 [.W v] rfl (by exact(Z.rdO 1 rfl (Zn (Yd (by omega) hv))).2 0 _ rfl) ?_
  refine Zso 1 rfl<|Zsf 52 (.W ((v+1)%4294967296)) (congrArg (Value.int .u32) (by rfl)) ?_
  refine Zsq rfl rfl (i:=S.next-1) (S.next.toNat-1) el_70 rfl rfl (by omega) (by omega) (Z.rdO 1 rfl (Zn (Yd (by omega) hv))).1 ?_
  refine Zs5 rfl rfl rfl 1 (S.next.toNat-1) 0 [.W v] (Za ((S.gen.drop 1).set (S.next.toNat-1) ((v+1)%4294967296))) Z rfl (Zn (Yd (by omega) hv)) rfl rfl rfl rfl rfl (Zx _ _ _) (fun w Z=>?_)
  replace Z:=Z.z
  refine Sz ?_
  refine Zsq rfl rfl (i:=S.next-1) (S.next.toNat-1) el_73 rfl rfl (by omega) (by omega) (Z.rdO 0 rfl (Zz (Yd (by omega) hu))).1 ?_
  refine Zs5 rfl rfl rfl 0 (S.next.toNat-1) 0 [.bool u] (Zk ((S.used.drop 1).set (S.next.toNat-1) true)) Z rfl (Zz (Yd (by omega) hu)) rfl rfl rfl rfl rfl (XS _ _ _) (fun w Z=>?_)
  replace Z:=Z.z
  have hge:S.genOf S.next=v:=(by unfold SM.genOf;rw[hv];rfl);have e1:S.alloc.gen.drop 1=(S.gen.drop 1).set (S.next.toNat-1) ((v+1)%4294967296):=(by rw[←hge];exact X5 _ (by omega) _);have e2:S.alloc.used.drop 1=(S.used.drop 1).set (S.next.toNat-1) true:=X5 _ (by omega) _;have e3:S.alloc.cap=S.cap:=(by unfold SM.cap SM.alloc;simp)
  refine Sz ?_
  refine Ztz rfl rfl rfl 4 Z rfl rfl rfl rfl rfl ag_75.h (fun w Z=>?_)
  have l1:(Za (S.gen.drop 1)).length=(Za (S.alloc.gen.drop 1)).length:=(by rw[e1];simp);have l2:(Zk (S.used.drop 1)).length=(Zk (S.alloc.used.drop 1)).length:=(by rw[e2];simp);have q1:S.rel.take (S.rel.length-1)=S.alloc.rel:=(List.dropLast_eq_take (l:=S.rel)).symm;have q2:S.fresh=S.alloc.fresh:=(if_neg hne).symm;rw[l1,l2,q1,←e1,←e2,←e3,q2] at Z;replace Z:=(((Z.at_ 0 rfl).share.at_ 1 rfl).share.at_ 2 rfl).share.sel 9 [0,0,0,1] rfl
  replace Z:St g (Sh 93 1 (Za S.alloc.rel) a2 c1::Sh 93 1 (Za (S.alloc.gen.drop 1)) a3 c2::Sh 4 1 (Zk (S.alloc.used.drop 1)) a4 c3::Zq b2 #[.I S.alloc.cap,.slice a2 (Za S.alloc.rel).length c1,.I (S.alloc.fresh+1),.slice a3 (Za (S.alloc.gen.drop 1)).length c2,.slice a4 (Zk (S.alloc.used.drop 1)).length c3] 75::L) w:=Z
  refine Sz ?_
  replace Z:=(Z.sel 4 [0,0,0] rfl)
  exact⟨_,_,_,_,_,_,rfl,Z,⟨hnx.1,hnx.2.1⟩⟩
 have hnn:=SM.next_nil (Zbi cd1)
 refine Sz ?_
 refine Zs0 rfl (decide_eq_true ((by have h9:S.rel.length=0:=(by omega);omega))) ?_
 refine Zss fun w Z=>?_
 refine Zsg [([0,3,1,4],some (2,[3,4])),([6],some (5,[6])),([],some (7,[])),([8],some (9,[]))] ?_
 refine Qd fun w Z=>?_
 replace Z:=Z.nil_ 93 1
 refine Zs3 rfl rfl 0 (Za (S.gen.drop 1)) el_70 Z rfl (Z.srcS 4 rfl) (List.nil_append _) (Rm.of (by first|omega|(simp<;>omega)) (by decide)) rfl rfl (fun a1 c1 w Z=>?_)
 replace Z:=Z.z
 refine Sz ?_
 refine Qd fun w Z=>?_
 replace Z:=Z.nil_ 4 1
 refine Zs3 rfl rfl 0 (Zk (S.used.drop 1)) el_73 Z rfl (Z.srcS 6 rfl) (List.nil_append _) (Rm.of (by first|omega|(simp<;>omega)) (by decide)) rfl rfl (fun a2 c2 w Z=>?_)
 replace Z:=Z.z
 refine Sz ?_
 refine Qd fun w Z=>?_
 refine Zss fun w Z=>?_
 refine Qd fun w Z=>?_
 refine Zss fun w Z=>?_
 refine Qd fun w Z=>?_
 as_aux_lemma =>
 obtain⟨v,hv⟩:∃v,S.gen[S.next.toNat]?=some v:=⟨_,List.getElem?_eq_getElem (by omega)⟩;obtain⟨u,hu⟩:∃u,S.used[S.next.toNat]?=some u:=⟨_,List.getElem?_eq_getElem (by omega)⟩
 refine Sz ?_
 refine Zsq rfl rfl (i:=(S.fresh+1)-1) (S.next.toNat-1) el_70 rfl rfl (by omega) (by omega) (Z.rdO 1 rfl (Zn (Yd (by omega) hv))).1 ?_
 refine Zsv 1 [.W v] rfl (by exact(Z.rdO 1 rfl (Zn (Yd (by omega) hv))).2 0 _ rfl) ?_
 refine Zso 1 rfl<|Zsf 52 (.W ((v+1)%4294967296)) (congrArg (Value.int .u32) (by rfl)) ?_
 refine Zsq rfl rfl (i:=(S.fresh+1)-1) (S.next.toNat-1) el_70 rfl rfl (by omega) (by omega) (Z.rdO 1 rfl (Zn (Yd (by omega) hv))).1 ?_
 refine Zs5 rfl rfl rfl 1 (S.next.toNat-1) 0 [.W v] (Za ((S.gen.drop 1).set (S.next.toNat-1) ((v+1)%4294967296))) Z rfl (Zn (Yd (by omega) hv)) rfl rfl rfl rfl rfl (Zx _ _ _) (fun w Z=>?_)
 replace Z:=Z.z
 refine Sz ?_
 refine Zsq rfl rfl (i:=(S.fresh+1)-1) (S.next.toNat-1) el_73 rfl rfl (by omega) (by omega) (Z.rdO 0 rfl (Zz (Yd (by omega) hu))).1 ?_
 refine Zs5 rfl rfl rfl 0 (S.next.toNat-1) 0 [.bool u] (Zk ((S.used.drop 1).set (S.next.toNat-1) true)) Z rfl (Zz (Yd (by omega) hu)) rfl rfl rfl rfl rfl (XS _ _ _) (fun w Z=>?_)
 replace Z:=Z.z
 have hge:S.genOf S.next=v:=(by unfold SM.genOf;rw[hv];rfl);have e1:S.alloc.gen.drop 1=(S.gen.drop 1).set (S.next.toNat-1) ((v+1)%4294967296):=(by rw[←hge];exact X5 _ (by omega) _);have e2:S.alloc.used.drop 1=(S.used.drop 1).set (S.next.toNat-1) true:=X5 _ (by omega) _;have e3:S.alloc.cap=S.cap:=(by unfold SM.cap SM.alloc;simp)
 refine Sz ?_
 refine Ztz rfl rfl rfl 2 Z rfl rfl rfl rfl rfl ag_75.h (fun w Z=>?_)
 have l1:(Za (S.gen.drop 1)).length=(Za (S.alloc.gen.drop 1)).length:=(by rw[e1];simp);have l2:(Zk (S.used.drop 1)).length=(Zk (S.alloc.used.drop 1)).length:=(by rw[e2];simp);have q1:S.rel=S.alloc.rel:=(by show S.rel=S.rel.dropLast;rw[Zbi cd1];rfl);have q2:S.fresh+1=S.alloc.fresh:=(if_pos (Zbi cd1)).symm;rw[l1,l2,←e1,←e2,←e3,q2] at Z;replace Z:=((Z.at_ 0 rfl).share.at_ 1 rfl).share.sel 7 [4,0,0,0] rfl;rw[q1] at Z
 replace Z:St g (Sh 93 1 (Za S.alloc.rel) ra rc::Sh 93 1 (Za (S.alloc.gen.drop 1)) a1 c1::Sh 4 1 (Zk (S.alloc.used.drop 1)) a2 c2::Zq b2 #[.I S.alloc.cap,.slice ra (Za S.alloc.rel).length rc,.I (S.alloc.fresh+1),.slice a1 (Za (S.alloc.gen.drop 1)).length c1,.slice a2 (Zk (S.alloc.used.drop 1)).length c2] 75::L) w:=Z
 refine Sz ?_
 replace Z:=(Z.sel 4 [0,0,0] rfl)
 exact⟨_,_,_,_,_,_,by rw[hnn];rfl,Z,⟨hnx.1,hnx.2.1⟩⟩
theorem Zhr(i n:Int)(hi:0≤i∧i<4294967296)(hn:0≤n∧n<4294967296)(Z:St g (L) w) :
  Zr g L 69 [.W i,.W n] w fun rV=>rV (.U (n*4294967296+i)) []:=by
 refine Sp.en Tryz.func69 ?_
 have _:=hn
 have _:=hi
 exact⟨rfl,Z⟩
theorem Zgf(h:Int)(hh:0≤h∧h≤18446744073709551615)(Z:St g (L) w) :
  Zr g L 406 [.U h] w fun rV=>rV (.tuple #[.W (h%4294967296),.W (h/4294967296)]) []:=by
 refine Sp.enter Tryz.func406 rfl (by kernel_rfl) (by kernel_rfl) ?_
 have _:=hh
 refine Sy ?_
 refine Zso 1 rfl<|Zsf 5 (.U (h%4294967296)) (congrArg (Value.int .u64) (Int.tmod_eq_emod_of_nonneg (a:=h) (by omega))) ?_
 refine Zux rfl rfl rfl (by omega) ?_
 refine Sy ?_
 refine Zso 1 rfl<|Zsf 8 (.U (h/4294967296)) (congrArg (Value.int .u64) (Zdw (p:=h) (q:=4294967296) (by omega))) ?_
 refine Sz ?_
 exact⟨rfl,Z⟩
theorem Zmr{S:SM}{h:Int}(h1:(! S.ok (h%4294967296))=true):S.opn h=false:=by
 have h2:S.ok (h%4294967296)=false:=by simpa using h1
 unfold SM.opn;rw[h2];rfl
theorem Zdt{S:SM}{h:Int}(h1:¬(! S.ok (h%4294967296))=true):S.opn h=decide (S.genOf (h%4294967296)=h/4294967296):=by
 have h2:S.ok (h%4294967296)=true:=by simpa using h1
 unfold SM.opn SM.hd;rw[h2,Bool.true_and]
 exact decide_eq_decide.2 (by omega)
theorem Zcv(T:TM)(ra ga oa va:Option Addr)(rc gc oc vc:Nat)(h:Int)(hT:TOk T)(hh:0≤h∧h≤18446744073709551615)(Z:St g (Sh 93 1 (Za T.s.rel) ra rc::Sh 93 1 (Za (T.s.gen.drop 1)) ga gc::Sh 4 1 (Zk (T.s.used.drop 1)) oa oc::Sh 93 1 (Za (T.vals.drop 1)) va vc::L) w) :
  Zr g L 294 [.agg #[.I T.s.cap,.slice ra (Za T.s.rel).length rc,.I (T.s.fresh+1),.slice ga (Za (T.s.gen.drop 1)).length gc,.slice oa (Zk (T.s.used.drop 1)).length oc,.slice va (Za (T.vals.drop 1)).length vc],.U h] w fun rV=>rV (.W (if T.s.opn h=true then h%4294967296 else 0)) [Sh 93 1 (Za T.s.rel) ra rc,Sh 93 1 (Za (T.s.gen.drop 1)) ga gc,Sh 4 1 (Zk (T.s.used.drop 1)) oa oc,Sh 93 1 (Za (T.vals.drop 1)) va vc]:=by
 refine Sp.en Tryz.func294 ?_
 refine Zsp fun b1 w Z=>?_
 refine Zse (Zgf h hh Z) fun w Z=>?_
 refine Zse (q_ok T.s ra ga _ rc gc _ (h%4294967296) hT.s (by omega) (Z.sel 4 [3,0,0,0] rfl)) fun w Z=>?_
 by_cases cg1:(! (T.s.ok (h%4294967296)))=true
 ·refine Zsf 17 (.bool true) (congrArg Value.bool cg1) ?_
  refine Sz ?_
  replace Z:=(Z.sel 4 [2,2,0] rfl)
  exact⟨by rw[Zmr cg1];rfl,Z⟩
 refine Zsf 17 (.bool false) (congrArg Value.bool (Bool.eq_false_iff.2 cg1)) ?_
 refine Sz ?_
 refine Zse (Zh4 T.s ra _ oa rc _ oc (h%4294967296) hT.s (by omega) (fun e=>cg1 (by rw[e,Zof hT.s];rfl)) (Z.sel 4 [3,0,0,0] rfl)) fun w Z=>?_
 refine Zsi (fun cd1=>?_) fun cd1=>?_
 ·replace Z:=(Z.sel 4 [3,0,0] rfl)
  exact⟨by rw[Zdt cg1,decide_eq_false cd1];rfl,Z⟩
 replace Z:=(Z.sel 4 [3,0,0] rfl)
 exact⟨by rw[Zdt cg1,decide_eq_true (Classical.not_not.1 cd1)];rfl,Z⟩
theorem Znn{T:TM}(hT:TOk T){h:Int}(hh:0≤h)(ho:T.s.opn h=true):1≤h%4294967296∧h%4294967296≤T.s.cap∧(h%4294967296).toNat<T.s.used.length:=by
 have _:=hh
 have:=T.s.ok_rng hT.s (by omega) (SM.opn_ok ho).1
 exact⟨this.1,this.2.2.1,this.2.2.2⟩
theorem Za9(T:TM)(ra ga oa va:Option Addr)(rc gc oc vc:Nat)(h:Int)(hT:TOk T)(hh:0≤h∧h≤18446744073709551615)(hn:T.s.opn h=false)(Z:St g (Sh 93 1 (Za T.s.rel) ra rc::Sh 93 1 (Za (T.s.gen.drop 1)) ga gc::Sh 4 1 (Zk (T.s.used.drop 1)) oa oc::Sh 93 1 (Za (T.vals.drop 1)) va vc::L) w) :
  Zr g L 169 [.agg #[.I T.s.cap,.slice ra (Za T.s.rel).length rc,.I (T.s.fresh+1),.slice ga (Za (T.s.gen.drop 1)).length gc,.slice oa (Zk (T.s.used.drop 1)).length oc,.slice va (Za (T.vals.drop 1)).length vc],.U h] w fun rV=>rV (.tuple #[.W 0,.I 5]) [Sh 93 1 (Za T.s.rel) ra rc,Sh 93 1 (Za (T.s.gen.drop 1)) ga gc,Sh 4 1 (Zk (T.s.used.drop 1)) oa oc,Sh 93 1 (Za (T.vals.drop 1)) va vc]:=by
 refine Sp.en Tryz.func169 ?_
 refine Zsp fun b1 w Z=>?_
 refine Zse (Zcv T _ _ _ _ _ _ _ _ h hT hh (Z.sel 5 [1,1,1,1,0] rfl)) fun w Z=>?_
 refine Zs0 rfl (decide_eq_true ((by rw[hn];rfl))) ?_
 replace Z:=(Z.sel 5 [0,0,0,0] rfl)
 exact⟨rfl,Z⟩
theorem Zeq(T:TM)(ra ga oa va:Option Addr)(rc gc oc vc:Nat)(h:Int)(hT:TOk T)(hh:0≤h∧h≤18446744073709551615)(hn:T.s.opn h=true)(Z:St g (Sh 93 1 (Za T.s.rel) ra rc::Sh 93 1 (Za (T.s.gen.drop 1)) ga gc::Sh 4 1 (Zk (T.s.used.drop 1)) oa oc::Sh 93 1 (Za (T.vals.drop 1)) va vc::L) w) :
  Zr g L 169 [.agg #[.I T.s.cap,.slice ra (Za T.s.rel).length rc,.I (T.s.fresh+1),.slice ga (Za (T.s.gen.drop 1)).length gc,.slice oa (Zk (T.s.used.drop 1)).length oc,.slice va (Za (T.vals.drop 1)).length vc],.U h] w fun rV=>rV (.tuple #[.W (T.val h),.I 0]) [Sh 93 1 (Za T.s.rel) ra rc,Sh 93 1 (Za (T.s.gen.drop 1)) ga gc,Sh 4 1 (Zk (T.s.used.drop 1)) oa oc,Sh 93 1 (Za (T.vals.drop 1)) va vc]:=by
 refine Sp.en Tryz.func169 ?_
 refine Zsp fun b1 w Z=>?_
 have hp:=Znn hT hh.1 hn;have hvl:=hT.vl;have hv1:=Zh (T.vals.drop 1);have hdv:(T.vals.drop 1).length=T.vals.length-1:=List.length_drop ..
 refine Sz ?_
 refine Ztg (Zcv T _ _ _ _ _ _ _ _ h hT hh (Z.sel 5 [1,1,1,1,0] rfl)) fun w Z=>?_
 refine Sx ?_
 refine Zs9<|Zsw<|Zsw<|WC.region<|Zsf 6 (.W (h%4294967296)) (congrArg (Value.int .u32) (if_pos hn)) ?_
 refine Sz ?_
 refine Zs8 rfl (decide_eq_false ((by omega))) ?_
 obtain⟨v,hv⟩:∃v,T.vals[(h%4294967296).toNat]?=some v:=⟨_,List.getElem?_eq_getElem (by omega)⟩
 refine Sz ?_
 refine Zsq rfl rfl (i:=(h%4294967296)-1) ((h%4294967296).toNat-1) el_70 rfl rfl (by omega) (by omega) (Z.rdS 3 rfl (Zn (Yd (by omega) hv))).1 ?_
 refine Zsv 1 [.W v] rfl (by exact(Z.rdS 3 rfl (Zn (Yd (by omega) hv))).2 0 _ rfl) ?_
 refine Sz ?_
 replace Z:=(Z.sel 5 [0,0,0,0] rfl)
 exact⟨by unfold TM.val;rw[hv];rfl,Z⟩
theorem Zry(T:TM)(ra ga oa va:Option Addr)(rc gc oc vc:Nat)(nv:Int)(hT:TOk T)(hf:0<T.s.free)(hv:0≤nv∧nv<4294967296)(Z:St g (Sh 93 1 (Za T.s.rel) ra rc::Sh 93 1 (Za (T.s.gen.drop 1)) ga gc::Sh 4 1 (Zk (T.s.used.drop 1)) oa oc::Sh 93 1 (Za (T.vals.drop 1)) va vc::L) w) :
  Zr g L 165 [.agg #[.I T.s.cap,.slice ra (Za T.s.rel).length rc,.I (T.s.fresh+1),.slice ga (Za (T.s.gen.drop 1)).length gc,.slice oa (Zk (T.s.used.drop 1)).length oc,.slice va (Za (T.vals.drop 1)).length vc],.W nv] w fun rV=>∃(ra2 ga2 oa2 va2:Option Addr)(rc2 gc2 oc2 vc2:Nat),rV (.tuple #[.agg #[.I (T.open nv).s.cap,.slice ra2 (Za (T.open nv).s.rel).length rc2,.I ((T.open nv).s.fresh+1),.slice ga2 (List.length (Za ((T.open nv).s.gen.drop 1))) gc2,.slice oa2 (List.length (Zk ((T.open nv).s.used.drop 1))) oc2,.slice va2 (List.length (Za ((T.open nv).vals.drop 1))) vc2],.U T.newH,.I 0]) [Sh 93 1 (Za (T.open nv).s.rel) ra2 rc2,Sh 93 1 (Za ((T.open nv).s.gen.drop 1)) ga2 gc2,Sh 4 1 (Zk ((T.open nv).s.used.drop 1)) oa2 oc2,Sh 93 1 (Za ((T.open nv).vals.drop 1)) va2 vc2]:=by
 refine Sp.en Tryz.func165 ?_
 have _:=hv
 refine Zsp fun b1 w Z=>?_
 refine Zsk fun b2 w Z=>?_
 have hvl:=hT.vl;have hv1:=Zh (T.vals.drop 1);have hdv:(T.vals.drop 1).length=T.vals.length-1:=List.length_drop ..;have hle:=hT.s.cap
 refine Sz ?_
 refine Zvh (Zkz T.s _ _ _ _ _ _ hT.s hf (Z.sel 5 [2,2,2,0,0] rfl)) fun w ra1 ga1 oa1 rc1 gc1 oc1 Z f1=>?_
 refine Zsk fun b3 w Z=>?_
 refine Zsh fun w Z=>?_
 refine Zsg [([0,1,2,4],some (3,[0,4])),([],some (5,[])),([6],some (7,[]))] ?_
 refine Qd fun w Z=>?_
 replace Z:=Z.nil_ 93 1
 refine Zs3 rfl rfl 0 (Za (T.vals.drop 1)) el_70 Z rfl (Z.srcS 7 rfl) (List.nil_append _) (Rm.of (by first|omega|(simp<;>omega)) (by decide)) rfl rfl (fun a1 c1 w Z=>?_)
 replace Z:=Z.z
 refine Sz ?_
 refine Qd fun w Z=>?_
 refine Zut (ds:=#[.I T.s.alloc.cap,.slice ra1 (Za T.s.alloc.rel).length rc1,.I (T.s.alloc.fresh+1),.slice ga1 (Za (T.s.alloc.gen.drop 1)).length gc1,.slice oa1 (Zk (T.s.alloc.used.drop 1)).length oc1,.slice va (Za (T.vals.drop 1)).length vc]) rfl rfl rfl 6 Z rfl rfl rfl rfl (Nat.le_of_ble_eq_true rfl) rfl ag_75.h (fun w Z=>?_)
 replace Z:=Z.z
 refine Sz ?_
 refine Qd fun w Z=>?_
 refine Zss fun w Z=>?_
 refine Qd fun w Z=>?_
 have hso:=SM.alloc_sok hT.s hf;have hnx:=T.s.next_rng hT.s hf
 obtain⟨y,hw⟩:∃y,T.vals[T.s.next.toNat]?=some y:=⟨_,List.getElem?_eq_getElem (by omega)⟩
 refine Sz ?_
 refine Zsq rfl rfl (i:=T.s.next-1) (T.s.next.toNat-1) el_70 rfl rfl (by omega) (by omega) (Z.rdO 0 rfl (Zn (Yd (by omega) hw))).1 ?_
 refine Zs5 rfl rfl rfl 0 (T.s.next.toNat-1) 0 [.W y] (Za ((T.vals.drop 1).set (T.s.next.toNat-1) nv)) Z rfl (Zn (Yd (by omega) hw)) rfl rfl rfl rfl rfl (Zx _ _ _) (fun w Z=>?_)
 replace Z:=Z.z
 as_aux_lemma =>
 refine Sz ?_
 refine Zsg [([0,1,2,3],some (4,[0,1])),([],some (5,[0])),([],some (6,[])),([7,8],none)] ?_
 refine Qd fun w Z=>?_
 refine Zse (Zh4 T.s.alloc ra1 _ oa1 rc1 _ oc1 T.s.next hso (by omega) (by omega) (Z.sel 4 [3,0,0,0] rfl)) fun w Z=>?_
 refine Qd fun w Z=>?_
 refine Zse (Zhr T.s.next (T.s.alloc.genOf T.s.next) (by omega) (hso.gen_rng _) Z) fun w Z=>?_
 refine Qd fun w Z=>?_
 refine Zsh fun w Z=>?_
 refine Qe fun w Z=>?_
 have e5:(T.open nv).vals.drop 1=(T.vals.drop 1).set (T.s.next.toNat-1) nv:=X5 _ (by omega) _;have l5:(Za (T.vals.drop 1)).length=(Za ((T.open nv).vals.drop 1)).length:=(by rw[e5];simp);rw[l5,←e5] at Z;replace Z:=(Z.at_ 1 rfl).share.sel 8 [3,1,2,0,1] rfl
 replace Z:St g (Sh 93 1 (Za (T.open nv).s.rel) ra1 rc1::Sh 93 1 (Za ((T.open nv).s.gen.drop 1)) ga1 gc1::Sh 4 1 (Zk ((T.open nv).s.used.drop 1)) oa1 oc1::Sh 93 1 (Za ((T.open nv).vals.drop 1)) a1 c1::Zq b2 #[.I (T.open nv).s.cap,.slice ra1 (Za (T.open nv).s.rel).length rc1,.I ((T.open nv).s.fresh+1),.slice ga1 (List.length (Za ((T.open nv).s.gen.drop 1))) gc1,.slice oa1 (List.length (Zk ((T.open nv).s.used.drop 1))) oc1,.slice a1 (List.length (Za ((T.open nv).vals.drop 1))) c1] 77::L) w:=Z
 refine Sz ?_
 replace Z:=(Z.sel 5 [0,0,0,0] rfl)
 exact⟨_,_,_,_,_,_,_,_,rfl,Z⟩
end Go.Proofs.YtpebgkkmgffmaaaGreatDoor
namespace Go.Proofs.YtpebgkkmgffmaaaGreatDoor
open Go Go.V
def Qj(S:SM)(k:Nat):List Int:=(List.range k).map fun i:Nat=>S.fresh+1+(i:Int)
def SM.order(S:SM):List Int:=S.rel.reverse++Qj S (S.cap-S.fresh).toNat
theorem C9{l:List Int}{k:Nat}{x:Int}(h:l[k]?=some x):(l.drop k).reverse=(l.drop (k+1)).reverse++[x]:=by
 obtain⟨hl,rfl⟩:=List.getElem?_eq_some_iff.1 h
 rw[List.drop_eq_getElem_cons hl,List.reverse_cons]
theorem DC(S:SM)(k:Nat):Qj S (k+1)=Qj S k++[S.fresh+1+(k:Int)]:=by
 unfold Qj;rw[List.range_succ,List.map_append];rfl
set_option maxHeartbeats 8000000
set_option maxRecDepth 8192
variable{g w:World}{L:List HP}
theorem XL(s:Nat)(S:SM)(hO:SOk S)(Z:St g (XE s S::L) w) :
  Zr g L 203 [.P s] w fun rV=>∃(a2:Option Addr)(c2:Nat),rV (.slice a2 (Za (SM.order S)).length c2) [Zp 93 1 (Za (SM.order S)) a2 c2,XE s S]:=by
 refine Sp.en Tryz.func203 ?_
 obtain⟨⟨ua,uc,ga,gc,ra,rc⟩,Z⟩:=St.exOpen Z
 replace Z:=Z.z
 have hfr:=hO.fr;have hcp:S.cap=(S.used.length:Int)-1:=rfl;have hle:=hO.le;have hrl:=hO.rle;have hfd:S.free=(S.rel.length:Int)+S.cap-S.fresh:=rfl;have hru:=Zh S.rel;have hbu:=ZC S.used
 refine Sz ?_
 refine Ztg (Zix _ ua ga ra (Zk S.used).length (Za S.gen).length (Za S.rel).length uc gc rc S.fresh (by omega) Z) fun w Z=>?_
 refine Zth rfl rfl (v:=0) (v':=(Za S.rel).length+((Zk S.used).length-1)-S.fresh) (0) (S.free.toNat) el_70 Z rfl (by omega) rfl (by omega) (by omega) (Rm.of (by omega) (by decide)) (fun b1 w Z=>?_)
 replace Z:=Z.z
 refine Sz ?_
 refine Zst [0,2] [3,4] (fun kM vs jS=>∃(j:Int)(out:List Int)(ub:Option Addr)(ud:Nat),vs=[.slice ub (Za out).length ud,.I j]∧jS [Zp 93 1 (Za out) ub ud]∧(-1≤j∧j<S.rel.length)∧(out=(S.rel.drop (j+1).toNat).reverse)∧((j+1).toNat)=kM) rfl ⟨((Za S.rel).length:Int)-1,[],(some ⟨b1,0,none⟩),S.free.toNat,rfl,Z,(by omega),(by rw[List.drop_eq_nil_of_le (by omega)];rfl),rfl⟩ ?_
 rintro _ _ w j ⟨j,out,ub,ud,rfl,Z,hj,ho,rfl⟩
 replace Z:=Z.z
 refine Sz ?_
 refine Zsr rfl (fun cd1=>?_) (fun cd1=>?_)
 ·obtain⟨x,hx⟩:∃x,S.rel[j.toNat]?=some x:=⟨_,List.getElem?_eq_getElem (by omega)⟩;have hol:out.length≤S.rel.length:=(by rw[ho,List.length_reverse,List.length_drop];omega);have hoe:=Zh out
  refine Sz ?_
  refine Zsq rfl rfl (i:=j) (j.toNat) el_70 rfl rfl (by omega) (by omega) (Z.rdO 4 rfl (Zn hx)).1 ?_
  refine Zsv 1 [.W x] rfl (by exact(Z.rdO 4 rfl (Zn hx)).2 0 _ rfl) ?_
  refine Zs1 rfl rfl (Za [x]) el_70 Z (by exact⟨rfl,rfl⟩) (YY _) rfl (Nat.le_of_ble_eq_true rfl) (fun b2 w Z=>?_)
  refine Zs3 rfl rfl 1 (Za (out++[x])) el_70 Z rfl (Z.srcO 0 rfl) (YM _ _).symm (Rm.of (by first|omega|(simp<;>omega)) (by decide)) rfl rfl (fun a1 c1 w Z=>?_)
  replace Z:=Z.z
  refine Sz ?_
  exact⟨_,by omega,rfl,j-1,out++[x],a1,c1,rfl,(Z.sel 1 [] rfl),(by omega),(by rw[ho,show(j+1).toNat=j.toNat+1 by omega,show(j-1+1).toNat=j.toNat by omega];exact(C9 hx).symm),rfl⟩
 have hor:out=S.rel.reverse:=(by rw[ho,show(j+1).toNat=0 by omega];rfl)
 refine Sz ?_
 refine Zst [0,2] [3,5] (fun kM vs jS=>∃(k:Nat)(j2:Int)(acc:List Int)(uf:Option Addr)(ud2:Nat),vs=[.slice uf (Za acc).length ud2,.I j2]∧jS [Zp 93 1 (Za acc) uf ud2]∧((k:Int)≤S.cap-S.fresh)∧(j2=S.fresh+1+(k:Int))∧(acc=S.rel.reverse++Qj S k)∧((S.cap-S.fresh).toNat-k)=kM) rfl ⟨0,S.fresh+1,out,ub,ud,rfl,Z,(by omega),(by omega),(by rw[hor];simp[Qj]),rfl⟩ ?_
 rintro _ _ w j ⟨k,j2,acc,uf,ud2,rfl,Z,hk,hj2,ha,rfl⟩
 replace Z:=Z.z
 refine Sz ?_
 refine Zse (D7 _ ua ga ra (Zk S.used).length (Za S.gen).length (Za S.rel).length uc gc rc S.fresh (by omega) (Z.sel 2 [1,0] rfl)) fun w Z=>?_
 as_aux_lemma =>
 refine Zsr rfl (fun cd2=>?_) (fun cd2=>?_)
 ·have hal:acc.length≤140000:=(by rw[ha,List.length_append,List.length_reverse];unfold Qj;simp;omega);have hac:=Zh acc
  refine Sz ?_
  refine Zs1 rfl rfl (Za [j2]) el_70 Z (by exact⟨rfl,rfl⟩) (YY _) rfl (Nat.le_of_ble_eq_true rfl) (fun b2 w Z=>?_)
  refine Zs3 rfl rfl 2 (Za (acc++[j2])) el_70 Z rfl (Z.srcO 0 rfl) (YM _ _).symm (Rm.of (by first|omega|(simp<;>omega)) (by decide)) rfl rfl (fun a1 c1 w Z=>?_)
  replace Z:=Z.z
  refine Sz ?_
  exact⟨_,by omega,rfl,k+1,j2+1,acc++[j2],a1,c1,rfl,(Z.sel 3 [2,1] rfl),(by omega),(by omega),(by rw[hj2,ha,DC,List.append_assoc]),rfl⟩
 refine Sz ?_
 replace Z:=St.cl (f:=Xu s S) ⟨_,_,_,_,_,_⟩ (Z.sel 5 [0,1,1,1,0] rfl)
 replace Z:=Z.z
 refine Sz ?_
 replace Z:=(Z.sel 2 [1,0] rfl)
 have hke:k=(S.cap-S.fresh).toNat:=(by omega);subst hke;rw[show acc=SM.order S from ha] at Z ⊢;exact⟨_,_,rfl,Z⟩
theorem Zdb{S:SM}(hO:SOk S):((SM.order S).length:Int)=S.free:=by
 have hfr:=hO.fr
 unfold SM.order Qj SM.free
 simp only[List.length_append,List.length_reverse,List.length_map,List.length_range];omega
theorem DK{n:Nat}:(SM.new n).cap=(n:Int):=by
 show((List.replicate (n+1) false).length:Int)-1=n
 rw[List.length_replicate];omega
theorem CA{n:Nat}:(Za ((SM.new n).gen.drop 1)).length=n:=by
 rw[Zh];show((List.replicate (n+1) (0:Int)).drop 1).length=n;simp
theorem Ct{n:Nat}:(Zk ((SM.new n).used.drop 1)).length=n:=by
 rw[ZC];show((List.replicate (n+1) false).drop 1).length=n;simp
theorem Zhx{n:Nat}:(Za ((TM.new n).vals.drop 1)).length=n:=by
 rw[Zh];show((List.replicate (n+1) (0:Int)).drop 1).length=n;simp
end Go.Proofs.YtpebgkkmgffmaaaGreatDoor
namespace Go.Proofs.YtpebgkkmgffmaaaGreatDoor
open Go Go.V
set_option maxHeartbeats 8000000
set_option maxRecDepth 8192
variable{g w:World}{L:List HP}
theorem Zmd(S:SM)(ra ga oa:Option Addr)(rc gc oc:Nat)(hO:SOk S)(Z:St g (Sh 93 1 (Za S.rel) ra rc::Sh 93 1 (Za (S.gen.drop 1)) ga gc::Sh 4 1 (Zk (S.used.drop 1)) oa oc::L) w) :
  Zr g L 283 [.agg #[.I S.cap,.slice ra (Za S.rel).length rc,.I (S.fresh+1),.slice ga (Za (S.gen.drop 1)).length gc,.slice oa (Zk (S.used.drop 1)).length oc]] w fun rV=>∃(a2:Option Addr)(c2:Nat),rV (.slice a2 (Za (SM.order S)).length c2) [Zp 93 1 (Za (SM.order S)) a2 c2,Sh 93 1 (Za S.rel) ra rc,Sh 93 1 (Za (S.gen.drop 1)) ga gc,Sh 4 1 (Zk (S.used.drop 1)) oa oc]:=by
 refine Sp.en Tryz.func283 ?_
 refine Zsp fun b1 w Z=>?_
 have hfr:=hO.fr;have hcp:S.cap=(S.used.length:Int)-1:=rfl;have hle:=hO.le;have hrl:=hO.rle;have hru:=Zh S.rel
 replace Z:=Z.nil_ 93 1
 refine Sz ?_
 refine Zst [1,2] [3,4] (fun kM vs jS=>∃(j:Int)(out:List Int)(ub:Option Addr)(ud:Nat),vs=[.slice ub (Za out).length ud,.I j]∧jS [Zp 93 1 (Za out) ub ud]∧(-1≤j∧j<S.rel.length)∧(out=(S.rel.drop (j+1).toNat).reverse)∧((j+1).toNat)=kM) rfl ⟨((Za S.rel).length:Int)-1,[],none,0,rfl,Z,(by omega),(by rw[List.drop_eq_nil_of_le (by omega)];rfl),rfl⟩ ?_
 rintro _ _ w j ⟨j,out,ub,ud,rfl,Z,hj,ho,rfl⟩
 replace Z:=Z.z
 refine Sz ?_
 refine Zsr rfl (fun cd1=>?_) (fun cd1=>?_)
 ·obtain⟨x,hx⟩:∃x,S.rel[j.toNat]?=some x:=⟨_,List.getElem?_eq_getElem (by omega)⟩;have hol:out.length≤S.rel.length:=(by rw[ho,List.length_reverse,List.length_drop];omega);have hoe:=Zh out
  refine Sz ?_
  refine Zsq rfl rfl (i:=j) (j.toNat) el_70 rfl rfl (by omega) (by omega) (Z.rdS 2 rfl (Zn hx)).1 ?_
  refine Zsv 1 [.W x] rfl (by exact(Z.rdS 2 rfl (Zn hx)).2 0 _ rfl) ?_
  refine Zs1 rfl rfl (Za [x]) el_70 Z (by exact⟨rfl,rfl⟩) (YY _) rfl (Nat.le_of_ble_eq_true rfl) (fun b2 w Z=>?_)
  refine Zs3 rfl rfl 1 (Za (out++[x])) el_70 Z rfl (Z.srcO 0 rfl) (YM _ _).symm (Rm.of (by first|omega|(simp<;>omega)) (by decide)) rfl rfl (fun a1 c1 w Z=>?_)
  replace Z:=Z.z
  refine Sz ?_
  exact⟨_,by omega,rfl,j-1,out++[x],_,_,rfl,(Z.sel 1 [] rfl),(by omega),(by rw[ho,show(j+1).toNat=j.toNat+1 by omega,show(j-1+1).toNat=j.toNat by omega];exact(C9 hx).symm),rfl⟩
 have hor:out=S.rel.reverse:=(by rw[ho,show(j+1).toNat=0 by omega];rfl)
 refine Sz ?_
 refine Zst [1,2] [3,5] (fun kM vs jS=>∃(k:Nat)(j2:Int)(acc:List Int)(uf:Option Addr)(ud2:Nat),vs=[.slice uf (Za acc).length ud2,.I j2]∧jS [Zp 93 1 (Za acc) uf ud2]∧((k:Int)≤S.cap-S.fresh)∧(j2=S.fresh+1+(k:Int))∧(acc=S.rel.reverse++Qj S k)∧((S.cap-S.fresh).toNat-k)=kM) rfl ⟨0,S.fresh+1,out,ub,ud,rfl,Z,(by omega),(by omega),(by rw[hor];simp[Qj]),rfl⟩ ?_
 rintro _ _ w j ⟨k,j2,acc,uf,ud2,rfl,Z,hk,hj2,ha,rfl⟩
 replace Z:=Z.z
 refine Sz ?_
 refine Zsr rfl (fun cd2=>?_) (fun cd2=>?_)
 ·have hal:acc.length≤140000:=(by rw[ha,List.length_append,List.length_reverse];unfold Qj;simp;omega);have hac:=Zh acc
  refine Sz ?_
  refine Zs1 rfl rfl (Za [j2]) el_70 Z (by exact⟨rfl,rfl⟩) (YY _) rfl (Nat.le_of_ble_eq_true rfl) (fun b2 w Z=>?_)
  refine Zs3 rfl rfl 1 (Za (acc++[j2])) el_70 Z rfl (Z.srcO 0 rfl) (YM _ _).symm (Rm.of (by first|omega|(simp<;>omega)) (by decide)) rfl rfl (fun a1 c1 w Z=>?_)
  replace Z:=Z.z
  as_aux_lemma =>
  refine Sz ?_
  exact⟨_,by omega,rfl,k+1,j2+1,acc++[j2],_,_,rfl,(Z.sel 1 [] rfl),(by omega),(by omega),(by rw[hj2,ha,DC,List.append_assoc]),rfl⟩
 refine Sz ?_
 replace Z:=(Z.sel 2 [0] rfl)
 have hke:k=(S.cap-S.fresh).toNat:=(by omega);subst hke;rw[show acc=SM.order S from ha] at Z ⊢;exact⟨_,_,rfl,Z⟩
theorem Zhy(n:Nat)(hn:1≤n∧n≤4096)(Z:St g (L) w) :
  Zr g L 77 [.I (n:Int)] w fun rV=>∃(ga oa:Option Addr)(gc oc:Nat),rV (.agg #[.I (SM.new n).cap,.slice none (Za (SM.new n).rel).length 0,.I ((SM.new n).fresh+1),.slice ga (List.length (Za ((SM.new n).gen.drop 1))) gc,.slice oa (List.length (Zk ((SM.new n).used.drop 1))) oc]) [Sh 93 1 (Za (SM.new n).rel) none 0,Sh 93 1 (Za ((SM.new n).gen.drop 1)) ga gc,Sh 4 1 (Zk ((SM.new n).used.drop 1)) oa oc]:=by
 refine Sp.en Tryz.func77 ?_
 have _:=hn
 refine Zsk fun b1 w Z=>?_
 refine Zto (.two [0,1,3] 2 [0,3] (.one [] 4 [0,1] (.one [5] 6 [] .nil)) 4 [0,1] (.one [] 2 [0,3] (.one [5] 6 [] .nil))) ?_
 refine Qz ?_
 refine Zta ?_
 intro m1
 replace Z:=Z.drewN m1;generalize hwm1:World.drewN _ _=w at *;clear hwm1
 refine⟨?_,?_⟩
 ·refine Zth rfl rfl (v:=(n:Int)) (v':=(n:Int)) (n) (n) el_70 Z rfl (by omega) rfl (by omega) (by omega) (Rm.of (by omega) (by decide)) (fun b2 w Z=>?_)
  replace Z:=Z.z
  refine Sz ?_
  refine Qd fun w Z=>?_
  refine Zth rfl rfl (v:=(n:Int)) (v':=(n:Int)) (n) (n) el_73 Z rfl (by omega) rfl (by omega) (by omega) (Rm.of (by omega) (by decide)) (fun b3 w Z=>?_)
  replace Z:=Z.z
  refine Sz ?_
  refine Ztj rfl rfl (cs:=[.I (n:Int),.N,.I 1,.slice (some ⟨b2,0,none⟩) n n,.slice (some ⟨b3,0,none⟩) n n]) zv_75.h rfl rfl ?_
  refine Qd fun w Z=>?_
  refine Zsh fun w Z=>?_
  refine Qe fun w Z=>?_
  rw[Qh,XI] at Z;replace Z:=((Z.at_ 0 rfl).share.at_ 1 rfl).share.nilS 93 1
  replace Z:St g (Sh 93 1 (Za (SM.new n).rel) none 0::Sh 93 1 (Za ((SM.new n).gen.drop 1)) (some ⟨b2,0,none⟩) n::Sh 4 1 (Zk ((SM.new n).used.drop 1)) (some ⟨b3,0,none⟩) n::Zq b1 #[.I (n:Int),.N,.I 1,.slice (some ⟨b2,0,none⟩) n n,.slice (some ⟨b3,0,none⟩) n n] 75::L) w:=Z
  refine Sz ?_
  replace Z:=(Z.sel 4 [0,0,0] rfl)
  first|exact⟨some ⟨b2,0,none⟩,some ⟨b3,0,none⟩,n,n,by rw[DK,CA,Ct];rfl,Z⟩|exact⟨some ⟨b3,0,none⟩,some ⟨b2,0,none⟩,n,n,by rw[DK,CA,Ct];rfl,Z⟩
 refine Zth rfl rfl (v:=(n:Int)) (v':=(n:Int)) (n) (n) el_73 Z rfl (by omega) rfl (by omega) (by omega) (Rm.of (by omega) (by decide)) (fun b2 w Z=>?_)
 replace Z:=Z.z
 refine Sz ?_
 refine Qd fun w Z=>?_
 refine Zth rfl rfl (v:=(n:Int)) (v':=(n:Int)) (n) (n) el_70 Z rfl (by omega) rfl (by omega) (by omega) (Rm.of (by omega) (by decide)) (fun b3 w Z=>?_)
 replace Z:=Z.z
 refine Sz ?_
 refine Ztj rfl rfl (cs:=[.I (n:Int),.N,.I 1,.slice (some ⟨b3,0,none⟩) n n,.slice (some ⟨b2,0,none⟩) n n]) zv_75.h rfl rfl ?_
 refine Qd fun w Z=>?_
 refine Zsh fun w Z=>?_
 refine Qe fun w Z=>?_
 rw[Qh,XI] at Z;replace Z:=((Z.at_ 1 rfl).share.at_ 1 rfl).share.nilS 93 1
 replace Z:St g (Sh 93 1 (Za (SM.new n).rel) none 0::Sh 93 1 (Za ((SM.new n).gen.drop 1)) (some ⟨b3,0,none⟩) n::Sh 4 1 (Zk ((SM.new n).used.drop 1)) (some ⟨b2,0,none⟩) n::Zq b1 #[.I (n:Int),.N,.I 1,.slice (some ⟨b3,0,none⟩) n n,.slice (some ⟨b2,0,none⟩) n n] 75::L) w:=Z
 refine Sz ?_
 replace Z:=(Z.sel 4 [0,0,0] rfl)
 first|exact⟨some ⟨b2,0,none⟩,some ⟨b3,0,none⟩,n,n,by rw[DK,CA,Ct];rfl,Z⟩|exact⟨some ⟨b3,0,none⟩,some ⟨b2,0,none⟩,n,n,by rw[DK,CA,Ct];rfl,Z⟩
theorem Zi7(n:Nat)(hn:1≤n∧n≤4096)(Z:St g (L) w) :
  Zr g L 31 [.I (n:Int)] w fun rV=>∃(ga oa va:Option Addr)(gc oc vc:Nat),rV (.agg #[.I (TM.new n).s.cap,.slice none (Za (TM.new n).s.rel).length 0,.I ((TM.new n).s.fresh+1),.slice ga (List.length (Za ((TM.new n).s.gen.drop 1))) gc,.slice oa (List.length (Zk ((TM.new n).s.used.drop 1))) oc,.slice va (List.length (Za ((TM.new n).vals.drop 1))) vc]) [Sh 93 1 (Za (TM.new n).s.rel) none 0,Sh 93 1 (Za ((TM.new n).s.gen.drop 1)) ga gc,Sh 4 1 (Zk ((TM.new n).s.used.drop 1)) oa oc,Sh 93 1 (Za ((TM.new n).vals.drop 1)) va vc]:=by
 refine Sp.en Tryz.func31 ?_
 refine Zsk fun b1 w Z=>?_
 refine Zto (.two [0,2] 1 [2] (.one [] 3 [0] (.one [4] 5 [] .nil)) 3 [0] (.one [] 1 [2] (.one [4] 5 [] .nil))) ?_
 refine Qz ?_
 refine Zta ?_
 intro m1
 replace Z:=Z.drewN m1;generalize hwm1:World.drewN _ _=w at *;clear hwm1
 refine⟨?_,?_⟩
 ·refine Zvg (Zhy n hn Z) fun w ga1 oa1 gc1 oc1 Z=>?_
  refine Qd fun w Z=>?_
  refine Zth rfl rfl (v:=(n:Int)) (v':=(n:Int)) (n) (n) el_70 Z rfl (by omega) rfl (by omega) (by omega) (Rm.of (by omega) (by decide)) (fun b2 w Z=>?_)
  replace Z:=Z.z
  refine Sz ?_
  refine Ztj rfl rfl (cs:=[.I (SM.new n).cap,.slice none (Za (SM.new n).rel).length 0,.I ((SM.new n).fresh+1),.slice ga1 (List.length (Za ((SM.new n).gen.drop 1))) gc1,.slice oa1 (List.length (Zk ((SM.new n).used.drop 1))) oc1,.slice (some ⟨b2,0,none⟩) n n]) zv_77.h rfl rfl ?_
  refine Qd fun w Z=>?_
  refine Zsh fun w Z=>?_
  refine Qe fun w Z=>?_
  rw[XI] at Z;replace Z:=(Z.at_ 0 rfl).share.sel 5 [1,1,1,0,0] rfl
  replace Z:St g (Sh 93 1 (Za (TM.new n).s.rel) none 0::Sh 93 1 (Za ((TM.new n).s.gen.drop 1)) ga1 gc1::Sh 4 1 (Zk ((TM.new n).s.used.drop 1)) oa1 oc1::Sh 93 1 (Za ((TM.new n).vals.drop 1)) (some ⟨b2,0,none⟩) n::Zq b1 #[.I (SM.new n).cap,.slice none (Za (SM.new n).rel).length 0,.I ((SM.new n).fresh+1),.slice ga1 (List.length (Za ((SM.new n).gen.drop 1))) gc1,.slice oa1 (List.length (Zk ((SM.new n).used.drop 1))) oc1,.slice (some ⟨b2,0,none⟩) n n] 77::L) w:=Z
  refine Sz ?_
  replace Z:=(Z.sel 5 [0,0,0,0] rfl)
  exact⟨ga1,oa1,some ⟨b2,0,none⟩,gc1,oc1,n,by rw[Zhx];rfl,Z⟩
 refine Zth rfl rfl (v:=(n:Int)) (v':=(n:Int)) (n) (n) el_70 Z rfl (by omega) rfl (by omega) (by omega) (Rm.of (by omega) (by decide)) (fun b2 w Z=>?_)
 replace Z:=Z.z
 refine Sz ?_
 refine Qd fun w Z=>?_
 refine Zvg (Zhy n hn Z) fun w ga1 oa1 gc1 oc1 Z=>?_
 refine Ztj rfl rfl (cs:=[.I (SM.new n).cap,.slice none (Za (SM.new n).rel).length 0,.I ((SM.new n).fresh+1),.slice ga1 (List.length (Za ((SM.new n).gen.drop 1))) gc1,.slice oa1 (List.length (Zk ((SM.new n).used.drop 1))) oc1,.slice (some ⟨b2,0,none⟩) n n]) zv_77.h rfl rfl ?_
 refine Qd fun w Z=>?_
 refine Zsh fun w Z=>?_
 refine Qe fun w Z=>?_
 rw[XI] at Z;replace Z:=(Z.at_ 3 rfl).share.sel 5 [1,1,1,0,0] rfl
 replace Z:St g (Sh 93 1 (Za (TM.new n).s.rel) none 0::Sh 93 1 (Za ((TM.new n).s.gen.drop 1)) ga1 gc1::Sh 4 1 (Zk ((TM.new n).s.used.drop 1)) oa1 oc1::Sh 93 1 (Za ((TM.new n).vals.drop 1)) (some ⟨b2,0,none⟩) n::Zq b1 #[.I (SM.new n).cap,.slice none (Za (SM.new n).rel).length 0,.I ((SM.new n).fresh+1),.slice ga1 (List.length (Za ((SM.new n).gen.drop 1))) gc1,.slice oa1 (List.length (Zk ((SM.new n).used.drop 1))) oc1,.slice (some ⟨b2,0,none⟩) n n] 77::L) w:=Z
 refine Sz ?_
 replace Z:=(Z.sel 5 [0,0,0,0] rfl)
 exact⟨ga1,oa1,some ⟨b2,0,none⟩,gc1,oc1,n,by rw[Zhx];rfl,Z⟩
end Go.Proofs.YtpebgkkmgffmaaaGreatDoor
namespace Go.V
open Go Go.RowKit
structure PR where
 ps:List Int
 a:Option Addr
 c:Nat
def prC(r:PR):List Value:=[.slice r.a (Ze r.ps).length r.c]
def ZL(l:List PR):List (List Value):=l.map prC
@[simp] theorem Cv(l:List PR):(ZL l).length=l.length:=by simp[ZL]
theorem DU{l:List PR}{k:Nat}{r:PR}(h:l[k]?=some r):(ZL l)[k]?=some [.slice r.a (Ze r.ps).length r.c]:=by simp[ZL,h,prC]
theorem Zmx(l m:List PR):ZL (l++m)=ZL l++ZL m:=by simp[ZL]
theorem Zqc(l:List PR):OkE 1 (ZL l):=fun x hx=>by
 obtain⟨y,_,rfl⟩:=List.mem_map.1 hx
 exact⟨rfl,fun u hu=>by simp[prC] at hu;subst hu;rfl⟩
def Qg(r:PR):List HP:=[Sh 3 1 (Ze r.ps) r.a r.c]
theorem Zps(r:PR):∀A∈Qg r,Sht A:=fun A hA=>by
 simp only[Qg,List.mem_singleton] at hA;subst hA;exact Sht.sh
inductive Rch(P:List PR)(n:Int):Int→Prop
 |refl:1≤n→n≤P.length→Rch P n n
 |step {i:Nat} {r:PR} {u:Int}:Rch P n ((i:Int)+1)→P[i]?=some r→u∈r.ps→Rch P n u
def PRk(P:List PR):Prop:=∀(i:Nat)(r:PR),P[i]?=some r→r.ps.length≤2∧∀u∈r.ps,1≤u∧u≤(i:Int)
theorem PRk.nil:PRk []:=fun i r h=>by simp at h
theorem Rch.rng{P:List PR}{n u:Int}(hP:PRk P)(h:Rch P n u):1≤u∧u≤n∧1≤n∧n≤P.length:=by
 induction h with
 |refl h1 h2=>exact⟨h1,Int.le_refl _,h1,h2⟩
 |step _ hr hu ih=>have:=(hP _ _ hr).2 _ hu;omega
theorem Rch.trans{P:List PR}{n m u:Int}(h:Rch P n m)(k:Rch P m u):Rch P n u:=by
 induction k with
 |refl _ _=>exact h
 |step _ hr hu ih=>exact .step ih hr hu
theorem Rch.head{P:List PR}{n u:Int}(hP:PRk P)(h:Rch P n u):u=n∨∃(i:Nat)(r:PR)(p:Int),n=(i:Int)+1∧P[i]?=some r∧p∈r.ps∧Rch P p u:=by
 induction h with
 |refl _ _=>exact .inl rfl
 |@step i r u h1 hr hu ih =>
  have h2:=(hP _ _ hr).2 _ hu
  have h3:=(List.getElem?_eq_some_iff.1 hr).1
  rcases ih with e|⟨i',r',p,e,hr',hp,hk⟩
  ·exact .inr ⟨i,r,u,e.symm,hr,hu,.refl h2.1 (by omega)⟩
  exact .inr ⟨i',r',p,e,hr',hp,.step hk hr hu⟩
theorem Rch.mono{P:List PR}{r:PR}{n u:Int}(h:Rch P n u):Rch (P++[r]) n u:=by
 induction h with
 |refl h1 h2=>exact .refl h1 (by simp;omega)
 |step _ hr hu ih=>exact .step ih (by rw[List.getElem?_append_left (List.getElem?_eq_some_iff.1 hr).1];exact hr) hu
theorem PRk.snoc{P:List PR}{r:PR}(hP:PRk P)(hl:r.ps.length≤2)(h:∀u∈r.ps,1≤u∧u≤(P.length:Int)):PRk (P++[r]):=fun i x hx=>by
 by_cases hi:i<P.length
 ·rw[List.getElem?_append_left hi] at hx;exact hP i x hx
 have h1:=(List.getElem?_eq_some_iff.1 hx).1
 have h2:i=P.length:=by simp at h1;omega
 subst h2
 simp at hx;subst hx;exact⟨hl,h⟩
theorem Rch.old{P:List PR}{r:PR}{n u:Int}(hP:PRk (P++[r]))(hn:n≤P.length)(h:Rch (P++[r]) n u):Rch P n u:=by
 induction h with
 |refl h1 h2=>exact .refl h1 hn
 |@step i r' u h1 hr hu ih =>
  have h2:=(h1.rng hP).2.1
  rw[List.getElem?_append_left (by omega)] at hr
  exact .step ih hr hu
theorem Zly{P:List PR}{r:PR}{u:Int}(hP:PRk (P++[r])):Rch (P++[r]) ((P.length:Int)+1) u↔u=(P.length:Int)+1∨∃p∈r.ps,Rch P p u:=by
 have hlast:(P++[r])[P.length]?=some r:=by simp
 constructor
 ·intro h
  rcases h.head hP with e|⟨i,r',p,e,hr,hp,hk⟩
  ·exact .inl e
  have:i=P.length:=by omega
  subst this
  rw[hlast] at hr;cases hr
  exact .inr ⟨p,hp,hk.old hP ((hP _ _ hlast).2 p hp).2⟩
 have h0:Rch (P++[r]) ((P.length:Int)+1) ((P.length:Int)+1):=.refl (by omega) (by simp)
 rintro(rfl|⟨p,hp,hk⟩)
 ·exact h0
 exact(Rch.step h0 hlast hp).trans hk.mono
theorem C_{l m:List Bool}(hl:l.length=m.length)(h:∀(j:Nat)(x y:Bool),l[j]?=some x→m[j]?=some y→(x=true↔y=true)):l=m:=by
 refine List.ext_getElem? fun j=>?_
 cases h1:l[j]? with
 |none=>rw[List.getElem?_eq_none_iff] at h1;rw[List.getElem?_eq_none (by omega)]
 |some x =>
  have h2:=(List.getElem?_eq_some_iff.1 h1).1
  have h3:=List.getElem?_eq_getElem (l:=m) (i:=j) (by omega)
  rw[h3]
  have h4:=h j x _ h1 h3
  cases x<;>cases h5:m[j]<;>simp_all
def YD(bs:List Bool):List Int:=bs.zipIdx.filterMap fun p=>if p.1=true then some ((p.2:Int)+1) else none
theorem Ur{bs:List Bool}{k:Nat}{x:Bool}(h:bs[k]?=some x):YD (bs.take (k+1))=YD (bs.take k)++(if x=true then[(k:Int)+1] else[]):=by
 have hl:=(List.getElem?_eq_some_iff.1 h).1
 unfold YD
 rw[List.take_add_one,h]
 simp only[Option.toList_some,List.zipIdx_append,List.filterMap_append]
 have:(bs.take k).length=k:=by rw[List.length_take];omega
 rw[this]
 cases x<;>simp
theorem DE(bs:List Bool):∀k,k≤bs.length→Asc (YD (bs.take k))∧(YD (bs.take k)).length≤k∧∀z,z∈YD (bs.take k)↔∃j:Nat,j<k∧bs[j]?=some true∧z=(j:Int)+1
 |0,_=>⟨by simp[YD,Asc],by simp[YD],fun z=>⟨fun h=>by simp[YD] at h,fun⟨j,hj,_⟩=>by omega⟩⟩
 |k+1,hk=>by
  obtain⟨h1,h0,h2⟩:=DE bs k (by omega)
  obtain⟨x,hx⟩:∃x,bs[k]?=some x:=⟨_,List.getElem?_eq_getElem (by omega)⟩
  rw[Ur hx]
  cases x with
  |false =>
   refine⟨by simpa using h1,by simp;omega,fun z=>?_⟩
   rw[if_neg (by decide),List.append_nil,h2]
   constructor
   ·rintro⟨j,hj,he,e⟩;exact⟨j,by omega,he,e⟩
   rintro⟨j,hj,he,e⟩
   refine⟨j,?_,he,e⟩
   rcases Nat.lt_or_ge j k with h|h
   ·exact h
   have:j=k:=by omega
   subst this;rw[hx] at he;cases he
  |true =>
   rw[if_pos rfl]
   refine⟨List.pairwise_append.2 ⟨h1,List.pairwise_singleton _ _,fun a ha b hb=>?_⟩,by simp;omega,fun z=>?_⟩
   ·obtain⟨j,hj,_,e⟩:=(h2 a).1 ha
    rw[List.mem_singleton.1 hb];omega
   rw[List.mem_append,List.mem_singleton,h2]
   constructor
   ·rintro(⟨j,hj,he,e⟩|rfl)
    ·exact⟨j,by omega,he,e⟩
    exact⟨k,by omega,hx,rfl⟩
   rintro⟨j,hj,he,e⟩
   rcases Nat.lt_or_ge j k with h|h
   ·exact .inl ⟨j,h,he,e⟩
   have:j=k:=by omega
   subst this;exact .inr e
theorem Ye(bs:List Bool):Asc (YD bs)∧(YD bs).length≤bs.length∧∀z,z∈YD bs↔∃j:Nat,bs[j]?=some true∧z=(j:Int)+1:=by
 have h:=DE bs bs.length (Nat.le_refl _)
 rw[List.take_length] at h
 refine⟨h.1,h.2.1,fun z=>?_⟩
 rw[h.2.2]
 exact⟨fun⟨j,_,h1,h2⟩=>⟨j,h1,h2⟩,fun⟨j,h1,h2⟩=>⟨j,(List.getElem?_eq_some_iff.1 h1).1,h1,h2⟩⟩
open Classical in
noncomputable def up(P:List PR)(n:Int):List Bool:=(List.range P.length).map fun i:Nat=>decide (Rch P n ((i:Int)+1))
@[simp] theorem Ut(P:List PR)(n:Int):(up P n).length=P.length:=by simp[up]
open Classical in
theorem Zje{P:List PR}{n:Int}{j:Nat}{x:Bool}(h:(up P n)[j]?=some x):x=true↔Rch P n ((j:Int)+1):=by
 unfold up at h
 rw[List.getElem?_map] at h
 cases hj:(List.range P.length)[j]? with
 |none=>rw[hj] at h;cases h
 |some i =>
  rw[hj] at h
  have hl:=(List.getElem?_eq_some_iff.1 hj).2
  rw[List.getElem_range] at hl
  subst hl
  simp at h
  rw[←h,decide_eq_true_eq]
theorem up_eq{P:List PR}{n:Int}{bs:List Bool}(hl:bs.length=P.length)(h:∀(j:Nat)(x:Bool),bs[j]?=some x→(x=true↔Rch P n ((j:Int)+1))):bs=up P n :=
 C_ (by simpa using hl) fun j x y hx hy=>(h j x hx).trans (Zje hy).symm
theorem Um{P:List PR}(hP:PRk P)(n z:Int):z∈YD (up P n)↔Rch P n z:=by
 rw[(Ye _).2.2]
 constructor
 ·rintro⟨j,hj,rfl⟩;exact(Zje hj).1 rfl
 intro h
 have h1:=h.rng hP
 obtain⟨x,hx⟩:∃x,(up P n)[(z-1).toNat]?=some x:=⟨_,List.getElem?_eq_getElem (by rw[Ut];omega)⟩
 have hz:(((z-1).toNat:Nat):Int)+1=z:=by omega
 have h2:=(Zje hx).2 (by rw[hz];exact h)
 subst h2
 exact⟨_,hx,hz.symm⟩
def VA(P:List PR)(n i:Int)(T:List Int)(bs:List Bool):Prop:=bs.length=P.length∧∀(j:Nat)(x:Bool),bs[j]?=some x→(x=true↔((j:Int)+1=n∨∃(i':Nat)(r:PR),i<i'∧P[i']?=some r∧Rch P n ((i':Int)+1)∧(j:Int)+1∈r.ps)∨(Rch P n (i+1)∧(j:Int)+1∈T))
theorem abv_0{P:List PR}{n:Int}(hn:¬(1≤n∧n≤P.length)):VA P n (P.length-1) [] (List.replicate P.length false):=by
 refine⟨by simp,fun j x hx=>?_⟩
 have h1:=(List.getElem?_eq_some_iff.1 hx).1
 have h2:=List.eq_of_mem_replicate (List.mem_of_getElem? hx)
 rw[List.length_replicate] at h1
 subst h2
 refine⟨fun h=>(by cases h),fun h=>?_⟩
 rcases h with(h|⟨i',r,h3,h4,_⟩)|⟨_,h⟩
 ·omega
 ·have:=(List.getElem?_eq_some_iff.1 h4).1;omega
 cases h
theorem abv_1{P:List PR}{n:Int}(hn:1≤n∧n≤P.length):VA P n (P.length-1) [] ((List.replicate P.length false).set (n-1).toNat true):=by
 refine⟨by simp,fun j x hx=>?_⟩
 have h1:=(List.getElem?_eq_some_iff.1 hx).1
 rw[List.length_set,List.length_replicate] at h1
 have hno:¬∃(i':Nat)(r:PR),(P.length:Int)-1<i'∧P[i']?=some r∧Rch P n ((i':Int)+1)∧(j:Int)+1∈r.ps:=fun⟨i',r,h3,h4,_⟩=>by
  have:=(List.getElem?_eq_some_iff.1 h4).1;omega
 rw[List.getElem?_set] at hx
 split at hx
 ·rename_i he
  rw[if_pos (by rw[List.length_replicate];omega)] at hx
  cases hx
  exact⟨fun _=>.inl (.inl (by omega)),fun _=>rfl⟩
 rename_i he
 have h2:=List.eq_of_mem_replicate (List.mem_of_getElem? hx)
 subst h2
 refine⟨fun h=>(by cases h),fun h=>?_⟩
 rcases h with(h|h)|⟨_,h⟩
 ·omega
 ·exact absurd h hno
 cases h
theorem abv_i{P:List PR}{n:Int}{i:Nat}{T:List Int}{bs:List Bool}{x:Bool}{r:PR}(hP:PRk P)(h:VA P n i T bs)(hr:P[i]?=some r)(hx:bs[i]?=some x):x=true↔Rch P n ((i:Int)+1):=by
 have hl:=(List.getElem?_eq_some_iff.1 hr).1
 rw[h.2 i x hx]
 constructor
 ·rintro((e|⟨i',r',h1,h2,h3,h4⟩)|⟨h3,h4⟩)
  ·rw[e];exact .refl (by omega) (by omega)
  ·exact .step h3 h2 h4
  exact h3
 intro hk
 cases hk with
 |refl h1 h2=>exact .inl (.inl rfl)
 |@step i' r' u h1 h2 h3 =>
  have h4:=(hP _ _ h2).2 _ h3
  exact .inl (.inr ⟨i',r',by omega,h2,h1,h3⟩)
theorem Znb{P:List PR}{n:Int}{i k:Nat}{bs:List Bool}{r:PR}{u:Int}(hP:PRk P)(h:VA P n i (r.ps.take k) bs)(hr:P[i]?=some r)(hi:Rch P n ((i:Int)+1))(hu:r.ps[k]?=some u):VA P n i (r.ps.take (k+1)) (bs.set (u-1).toNat true):=by
 refine⟨by rw[List.length_set];exact h.1,fun j x hx=>?_⟩
 have hub:=(hP _ _ hr).2 u (List.mem_of_getElem? hu)
 have hl:=(List.getElem?_eq_some_iff.1 hr).1
 rw[List.getElem?_set] at hx
 rw[List.take_add_one,hu]
 split at hx
 ·rename_i he
  have e2:(j:Int)+1=u:=by omega
  split at hx
  ·cases hx
   exact⟨fun _=>.inr ⟨hi,by rw[e2];simp⟩,fun _=>rfl⟩
  cases hx
 rename_i he
 rw[h.2 j x hx]
 have e2:(j:Int)+1≠u:=by omega
 constructor
 ·rintro(h1|⟨h1,h2⟩)
  ·exact .inl h1
  exact .inr ⟨h1,List.mem_append_left _ h2⟩
 rintro(h1|⟨h1,h2⟩)
 ·exact .inl h1
 rcases List.mem_append.1 h2 with h2|h2
 ·exact .inr ⟨h1,h2⟩
 simp at h2;exact absurd h2 e2
theorem Zf9{P:List PR}{n:Int}{i:Nat}{T:List Int}{bs:List Bool}{r:PR}(h:VA P n i T bs)(hr:P[i]?=some r)(hT:T=r.ps∨¬Rch P n ((i:Int)+1)):VA P n ((i:Int)-1) [] bs:=by
 refine⟨h.1,fun j x hx=>?_⟩
 rw[h.2 j x hx]
 constructor
 ·rintro((e|⟨i',r',h1,h2,h3,h4⟩)|⟨h3,h4⟩)
  ·exact .inl (.inl e)
  ·exact .inl (.inr ⟨i',r',by omega,h2,h3,h4⟩)
  rcases hT with rfl|hT
  ·exact .inl (.inr ⟨i,r,by omega,hr,h3,h4⟩)
  exact absurd h3 hT
 rintro((e|⟨i',r',h1,h2,h3,h4⟩)|⟨h3,h4⟩)
 ·exact .inl (.inl e)
 ·by_cases he:i'=i
  ·subst he
   rw[hr] at h2;cases h2
   rcases hT with rfl|hT
   ·exact .inr ⟨h3,h4⟩
   exact absurd h3 hT
  exact .inl (.inr ⟨i',r',by omega,h2,h3,h4⟩)
 cases h4
theorem Zj3{P:List PR}{n i:Int}{k:Nat}{T:List Int}{bs:List Bool}{x:Bool}{r:PR}(hk:i=k)(hP:PRk P)(h:VA P n i T bs)(hr:P[k]?=some r)(hx:bs[k]?=some x):x=true↔Rch P n (i+1):=by
 subst hk;exact abv_i hP h hr hx
theorem Zib{P:List PR}{n i:Int}{k m:Nat}{bs:List Bool}{r:PR}{u:Int}(hk:i=k)(hP:PRk P)(h:VA P n i (r.ps.take m) bs)(hr:P[k]?=some r)(hi:Rch P n (i+1))(hu:r.ps[m]?=some u):VA P n i (r.ps.take (m+1)) (bs.set (u-1).toNat true):=by
 subst hk;exact Znb hP h hr hi hu
theorem Do{P:List PR}{n i:Int}{k:Nat}{T:List Int}{bs:List Bool}{r:PR}(hk:i=k)(h:VA P n i T bs)(hr:P[k]?=some r)(hT:T=r.ps∨¬Rch P n (i+1)):VA P n (i-1) [] bs:=by
 subst hk;exact Zf9 h hr hT
theorem Zmo{P:List PR}{n:Int}{bs:List Bool}{i:Int}(hi:i<0)(h:VA P n i [] bs):bs=up P n:=up_eq h.1 fun j x hx=>by
 have hl:=(List.getElem?_eq_some_iff.1 hx).1
 have hl2:=h.1
 rw[h.2 j x hx]
 constructor
 ·rintro((e|⟨i',r',h1,h2,h3,h4⟩)|⟨h3,h4⟩)
  ·rw[e];exact .refl (by omega) (by omega)
  ·exact .step h3 h2 h4
  cases h4
 intro hk
 generalize hz:(j:Int)+1=z at hk
 cases hk with
 |refl h1 h2=>exact .inl (.inl rfl)
 |@step i' r' u h1 h2 h3=>exact .inl (.inr ⟨i',r',by omega,h2,h1,h3⟩)
noncomputable def Y_(P:List PR)(x y:Int):Int:=D1 (YD (up P x)) (YD (up P y))
theorem Zpb{P:List PR}{x y:Int}{i:Nat}(h1:(up P x)[i]?=some true)(h2:(up P y)[i]?=some true)(h:∀j:Nat,i<j→(up P x)[j]?=some true→(up P y)[j]?=some true→False):Y_ P x y=(i:Int)+1:=by
 refine JN (Ye _).1 ((Ye _).2.2 _ |>.2 ⟨i,h1,rfl⟩) ((Ye _).2.2 _ |>.2 ⟨i,h2,rfl⟩) fun z hz hz2=>?_
 obtain⟨j,hj,rfl⟩:=((Ye _).2.2 z).1 hz
 obtain⟨j',hj',e⟩:=((Ye _).2.2 _).1 hz2
 have:j'=j:=by omega
 subst this
 rcases Nat.lt_or_ge i j' with hl|hl
 ·exact absurd (h j' hl hj hj') id
 omega
theorem Zqz{P:List PR}{x y:Int}(h:∀j:Nat,(up P x)[j]?=some true→(up P y)[j]?=some true→False):Y_ P x y=0:=by
 refine Us fun z hz hz2=>?_
 obtain⟨j,hj,rfl⟩:=((Ye _).2.2 z).1 hz
 obtain⟨j',hj',e⟩:=((Ye _).2.2 _).1 hz2
 have:j'=j:=by omega
 subst this
 exact h j' hj hj'
theorem Uz{P:List PR}(hP:PRk P)(x y:Int):(Y_ P x y=0∧∀z,Rch P x z→¬Rch P y z)∨(Rch P x (Y_ P x y)∧Rch P y (Y_ P x y)∧∀z,Rch P x z→Rch P y z→z≤Y_ P x y):=by
 rcases JP (l:=YD (up P x)) (m:=YD (up P y)) (Ye _).1 with⟨h1,h2⟩|⟨h1,h2,h3⟩
 ·exact .inl ⟨h1,fun z hz hz2=>h2 z ((Um hP x z).2 hz) ((Um hP y z).2 hz2)⟩
 exact .inr ⟨(Um hP x _).1 h1,(Um hP y _).1 h2,fun z hz hz2=>h3 z ((Um hP x z).2 hz) ((Um hP y z).2 hz2)⟩
theorem Cb{P:List PR}(hP:PRk P)(x y:Int):0≤Y_ P x y∧Y_ P x y≤P.length:=by
 rcases Uz hP x y with⟨h,_⟩|⟨h,_,_⟩
 ·omega
 have:=h.rng hP;omega
def ZB(L:List Bool)(n:Int):Bool:=decide (1≤n)&&(L[(n-1).toNat]?).getD false
theorem ZK{L:List Bool}{n:Int}{k:Nat}{x:Bool}(hn:n=(k:Int)+1)(h:L[k]?=some x):ZB L n=x:=by
 subst hn
 unfold ZB
 rw[show((k:Int)+1-1).toNat=k by omega,h,decide_eq_true (by omega)];rfl
theorem YZ{L:List Bool}{n:Int}(h:¬(1≤n∧n≤L.length)):ZB L n=false:=by
 unfold ZB
 by_cases h1:1≤n
 ·rw[List.getElem?_eq_none (by omega),Option.getD_none,Bool.and_false]
 rw[decide_eq_false h1];rfl
theorem YT{L:List Bool}{n:Int}(h:ZB L n=true):1≤n∧n≤L.length:=by
 refine Decidable.by_contra fun hn=>?_
 rw[YZ hn] at h;cases h
def Prs(P:List PR)(L:List Bool)(x y:Int)(bs:List Bool):Prop:=bs.length=P.length∧∀(j:Nat)(b:Bool),bs[j]?=some b→(b=true↔∃u v,ZB L u=true∧ZB L v=true∧u≤v∧(u<x∨u=x∧v<y)∧Y_ P u v=(j:Int)+1)
theorem prs_0{P:List PR}{L:List Bool}:Prs P L 1 1 (List.replicate P.length false):=by
 refine⟨by simp,fun j b hb=>?_⟩
 have h2:=List.eq_of_mem_replicate (List.mem_of_getElem? hb)
 subst h2
 refine⟨fun h=>(by cases h),fun⟨u,v,h1,h2,h3,h4,_⟩=>?_⟩
 have:=YT h1
 omega
theorem Zlu{P:List PR}{L:List Bool}{x y:Int}{bs:List Bool}(hP:PRk P)(h:Prs P L x y bs)(hx:ZB L x=true)(hy:ZB L y=true)(hxy:x≤y)(hc:0<Y_ P x y):Prs P L x (y+1) (bs.set (Y_ P x y-1).toNat true):=by
 refine⟨by rw[List.length_set];exact h.1,fun j b hb=>?_⟩
 have hcr:=Cb hP x y
 have hl:=h.1
 rw[List.getElem?_set] at hb
 split at hb
 ·rename_i he
  split at hb
  ·cases hb
   exact⟨fun _=>⟨x,y,hx,hy,hxy,by omega,by omega⟩,fun _=>rfl⟩
  cases hb
 rename_i he
 rw[h.2 j b hb]
 constructor
 ·rintro⟨u,v,h1,h2,h3,h4,h5⟩;exact⟨u,v,h1,h2,h3,by omega,h5⟩
 rintro⟨u,v,h1,h2,h3,h4,h5⟩
 by_cases hq:u=x∧v=y
 ·obtain⟨rfl,rfl⟩:=hq;omega
 exact⟨u,v,h1,h2,h3,by omega,h5⟩
theorem CP{P:List PR}{L:List Bool}{x y:Int}{bs:List Bool}(h:Prs P L x y bs)(hn:ZB L y=false∨¬0<Y_ P x y):Prs P L x (y+1) bs:=by
 refine⟨h.1,fun j b hb=>?_⟩
 rw[h.2 j b hb]
 constructor
 ·rintro⟨u,v,h1,h2,h3,h4,h5⟩;exact⟨u,v,h1,h2,h3,by omega,h5⟩
 rintro⟨u,v,h1,h2,h3,h4,h5⟩
 by_cases hq:u=x∧v=y
 ·obtain⟨rfl,rfl⟩:=hq
  rcases hn with hn|hn
  ·rw[hn] at h2;cases h2
  omega
 exact⟨u,v,h1,h2,h3,by omega,h5⟩
theorem Vx{P:List PR}{L:List Bool}{x y:Int}{bs:List Bool}(h:Prs P L x y bs)(hn:(L.length:Int)<y∨ZB L x=false):Prs P L (x+1) (x+1) bs:=by
 refine⟨h.1,fun j b hb=>?_⟩
 rw[h.2 j b hb]
 constructor
 ·rintro⟨u,v,h1,h2,h3,h4,h5⟩;exact⟨u,v,h1,h2,h3,by omega,h5⟩
 rintro⟨u,v,h1,h2,h3,h4,h5⟩
 refine⟨u,v,h1,h2,h3,?_,h5⟩
 have hv:=YT h2
 by_cases hu:u=x
 ·subst hu
  rcases hn with hn|hn
  ·omega
  rw[hn] at h1;cases h1
 omega
open Classical in
noncomputable def Y3(P:List PR)(L:List Bool):List Bool:=(List.range P.length).map fun i:Nat=>decide (∃u v,ZB L u=true∧ZB L v=true∧u≤v∧Y_ P u v=(i:Int)+1)
@[simp] theorem Jc(P:List PR)(L:List Bool):(Y3 P L).length=P.length:=by simp[Y3]
open Classical in
theorem DM{P:List PR}{L:List Bool}{j:Nat}{x:Bool}(h:(Y3 P L)[j]?=some x):x=true↔∃u v,ZB L u=true∧ZB L v=true∧u≤v∧Y_ P u v=(j:Int)+1:=by
 unfold Y3 at h
 rw[List.getElem?_map] at h
 cases hj:(List.range P.length)[j]? with
 |none=>rw[hj] at h;cases h
 |some i =>
  rw[hj] at h
  have hl:=(List.getElem?_eq_some_iff.1 hj).2
  rw[List.getElem_range] at hl
  subst hl
  simp only[Option.map_some,Option.some.injEq] at h
  rw[←h];exact decide_eq_true_iff
theorem Zm3{P:List PR}{L:List Bool}{x y:Int}{bs:List Bool}(h:Prs P L x y bs)(hx:(L.length:Int)<x):bs=Y3 P L:=by
 refine C_ (by rw[Jc];exact h.1) fun j b b' hb hb'=>?_
 rw[h.2 j b hb,DM hb']
 constructor
 ·rintro⟨u,v,h1,h2,h3,h4,h5⟩;exact⟨u,v,h1,h2,h3,h5⟩
 rintro⟨u,v,h1,h2,h3,h5⟩
 have:=YT h1
 exact⟨u,v,h1,h2,h3,by omega,h5⟩
theorem Zjg{P:List PR}(hP:PRk P)(L:List Bool)(z:Int):ZB (Y3 P L) z=true↔0<z∧∃u v,ZB L u=true∧ZB L v=true∧u≤v∧Y_ P u v=z:=by
 constructor
 ·intro h
  have h1:=YT h
  obtain⟨x,hx⟩:∃x,(Y3 P L)[(z-1).toNat]?=some x:=⟨_,List.getElem?_eq_getElem (by omega)⟩
  have hz:z=(((z-1).toNat:Nat):Int)+1:=by omega
  rw[ZK hz hx] at h
  obtain⟨u,v,h2,h3,h4,h5⟩:=(DM hx).1 h
  exact⟨by omega,u,v,h2,h3,h4,by omega⟩
 rintro⟨h0,u,v,h2,h3,h4,h5⟩
 have hc:=Cb hP u v
 obtain⟨x,hx⟩:∃x,(Y3 P L)[(z-1).toNat]?=some x:=⟨_,List.getElem?_eq_getElem (by rw[Jc];omega)⟩
 have hz:z=(((z-1).toNat:Nat):Int)+1:=by omega
 rw[ZK hz hx]
 exact(DM hx).2 ⟨u,v,h2,h3,h4,by omega⟩
theorem Zex(bs:List Bool)(z:Int):z∈YD bs↔ZB bs z=true:=by
 rw[(Ye bs).2.2]
 constructor
 ·rintro⟨j,hj,rfl⟩;exact ZK rfl hj
 intro h
 have h1:=YT h
 obtain⟨x,hx⟩:∃x,bs[(z-1).toNat]?=some x:=⟨_,List.getElem?_eq_getElem (by omega)⟩
 have hz:z=(((z-1).toNat:Nat):Int)+1:=by omega
 rw[ZK hz hx] at h
 subst h
 exact⟨_,hx,hz⟩
end Go.V
namespace Go.Proofs.YtpebgkkmgffmaaaGreatDoor
open Go Go.V
set_option maxHeartbeats 8000000
set_option maxRecDepth 8192
variable{g w:World}{L:List HP}
theorem Qs(cap:Int)(P:List PR)(a:Option Addr)(c:Nat)(B:List Bool)(b:Option Addr)(d:Nat)(n:Int)(hB:B.length≤1000)(Z:St g (Sh 4 1 (Zk B) b d::L) w) :
  Zr g L 296 [.agg #[.I cap,.slice a (ZL P).length c,.slice b (Zk B).length d],.I n] w fun rV=>rV (.bool (ZB B n)) [Sh 4 1 (Zk B) b d]:=by
 refine Sp.en Tryz.func296 ?_
 have _:=hB
 have hbl:=ZC B
 refine Zsp fun b1 w Z=>?_
 by_cases cg1:1≤n
 ·refine Zsf 7 (.bool true) (congrArg Value.bool (decide_eq_true cg1)) ?_
  refine Sz ?_
  by_cases cg2:n≤(List.length (Zk B):Int)
  ·refine Zsf 14 (.bool true) (congrArg Value.bool (decide_eq_true cg2)) ?_
   obtain⟨x,hx⟩:∃x,B[(n-1).toNat]?=some x:=⟨_,List.getElem?_eq_getElem (by omega)⟩
   refine Sz ?_
   refine Zsq rfl rfl (i:=n-1) ((n-1).toNat) el_73 rfl rfl (by omega) (by omega) (Z.rdS 1 rfl (Zz hx)).1 ?_
   refine Sz ?_
   refine Zsv 1 [.bool x] rfl (by exact(Z.rdS 1 rfl (Zz hx)).2 0 _ rfl) ?_
   refine Sz ?_
   replace Z:=(Z.sel 1 [] rfl)
   first|exact⟨congrArg Value.bool (ZK (by omega) hx).symm,Z⟩|exact⟨congrArg Value.bool (YZ (by omega)).symm,Z⟩
  refine Zsf 14 (.bool false) (congrArg Value.bool (decide_eq_false cg2)) ?_
  refine Sz ?_
  replace Z:=(Z.sel 1 [] rfl)
  first|exact⟨congrArg Value.bool (ZK (by omega) hx).symm,Z⟩|exact⟨congrArg Value.bool (YZ (by omega)).symm,Z⟩
 refine Zsf 7 (.bool false) (congrArg Value.bool (decide_eq_false cg1)) ?_
 refine Sz ?_
 replace Z:=(Z.sel 1 [] rfl)
 first|exact⟨congrArg Value.bool (ZK (by omega) hx).symm,Z⟩|exact⟨congrArg Value.bool (YZ (by omega)).symm,Z⟩
theorem HI(cap:Int)(P:List PR)(a:Option Addr)(c:Nat)(B:List Bool)(b:Option Addr)(d:Nat)(n:Int)(hP:PRk P)(hl:P.length≤1000)(Z:St g (Sh 72 1 (ZL P) a c::ZE Qg P::L) w) :
  Zr g L 327 [.agg #[.I cap,.slice a (ZL P).length c,.slice b (Zk B).length d],.I n] w fun rV=>∃(a2:Option Addr)(c2:Nat),rV (.slice a2 (Zk (up P n)).length c2) [Zp 4 1 (Zk (up P n)) a2 c2,Sh 72 1 (ZL P) a c,ZE Qg P]:=by
 refine Sp.en Tryz.func327 ?_
 have _:=hl
 refine Zsp fun b1 w Z=>?_
 have hel:=Cv P
 refine Sz ?_
 refine Zth rfl rfl (v:=(List.length (ZL P):Int)) (v':=(List.length (ZL P):Int)) (P.length) (P.length) el_73 Z rfl (by omega) rfl (by omega) (by omega) (Rm.of (by omega) (by decide)) (fun b2 w Z=>?_)
 replace Z:=Z.z
 rw[Qh] at Z
 replace Z:St g (Zp 4 1 (Zk (List.replicate (List.length P) false)) (some ⟨b2,0,none⟩) (List.length P)::Zq b1 #[.I cap,.slice a (ZL P).length c,.slice b (Zk B).length d] 80::Sh 72 1 (ZL P) a c::ZE Qg P::L) w:=Z
 refine Sz ?_
 refine Ztd 5 rfl (fun j=>?_)
 refine Zsx 19 rfl (Zy (dd _) (dd _))<|Zs9<|Ztc [2,4,5] [] [_] Z (fun vs jS=>∃(bs:List Bool),vs=[]∧jS [Zp 4 1 (Zk bs) (some ⟨b2,0,none⟩) (List.length P)]∧(VA P n (P.length-1) [] bs)) rfl ?_ ?_
 ·refine Zsr rfl (fun cd1=>?_) (fun cd1=>?_)
  ·have h0:(List.replicate P.length false)[(n-1).toNat]?=some false:=by rw[List.getElem?_replicate,if_pos (by omega)]
   refine Sz ?_
   refine Zsq rfl rfl (i:=n-1) ((n-1).toNat) el_73 rfl rfl (by omega) (by omega) (Z.rdO 0 rfl (Zz h0)).1 ?_
   refine Zs5 rfl rfl rfl 0 ((n-1).toNat) 0 [.bool false] (Zk ((List.replicate P.length false).set (n-1).toNat true)) Z rfl (Zz h0) rfl rfl rfl rfl rfl (XS _ _ _) (fun w Z=>?_)
   replace Z:=Z.z
   refine Sz ?_
   exact⟨rfl,(List.replicate P.length false).set (n-1).toNat true,rfl,Z,(abv_1 cd1)⟩
  refine Sz ?_
  exact⟨rfl,List.replicate P.length false,rfl,Z,(abv_0 cd1)⟩
 rintro _ w j ⟨bs,rfl,Z,hA⟩
 replace Z:=Z.z
 refine Sz ?_
 refine Zst [2,4,5] [6] (fun kM vs jS=>∃(i:Int)(bs:List Bool),vs=[.I i]∧jS [Zp 4 1 (Zk bs) (some ⟨b2,0,none⟩) (List.length P)]∧(-1≤i∧i<P.length)∧(VA P n i [] bs)∧((i+1).toNat)=kM) rfl ⟨(P.length:Int)-1,bs,rfl,Z,(by omega),hA,rfl⟩ ?_
 rintro _ _ w j ⟨i,bs,rfl,Z,hi,hA,rfl⟩
 replace Z:=Z.z
 refine Sz ?_
 refine Zsr rfl (fun cd1=>?_) (fun cd1=>?_)
 ·refine Ztw<|Zsw<|Ztc [2,4,5,6,27,28] [] [_] Z (fun vs jS=>∃(bt:List Bool),vs=[]∧jS [Zp 4 1 (Zk bt) (some ⟨b2,0,none⟩) (List.length P)]∧(VA P n (i-1) [] bt)) rfl ?_ ?_
  ·obtain⟨k,hk⟩:∃k:Nat,i=(k:Int):=⟨i.toNat,by omega⟩;obtain⟨r,hr⟩:∃r,P[k]?=some r:=⟨_,List.getElem?_eq_getElem (by omega)⟩;have hrl:=(hP k r hr).1;have hru:=(hP k r hr).2;have hrp:=Zf r.ps
   refine Sz ?_
   refine Zst [2,4,5,6,27,28] [7] (fun kM vs jS=>∃(m:Nat)(bt:List Bool),vs=[.I (m:Int)]∧jS [Zp 4 1 (Zk bt) (some ⟨b2,0,none⟩) (List.length P)]∧(m≤r.ps.length)∧(VA P n i (r.ps.take m) bt)∧(r.ps.length-m)=kM) rfl ⟨0,bs,rfl,Z,(Nat.zero_le _),hA,rfl⟩ ?_
   rintro _ _ w j ⟨m,bt,rfl,Z,hm,hB,rfl⟩
   replace Z:=Z.z
   have hbl:=hB.1;have hbo:=ZC bt;obtain⟨x,hx⟩:∃x,bt[k]?=some x:=⟨_,List.getElem?_eq_getElem (by omega)⟩
   refine Sz ?_
   refine Zsq rfl rfl (i:=i) (k) el_73 rfl rfl (by omega) (by omega) (Z.rdO 0 rfl (Zz hx)).1 ?_
   refine Zsv 1 [.bool x] rfl (by exact(Z.rdO 0 rfl (Zz hx)).2 0 _ rfl) ?_
   refine Sz ?_
   by_cases cg1:x=true
   ·refine Zsf 35 (.bool true) (congrArg Value.bool cg1) ?_
    refine Sz ?_
    refine Zsq rfl rfl (i:=i) (k) el_78 rfl rfl (by omega) (by omega) (Z.rdS 2 rfl (DU hr)).1 ?_
    refine Sz ?_
    refine Zsv 1 [.slice r.a (Ze r.ps).length r.c] rfl (by exact(Z.rdS 2 rfl (DU hr)).2 0 _ rfl) ?_
    as_aux_lemma =>
    refine Sz ?_
    refine Zsr rfl (fun cd2=>?_) (fun cd2=>?_)
    ·replace Z:St g (Sh 3 1 (Ze r.ps) r.a r.c::Zp 4 1 (Zk bt) (some ⟨b2,0,none⟩) (List.length P)::Zq b1 #[.I cap,.slice a (ZL P).length c,.slice b (Zk B).length d] 80::Sh 72 1 (ZL P) a c::ZE Qg P::L) w:=Z.shsGet 3 rfl (List.mem_of_getElem? hr)
     refine Sz ?_
     refine Zsq rfl rfl (i:=i) (k) el_78 rfl rfl (by omega) (by omega) (Z.rdS 3 rfl (DU hr)).1 ?_
     refine Zsv 1 [.slice r.a (Ze r.ps).length r.c] rfl (by exact(Z.rdS 3 rfl (DU hr)).2 0 _ rfl) ?_
     obtain⟨u,hu⟩:∃u,r.ps[m]?=some u:=⟨_,List.getElem?_eq_getElem (by omega)⟩;have hub:=hru u (List.mem_of_getElem? hu);obtain⟨y,hy⟩:∃y,bt[(u-1).toNat]?=some y:=⟨_,List.getElem?_eq_getElem (by omega)⟩
     refine Sz ?_
     refine Zsq rfl rfl (i:=(m:Int)) (m) el_72 rfl rfl (by omega) (by omega) (Z.rdS 0 rfl (Zc hu)).1 ?_
     refine Zsv 1 [.I u] rfl (by exact(Z.rdS 0 rfl (Zc hu)).2 0 _ rfl) ?_
     refine Sz ?_
     refine Zsq rfl rfl (i:=u-1) ((u-1).toNat) el_73 rfl rfl (by omega) (by omega) (Z.rdO 1 rfl (Zz hy)).1 ?_
     refine Zs5 rfl rfl rfl 1 ((u-1).toNat) 0 [.bool y] (Zk (bt.set (u-1).toNat true)) Z rfl (Zz hy) rfl rfl rfl rfl rfl (XS _ _ _) (fun w Z=>?_)
     replace Z:=Z.z
     refine Sz ?_
     exact⟨_,by omega,rfl,m+1,bt.set (u-1).toNat true,rfl,(Z.sel 1 [] rfl),(by omega),(Zib hk hP hB hr ((Zj3 hk hP hB hr hx).1 (by simpa using cg1)) hu),rfl⟩
    refine Sz ?_
    exact⟨rfl,bt,rfl,Z,(Do hk hB hr (.inl (List.take_of_length_le (by omega))))⟩
   refine Zsf 35 (.bool false) (congrArg Value.bool (Bool.eq_false_iff.2 cg1)) ?_
   as_aux_lemma =>
   refine Sz ?_
   exact⟨rfl,bt,rfl,Z,(Do hk hB hr (.inr (fun h=>cg1 ((Zj3 hk hP hB hr hx).2 h))))⟩
  rintro _ w j ⟨bt,rfl,Z,hB⟩
  replace Z:=Z.z
  refine Sz ?_
  exact⟨_,by omega,rfl,i-1,bt,rfl,Z,(by omega),hB,rfl⟩
 refine Zui<|Zsw<|WC.region ?_
 have e1:=Zmo (i:=i) (by omega) hA;subst e1;have hul:=Ut P n;have hbl:=ZC (up P n)
 refine Zsf 5 (.slice (some ⟨b2,0,none⟩) (Zk (up P n)).length P.length) (congrArg (fun m=>Value.slice (some ⟨b2,0,none⟩) m P.length) (by omega)) ?_
 refine Sz ?_
 replace Z:=(Z.sel 2 [0] rfl)
 exact⟨_,_,rfl,Z⟩
theorem CK(bs:List Bool)(a:Option Addr)(c:Nat)(hl:bs.length≤1000000)(Z:St g (Sh 4 1 (Zk bs) a c::L) w) :
  Zr g L 66 [.slice a (Zk bs).length c] w fun rV=>∃(a2:Option Addr)(c2:Nat),rV (.slice a2 (Ze (YD bs)).length c2) [Zp 3 1 (Ze (YD bs)) a2 c2,Sh 4 1 (Zk bs) a c]:=by
 refine Sp.en Tryz.func66 ?_
 have _:=hl
 have hbl:=ZC bs
 replace Z:=Z.nil_ 3 1
 refine Sz ?_
 refine Zst [0,2] [3,4] (fun kM vs jS=>∃(k:Nat)(out:List Int)(u:Option Addr)(d:Nat),vs=[.slice u (Ze out).length d,.I (k:Int)]∧jS [Zp 3 1 (Ze out) u d]∧(k≤bs.length)∧(out=YD (bs.take k))∧(out.length≤k)∧(bs.length-k)=kM) rfl ⟨0,[],none,0,rfl,Z,(Nat.zero_le _),rfl,(Nat.le_refl _),rfl⟩ ?_
 rintro _ _ w j ⟨k,out,u,d,rfl,Z,hk,ho,hol,rfl⟩
 replace Z:=Z.z
 have hbl:=ZC bs
 refine Sz ?_
 refine Zsr rfl (fun cd1=>?_) (fun cd1=>?_)
 ·obtain⟨x,hx⟩:∃x,bs[k]?=some x:=⟨_,List.getElem?_eq_getElem (by omega)⟩;have hol2:=Zf out
  refine Sz ?_
  refine Zsq rfl rfl (i:=(k:Int)) (k) el_73 rfl rfl (by omega) (by omega) (Z.rdS 1 rfl (Zz hx)).1 ?_
  refine Zsv 1 [.bool x] rfl (by exact(Z.rdS 1 rfl (Zz hx)).2 0 _ rfl) ?_
  refine Sz ?_
  refine Ztl (fun cd2=>?_) fun cd2=>?_
  ·refine Zs1 rfl rfl (Ze [(k:Int)+1]) el_72 Z (by exact⟨rfl,rfl⟩) (YR _) rfl (Nat.le_of_ble_eq_true rfl) (fun b1 w Z=>?_)
   refine Zs3 rfl rfl 1 (Ze (out++[(k:Int)+1])) el_72 Z rfl (Z.srcO 0 rfl) (XO _ _).symm (Rm.of (by first|omega|(simp<;>omega)) (by decide)) rfl rfl (fun a1 c1 w Z=>?_)
   replace Z:=Z.z
   refine Sz ?_
   exact⟨_,by omega,rfl,k+1,out++[(k:Int)+1],a1,c1,rfl,(Z.sel 1 [] rfl),(by omega),(by rw[ho,Ur hx,if_pos cd2]),(by simp;omega),rfl⟩
  exact⟨_,by omega,rfl,k+1,out,u,d,rfl,Z,(by omega),(by rw[ho,Ur hx,if_neg (by rw[cd2];decide),List.append_nil]),(by omega),rfl⟩
 refine Sz ?_
 have e1:=ho.trans (congrArg YD (List.take_of_length_le (i:=k) (l:=bs) (by omega)));subst e1;exact⟨_,_,rfl,Z⟩
theorem UE(cap:Int)(P:List PR)(a:Option Addr)(c:Nat)(B:List Bool)(b:Option Addr)(d:Nat)(x y:Int)(hP:PRk P)(hl:P.length≤1000)(Z:St g (Sh 72 1 (ZL P) a c::ZE Qg P::L) w) :
  Zr g L 196 [.agg #[.I cap,.slice a (ZL P).length c,.slice b (Zk B).length d],.I x,.I y] w fun rV=>rV (.I (Y_ P x y)) [Sh 72 1 (ZL P) a c,ZE Qg P]:=by
 refine Sp.en Tryz.func196 ?_
 have _:=hl
 have _:=hP
 refine Zsp fun b1 w Z=>?_
 refine Zsg [([0,1,3,4],some (2,[3,4])),([],some (5,[])),([6,7],none)] ?_
 refine Qd fun w Z=>?_
 refine Zsz (HI cap _ _ _ B b d x (by assumption) (by omega) (Z.sel 3 [1,1,0] rfl)) fun w a1 c1 Z=>?_
 refine Qd fun w Z=>?_
 refine Zsz (HI cap _ _ _ B b d y (by assumption) (by omega) (Z.sel 3 [1,1,0] rfl)) fun w a2 c2 Z=>?_
 refine Qd fun w Z=>?_
 have hu1:=Ut P x;have hu2:=Ut P y;have hb1:=ZC (up P x);have hb2:=ZC (up P y)
 refine Sz ?_
 refine Zst [7,8] [9] (fun kM vs jS=>∃(i:Int),vs=[.I i]∧jS []∧(-1≤i∧i<P.length)∧(∀j:Nat,i<j→(up P x)[j]?=some true→(up P y)[j]?=some true→False)∧((i+1).toNat)=kM) rfl ⟨((Zk (up P x)).length:Int)-1,rfl,Z,(by omega),(fun j hj h1 _=>by have:=(List.getElem?_eq_some_iff.1 h1).1;omega),rfl⟩ ?_
 rintro _ _ w j ⟨i,rfl,Z,hi,hn,rfl⟩
 replace Z:=Z.z
 have hu1:=Ut P x;have hu2:=Ut P y;have hb1:=ZC (up P x);have hb2:=ZC (up P y)
 refine Sz ?_
 refine Zsr rfl (fun cd1=>?_) (fun cd1=>?_)
 ·obtain⟨k,hk⟩:∃k:Nat,i=(k:Int):=⟨i.toNat,by omega⟩;obtain⟨u,hu⟩:∃u,(up P x)[k]?=some u:=⟨_,List.getElem?_eq_getElem (by omega)⟩;obtain⟨v,hv⟩:∃v,(up P y)[k]?=some v:=⟨_,List.getElem?_eq_getElem (by omega)⟩
  refine Sz ?_
  refine Zsq rfl rfl (i:=i) (k) el_73 rfl rfl (by omega) (by omega) (Z.rdO 3 rfl (Zz hu)).1 ?_
  refine Zsv 1 [.bool u] rfl (by exact(Z.rdO 3 rfl (Zz hu)).2 0 _ rfl) ?_
  refine Sz ?_
  by_cases cg1:u=true
  ·refine Zsf 27 (.bool true) (congrArg Value.bool cg1) ?_
   refine Sz ?_
   refine Zsq rfl rfl (i:=i) (k) el_73 rfl rfl (by omega) (by omega) (Z.rdO 0 rfl (Zz hv)).1 ?_
   refine Sz ?_
   refine Zsv 1 [.bool v] rfl (by exact(Z.rdO 0 rfl (Zz hv)).2 0 _ rfl) ?_
   as_aux_lemma =>
   refine Sz ?_
   refine Ztl (fun cd2=>?_) fun cd2=>?_
   ·replace Z:=(Z.sel 5 [1,1] rfl)
    exact⟨congrArg (Value.int .i64) ((Zpb (i:=k) (by rw[hu,cg1]) (by rw[hv,cd2]) (fun j hj=>hn j (by omega))).trans (by omega)).symm,Z⟩
   exact⟨_,by omega,rfl,i-1,rfl,Z,(by omega),(fun j hj h1 h2=>by
    rcases Int.lt_or_le i j with h|h
    ·exact hn j h h1 h2
    have:j=k:=by omega
    subst this
    rw[hu] at h1;rw[hv] at h2;cases h1;cases h2
    first|exact absurd cd2 (by decide)|exact cg1 rfl),rfl⟩
  refine Zsf 27 (.bool false) (congrArg Value.bool (Bool.eq_false_iff.2 cg1)) ?_
  as_aux_lemma =>
  refine Sz ?_
  exact⟨_,by omega,rfl,i-1,rfl,Z,(by omega),(fun j hj h1 h2=>by
   rcases Int.lt_or_le i j with h|h
   ·exact hn j h h1 h2
   have:j=k:=by omega
   subst this
   rw[hu] at h1;rw[hv] at h2;cases h1;cases h2
   first|exact absurd cd2 (by decide)|exact cg1 rfl),rfl⟩
 refine Sz ?_
 replace Z:=(Z.sel 5 [1,1] rfl)
 exact⟨congrArg (Value.int .i64) (Zqz (fun j=>hn j (by omega))).symm,Z⟩
theorem CG(cap:Int)(P:List PR)(a:Option Addr)(c:Nat)(B:List Bool)(b:Option Addr)(d:Nat)(hP:PRk P)(hl:P.length≤1000)(hB:B.length=P.length)(Z:St g (Sh 72 1 (ZL P) a c::ZE Qg P::Sh 4 1 (Zk B) b d::L) w) :
  Zr g L 67 [.agg #[.I cap,.slice a (ZL P).length c,.slice b (Zk B).length d]] w fun rV=>∃(a2:Option Addr)(c2:Nat),rV (.slice a2 (Zk (Y3 P B)).length c2) [Zp 4 1 (Zk (Y3 P B)) a2 c2,Sh 72 1 (ZL P) a c,ZE Qg P,Sh 4 1 (Zk B) b d]:=by
 refine Sp.en Tryz.func67 ?_
 have _:=hB
 have _:=hl
 refine Zsp fun b1 w Z=>?_
 have hel:=Cv P;have hbB:=ZC B
 refine Sz ?_
 refine Zth rfl rfl (v:=(List.length (ZL P):Int)) (v':=(List.length (ZL P):Int)) (P.length) (P.length) el_73 Z rfl (by omega) rfl (by omega) (by omega) (Rm.of (by omega) (by decide)) (fun b2 w Z=>?_)
 replace Z:=Z.z
 rw[Qh] at Z
 replace Z:St g (Zp 4 1 (Zk (List.replicate (List.length P) false)) (some ⟨b2,0,none⟩) (List.length P)::Zq b1 #[.I cap,.slice a (ZL P).length c,.slice b (Zk B).length d] 80::Sh 72 1 (ZL P) a c::ZE Qg P::Sh 4 1 (Zk B) b d::L) w:=Z
 refine Sz ?_
 refine Zst [1,2,3] [4] (fun kM vs jS=>∃(x:Int)(bs:List Bool),vs=[.I x]∧jS [Zp 4 1 (Zk bs) (some ⟨b2,0,none⟩) (List.length P)]∧(1≤x∧x≤P.length+1)∧(Prs P B x x bs)∧(((P.length:Int)+1-x).toNat)=kM) rfl ⟨1,List.replicate P.length false,rfl,Z,(by omega),prs_0,rfl⟩ ?_
 rintro _ _ w j ⟨x,bs,rfl,Z,hx,hA,rfl⟩
 replace Z:=Z.z
 refine Sz ?_
 refine Zsr rfl (fun cd1=>?_) (fun cd1=>?_)
 ·refine Ztw<|Zsw<|Ztc [1,2,3,4,11,12,13,14] [] [_] Z (fun vs jS=>∃(bt:List Bool),vs=[]∧jS [Zp 4 1 (Zk bt) (some ⟨b2,0,none⟩) (List.length P)]∧(Prs P B (x+1) (x+1) bt)) rfl ?_ ?_
  ·refine Sz ?_
   refine Zst [1,2,3,4,11,12,13,14,17] [5] (fun kM vs jS=>∃(y:Int)(bt:List Bool),vs=[.I y]∧jS [Zp 4 1 (Zk bt) (some ⟨b2,0,none⟩) (List.length P)]∧(x≤y∧y≤P.length+1)∧(Prs P B x y bt)∧(((P.length:Int)+1-y).toNat)=kM) rfl ⟨x,bs,rfl,Z,(by omega),hA,rfl⟩ ?_
   rintro _ _ w j ⟨y,bt,rfl,Z,hy,hA,rfl⟩
   replace Z:=Z.z
   refine Sz ?_
   by_cases cg1:y≤(List.length P:Int)
   ·refine Zsf 22 (.bool true) (congrArg Value.bool (decide_eq_true cg1)) ?_
    obtain⟨u,hu⟩:∃u,B[(x-1).toNat]?=some u:=⟨_,List.getElem?_eq_getElem (by omega)⟩
    refine Sz ?_
    refine Zsq rfl rfl (i:=x-1) ((x-1).toNat) el_73 rfl rfl (by omega) (by omega) (Z.rdS 4 rfl (Zz hu)).1 ?_
    refine Sz ?_
    refine Zsv 1 [.bool u] rfl (by exact(Z.rdS 4 rfl (Zz hu)).2 0 _ rfl) ?_
    as_aux_lemma =>
    refine Sz ?_
    refine Ztm rfl (fun cd2=>?_) (fun cd2=>?_)
    ·obtain⟨v,hv⟩:∃v,B[(y-1).toNat]?=some v:=⟨_,List.getElem?_eq_getElem (by omega)⟩
     refine Sz ?_
     refine Zsq rfl rfl (i:=y-1) ((y-1).toNat) el_73 rfl rfl (by omega) (by omega) (Z.rdS 4 rfl (Zz hv)).1 ?_
     refine Zsv 1 [.bool v] rfl (by exact(Z.rdS 4 rfl (Zz hv)).2 0 _ rfl) ?_
     refine Sz ?_
     refine Ztm rfl (fun cd3=>?_) (fun cd3=>?_)
     ·have hcr:=Cb hP x y;have hbl:=hA.1;have hbl2:=ZC bt
      refine Sz ?_
      refine Zse (UE cap _ _ _ B b d x y (by assumption) (by omega) (Z.sel 4 [2,2,0,0] rfl)) fun w Z=>?_
      refine Zsr rfl (fun cd4=>?_) (fun cd4=>?_)
      ·obtain⟨z,hw⟩:∃z,bt[(Y_ P x y-1).toNat]?=some z:=⟨_,List.getElem?_eq_getElem (by omega)⟩
       refine Sz ?_
       refine Zsq rfl rfl (i:=(Y_ P x y)-1) ((Y_ P x y-1).toNat) el_73 rfl rfl (by omega) (by omega) (Z.rdO 2 rfl (Zz hw)).1 ?_
       refine Zs5 rfl rfl rfl 2 ((Y_ P x y-1).toNat) 0 [.bool z] (Zk (bt.set (Y_ P x y-1).toNat true)) Z rfl (Zz hw) rfl rfl rfl rfl rfl (XS _ _ _) (fun w Z=>?_)
       replace Z:=Z.z
       refine Sz ?_
       exact⟨_,by omega,rfl,y+1,bt.set (Y_ P x y-1).toNat true,rfl,(Z.sel 4 [2,2,0,0] rfl),(by omega),(Zlu hP hA (by rw[ZK (by omega) hu];assumption) (by rw[ZK (by omega) hv];assumption) hy.1 cd4),rfl⟩
      refine Sz ?_
      exact⟨_,by omega,rfl,y+1,bt,rfl,(Z.sel 4 [2,2,0,0] rfl),(by omega),(CP hA (.inr cd4)),rfl⟩
     refine Sz ?_
     exact⟨_,by omega,rfl,y+1,bt,rfl,Z,(by omega),(CP hA (.inl (by rw[ZK (by omega) hv];simpa using cd3))),rfl⟩
    refine Sz ?_
    exact⟨rfl,bt,rfl,Z,(Vx hA (.inr (by rw[ZK (by omega) hu];simpa using cd2)))⟩
   refine Zsf 22 (.bool false) (congrArg Value.bool (decide_eq_false cg1)) ?_
   as_aux_lemma =>
   refine Sz ?_
   exact⟨rfl,bt,rfl,Z,(Vx hA (.inl (by omega)))⟩
  rintro _ w j ⟨bt,rfl,Z,hC⟩
  replace Z:=Z.z
  refine Sz ?_
  exact⟨_,by omega,rfl,x+1,bt,rfl,Z,(by omega),hC,rfl⟩
 have e1:=Zm3 hA (by omega)
 refine Sz ?_
 replace Z:=(Z.sel 2 [0] rfl)
 subst e1;exact⟨_,_,congrArg (fun m=>Value.slice (some ⟨b2,0,none⟩) m P.length) (by rw[ZC,Jc]),Z⟩
theorem Qu(cap:Int)(P:List PR)(a:Option Addr)(c:Nat)(B:List Bool)(b:Option Addr)(d:Nat)(hP:PRk P)(hl:P.length≤1000)(hB:B.length=P.length)(Z:St g (Sh 72 1 (ZL P) a c::ZE Qg P::Sh 4 1 (Zk B) b d::L) w) :
  Zr g L 23 [.agg #[.I cap,.slice a (ZL P).length c,.slice b (Zk B).length d]] w fun rV=>∃(a2:Option Addr)(c2:Nat),rV (.slice a2 (List.length (Ze (YD (Y3 P B)))) c2) [Zp 3 1 (Ze (YD (Y3 P B))) a2 c2,Sh 72 1 (ZL P) a c,ZE Qg P,Sh 4 1 (Zk B) b d]:=by
 refine Sp.en Tryz.func23 ?_
 have _:=hB
 have _:=hl
 have _:=hP
 have hpl:=Jc P B
 refine Zsp fun b1 w Z=>?_
 refine Zvf (CG cap _ _ _ _ _ _ (by assumption) (by omega) (by assumption) (Z.sel 4 [1,1,1,0] rfl)) fun w a1 c1 Z=>?_
 replace Z:=(Z.at_ 0 rfl).share
 replace Z:=Z.z
 refine Zsz (CK (Y3 P B) _ _ (by omega) Z) fun w a2 c2 Z=>?_
 replace Z:=(Z.sel 6 [0,1,1,1] rfl)
 exact⟨_,_,rfl,Z⟩
end Go.Proofs.YtpebgkkmgffmaaaGreatDoor
namespace Go.V
open Go Go.RowKit
noncomputable def Jo(P:List PR)(B:List Bool)(cap:Int)(ps:List Int):Int :=
 if ¬ZY ps then 1 else if ¬(∀z∈ps,ZB B z=true) then 4 else if cap≤(YD (Y3 P B)).length then 2 else 0
noncomputable def QT(P:List PR)(B:List Bool)(x y:Int):Int:=if ZB B x=true∧ZB B y=true then Y_ P x y else 0
structure RA(xs:List VN)(P:List PR)(B:List Bool)(la:Int):Prop where
 pok:PRk P
 len:(P.length:Int)=la
 lenB:B.length=P.length
 live:∀z,Zi xs z=ZB B z
 ab:∀z,ZF xs z=true→∀u,u∈YC xs z↔(ZF xs u=true∧Rch P z u)
 cov:∀x y,Zi xs x=true→Zi xs y=true→∀z,Rch P x z→Rch P y z→∃z',z≤z'∧ZF xs z'=true∧Rch P x z'∧Rch P y z'
theorem RA.nil:RA [] [] [] 0:=⟨PRk.nil,rfl,rfl,fun z=>by
 rw[YZ (by simp;omega)];rfl,fun z h=>(by cases h),fun x y h=>(by cases h)⟩
theorem RA.base{xs:List VN}{P:List PR}{B:List Bool}{la:Int}{q:Nat}(h:RA xs P B la)(hG:GOk xs q)(x y:Int):Z9 xs x y=QT P B x y:=by
 unfold Z9 QT
 rw[←h.live x,←h.live y]
 by_cases hl:Zi xs x=true∧Zi xs y=true
 ·rw[if_pos hl,if_pos hl]
  have hx:=h.ab x (Ya hl.1)
  have hy:=h.ab y (Ya hl.2)
  rcases Uz h.pok x y with⟨h1,h2⟩|⟨h1,h2,h3⟩
  ·rw[h1]
   exact Us fun z hz hz2=>h2 z ((hx z).1 hz).2 ((hy z).1 hz2).2
  obtain⟨z',k1,k2,k3,k4⟩:=h.cov x y hl.1 hl.2 _ h1 h2
  have k5:=h3 z' k3 k4
  have k6:z'=Y_ P x y:=by omega
  rw[k6] at k2
  exact JN (hG.ascA x) ((hx _).2 ⟨k2,h1⟩) ((hy _).2 ⟨k2,h2⟩) fun z hz hz2=>h3 z ((hx z).1 hz).2 ((hy z).1 hz2).2
 rw[if_neg hl,if_neg hl]
theorem RA.pre{xs:List VN}{P:List PR}{B:List Bool}{la:Int}{q:Nat}(h:RA xs P B la)(hG:GOk xs q)(hK:KO xs)(z:Int):ZF xs z=ZB (Y3 P B) z:=by
 have hb:∀x y,Zi xs x=true→Zi xs y=true→Y_ P x y=Z9 xs x y:=fun x y hx hy=>by
  rw[h.base hG,QT,if_pos ⟨by rw[←h.live];exact hx,by rw[←h.live];exact hy⟩]
 rw[Bool.eq_iff_iff,Zjg h.pok]
 constructor
 ·intro hz
  have hz0:0<z:=by
   obtain⟨x,hx,e⟩:=ZO.1 hz
   have:=(hG.rng x hx).1;omega
  rcases hK z hz with hl|⟨_,x,y,hx,hy,hxy,he⟩
  ·exact⟨hz0,z,z,by rw[←h.live];exact hl,by rw[←h.live];exact hl,Int.le_refl _,by rw[hb z z hl hl,H9 hG hl]⟩
  exact⟨hz0,x,y,by rw[←h.live];exact hx,by rw[←h.live];exact hy,by omega,by rw[hb x y hx hy,he]⟩
 rintro⟨h0,u,v,hu,hv,_,he⟩
 rw[←h.live] at hu hv
 rw[hb u v hu hv] at he
 subst he
 exact HL hG (by omega)
theorem RA.vers{xs:List VN}{P:List PR}{B:List Bool}{la:Int}{q:Nat}{ss:List Int}(h:RA xs P B la)(hG:GOk xs q)(hK:KO xs)(hs:Keys xs ss):ss=YD (Y3 P B) :=
 Zc9 hs.asc (Ye _).1 fun z=>by rw[hs.mem,Zex,h.pre hG hK]
theorem RA.num{xs:List VN}{P:List PR}{B:List Bool}{la:Int}{q:Nat}(h:RA xs P B la)(hG:GOk xs q)(hK:KO xs):(YD (Y3 P B)).length=xs.length:=by
 obtain⟨ss,hs⟩:=XT hG.uniq
 rw[←h.vers hG hK hs,Zhb hs.perm]
theorem RA.anc{xs:List VN}{P:List PR}{B:List Bool}{la:Int}{q:Nat}{ls:List Int}(h:RA xs P B la)(hG:GOk xs q)(hK:KO xs){z:Int}(ha:Asc ls)(hm:∀u,u∈ls↔(ZB (Y3 P B) z=true∧ZB (Y3 P B) u=true∧Rch P z u)):ls=YC xs z :=
 Zc9 ha (hG.ascA z) fun u=>by
  rw[hm,←h.pre hG hK,←h.pre hG hK]
  cases hz:ZF xs z with
  |true=>rw[h.ab z hz];simp
  |false =>
   have:YC xs z=[]:=by
    cases hf:Z0 xs z with
    |none=>exact(Q7 hf).2.2
    |some x=>rw[(H8 hf).2.1] at hz;cases hz
   rw[this];simp
theorem Zfj{B:List Bool}(z:Int):ZB (B++[true]) z=(ZB B z || decide (z=(B.length:Int)+1)):=by
 by_cases h:1≤z∧z≤B.length
 ·obtain⟨x,hx⟩:∃x,B[(z-1).toNat]?=some x:=⟨_,List.getElem?_eq_getElem (by omega)⟩
  rw[ZK (by omega) hx,ZK (k:=(z-1).toNat) (by omega) (by rw[List.getElem?_append_left (by omega)];exact hx),decide_eq_false (by omega),Bool.or_false]
 rw[YZ h,Bool.false_or]
 by_cases h2:z=(B.length:Int)+1
 ·rw[ZK (k:=B.length) (x:=true) h2 (by simp),decide_eq_true h2]
 rw[YZ (by simp;omega),decide_eq_false h2]
theorem Zer{B:List Bool}{n:Int}(hn:ZB B n=true)(z:Int):ZB (B.set (n-1).toNat false) z=(ZB B z&&decide (z≠n)):=by
 have hr:=YT hn
 by_cases h:1≤z∧z≤B.length
 ·obtain⟨x,hx⟩:∃x,B[(z-1).toNat]?=some x:=⟨_,List.getElem?_eq_getElem (by omega)⟩
  rw[ZK (by omega) hx]
  by_cases he:z=n
  ·subst he
   rw[ZK (k:=(z-1).toNat) (x:=false) (by omega) (by rw[List.getElem?_set,if_pos rfl,if_pos (by omega)]),decide_eq_false (by simp),Bool.and_false]
  rw[ZK (k:=(z-1).toNat) (x:=x) (by omega) (by rw[List.getElem?_set,if_neg (by omega)];exact hx),decide_eq_true he,Bool.and_true]
 rw[YZ h,YZ (by rw[List.length_set];exact h)];rfl
theorem RA.add{xs xs2:List VN}{P:List PR}{B:List Bool}{cap la la2:Int}{q:Nat}{r:PR}(h:RA xs P B la)(hI:GI xs q cap la)(ha:AddP xs cap la r.ps xs2 la2)(h0:Xj xs cap r.ps=0):RA xs2 (P++[r]) (B++[true]) la2:=by
 obtain⟨e1,_,ab,_,hab,hv⟩:=ha.vw hI.le h0
 obtain⟨hok,hlv,_⟩:=VO h0
 have hlen:=h.len
 have hlb:=h.lenB
 have hps:∀u∈r.ps,1≤u∧u≤(P.length:Int):=fun u hu=>by
  have:=hlv u hu
  rw[h.live] at this
  have:=YT this
  omega
 have hP2:PRk (P++[r]):=h.pok.snoc hok.1 hps
 have hnew:∀u,Rch (P++[r]) (la+1) u↔u=la+1∨∃p∈r.ps,Rch P p u:=fun u=>by rw[←hlen];exact Zly hP2
 have hold:∀z u,z≤la→(Rch (P++[r]) z u↔Rch P z u):=fun z u hz=>⟨fun k=>k.old hP2 (by omega),fun k=>k.mono⟩
 have hle:∀z,ZF xs z=true→z≤la:=fun z hz=>by
  obtain⟨x,hx,e⟩:=ZO.1 hz
  rw[←e];exact hI.le x hx
 have hpre:∀z,ZF xs2 z=true↔ZF xs z=true∨z=la+1:=fun z=>by
  rw[Z',Z',hv]
  by_cases hz:z=la+1
  ·rw[if_pos hz];simp[hz]
  rw[if_neg hz];simp[hz]
 have hlive:∀z,Zi xs2 z=(Zi xs z || decide (z=la+1)):=fun z=>by
  rw[ZT,ZT,hv]
  by_cases hz:z=la+1
  ·rw[if_pos hz,decide_eq_true hz,Bool.or_true];rfl
  rw[if_neg hz,decide_eq_false hz,Bool.or_false]
 have habn:YC xs2 (la+1)=ab:=by rw[XK,hv,if_pos rfl];rfl
 have habo:∀z,z≠la+1→YC xs2 z=YC xs z:=fun z hz=>by rw[XK,XK,hv,if_neg hz]
 refine⟨hP2,by simp;omega,by simp;omega,fun z=>?_,fun z hz u=>?_,fun x y hx hy z hxz hyz=>?_⟩
 ·rw[hlive,h.live,Zfj]
  have:(z=la+1)↔(z=(B.length:Int)+1):=by omega
  simp[this]
 ·by_cases hzn:z=la+1
  ·subst hzn
   rw[habn,hab,hnew,hpre]
   simp only[Je,List.mem_append,List.mem_singleton,List.mem_flatMap]
   constructor
   ·rintro(rfl|⟨p,hp,hu⟩)
    ·exact⟨.inr rfl,.inl rfl⟩
    have h3:=(h.ab p (Ya (hlv p hp)) u).1 hu
    exact⟨.inl h3.1,.inr ⟨p,hp,h3.2⟩⟩
   rintro⟨h1,rfl|⟨p,hp,hu⟩⟩
   ·exact .inl rfl
   refine .inr ⟨p,hp,(h.ab p (Ya (hlv p hp)) u).2 ⟨?_,hu⟩⟩
   rcases h1 with h1|h1
   ·exact h1
   have:=hu.rng h.pok
   have:=hps p hp
   omega
  have hz1:ZF xs z=true:=((hpre z).1 hz).resolve_right hzn
  have hzl:=hle z hz1
  rw[habo z hzn,h.ab z hz1,hold z u hzl,hpre]
  constructor
  ·rintro⟨h1,h2⟩;exact⟨.inl h1,h2⟩
  rintro⟨h1,h2⟩
  refine⟨h1.resolve_right fun e=>?_,h2⟩
  have:=h2.rng h.pok;omega
 -- what two versions have in common
 have key:∀x y,Zi xs x=true∨x=la+1→Zi xs y=true→∀z,Rch (P++[r]) x z→Rch (P++[r]) y z→∃z',z≤z'∧ZF xs2 z'=true∧Rch (P++[r]) x z'∧Rch (P++[r]) y z':=fun x y hx hy z hxz hyz=>by
  have hyl:=hle y (Ya hy)
  rw[hold y z hyl] at hyz
  rcases hx with hx|rfl
  ·rw[hold x z (hle x (Ya hx))] at hxz
   obtain⟨z',k1,k2,k3,k4⟩:=h.cov x y hx hy z hxz hyz
   exact⟨z',k1,(hpre z').2 (.inl k2),k3.mono,k4.mono⟩
  rcases(hnew z).1 hxz with rfl|⟨p,hp,hk⟩
  ·have:=hyz.rng h.pok;omega
  obtain⟨z',k1,k2,k3,k4⟩:=h.cov p y (hlv p hp) hy z hk hyz
  exact⟨z',k1,(hpre z').2 (.inl k2),(hnew z').2 (.inr ⟨p,hp,k3⟩),k4.mono⟩
 have hx2:Zi xs x=true∨x=la+1:=by rw[hlive] at hx;simpa using hx
 have hy2:Zi xs y=true∨y=la+1:=by rw[hlive] at hy;simpa using hy
 rcases hy2 with hy2|rfl
 ·exact key x y hx2 hy2 z hxz hyz
 rcases hx2 with hx2|rfl
 ·obtain⟨z',k1,k2,k3,k4⟩:=key (la+1) x (.inr rfl) hx2 z hyz hxz
  exact⟨z',k1,k2,k4,k3⟩
 have:=hxz.rng hP2
 exact⟨la+1,by omega,(hpre _).2 (.inr rfl),(hnew _).2 (.inl rfl),(hnew _).2 (.inl rfl)⟩
theorem RA.rel{xs xs2:List VN}{P:List PR}{B:List Bool}{la n:Int}{q:Nat}(h:RA xs P B la)(hG:GOk xs q)(hR:RelQ xs n xs2)(hl:Zi xs n=true):RA xs2 P (B.set (n-1).toNat false) la:=by
 replace hR:RelP xs n xs2:=by
  rcases hR with⟨_,hR⟩|⟨h9,_⟩
  ·exact hR
  rw[hl] at h9;cases h9
 have hlive:=(hR.facts hG).1
 obtain⟨xs1,N,h1,h2,h3⟩:=hR
 have hG1:GF (vw xs1):=by rw[show vw xs1=dead (vw xs) n from funext h1];exact hG.gf.dead n
 have hpos:∀z,(vw xs1 z).isSome=true→1≤z:=fun z hz=>by rw[h1,Jf] at hz;exact hG.pos z hz
 obtain⟨k1,k2,k3⟩:=H' hG1 hpos h2 h3
 have hab1:∀z,YC xs1 z=YC xs z:=fun z=>by
  rw[XK,XK,h1,dead]
  by_cases hz:z=n
  ·rw[if_pos hz];cases vw xs z<;>rfl
  rw[if_neg hz]
 have hpre1:∀z,ZF xs1 z=ZF xs z:=fun z=>by rw[Z',Z',h1,Jf]
 have hpre:∀z,ZF xs2 z=true↔N z=true∧ZF xs z=true:=fun z=>by
  rw[Z',h3,←hpre1,Z']
  unfold keep
  cases hN:N z with
  |true=>rw[if_pos rfl];cases vw xs1 z<;>simp
  |false=>rw[if_neg (by decide)];simp
 have hlive1:∀z,Zi xs1 z=(Zi xs z&&decide (z≠n)):=fun z=>by rw[←k1,hlive]
 refine⟨h.pok,h.len,by rw[List.length_set];exact h.lenB,fun z=>?_,fun z hz u=>?_,fun x y hx hy z hxz hyz=>?_⟩
 ·rw[hlive,h.live,Zer (by rw[←h.live];exact hl)]
 ·have hz1:=(hpre z).1 hz
  rw[k2 z hz1.1,hab1,List.mem_filter,h.ab z hz1.2,hpre]
  constructor
  ·rintro⟨⟨a1,a2⟩,a3⟩;exact⟨⟨a3,a1⟩,a2⟩
  rintro⟨⟨a3,a1⟩,a2⟩;exact⟨⟨a1,a2⟩,a3⟩
 have hx1:Zi xs1 x=true:=by rw[←k1];exact hx
 have hy1:Zi xs1 y=true:=by rw[←k1];exact hy
 have hx0:Zi xs x=true:=by rw[hlive1] at hx1;simp at hx1;exact hx1.1
 have hy0:Zi xs y=true:=by rw[hlive1] at hy1;simp at hy1;exact hy1.1
 rcases Uz h.pok x y with⟨_,e2⟩|⟨e1,e2,e3⟩
 ·exact absurd hyz (e2 z hxz)
 refine⟨Y_ P x y,e3 z hxz hyz,?_,e1,e2⟩
 have hcp:=(e1.rng h.pok).1
 have hb:Z9 xs x y=Y_ P x y:=by rw[h.base hG,QT,if_pos ⟨by rw[←h.live];exact hx0,by rw[←h.live];exact hy0⟩]
 have hb1:Z9 xs1 x y=Y_ P x y:=by rw[←hb,Yu hx1 hy1,Yu hx0 hy0,hab1,hab1]
 refine(hpre _).2 ⟨(h2 _).2 ?_,?_⟩
 ·rcases Int.lt_trichotomy x y with hxy|hxy|hxy
  ·exact .inr ⟨by omega,x,y,hx1,hy1,hxy,hb1⟩
  ·subst hxy
   rw[H9 hG hx0] at hb
   rw[←hb];exact .inl hx1
  refine .inr ⟨by omega,y,x,hy1,hx1,hxy,?_⟩
  rw[Yu hy1 hx1,hab1,hab1,←Yu hy0 hx0,Ze0 hG];exact hb
 rw[←hb];exact HL hG (by rw[hb];omega)
end Go.V
namespace Go.Proofs.YtpebgkkmgffmaaaGreatDoor
open Go Go.V
theorem Zf3{ps:List Int}{x y:Int}(h0:ps[0]?=some x)(h1:ps[1]?=some y)(hl:ps.length=2):¬ZY ps↔x=y:=by
 match ps,hl,h0,h1 with
 |[u,v],_,h0,h1 =>
  simp at h0 h1;subst h0;subst h1
  constructor
  ·intro h
   exact Decidable.by_contra fun hne=>h ⟨by simp,fun a b e=>by cases e;exact hne⟩
  rintro rfl h;exact h.2 _ _ rfl rfl
theorem Ze9{ps:List Int}(h:2<ps.length):¬ZY ps:=fun k=>by have:=k.1;omega
theorem Zbd{ps:List Int}(h:¬2<ps.length)(h2:¬ps.length=2):ZY ps:=⟨by omega,fun x y e=>by subst e;simp at h2⟩
theorem Zk2{P:List PR}{B:List Bool}{cap:Int}{ps:List Int}(h:¬ZY ps):Jo P B cap ps=1:=if_pos h
theorem Znc{P:List PR}{B:List Bool}{cap:Int}{ps:List Int}{z:Int}(h:ZY ps)(hz:z∈ps)(hl:ZB B z=false):Jo P B cap ps=4:=by
 unfold Jo
 rw[if_neg (fun k=>k h),if_pos (fun k=>by rw[k z hz] at hl;cases hl)]
theorem Zmi{P:List PR}{B:List Bool}{cap:Int}{ps:List Int}(h:ZY ps)(hl:∀z∈ps,ZB B z=true)(hc:cap≤(YD (Y3 P B)).length):Jo P B cap ps=2:=by
 unfold Jo
 rw[if_neg (fun k=>k h),if_neg (fun k=>k hl),if_pos hc]
theorem Zb5{P:List PR}{B:List Bool}{cap:Int}{ps:List Int}(h:ZY ps)(hl:∀z∈ps,ZB B z=true)(hc:¬cap≤(YD (Y3 P B)).length):Jo P B cap ps=0:=by
 unfold Jo
 rw[if_neg (fun k=>k h),if_neg (fun k=>k hl),if_neg hc]
set_option maxHeartbeats 8000000
set_option maxRecDepth 8192
variable{g w:World}{L:List HP}
theorem Zat(cap:Int)(P:List PR)(a:Option Addr)(c:Nat)(B:List Bool)(b:Option Addr)(d:Nat)(ps:List Int)(e:Option Addr)(f:Nat)(hP:PRk P)(hl:P.length≤1000)(hB:B.length=P.length)(hpl:ps.length≤1000)(Z:St g (Sh 72 1 (ZL P) a c::ZE Qg P::Sh 4 1 (Zk B) b d::Sh 3 1 (Ze ps) e f::L) w) :
  Zr g L 465 [.agg #[.I cap,.slice a (ZL P).length c,.slice b (Zk B).length d],.slice e (Ze ps).length f] w fun rV=>rV (.I (Jo P B cap ps)) [Sh 72 1 (ZL P) a c,ZE Qg P,Sh 4 1 (Zk B) b d,Sh 3 1 (Ze ps) e f]:=by
 refine Sp.en Tryz.func465 ?_
 have _:=hpl
 have _:=hB
 have _:=hl
 have _:=hP
 have hpi:=Zf ps;have hnl:=(Ye (Y3 P B)).2.1;have hpr:=Jc P B;have hil:=Zf (YD (Y3 P B))
 refine Zub rfl rfl #[.I cap,.slice a (ZL P).length c,.slice b (Zk B).length d] Z rfl rfl (fun b1 w Z=>?_)
 refine Sx ?_
 refine Zs9<|Zsw<|Zsw<|Ztc [1,2,4] [22] [] Z (fun vs jS=>∃(t22:Bool),vs=[.bool t22]∧jS []∧(t22=true↔¬ZY ps)) rfl ?_ ?_
 ·refine Zsg [([0,1,2,3,4,5,6,7,8,11,9,12,10,13,14,15,16],none)] ?_
  refine Qz ?_
  by_cases cg1:2<(List.length (Ze ps):Int)
  ·refine Zsu 9 (.bool true) (congrArg Value.bool (decide_eq_true cg1)) ?_
   refine Qz ?_
   refine Ztv rfl rfl rfl<|Ztv rfl rfl rfl<|Ztv rfl rfl rfl<|Ztv rfl rfl rfl<|Ztv rfl rfl rfl<|Ztv rfl rfl rfl<|Ztv rfl rfl rfl ?_
   refine Qd fun w Z=>?_
   exact⟨rfl,true,rfl,Z,(⟨fun _=>Ze9 (by omega),fun _=>rfl⟩)⟩
  refine Zsu 9 (.bool false) (congrArg Value.bool (decide_eq_false cg1)) ?_
  refine Qz ?_
  by_cases cg2:(List.length (Ze ps):Int)=2
  ·refine Zsu 13 (.bool true) (congrArg Value.bool (decide_eq_true cg2)) ?_
   obtain⟨p0,h0⟩:∃u,ps[0]?=some u:=⟨_,List.getElem?_eq_getElem (by omega)⟩;obtain⟨p1,h1⟩:∃u,ps[1]?=some u:=⟨_,List.getElem?_eq_getElem (by omega)⟩
   refine Qz ?_
   refine Zsj rfl rfl (i:=0) (0) el_72 rfl rfl (by omega) (by omega) (Z.rdS 4 rfl (Zc h0)).1 ?_
   refine Qz ?_
   refine Zsj rfl rfl (i:=1) (1) el_72 rfl rfl (by omega) (by omega) (Z.rdS 4 rfl (Zc h1)).1 ?_
   refine Qz ?_
   refine Zsn 1 [.I p0] rfl (by exact(Z.rdS 4 rfl (Zc h0)).2 0 _ rfl) ?_
   refine Qz ?_
   refine Zsn 1 [.I p1] rfl (by exact(Z.rdS 4 rfl (Zc h1)).2 0 _ rfl) ?_
   refine Qd fun w Z=>?_
   exact⟨rfl,decide (p0=p1),rfl,Z,(by rw[Zf3 h0 h1 (by omega),decide_eq_true_eq])⟩
  refine Zsu 13 (.bool false) (congrArg Value.bool (decide_eq_false cg2)) ?_
  refine Qd fun w Z=>?_
  exact⟨rfl,false,rfl,Z,(⟨fun h=>(by cases h),fun h=>absurd (Zbd (by omega) (by omega)) h⟩)⟩
 rintro _ w j ⟨t22,rfl,Z,h22⟩
 replace Z:=Z.z
 refine Ztm rfl (fun cd1=>?_) (fun cd1=>?_)
 ·refine Sz ?_
  replace Z:=(Z.sel 1 [] rfl)
  exact⟨congrArg (Value.int .i64) (Zk2 (h22.1 cd1)).symm,Z⟩
 have hok:ZY ps:=Classical.not_not.1 (fun h=>by rw[h22.2 h] at cd1;cases cd1)
 refine Sz ?_
 refine Zst [1,2] [5] (fun kM vs jS=>∃(k:Nat),vs=[.I (k:Int)]∧jS []∧(k≤ps.length)∧(∀z∈ps.take k,ZB B z=true)∧(ps.length-k)=kM) rfl ⟨0,rfl,Z,(Nat.zero_le _),(by simp),rfl⟩ ?_
 rintro _ _ w j ⟨k,rfl,Z,hk,hlv,rfl⟩
 replace Z:=Z.z
 have hok:ZY ps:=Classical.not_not.1 (fun h=>by rw[h22.2 h] at cd1;cases cd1)
 refine Sz ?_
 refine Zsi (fun cd2=>?_) fun cd2=>?_
 ·refine Zsg [([0,1,2,3,4],some (5,[])),([6],none)] ?_
  obtain⟨z,hz⟩:∃u,ps[k]?=some u:=⟨_,List.getElem?_eq_getElem (by omega)⟩
  refine Qz ?_
  refine Zsj rfl rfl (i:=(k:Int)) (k) el_72 rfl rfl (by omega) (by omega) (Z.rdS 4 rfl (Zc hz)).1 ?_
  refine Zsn 1 [.I z] rfl (by exact(Z.rdS 4 rfl (Zc hz)).2 0 _ rfl) ?_
  refine Qd fun w Z=>?_
  refine Zse (Qs cap P a c _ _ _ z (by omega) (Z.sel 4 [3,0,0,0] rfl)) fun w Z=>?_
  refine Qd fun w Z=>?_
  refine Ztm rfl (fun cd3=>?_) (fun cd3=>?_)
  ·as_aux_lemma =>
   refine Sz ?_
   replace Z:=(Z.sel 4 [2,2,0] rfl)
   exact⟨congrArg (Value.int .i64) (Znc hok (List.mem_of_getElem? hz) (by simpa using cd3)).symm,Z⟩
  as_aux_lemma =>
  refine Sz ?_
  exact⟨_,by omega,rfl,k+1,rfl,(Z.sel 4 [1,1,1,0] rfl),(by omega),(fun x hx=>by
   rw[List.take_add_one,hz] at hx
   rcases List.mem_append.1 hx with hx|hx
   ·exact hlv x hx
   simp at hx;subst hx;simpa using cd3),rfl⟩
 refine Zsg [([3,4],some (0,[3,4])),([],some (1,[3,4])),([2,5],none)] ?_
 refine Qd fun w Z=>?_
 refine Qd fun w Z=>?_
 refine Zsz (Qu cap _ _ _ _ _ _ (by assumption) (by omega) (by assumption) (Z.sel 4 [1,1,1,0] rfl)) fun w a1 c1 Z=>?_
 refine Qd fun w Z=>?_
 refine Zsi (fun cd3=>?_) fun cd3=>?_
 ·replace Z:=(Z.sel 5 [1,1,1] rfl)
  exact⟨congrArg (Value.int .i64) (Zmi hok (by rw[List.take_of_length_le (by omega)] at hlv;exact hlv) (by omega)).symm,Z⟩
 replace Z:=(Z.sel 5 [1,1,1] rfl)
 exact⟨congrArg (Value.int .i64) (Zb5 hok (by rw[List.take_of_length_le (by omega)] at hlv;exact hlv) (by omega)).symm,Z⟩
theorem Zko(cap:Int)(P:List PR)(a:Option Addr)(c:Nat)(B:List Bool)(b:Option Addr)(d:Nat)(ps:List Int)(e:Option Addr)(f:Nat)(hP:PRk P)(hl:P.length≤1000)(hB:B.length=P.length)(hpl:ps.length≤1000)(h0:Jo P B cap ps=0)(Z:St g (Sh 72 1 (ZL P) a c::ZE Qg P::Sh 4 1 (Zk B) b d::Sh 3 1 (Ze ps) e f::L) w) :
  Zr g L 404 [.agg #[.I cap,.slice a (ZL P).length c,.slice b (Zk B).length d],.slice e (Ze ps).length f] w fun rV=>∃(e2:Option Addr)(f2:Nat)(a2:Option Addr)(c2:Nat)(b2:Option Addr)(d2:Nat),rV (.tuple #[.agg #[.I cap,.slice a2 (ZL (P++[PR.mk ps e2 f2])).length c2,.slice b2 (Zk (B++[true])).length d2],.I ((List.length P)+1),.I 0]) [Sh 72 1 (ZL (P++[PR.mk ps e2 f2])) a2 c2,ZE Qg (P++[PR.mk ps e2 f2]),Sh 4 1 (Zk (B++[true])) b2 d2,Sh 3 1 (Ze ps) e f]:=by
 refine Sp.en Tryz.func404 ?_
 have _:=hpl
 have _:=hB
 have _:=hl
 have _:=hP
 refine Zsp fun b1 w Z=>?_
 refine Zsk fun b2 w Z=>?_
 refine Zse (Zat cap _ _ _ _ _ _ _ _ _ (by assumption) (by omega) (by assumption) (by omega) (Z.sel 6 [2,2,2,2,0,0] rfl)) fun w Z=>?_
 refine Zs8 rfl (decide_eq_false ((fun h=>h h0))) ?_
 have hel:=Cv P;have hpi:=Zf ps;have hbl:=ZC B
 replace Z:=Z.nil_ 72 1
 refine Sz ?_
 refine Zs3 rfl rfl 0 (ZL P) el_78 Z rfl (Z.srcS 1 rfl) (List.nil_append _) (Rm.of (by first|omega|(simp<;>omega)) (by decide)) rfl rfl (fun a1 c1 w Z=>?_)
 replace Z:=Z.z
 replace Z:=Z.nil_ 3 1
 refine Sz ?_
 refine Zs3 rfl rfl 0 (Ze ps) el_72 Z rfl (Z.srcS 5 rfl) (List.nil_append _) (Rm.of (by first|omega|(simp<;>omega)) (by decide)) rfl rfl (fun a2 c2 w Z=>?_)
 replace Z:=Z.z
 refine Zs1 rfl rfl (ZL [PR.mk ps a2 c2]) el_78 Z (by exact⟨rfl,rfl⟩) (Zqc _) rfl (Nat.le_of_ble_eq_true rfl) (fun b3 w Z=>?_)
 refine Zs3 rfl rfl 2 (ZL (P++[PR.mk ps a2 c2])) el_78 Z rfl (Z.srcO 0 rfl) (Zmx _ _).symm (Rm.of (by first|omega|(simp<;>omega)) (by decide)) rfl rfl (fun a3 c3 w Z=>?_)
 replace Z:=Z.z
 refine Sz ?_
 refine Zss fun w Z=>?_
 replace Z:=Z.nil_ 4 1
 refine Zs3 rfl rfl 0 (Zk B) el_73 Z rfl (Z.srcS 6 rfl) (List.nil_append _) (Rm.of (by first|omega|(simp<;>omega)) (by decide)) rfl rfl (fun a4 c4 w Z=>?_)
 replace Z:=Z.z
 refine Zs1 rfl rfl (Zk [true]) el_73 Z (by exact⟨rfl,rfl⟩) (Zr5 _) rfl (Nat.le_of_ble_eq_true rfl) (fun b4 w Z=>?_)
 refine Zs3 rfl rfl 1 (Zk (B++[true])) el_73 Z rfl (Z.srcO 0 rfl) (Zlm _ _).symm (Rm.of (by first|omega|(simp<;>omega)) (by decide)) rfl rfl (fun a5 c5 w Z=>?_)
 replace Z:=Z.z
 refine Sz ?_
 refine Zss fun w Z=>?_
 refine Zsg [([1,2,3],some (0,[1,2,3])),([],some (4,[1,2,3])),([5,6],none)] ?_
 replace Z:=(St.shsSub (zs':=P++[PR.mk ps a2 c2]) (St.shsCons ((Z.sel 11 [3,5,3,1,4,4,4] rfl).share.sel 7 [1,0,0,0,0,0,0] rfl) (z:=PR.mk ps a2 c2) (Zps _) [0] rfl) (fun z hz=>VK hz)).sel 7 [2,0,1,1,1,1] rfl
 replace Z:=((Z.share.at_ 2 rfl).share).sel 6 [1,1,0,0,0,0] rfl
 replace Z:St g (Sh 72 1 (ZL (P++[PR.mk ps a2 c2])) a3 c3::ZE Qg (P++[PR.mk ps a2 c2])::Sh 4 1 (Zk (B++[true])) a5 c5::Sh 3 1 (Ze ps) e f::Zq b2 #[.I 0,.N,.N] 80::Zq b1 #[.I cap,.slice a3 (ZL (P++[PR.mk ps a2 c2])).length c3,.slice a5 (Zk (B++[true])).length c5] 80::L) w:=Z
 refine Qd fun w Z=>?_
 refine Qd fun w Z=>?_
 refine Zsh fun w Z=>?_
 refine Qd fun w Z=>?_
 as_aux_lemma =>
 refine Sz ?_
 replace Z:=(Z.sel 6 [0,0,0,0] rfl)
 exact⟨_,_,_,_,_,_,congrArg (fun m:Int=>Value.tuple #[.agg #[.I cap,.slice a3 (ZL (P++[PR.mk ps a2 c2])).length c3,.slice a5 (Zk (B++[true])).length c5],.I m,.I 0]) (by simp),Z⟩
theorem Za3(cap:Int)(P:List PR)(a:Option Addr)(c:Nat)(B:List Bool)(b:Option Addr)(d:Nat)(x y:Int)(hP:PRk P)(hl:P.length≤1000)(hB:B.length=P.length)(Z:St g (Sh 72 1 (ZL P) a c::ZE Qg P::Sh 4 1 (Zk B) b d::L) w) :
  Zr g L 284 [.agg #[.I cap,.slice a (ZL P).length c,.slice b (Zk B).length d],.I x,.I y] w fun rV=>rV (.I (QT P B x y)) [Sh 72 1 (ZL P) a c,ZE Qg P,Sh 4 1 (Zk B) b d]:=by
 refine Sp.en Tryz.func284 ?_
 have _:=hB
 have _:=hl
 have _:=hP
 refine Zsp fun b1 w Z=>?_
 refine Zse (Qs cap P a c _ _ _ x (by omega) (Z.sel 4 [3,0,0,0] rfl)) fun w Z=>?_
 by_cases cg1:(! (ZB B x))=true
 ·refine Zsf 11 (.bool true) (congrArg Value.bool cg1) ?_
  refine Sz ?_
  replace Z:=(Z.sel 4 [2,2,0] rfl)
  first|exact⟨congrArg (Value.int .i64) (if_neg (fun h=>by first|(rw[h.1] at cg1;cases cg1)|(rw[h.2] at cd1;cases cd1))).symm,Z⟩
 refine Zsf 11 (.bool false) (congrArg Value.bool (Bool.eq_false_iff.2 cg1)) ?_
 refine Sz ?_
 refine Zse (Qs cap P a c _ _ _ y (by omega) Z) fun w Z=>?_
 refine Ztl (fun cd1=>?_) fun cd1=>?_
 ·replace Z:=(Z.sel 4 [2,2,0] rfl)
  first|exact⟨congrArg (Value.int .i64) (if_neg (fun h=>by first|(rw[h.1] at cg1;cases cg1)|(rw[h.2] at cd1;cases cd1))).symm,Z⟩
 refine Zse (UE cap _ _ _ B b d x y (by assumption) (by omega) (Z.sel 4 [2,2,0,0] rfl)) fun w Z=>?_
 replace Z:=(Z.sel 4 [0,0,0] rfl)
 exact⟨congrArg (Value.int .i64) (if_pos ⟨by simpa using cg1,by simpa using cd1⟩).symm,Z⟩
end Go.Proofs.YtpebgkkmgffmaaaGreatDoor
namespace Go.V
open Go Go.RowKit
inductive Pt where
 |sub (i:Int) (t:Tr)
 |one (k v:Int)
def ptC:Pt→List Value
 |.sub i t=>[.int .u32 i,.int .i64 (t.n:Int),.int .i64 0,.int .i64 0,.bool false]
 |.one k v=>[.int .u32 0,.int .i64 0,.int .i64 k,.int .i64 v,.bool true]
def HG(l:List Pt):List (List Value):=l.map ptC
@[simp] theorem U5(l:List Pt):(HG l).length=l.length:=by simp[HG]
theorem Zb1(l m:List Pt):HG (l++m)=HG l++HG m:=by simp[HG]
theorem Zgz(l:List Pt)(k:Nat):(HG l).take k=HG (l.take k):=by simp[HG]
theorem Zi5(l:List Pt):OkE 5 (HG l):=fun x hx=>by
 obtain⟨y,_,rfl⟩:=List.mem_map.1 hx
 cases y
 ·exact⟨rfl,fun u hu=>by simp[ptC] at hu;rcases hu with rfl|rfl|rfl|rfl|rfl<;>rfl⟩
 exact⟨rfl,fun u hu=>by simp[ptC] at hu;rcases hu with rfl|rfl|rfl|rfl|rfl<;>rfl⟩
def pI:Option Pt→Int
 |some (.sub i _)=>i
 |_=>0
def pN:Option Pt→Int
 |some (.sub _ t)=>t.n
 |_=>0
def pK:Option Pt→Int
 |some (.one k _)=>k
 |_=>0
def pV:Option Pt→Int
 |some (.one _ v)=>v
 |_=>0
def pS:Option Pt→Bool
 |some (.one _ _)=>true
 |_=>false
def Zj(P:List Pt):Option Pt:=P.getLast?
theorem Zjf{l:List Pt}{k:Nat}{x:Pt}(h:l[k]?=some x):(HG l)[k]?=some [.int .u32 (pI (some x)),.int .i64 (pN (some x)),.int .i64 (pK (some x)),.int .i64 (pV (some x)),.bool (pS (some x))]:=by
 cases x<;>simp[HG,h,ptC,pI,pN,pK,pV,pS]
def ptL:Pt→Zl
 |.sub _ t=>t.ls
 |.one k v=>[(k,v)]
def rem(P:List Pt):Zl:=(P.reverse.map ptL).flatten
theorem Jb(P:List Pt)(x:Pt):rem (P++[x])=ptL x++rem P:=by simp[rem]
def ptW:Pt→Nat
 |.sub _ t=>3*t.n
 |.one _ _=>1
def Xz(P:List Pt):Nat:=(P.map ptW).sum
theorem X6(P:List Pt)(x:Pt):Xz (P++[x])=Xz P+ptW x:=by simp[Xz]
def Zqa(A:AM):Pt→Prop
 |.sub i t=>Is A t i∧i≠0
 |.one _ _=>True
structure PsOk(A:AM)(P:List Pt):Prop where
 ok:∀x∈P,Zqa A x
theorem PsOk.app{A:AM}{P:List Pt}(h:PsOk A P){x:Pt}(hx:Zqa A x):PsOk A (P++[x]):=⟨fun y hy=>by
 rcases List.mem_append.1 hy with hy|hy
 ·exact h.ok y hy
 rw[List.mem_singleton.1 hy];exact hx⟩
theorem PsOk.sub{A:AM}{P Q:List Pt}(h:PsOk A (P++Q)):PsOk A P:=⟨fun y hy=>h.ok y (List.mem_append_left _ hy)⟩
def Y7(P:List Pt)(i:Int)(t:Tr):List Pt:=if i=0 then P else P++[.sub i t]
theorem XB{A:AM}{P:List Pt}{i:Int}{t:Tr}(h:Is A t i):rem (Y7 P i t)=t.ls++rem P:=by
 unfold Y7
 split
 ·rename_i e;rw[(Is.nil_iff h).1 e];rfl
 rw[Jb];rfl
theorem J0{A:AM}{P:List Pt}{i:Int}{t:Tr}(h:Is A t i):Xz (Y7 P i t)=Xz P+3*t.n:=by
 unfold Y7
 split
 ·rename_i e;rw[(Is.nil_iff h).1 e];rfl
 rw[X6];rfl
theorem QS{A:AM}{P:List Pt}{i:Int}{t:Tr}(hP:PsOk A P)(h:Is A t i):PsOk A (Y7 P i t):=by
 unfold Y7
 split
 ·exact hP
 rename_i e;exact hP.app ⟨h,e⟩
theorem Zfp(P:List Pt)(i:Int)(t:Tr):(Y7 P i t).length≤P.length+1:=by
 unfold Y7;split<;>simp
def Uo(P:List Pt)(A:AM)(i k v:Int)(l r:Tr):List Pt:=Y7 (Y7 P (A.nd i).rg r++[.one k v]) (A.nd i).lf l
theorem VD{A:AM}{P:List Pt}{i k v:Int}{l r:Tr}(h:Is A (.node l k v r) i):rem (Uo P A i k v l r)=(Tr.node l k v r).ls++rem P:=by
 unfold Uo
 rw[XB h.2.2.2.2.1,Jb,XB h.2.2.2.2.2]
 simp[ptL,Tr.ls]
theorem Vg{A:AM}{P:List Pt}{i k v:Int}{l r:Tr}(h:Is A (.node l k v r) i):Xz (Uo P A i k v l r)+2=Xz P+ptW (.sub i (.node l k v r)):=by
 unfold Uo
 rw[J0 h.2.2.2.2.1,X6,J0 h.2.2.2.2.2]
 simp only[ptW,Tr.n];omega
theorem Zc3{A:AM}{P:List Pt}{i k v:Int}{l r:Tr}(hP:PsOk A P)(h:Is A (.node l k v r) i):PsOk A (Uo P A i k v l r) :=
 QS ((QS hP h.2.2.2.2.2).app trivial) h.2.2.2.2.1
theorem D8{A:AM}:∀{P:List Pt},PsOk A P→P.length≤Xz P
 |[],_=>by simp
 |x::P,h=>by
  have ih:=D8 (A:=A) (P:=P) ⟨fun y hy=>h.ok y (List.mem_cons_of_mem _ hy)⟩
  have hx:=h.ok x (List.mem_cons_self ..)
  have h1:1≤ptW x:=by
   cases x with
   |one=>simp[ptW]
   |sub i t =>
    have:t≠.nil:=fun e=>hx.2 ((Is.nil_iff hx.1).2 e)
    cases t with
    |nil=>exact absurd rfl this
    |node=>simp only[ptW,Tr.n];omega
  simp only[Xz,List.map_cons,List.sum_cons,List.length_cons] at ih ⊢
  omega
abbrev Qo:=Int×Int×Int×Int
def Y4:Zl→Zl→List Qo
 |[],[]=>[]
 |[],(k,w)::r=>(1,k,0,w)::Y4 [] r
 |(k,v)::l,[]=>(2,k,v,0)::Y4 l []
 |(k,v)::l,(k',w)::r=>if k<k' then(2,k,v,0)::Y4 l ((k',w)::r) else if k'<k then(1,k',0,w)::Y4 ((k,v)::l) r else if v≠w then(3,k,v,w)::Y4 l r else Y4 l r
termination_by l r=>l.length+r.length
theorem Qw(l r:Zl):∀c:Zl,Y4 (c++l) (c++r)=Y4 l r
 |[]=>rfl
 |(k,v)::c=>by
  rw[List.cons_append,List.cons_append,Y4,if_neg (by omega),if_neg (by omega),if_neg (by simp)]
  exact Qw l r c
theorem Xk(l r:Zl):∀c∈Y4 l r,(∃x∈l,x.1=c.2.1)∨∃x∈r,x.1=c.2.1:=by
 fun_induction Y4 l r
 case case1=>intro c hc;cases hc
 case case2 k w r ih =>
  intro c hc
  rcases List.mem_cons.1 hc with rfl|hc
  ·exact .inr ⟨(k,w),by simp,rfl⟩
  rcases ih c hc with⟨x,hx,_⟩|⟨x,hx,e⟩
  ·cases hx
  exact .inr ⟨x,List.mem_cons_of_mem _ hx,e⟩
 case case3 k v l ih =>
  intro c hc
  rcases List.mem_cons.1 hc with rfl|hc
  ·exact .inl ⟨(k,v),by simp,rfl⟩
  rcases ih c hc with⟨x,hx,e⟩|⟨x,hx,_⟩
  ·exact .inl ⟨x,List.mem_cons_of_mem _ hx,e⟩
  cases hx
 case case4 k v l k' w r h ih =>
  intro c hc
  rcases List.mem_cons.1 hc with rfl|hc
  ·exact .inl ⟨(k,v),by simp,rfl⟩
  rcases ih c hc with⟨x,hx,e⟩|h
  ·exact .inl ⟨x,List.mem_cons_of_mem _ hx,e⟩
  exact .inr h
 case case5 k v l k' w r h1 h2 ih =>
  intro c hc
  rcases List.mem_cons.1 hc with rfl|hc
  ·exact .inr ⟨(k',w),by simp,rfl⟩
  rcases ih c hc with h|⟨x,hx,e⟩
  ·exact .inl h
  exact .inr ⟨x,List.mem_cons_of_mem _ hx,e⟩
 case case6 k v l k' w r h1 h2 h3 ih =>
  intro c hc
  rcases List.mem_cons.1 hc with rfl|hc
  ·exact .inl ⟨(k,v),by simp,rfl⟩
  rcases ih c hc with⟨x,hx,e⟩|⟨x,hx,e⟩
  ·exact .inl ⟨x,List.mem_cons_of_mem _ hx,e⟩
  exact .inr ⟨x,List.mem_cons_of_mem _ hx,e⟩
 case case7 k v l k' w r h1 h2 h3 ih =>
  intro c hc
  rcases ih c hc with⟨x,hx,e⟩|⟨x,hx,e⟩
  ·exact .inl ⟨x,List.mem_cons_of_mem _ hx,e⟩
  exact .inr ⟨x,List.mem_cons_of_mem _ hx,e⟩
def V7(lo hi:Int)(l:List Qo):List Qo:=l.filter fun c=>decide (lo≤c.2.1∧c.2.1≤hi)
theorem Zlb{lo hi:Int}{l r:Zl}(h1:∀x∈l,hi<x.1)(h2:∀x∈r,hi<x.1):V7 lo hi (Y4 l r)=[]:=by
 refine List.filter_eq_nil_iff.2 fun c hc=>?_
 rcases Xk l r c hc with⟨x,hx,e⟩|⟨x,hx,e⟩
 ·have:=h1 x hx;simp;omega
 have:=h2 x hx;simp;omega
def Yg(k v w:Int)(il ir:Bool):Option Qo:=if il=false then some (1,k,0,w) else if ir=false then some (2,k,v,0) else if v≠w then some (3,k,v,w) else none
def XQ(lo hi:Int)(c:Option Qo):List Qo:=match c with
 |some c=>if lo≤c.2.1∧c.2.1≤hi then[c] else[]
 |none=>[]
def H0(hi:Int)(c:Option Qo):Bool:=match c with
 |some c=>decide (c.2.1<hi)
 |none=>true
theorem Zji(lo hi:Int)(c:Qo)(l:List Qo):V7 lo hi (c::l)=XQ lo hi (some c)++V7 lo hi l:=by
 unfold V7 XQ
 by_cases h:lo≤c.2.1∧c.2.1≤hi
 ·rw[List.filter_cons_of_pos (by simpa using h)];simp[h]
 rw[List.filter_cons_of_neg (by simpa using h)];simp[h]
theorem Is.fn{A:AM}:∀{t u:Tr}{i:Int},Is A t i→Is A u i→t=u
 |.nil,.nil,_,_,_=>rfl
 |.nil,.node _ _ _ _,_,h,k=>absurd k.1 (by rw[show _=(0:Int) from h];omega)
 |.node _ _ _ _,.nil,_,h,k=>absurd h.1 (by rw[show _=(0:Int) from k];omega)
 |.node _ _ _ _,.node _ _ _ _,_,⟨_,_,h3,h4,h5,h6⟩,⟨_,_,k3,k4,k5,k6⟩=>by
  rw[Is.fn h5 k5,Is.fn h6 k6,←h3,←h4,←k3,←k4]
theorem Yt{P:List Pt}{q:Pt}(h:Zj P=some q):P=P.dropLast++[q]:=by
 have hne:P≠[]:=fun e=>by subst e;cases h
 have h2:P.getLast hne=q:=by
  unfold Zj at h
  rw[List.getLast?_eq_some_getLast hne] at h
  exact Option.some.inj h
 rw[←h2];exact(List.dropLast_concat_getLast hne).symm
theorem Q6{P:List Pt}(h:(Zj P).isSome=false):P=[]:=by
 cases ht:Zj P with
 |none=>exact List.getLast?_eq_none_iff.1 ht
 |some q=>rw[ht] at h;cases h
theorem Hn{P:List Pt}(h:(Zj P).isSome=true):P≠[]:=fun e=>by subst e;cases h
theorem U0{P:List Pt}(h:(Zj P).isSome=true)(hs:pS (Zj P)=false):∃i t,Zj P=some (.sub i t):=by
 cases ht:Zj P with
 |none=>rw[ht] at h;cases h
 |some q =>
  cases q with
  |sub i t=>exact⟨i,t,rfl⟩
  |one k v=>rw[ht] at hs;cases hs
theorem Qi{P:List Pt}(h:(Zj P).isSome=true)(hs:pS (Zj P)=true):P=P.dropLast++[.one (pK (Zj P)) (pV (Zj P))]∧rem P=(pK (Zj P),pV (Zj P))::rem P.dropLast∧Xz P=Xz P.dropLast+1:=by
 cases ht:Zj P with
 |none=>rw[ht] at h;cases h
 |some q =>
  cases q with
  |sub i t=>rw[ht] at hs;cases hs
  |one k v =>
   have h1:=Yt ht
   refine⟨h1,?_,?_⟩
   ·show rem P=(k,v)::rem P.dropLast
    have e:=congrArg rem h1
    rw[Jb] at e;exact e
   have e:=congrArg Xz h1
   rw[X6] at e;exact e
structure Pv(A:AM)(lo hi:Int)(F:List Qo)(m:Nat)(PL PR:List Pt)(out:List Qo):Prop where
 oL:PsOk A PL
 oR:PsOk A PR
 sL:Srt (rem PL)
 sR:Srt (rem PR)
 d:out++V7 lo hi (Y4 (rem PL) (rem PR))=F
 w:out.length+Xz PL+Xz PR≤m
section
variable{A:AM}{lo hi:Int}{F:List Qo}{m:Nat}{PL PR:List Pt}{out:List Qo}
theorem PsOk.top{P:List Pt}{q:Pt}(h:PsOk A P)(ht:Zj P=some q):Zqa A q∧PsOk A P.dropLast:=by
 have h1:=Yt ht
 refine⟨h.ok q (by rw[h1];simp),⟨fun y hy=>h.ok y ((List.dropLast_sublist _).subset hy)⟩⟩
theorem Pv.both(h:Pv A lo hi F m PL PR out){i:Int}{t u:Tr}(hl:Zj PL=some (.sub i t))(hr:Zj PR=some (.sub i u)):Pv A lo hi F m PL.dropLast PR.dropLast out∧Xz PL.dropLast+Xz PR.dropLast<Xz PL+Xz PR:=by
 obtain⟨a1,a2⟩:=h.oL.top hl
 obtain⟨b1,b2⟩:=h.oR.top hr
 have e:t=u:=Is.fn a1.1 b1.1
 subst e
 have e1:=congrArg rem (Yt hl)
 have e2:=congrArg rem (Yt hr)
 have w1:=congrArg Xz (Yt hl)
 have w2:=congrArg Xz (Yt hr)
 rw[Jb] at e1 e2
 rw[X6] at w1 w2
 have h1:=h.sL
 have h2:=h.sR
 have h3:=h.d
 rw[e1] at h1 h3
 rw[e2] at h2 h3
 have hw:1≤ptW (.sub i t):=by
  have:t≠.nil:=fun e=>a1.2 ((Is.nil_iff a1.1).2 e)
  cases t with
  |nil=>exact absurd rfl this
  |node=>simp only[ptW,Tr.n];omega
 refine⟨⟨a2,b2,(Srt.app h1).2.1,(Srt.app h2).2.1,by rw[←h3,Qw],by have:=h.w;omega⟩,by omega⟩
theorem Pv.expL(h:Pv A lo hi F m PL PR out){i:Int}{t:Tr}(hl:Zj PL=some (.sub i t)):∃k z tl tr,Zj PL=some (.sub i (.node tl k z tr))∧Is A (.node tl k z tr) i∧Pv A lo hi F m (Uo PL.dropLast A i k z tl tr) PR out∧Xz (Uo PL.dropLast A i k z tl tr)<Xz PL:=by
 obtain⟨a1,a2⟩:=h.oL.top hl
 have e1:=congrArg rem (Yt hl)
 have w1:=congrArg Xz (Yt hl)
 rw[Jb] at e1
 rw[X6] at w1
 cases t with
 |nil=>exact absurd a1.1 a1.2
 |node tl k z tr =>
  have r1:=VD (P:=PL.dropLast) a1.1
  have r2:=Vg (P:=PL.dropLast) a1.1
  refine⟨k,z,tl,tr,hl,a1.1,⟨Zc3 a2 a1.1,h.oR,by rw[r1];have:=h.sL;rw[e1] at this;exact this,h.sR,by rw[r1];have:=h.d;rw[e1] at this;exact this,by have:=h.w;omega⟩,by omega⟩
theorem Pv.expR(h:Pv A lo hi F m PL PR out){i:Int}{t:Tr}(hl:Zj PR=some (.sub i t)):∃k z tl tr,Zj PR=some (.sub i (.node tl k z tr))∧Is A (.node tl k z tr) i∧Pv A lo hi F m PL (Uo PR.dropLast A i k z tl tr) out∧Xz (Uo PR.dropLast A i k z tl tr)<Xz PR:=by
 obtain⟨a1,a2⟩:=h.oR.top hl
 have e1:=congrArg rem (Yt hl)
 have w1:=congrArg Xz (Yt hl)
 rw[Jb] at e1
 rw[X6] at w1
 cases t with
 |nil=>exact absurd a1.1 a1.2
 |node tl k z tr =>
  have r1:=VD (P:=PR.dropLast) a1.1
  have r2:=Vg (P:=PR.dropLast) a1.1
  refine⟨k,z,tl,tr,hl,a1.1,⟨h.oL,Zc3 a2 a1.1,h.sL,by rw[r1];have:=h.sR;rw[e1] at this;exact this,by rw[r1];have:=h.d;rw[e1] at this;exact this,by have:=h.w;omega⟩,by omega⟩
theorem Pv.done(h:Pv A lo hi F m [] [] out):out=F:=by
 have:=h.d
 rw[show rem []=[] from rfl,Y4] at this
 simpa[V7] using this
theorem Pv.go(h:Pv A lo hi F m PL PR out){PL2 PR2:List Pt}{k v w:Int}{il ir:Bool}(oL:PsOk A PL2)(oR:PsOk A PR2)(sL:Srt (rem PL2))(sR:Srt (rem PR2))(hd:Y4 (rem PL) (rem PR)=(Yg k v w il ir).toList++Y4 (rem PL2) (rem PR2))(hw:Xz PL2+Xz PR2+1≤Xz PL+Xz PR)(g1:∀x∈rem PL2,k<x.1)(g2:∀x∈rem PR2,k<x.1)(hk:∀c,Yg k v w il ir=some c→c.2.1=k) :
  (H0 hi (Yg k v w il ir)=true→Pv A lo hi F m PL2 PR2 (out++XQ lo hi (Yg k v w il ir)))∧Xz PL2+Xz PR2<Xz PL+Xz PR∧(H0 hi (Yg k v w il ir)=false→out++XQ lo hi (Yg k v w il ir)=F):=by
 have h1:=h.d
 rw[hd] at h1
 have hol:(XQ lo hi (Yg k v w il ir)).length≤1:=by
  unfold XQ
  split
  ·split<;>simp
  simp
 have h2:V7 lo hi ((Yg k v w il ir).toList++Y4 (rem PL2) (rem PR2))=XQ lo hi (Yg k v w il ir)++V7 lo hi (Y4 (rem PL2) (rem PR2)):=by
  cases hc:Yg k v w il ir with
  |none=>rfl
  |some c=>exact Zji lo hi c _
 rw[h2,←List.append_assoc] at h1
 refine⟨fun _=>⟨oL,oR,sL,sR,h1,by have:=h.w;rw[List.length_append];omega⟩,by omega,fun hg=>?_⟩
 rw[←h1]
 cases hc:Yg k v w il ir with
 |none=>rw[hc] at hg;cases hg
 |some c =>
  rw[hc] at hg
  have hck:=hk c hc
  have hh:hi≤k:=by simp[H0] at hg;omega
  rw[Zlb (fun x hx=>by have:=g1 x hx;omega) (fun x hx=>by have:=g2 x hx;omega),List.append_nil]
theorem HH{k v w:Int}{il ir:Bool}:∀c,Yg k v w il ir=some c→c.2.1=k:=fun c hc=>by
 unfold Yg at hc
 split at hc
 ·cases hc;rfl
 split at hc
 ·cases hc;rfl
 split at hc
 ·cases hc;rfl
 cases hc
theorem Pv.vLR(h:Pv A lo hi F m PL PR out)(l1:(Zj PL).isSome=true)(l2:pS (Zj PL)=true)(r1:(Zj PR).isSome=true)(r2:pS (Zj PR)=true)(hk:pK (Zj PL)=pK (Zj PR)){k v w:Int}(e1:k=pK (Zj PR))(e2:v=pV (Zj PL))(e3:w=pV (Zj PR)) :
  (H0 hi (Yg k v w true true)=true→Pv A lo hi F m PL.dropLast PR.dropLast (out++XQ lo hi (Yg k v w true true)))∧Xz PL.dropLast+Xz PR.dropLast<Xz PL+Xz PR∧(H0 hi (Yg k v w true true)=false→out++XQ lo hi (Yg k v w true true)=F):=by
 obtain⟨a1,a2,a3⟩:=Qi l1 l2
 obtain⟨b1,b2,b3⟩:=Qi r1 r2
 have s1:=h.sL
 have s2:=h.sR
 rw[a2] at s1
 rw[b2] at s2
 obtain⟨s3,s4⟩:=List.pairwise_cons.1 s1
 obtain⟨s5,s6⟩:=List.pairwise_cons.1 s2
 refine h.go ⟨fun y hy=>h.oL.ok y ((List.dropLast_sublist _).subset hy)⟩ ⟨fun y hy=>h.oR.ok y ((List.dropLast_sublist _).subset hy)⟩ s4 s6 ?_ (by omega) (fun x hx=>by rw[e1,←hk];exact s3 x hx) (fun x hx=>by rw[e1];exact s5 x hx) HH
 have hp:Yg k v w true true=if v≠w then some (3,k,v,w) else none:=by unfold Yg;rw[if_neg (by simp),if_neg (by simp)]
 rw[hp,a2,b2,hk,Y4,if_neg (by omega),if_neg (by omega),e1,e2,e3]
 by_cases hvw:pV (Zj PL)≠pV (Zj PR)
 ·rw[if_pos hvw,if_pos hvw];rfl
 rw[if_neg hvw,if_neg hvw];rfl
theorem Pv.vL(h:Pv A lo hi F m PL PR out)(l1:(Zj PL).isSome=true)(l2:pS (Zj PL)=true)(hr:(Zj PR).isSome=true→pS (Zj PR)=true∧pK (Zj PL)<pK (Zj PR)){k v w:Int}(e1:k=pK (Zj PL))(e2:v=pV (Zj PL)) :
  (H0 hi (Yg k v w true false)=true→Pv A lo hi F m PL.dropLast PR (out++XQ lo hi (Yg k v w true false)))∧Xz PL.dropLast+Xz PR<Xz PL+Xz PR∧(H0 hi (Yg k v w true false)=false→out++XQ lo hi (Yg k v w true false)=F):=by
 obtain⟨a1,a2,a3⟩:=Qi l1 l2
 have s1:=h.sL
 rw[a2] at s1
 obtain⟨s3,s4⟩:=List.pairwise_cons.1 s1
 have hg:∀x∈rem PR,k<x.1:=fun x hx=>by
  cases ht:(Zj PR).isSome with
  |false=>rw[Q6 ht] at hx;cases hx
  |true =>
   obtain⟨h1,h2⟩:=hr ht
   obtain⟨_,b2,_⟩:=Qi ht h1
   have s2:=h.sR
   rw[b2] at s2 hx
   rcases List.mem_cons.1 hx with rfl|hx
   ·rw[e1];exact h2
   have:=(List.pairwise_cons.1 s2).1 x hx
   rw[e1]
   exact Int.lt_trans h2 this
 refine h.go ⟨fun y hy=>h.oL.ok y ((List.dropLast_sublist _).subset hy)⟩ h.oR s4 h.sR ?_ (by omega) (fun x hx=>by rw[e1];exact s3 x hx) hg HH
 rw[a2]
 have hp:Yg k v w true false=some (2,k,v,0):=by unfold Yg;rw[if_neg (by simp),if_pos rfl]
 rw[hp,e1,e2]
 cases hq:rem PR with
 |nil=>rw[Y4];rfl
 |cons x r =>
  obtain⟨x1,x2⟩:=x
  have:=hg (x1,x2) (by rw[hq];simp)
  rw[Y4,if_pos (by rw[←e1];exact this)];rfl
theorem Pv.vR(h:Pv A lo hi F m PL PR out)(r1:(Zj PR).isSome=true)(r2:pS (Zj PR)=true)(hl:(Zj PL).isSome=true→pS (Zj PL)=true∧pK (Zj PR)<pK (Zj PL)){k v w:Int}(e1:k=pK (Zj PR))(e3:w=pV (Zj PR)) :
  (H0 hi (Yg k v w false true)=true→Pv A lo hi F m PL PR.dropLast (out++XQ lo hi (Yg k v w false true)))∧Xz PL+Xz PR.dropLast<Xz PL+Xz PR∧(H0 hi (Yg k v w false true)=false→out++XQ lo hi (Yg k v w false true)=F):=by
 obtain⟨b1,b2,b3⟩:=Qi r1 r2
 have s2:=h.sR
 rw[b2] at s2
 obtain⟨s5,s6⟩:=List.pairwise_cons.1 s2
 have hg:∀x∈rem PL,k<x.1:=fun x hx=>by
  cases ht:(Zj PL).isSome with
  |false=>rw[Q6 ht] at hx;cases hx
  |true =>
   obtain⟨h1,h2⟩:=hl ht
   obtain⟨_,a2,_⟩:=Qi ht h1
   have s1:=h.sL
   rw[a2] at s1 hx
   rcases List.mem_cons.1 hx with rfl|hx
   ·rw[e1];exact h2
   have:=(List.pairwise_cons.1 s1).1 x hx
   rw[e1]
   exact Int.lt_trans h2 this
 refine h.go h.oL ⟨fun y hy=>h.oR.ok y ((List.dropLast_sublist _).subset hy)⟩ h.sL s6 ?_ (by omega) hg (fun x hx=>by rw[e1];exact s5 x hx) HH
 rw[b2]
 have hp:Yg k v w false true=some (1,k,0,w):=by unfold Yg;rw[if_pos rfl]
 rw[hp,e1,e3]
 cases hq:rem PL with
 |nil=>rw[Y4];rfl
 |cons x r =>
  obtain⟨x1,x2⟩:=x
  have:=hg (x1,x2) (by rw[hq];simp)
  rw[Y4,if_neg (by rw[e1] at this;exact Int.not_lt.2 (Int.le_of_lt this)),if_pos (by rw[←e1];exact this)];rfl
end
theorem Zqw{a b sl sr:Bool}{p:Prop}[Decidable p](h:(bif (bif (bif (bif a then b else false) then(!sl) else false) then(!sr) else false) then decide p else false)=true):a=true∧b=true∧sl=false∧sr=false∧p:=by
 cases a<;>cases b<;>cases sl<;>cases sr<;>simp_all
theorem Zq7{a b sl sr:Bool}{p:Prop}[Decidable p](h:(bif (bif a then(!sl) else false) then(bif (bif (!b) then true else sr) then true else decide p) else false)=true):a=true∧sl=false:=by
 cases a<;>cases sl<;>simp_all
theorem Zk9{b sr:Bool}(h:(bif b then(!sr) else false)=true):b=true∧sr=false:=by
 cases b<;>cases sr<;>simp_all
theorem Zpy{a b sl sr:Bool}{p:Prop}[Decidable p](h1:(bif (!a) then(!b) else false)=false)(h3:(bif (bif a then(!sl) else false) then(bif (bif (!b) then true else sr) then true else decide p) else false)=false)(h4:(bif b then(!sr) else false)=false):(a=true→sl=true)∧(b=true→sr=true)∧(a=false→b=true):=by
 cases a<;>cases b<;>cases sl<;>cases sr<;>simp_all
end Go.V
namespace Go.V
open Go
theorem ZA(z k v:Int)(l:Zl):Zo z ((k,v)::l)=if k=z then some v else Zo z l:=by
 unfold Zo
 rw[List.find?_cons]
 by_cases h:k=z
 ·rw[if_pos h,decide_eq_true h];rfl
 rw[if_neg h,decide_eq_false h]
theorem Q5{z k v:Int}{l:Zl}(hs:Srt ((k,v)::l))(h:z≤k):Zo z l=none:=J1 fun x hx=>by
 have h9:k<x.1:=(List.pairwise_cons.1 hs).1 x hx
 omega
theorem Xx:∀(l r:Zl),Srt l→Srt r→∀z,(∃c∈Y4 l r,c.2.1=z)↔Zo z l≠Zo z r
 |[],[],_,_,z=>by rw[Y4];simp
 |[],(k,w)::r,hl,hr,z=>by
  have ih:=Xx [] r hl (List.pairwise_cons.1 hr).2 z
  rw[Y4,ZA]
  by_cases h:k=z
  ·rw[if_pos h];exact⟨fun _ e=>(by cases e),fun _=>⟨_,List.mem_cons_self ..,h⟩⟩
  rw[if_neg h,←ih]
  constructor
  ·rintro⟨c,hc,e⟩
   rcases List.mem_cons.1 hc with rfl|hc
   ·exact absurd e h
   exact⟨c,hc,e⟩
  rintro⟨c,hc,e⟩;exact⟨c,List.mem_cons_of_mem _ hc,e⟩
 |(k,v)::l,[],hl,hr,z=>by
  have ih:=Xx l [] (List.pairwise_cons.1 hl).2 hr z
  rw[Y4,ZA]
  by_cases h:k=z
  ·rw[if_pos h];exact⟨fun _ e=>(by cases e),fun _=>⟨_,List.mem_cons_self ..,h⟩⟩
  rw[if_neg h,←ih]
  constructor
  ·rintro⟨c,hc,e⟩
   rcases List.mem_cons.1 hc with rfl|hc
   ·exact absurd e h
   exact⟨c,hc,e⟩
  rintro⟨c,hc,e⟩;exact⟨c,List.mem_cons_of_mem _ hc,e⟩
 |(k,v)::l,(k',w)::r,hl,hr,z=>by
  have h1:=(List.pairwise_cons.1 hl).2
  have h2:=(List.pairwise_cons.1 hr).2
  rw[Y4]
  have hstep:∀{c0:Qo}{D:List Qo},c0.2.1≠z→((∃c∈c0::D,c.2.1=z)↔∃c∈D,c.2.1=z):=fun {c0 D} hne=>by
   constructor
   ·rintro⟨c,hc,e⟩
    rcases List.mem_cons.1 hc with rfl|hc
    ·exact absurd e hne
    exact⟨c,hc,e⟩
   rintro⟨c,hc,e⟩;exact⟨c,List.mem_cons_of_mem _ hc,e⟩
  split
  ·rename_i hlt
   have ih:=Xx l ((k',w)::r) h1 hr z
   by_cases h:k=z
   ·subst h
    rw[ZA,if_pos rfl,ZA,if_neg (by omega),Q5 hr (by omega)]
    exact⟨fun _ e=>(by cases e),fun _=>⟨_,List.mem_cons_self ..,rfl⟩⟩
   rw[hstep h,ih,ZA z k v l,if_neg h]
  split
  ·rename_i hlt hgt
   have ih:=Xx ((k,v)::l) r hl h2 z
   by_cases h:k'=z
   ·subst h
    rw[ZA k' k' w,if_pos rfl,ZA,if_neg (by omega),Q5 hl (by omega)]
    exact⟨fun _ e=>(by cases e),fun _=>⟨_,List.mem_cons_self ..,rfl⟩⟩
   rw[hstep h,ih,ZA z k' w r,if_neg h]
  rename_i hlt hgt
  have hk:k'=k:=by omega
  subst hk
  have ih:=Xx l r h1 h2 z
  split
  ·rename_i hvw
   by_cases h:k'=z
   ·subst h
    rw[ZA,if_pos rfl,ZA,if_pos rfl]
    exact⟨fun _ e=>hvw (Option.some.inj e),fun _=>⟨_,List.mem_cons_self ..,rfl⟩⟩
   rw[hstep h,ih,ZA z k' v,if_neg h,ZA z k' w,if_neg h]
  rename_i hvw
  have hvw:v=w:=Classical.not_not.1 hvw
  subst hvw
  rw[ih,ZA z k' v l,ZA z k' v r]
  by_cases h:k'=z
  ·rw[if_pos h,if_pos h,Q5 hl (by omega),Q5 hr (by omega)]
   exact⟨fun e=>absurd rfl e,fun e=>absurd rfl e⟩
  rw[if_neg h,if_neg h]
 termination_by l r=>l.length+r.length
theorem Xb{k v:Int}{l:Zl}(hs:Srt l)(z:Int):Zo z (Zs k v l)=if z=k then some v else Zo z l:=by
 have h:=ZD (k:=k) (v:=v) hs
 have hm:∀y,(z,y)∈Zs k v l↔(z=k∧y=v)∨(z≠k∧(z,y)∈l):=fun y=>by
  unfold Zs
  rw[List.mem_append,List.mem_cons,List.mem_filter,List.mem_filter,decide_eq_true_iff,decide_eq_true_iff,Prod.mk.injEq]
  constructor
  ·rintro(⟨h1,h2⟩|h|⟨h1,h2⟩)
   ·exact .inr ⟨Int.ne_of_lt h2,h1⟩
   ·exact .inl h
   exact .inr ⟨Int.ne_of_gt h2,h1⟩
  rintro(h|⟨h1,h2⟩)
  ·exact .inr (.inl h)
  rcases Int.lt_or_gt_of_ne h1 with h3|h3
  ·exact .inl ⟨h2,h3⟩
  exact .inr (.inr ⟨h2,h3⟩)
 by_cases hz:z=k
 ·rw[if_pos hz];exact(ZN h).2 ((hm v).2 (.inl ⟨hz,rfl⟩))
 rw[if_neg hz]
 cases hc:Zo z l with
 |some y=>exact(ZN h).2 ((hm y).2 (.inr ⟨hz,(ZN hs).1 hc⟩))
 |none =>
  cases hd:Zo z (Zs k v l) with
  |none=>rfl
  |some y =>
   rcases(hm y).1 ((ZN h).1 hd) with h1|h1
   ·exact absurd h1.1 hz
   rw[(ZN hs).2 h1.2] at hc;cases hc
end Go.V
namespace Go.V
open Go Go.RowKit Go.Maps Go.Sort
section
variable{α β:Type}
def pSrt(M:List (Int×β)):Prop:=M.Pairwise fun a b=>a.1<b.1
def JH(k:Int)(M:List (Int×β)):Option β:=(M.find? fun x=>decide (x.1=k)).map (·.2)
def Zev(k:Int)(y:β)(M:List (Int×β)):List (Int×β):=M.filter (fun x=>decide (x.1<k))++(k,y)::M.filter (fun x=>decide (k<x.1))
def Zik(k:Int)(M:List (Int×β)):List (Int×β):=M.filter fun x=>decide (x.1≠k)
theorem Vs{k:Int}{y:β}{M:List (Int×β)}(h:pSrt M):pSrt (Zev k y M):=by
 unfold Zev
 refine List.pairwise_append.2 ⟨h.sublist List.filter_sublist,List.pairwise_cons.2 ⟨fun y hy=>?_,h.sublist List.filter_sublist⟩,fun x hx y hy=>?_⟩
 ·exact of_decide_eq_true (List.mem_filter.1 hy).2
 have h1:=of_decide_eq_true (List.mem_filter.1 hx).2
 rcases List.mem_cons.1 hy with rfl|hy
 ·exact h1
 have h2:=of_decide_eq_true (List.mem_filter.1 hy).2
 omega
theorem VY{k:Int}{M:List (Int×β)}(h:pSrt M):pSrt (Zik k M):=h.sublist List.filter_sublist
theorem VB{k:Int}{y:β}{M:List (Int×β)}(x:Int×β):x∈Zev k y M↔x=(k,y)∨(x∈M∧x.1≠k):=by
 unfold Zev
 rw[List.mem_append,List.mem_cons,List.mem_filter,List.mem_filter,decide_eq_true_iff,decide_eq_true_iff]
 constructor
 ·rintro(⟨h1,h2⟩|h|⟨h1,h2⟩)
  ·exact .inr ⟨h1,by omega⟩
  ·exact .inl h
  exact .inr ⟨h1,by omega⟩
 rintro(h|⟨h1,h2⟩)
 ·exact .inr (.inl h)
 by_cases h3:x.1<k
 ·exact .inl ⟨h1,h3⟩
 exact .inr (.inr ⟨h1,by omega⟩)
theorem Hy{k:Int}{M:List (Int×β)}(x:Int×β):x∈Zik k M↔x∈M∧x.1≠k:=by
 unfold Zik;rw[List.mem_filter,decide_eq_true_iff]
theorem pSrt.nodup{M:List (Int×β)}(h:pSrt M):M.Nodup:=h.imp fun {a b} h e=>by rw[e] at h;omega
theorem Yc{k:Int}{M:List (Int×β)}(hs:pSrt M){y:β}:JH k M=some y↔(k,y)∈M:=by
 unfold JH
 constructor
 ·intro h
  cases hf:M.find? fun x=>decide (x.1=k) with
  |none=>rw[hf] at h;cases h
  |some z =>
   rw[hf] at h
   have h1:z.1=k:=of_decide_eq_true (List.find?_some (p:=fun x:Int×β=>decide (x.1=k)) hf)
   simp only[Option.map_some,Option.some.injEq] at h
   have h2:=List.mem_of_find?_eq_some hf
   rw[←h1,←h];exact h2
 intro h
 induction M with
 |nil=>cases h
 |cons x t ih =>
  obtain⟨h1,h2⟩:=List.pairwise_cons.1 hs
  rw[List.find?_cons]
  rcases List.mem_cons.1 h with rfl|h
  ·simp
  have h3:x.1<k:=h1 _ h
  rw[decide_eq_false (show ¬x.1=k by omega)]
  exact ih h2 h
theorem J9{k:Int}{M:List (Int×β)}(h:∀x∈M,x.1≠k):JH k M=none:=by
 unfold JH
 rw[List.find?_eq_none.2 fun x hx e=>h x hx (of_decide_eq_true e)];rfl
theorem Zjt{k:Int}{M N:List (Int×β)}(hM:pSrt M)(hN:pSrt N)(h:∀y,(k,y)∈M↔(k,y)∈N):JH k M=JH k N:=by
 cases hm:JH k M with
 |some y=>exact((Yc hN).2 ((h y).1 ((Yc hM).1 hm))).symm
 |none =>
  cases hn:JH k N with
  |none=>rfl
  |some y=>rw[(Yc hM).2 ((h y).2 ((Yc hN).1 hn))] at hm;cases hm
theorem Zg2{k z:Int}{M:List (Int×β)}(h:pSrt M):JH z (Zik k M)=if z=k then none else JH z M:=by
 by_cases hz:z=k
 ·subst hz;rw[if_pos rfl];exact J9 fun x hx=>((Hy x).1 hx).2
 rw[if_neg hz]
 exact Zjt (VY h) h fun w=>by
  rw[Hy]
  exact⟨fun h1=>h1.1,fun h1=>⟨h1,hz⟩⟩
theorem pSrt.ext:∀{M N:List (Int×β)},pSrt M→pSrt N→(∀z,JH z M=JH z N)→M=N
 |[],[],_,_,_=>rfl
 |[],(k,y)::N,_,hN,h=>by
  have h1:=h k
  rw[(Yc hN).2 (List.mem_cons_self ..)] at h1;cases h1
 |(k,y)::M,[],hM,_,h=>by
  have h1:=h k
  rw[(Yc hM).2 (List.mem_cons_self ..)] at h1;cases h1
 |(k,y)::M,(j,w)::N,hM,hN,h=>by
  obtain⟨a1,a2⟩:=List.pairwise_cons.1 hM
  obtain⟨b1,b2⟩:=List.pairwise_cons.1 hN
  have e1:(k,y)∈(j,w)::N:=(Yc hN).1 ((h k).symm.trans ((Yc hM).2 (List.mem_cons_self ..)))
  have e2:(j,w)∈(k,y)::M:=(Yc hM).1 ((h j).trans ((Yc hN).2 (List.mem_cons_self ..)))
  have hkj:k=j:=by
   rcases List.mem_cons.1 e1 with e|e
   ·exact congrArg Prod.fst e
   rcases List.mem_cons.1 e2 with e'|e'
   ·exact(congrArg Prod.fst e').symm
   have h1:j<k:=b1 _ e
   have h2:k<j:=a1 _ e'
   omega
  subst hkj
  have hy:y=w:=by
   rcases List.mem_cons.1 e1 with e|e
   ·exact congrArg Prod.snd e
   have h1:k<k:=b1 _ e
   omega
  subst hy
  rw[pSrt.ext a2 b2 fun z=>?_]
  have h1:=h z
  by_cases hz:z=k
  ·subst hz
   rw[J9 fun x hx=>by have:=a1 x hx;exact Int.ne_of_gt this,J9 fun x hx=>by have:=b1 x hx;exact Int.ne_of_gt this]
  have hc:∀L:List (Int×β),JH z ((k,y)::L)=JH z L:=fun L=>by
   unfold JH;rw[List.find?_cons,decide_eq_false (fun e:k=z=>hz e.symm)]
  rw[hc,hc] at h1;exact h1
structure POk(f:α→Value×Value×Nat)(n:α→Int)(g:α→β)(xs:List α)(q:Nat)(M:List (Int×β)):Prop where
 k:KOk f n xs q
 perm:(xs.map fun x=>(n x,g x)).Perm M
 srt:pSrt M
variable{f:α→Value×Value×Nat}{n:α→Int}{g:α→β}{xs:List α}{q:Nat}{M:List (Int×β)}
theorem POk.nil:POk f n g [] 0 []:=⟨KOk.nil,List.Perm.refl _,List.Pairwise.nil⟩
theorem POk.len(h:POk f n g xs q M):xs.length=M.length:=by rw[←h.perm.length_eq,List.length_map]
theorem POk.mem(h:POk f n g xs q M)(x:Int×β):x∈M↔∃y∈xs,(n y,g y)=x:=by rw[←h.perm.mem_iff,List.mem_map]
theorem POk.get(h:POk f n g xs q M){j:Nat}{x:α}(hx:xs[j]?=some x):JH (n x) M=some (g x) :=
 (Yc h.srt).2 ((h.mem _).2 ⟨x,List.mem_of_getElem? hx,rfl⟩)
theorem POk.no(h:POk f n g xs q M){k:Int}(hx:∀x∈xs,n x≠k):JH k M=none :=
 J9 fun x hm=>by
  obtain⟨y,hy,rfl⟩:=(h.mem x).1 hm
  exact hx y hy
theorem KOk.set'{l:List α}(h:KOk f n l q){j:Nat}{x y:α}(hx:l[j]?=some x)(h1:n y=n x)(h2:(f y).1=(f x).1)(h3:(f y).2.2=(f x).2.2):KOk f n (l.set j y) q:=by
 have hj:=(List.getElem?_eq_some_iff.1 hx).1
 have hm:∀{γ:Type}(g:α→γ),g y=g x→(l.set j y).map g=l.map g:=fun g hg=>by
  apply List.ext_getElem?
  intro i
  rw[List.getElem?_map,List.getElem?_map,List.getElem?_set]
  split
  ·rename_i hij;subst hij
   rw[hx];simp[hg]
  rfl
 have hxm:=List.mem_of_getElem? hx
 refine⟨fun z hz=>?_,?_,fun z hz=>?_,?_,fun z hz=>?_,by rw[List.length_set];exact h.num⟩
 ·rcases List.mem_or_eq_of_mem_set hz with hz|rfl
  ·exact h.key z hz
  rw[h2,h1];exact h.key x hxm
 ·have:=List.pairwise_map.2 h.uniq
  rw[←hm n h1] at this
  exact List.pairwise_map.1 this
 ·rcases List.mem_or_eq_of_mem_set hz with hz|rfl
  ·exact h.born z hz
  rw[h3];exact h.born x hxm
 ·rw[hm (fun x=>(f x).2.2) h3];exact h.bnd
 rcases List.mem_or_eq_of_mem_set hz with hz|rfl
 ·exact h.rng z hz
 rw[h1];exact h.rng x hxm
theorem POk.ofMem{xs':List α}{q':Nat}{M':List (Int×β)}(hk:KOk f n xs' q')(hs:pSrt M')(hm:∀x,(∃y∈xs',(n y,g y)=x)↔x∈M'):POk f n g xs' q' M':=by
 refine⟨hk,?_,hs⟩
 have hn:(xs'.map fun x=>(n x,g x)).Nodup:=List.pairwise_map.2 (hk.uniq.imp fun {a b} h e=>h (congrArg Prod.fst e))
 exact(List.perm_ext_iff_of_nodup hn hs.nodup).2 fun x=>by rw[List.mem_map];exact hm x
theorem POk.set(h:POk f n g xs q M){j:Nat}{x y:α}(hx:xs[j]?=some x)(h1:n y=n x)(h2:(f y).1=(f x).1)(h3:(f y).2.2=(f x).2.2):POk f n g (xs.set j y) q (Zev (n x) (g y) M):=by
 refine POk.ofMem (h.k.set' hx h1 h2 h3) (Vs h.srt) fun z=>?_
 rw[VB,h.mem]
 have hj:=(List.getElem?_eq_some_iff.1 hx).1
 constructor
 ·rintro⟨u,hu,rfl⟩
  obtain⟨i,hi⟩:=List.mem_iff_getElem?.1 hu
  rw[List.getElem?_set] at hi
  split at hi
  ·rw[←Option.some.inj hi,h1];exact .inl rfl
  rename_i hij
  have hil:=(List.getElem?_eq_some_iff.1 hi).1
  refine .inr ⟨⟨u,List.mem_of_getElem? hi,rfl⟩,fun e=>?_⟩
  have hu:=List.pairwise_iff_getElem.1 h.k.uniq
  have e1:=(List.getElem?_eq_some_iff.1 hi).2
  have e2:=(List.getElem?_eq_some_iff.1 hx).2
  have he:n u=n x:=e
  rcases Nat.lt_or_gt_of_ne hij with hlt|hgt
  ·exact hu j i hj hil hlt (by rw[e1,e2];exact he.symm)
  exact hu i j hil hj hgt (by rw[e1,e2];exact he)
 rintro(rfl|⟨⟨u,hu,rfl⟩,hn⟩)
 ·exact⟨y,List.mem_iff_getElem?.2 ⟨j,by rw[List.getElem?_set,if_pos rfl];simp[hj]⟩,by rw[h1]⟩
 obtain⟨i,hi⟩:=List.mem_iff_getElem?.1 hu
 refine⟨u,List.mem_iff_getElem?.2 ⟨i,?_⟩,rfl⟩
 rw[List.getElem?_set,if_neg (fun e=>?_),hi]
 subst e
 rw[hx] at hi
 have:=Option.some.inj hi
 subst this
 exact hn rfl
theorem POk.snoc(h:POk f n g xs q M){y:α}(hk:(f y).1=.int .i64 (n y))(hn:∀x∈xs,n x≠n y)(hb:(f y).2.2=q)(hr:-9223372036854775808≤n y∧n y≤9223372036854775807)(hl:xs.length<4096):POk f n g (xs++[y]) (q+1) (Zev (n y) (g y) M):=by
 refine POk.ofMem (h.k.snoc hk hn hb hr hl) (Vs h.srt) fun z=>?_
 rw[VB,h.mem]
 constructor
 ·rintro⟨u,hu,rfl⟩
  rcases List.mem_append.1 hu with hu|hu
  ·exact .inr ⟨⟨u,hu,rfl⟩,hn u hu⟩
  rw[List.mem_singleton.1 hu];exact .inl rfl
 rintro(rfl|⟨⟨u,hu,rfl⟩,_⟩)
 ·exact⟨y,List.mem_append_right _ (List.mem_singleton.2 rfl),rfl⟩
 exact⟨u,List.mem_append_left _ hu,rfl⟩
theorem POk.erase(h:POk f n g xs q M){j:Nat}{x:α}(hx:xs[j]?=some x):POk f n g (xs.eraseIdx j) q (Zik (n x) M):=by
 refine POk.ofMem (h.k.erase j) (VY h.srt) fun z=>?_
 rw[Hy,h.mem]
 constructor
 ·rintro⟨u,hu,rfl⟩
  obtain⟨h1,h2⟩:=(Qr h.k.uniq hx u).1 hu
  exact⟨⟨u,h1,rfl⟩,h2⟩
 rintro⟨⟨u,hu,rfl⟩,hn⟩
 exact⟨u,(Qr h.k.uniq hx u).2 ⟨hu,hn⟩,rfl⟩
theorem POk.keys(h:POk f n g xs q M):(M.map (·.1)).Perm (xs.map n)∧(M.map (·.1)).Pairwise (·≤·):=by
 refine⟨?_,List.pairwise_map.2 (h.srt.imp fun {a b} h=>by omega)⟩
 have:=(h.perm.map (fun x:Int×β=>x.1)).symm
 rw[List.map_map] at this
 exact this
end
end Go.V
namespace Go.V
open Go Go.RowKit
abbrev Ev:=Int×Int×Int×Int×Int
def ev5(l:List Ev):List (List Value):=l.map fun x=>[.int .i64 x.1,.int .i64 x.2.1,.int .i64 x.2.2.1,.int .i64 x.2.2.2.1,.int .i64 x.2.2.2.2]
@[simp] theorem ev5_len(l:List Ev):(ev5 l).length=l.length:=by simp[ev5]
abbrev Or:=Int×Int×Int
def or3(l:List Or):List (List Value):=l.map fun x=>[.int .i64 x.1,.int .i64 x.2.1,.int .i64 x.2.2]
@[simp] theorem or3_len(l:List Or):(or3 l).length=l.length:=by simp[or3]
structure LsE where
 es:Zl
 a:Option Addr
 c:Nat
def Yz(l:List LsE):List (List Value):=l.map fun x=>[.slice x.a (Zm x.es).length x.c]
@[simp] theorem Zcg(l:List LsE):(Yz l).length=l.length:=by simp[Yz]
theorem Cj{l:List LsE}{k:Nat}{x:LsE}(h:l[k]?=some x):(Yz l)[k]?=some [.slice x.a (Zm x.es).length x.c]:=by simp[Yz,h]
theorem Zlw(l m:List LsE):Yz (l++m)=Yz l++Yz m:=by simp[Yz]
theorem Zql(l:List LsE):OkE 1 (Yz l):=fun x hx=>by
 obtain⟨y,_,rfl⟩:=List.mem_map.1 hx
 exact⟨rfl,fun u hu=>by simp at hu;subst hu;rfl⟩
theorem DQ(l r:Zl):(Y4 l r).length≤l.length+r.length:=by
 fun_induction Y4 l r<;>simp only[List.length_cons,List.length_nil] at *<;>omega
def X_(l:Zl):Prop:=∀x∈l,-9223372036854775808≤x.1∧x.1≤9223372036854775807
theorem Ziu{l r:Zl}(hl:X_ l)(hr:X_ r):V7 (-9223372036854775808) 9223372036854775807 (Y4 l r)=Y4 l r:=by
 unfold V7
 refine List.filter_eq_self.2 fun c hc=>decide_eq_true ?_
 rcases Xk l r c hc with⟨x,hx,e⟩|⟨x,hx,e⟩
 ·rw[←e];exact hl x hx
 rw[←e];exact hr x hx
theorem Zmf(l r:Zl):Srt l→Srt r→(Y4 l r).Pairwise fun a b=>a.2.1<b.2.1:=by
 fun_induction Y4 l r
 case case1=>exact fun _ _=>List.Pairwise.nil
 case case2 k w r ih =>
  intro hl hr
  obtain⟨h1,h2⟩:=List.pairwise_cons.1 hr
  refine List.pairwise_cons.2 ⟨fun c hc=>?_,ih hl h2⟩
  rcases Xk _ _ c hc with⟨x,hx,_⟩|⟨x,hx,e⟩
  ·cases hx
  have:=h1 x hx;rw[←e];exact this
 case case3 k v l ih =>
  intro hl hr
  obtain⟨h1,h2⟩:=List.pairwise_cons.1 hl
  refine List.pairwise_cons.2 ⟨fun c hc=>?_,ih h2 hr⟩
  rcases Xk _ _ c hc with⟨x,hx,e⟩|⟨x,hx,_⟩
  ·have:=h1 x hx;rw[←e];exact this
  cases hx
 case case4 k v l k' w r h ih =>
  intro hl hr
  obtain⟨h1,h2⟩:=List.pairwise_cons.1 hl
  refine List.pairwise_cons.2 ⟨fun c hc=>?_,ih h2 hr⟩
  rcases Xk _ _ c hc with⟨x,hx,e⟩|⟨x,hx,e⟩
  ·have:=h1 x hx;rw[←e];exact this
  rw[←e]
  rcases List.mem_cons.1 hx with rfl|hx
  ·exact h
  have h3:k'<x.1:=(List.pairwise_cons.1 hr).1 x hx
  show k<x.1;omega
 case case5 k v l k' w r h1 h2 ih =>
  intro hl hr
  obtain⟨h3,h4⟩:=List.pairwise_cons.1 hr
  refine List.pairwise_cons.2 ⟨fun c hc=>?_,ih hl h4⟩
  rcases Xk _ _ c hc with⟨x,hx,e⟩|⟨x,hx,e⟩
  ·rw[←e]
   rcases List.mem_cons.1 hx with rfl|hx
   ·exact h2
   have h5:k<x.1:=(List.pairwise_cons.1 hl).1 x hx
   show k'<x.1;omega
  have:=h3 x hx;rw[←e];exact this
 case case6 k v l k' w r h1 h2 h3 ih =>
  intro hl hr
  obtain⟨a1,a2⟩:=List.pairwise_cons.1 hl
  obtain⟨b1,b2⟩:=List.pairwise_cons.1 hr
  refine List.pairwise_cons.2 ⟨fun c hc=>?_,ih a2 b2⟩
  rcases Xk _ _ c hc with⟨x,hx,e⟩|⟨x,hx,e⟩
  ·have:=a1 x hx;rw[←e];exact this
  have h5:k'<x.1:=b1 x hx
  rw[←e];show k<x.1;omega
 case case7 k v l k' w r h1 h2 h3 ih =>
  exact fun hl hr=>ih (List.pairwise_cons.1 hl).2 (List.pairwise_cons.1 hr).2
structure ChOk(l r:Zl)(c:Qo):Prop where
 new:Zo c.2.1 r=if c.1=2 then none else some c.2.2.2
 old:Zo c.2.1 l=if c.1=1 then none else some c.2.2.1
 z1:c.1=1→c.2.2.1=0
 z2:c.1=2→c.2.2.2=0
 kd:c.1=1∨c.1=2∨c.1=3
theorem ChOk.up{l r l' r':Zl}{c:Qo}(h:ChOk l r c)(h1:Zo c.2.1 l'=Zo c.2.1 l)(h2:Zo c.2.1 r'=Zo c.2.1 r):ChOk l' r' c :=
 ⟨by rw[h2];exact h.new,by rw[h1];exact h.old,h.z1,h.z2,h.kd⟩
theorem Ze8{k:Int}{l:Zl}(hs:Srt l)(z:Int):Zo z (Va k l)=if z=k then none else Zo z l:=Zg2 (M:=l) hs
end Go.V
namespace Go.V
open Go Go.RowKit
def lsA(L:List Zl)(i:Nat):Zl:=L.getD i []
def lsB(L:List Zl)(i:Nat):Zl:=if i=0 then[] else lsA L (i-1)
def dA(lo hi:Int)(L:List Zl)(i:Nat):List Qo:=V7 lo hi (Y4 (lsB L i) (lsA L i))
def evA(i:Nat)(D:List Qo):List Ev:=D.map fun c=>((i:Int),c)
def hev(lo hi:Int)(L:List Zl)(k:Nat):List Ev:=(List.range k).flatMap fun i=>evA i (dA lo hi L i)
def LOk(L:List Zl):Prop:=∀l∈L,Srt l∧l.length≤100∧X_ l
section
variable{L:List Zl}{lo hi:Int}
theorem LOk.a(h:LOk L)(i:Nat):Srt (lsA L i)∧(lsA L i).length≤100∧X_ (lsA L i):=by
 unfold lsA
 rw[List.getD_eq_getElem?_getD]
 cases hi:L[i]? with
 |none=>exact⟨List.Pairwise.nil,Nat.zero_le _,fun x hx=>(by cases hx)⟩
 |some l=>exact h l (List.mem_of_getElem? hi)
theorem LOk.b(h:LOk L)(i:Nat):Srt (lsB L i)∧(lsB L i).length≤100∧X_ (lsB L i):=by
 unfold lsB
 split
 ·exact⟨List.Pairwise.nil,Nat.zero_le _,fun x hx=>(by cases hx)⟩
 exact h.a _
end
structure RTs(A:AM)(L:List Zl)(rs:List Int):Prop where
 len:L.length=rs.length
 get:∀(i:Nat)(r:Int),rs[i]?=some r→∃t:Tr,Is A t r∧t.ok∧t.ls=lsA L i
end Go.V
namespace Go.V
open Go Go.RowKit
theorem St.shsDup{α:Type}{f:α→List HP}{zs:List α}{g w:World}{L:List HP}(h:St g L w)(i:Nat)(hi:L[i]?=some (ZE f zs)):St g (ZE f zs::L) w:=by
 obtain⟨o,r,a,b,c,d,e⟩:=h.own
 obtain⟨o1,o2,h1,h2,hd,hh,hL⟩:=All.perm (Jt hi) e
 exact⟨h.os,h.tape,h.output,h.size,o,r,a,b,c,d,All.cat [ZE f zs] L (fun _ _ h=>by cases h) (Sub.refl _) (Dj.none _) ⟨fun _=>none,fun _=>none,Sub.refl _,Sub.refl _,Dj.none _,hh,trivial⟩ e⟩
end Go.V
namespace Go.V
open Go Go.RowKit
def CO(x:LsE):List HP:=[Sh 32 2 (Zm x.es) x.a x.c]
theorem Zpp(x:LsE):∀A∈CO x,Sht A:=fun A hA=>by
 simp only[CO,List.mem_singleton] at hA;subst hA;exact Sht.sh
structure ChI(A:AM)(R rs:List Int)(LL:List LsE)(m k n c:Nat):Prop where
 ref:ARf A R
 rl:R.length≤k+1
 mem:∀r∈rs,r∈R
 rsl:rs.length=k+1
 trs:RTs A (LL.map LsE.es) rs
 lok:∀x∈LL,Srt x.es∧x.es.length≤m+k∧X_ x.es
 fr:((1+(n+1)*c:Nat):Int)≤A.s.free+(k*c:Nat)
structure ChJ(A B:AM)(R R2:List Int)(o:Int)(ns:Zl)(m k c:Nat):Prop where
 ref:ARf B R2
 rl:R2.length≤R.length+1
 sub:∀r∈R,r∈R2
 om:o∈R2
 tr:∃t:Tr,Is B t o∧t.ok∧t.ls=ns
 kp:Kp A B R
 ok:Srt ns∧ns.length≤m+(k+1)∧X_ ns
 fr:A.s.free≤B.s.free+(c:Int)
section
variable{A B:AM}{R R2 rs:List Int}{LL:List LsE}{m k n c:Nat}{o:Int}{ns:Zl}
theorem ChI.room(h:ChI A R rs LL m k n c)(hk:k<n):(c:Int)≤A.s.free:=by
 have h1:=h.fr
 have h2:(k+1)*c≤(n+1)*c:=Nat.mul_le_mul_right c (by omega)
 rw[Nat.succ_mul] at h2
 omega
theorem ChI.step(h:ChI A R rs LL m k n c)(j:ChJ A B R R2 o ns m k c)(na:Option Addr)(nc:Nat):ChI B R2 (rs++[o]) (LL++[⟨ns,na,nc⟩]) m (k+1) n c:=by
 have hL:LL.length=rs.length:=by have:=h.trs.len;rw[List.length_map] at this;exact this
 refine⟨j.ref,by have:=j.rl;have:=h.rl;omega,fun r hr=>?_,by rw[List.length_append,h.rsl];rfl,⟨by simp[hL],fun i r hr=>?_⟩,fun x hx=>?_,?_⟩
 ·rcases List.mem_append.1 hr with hr|hr
  ·exact j.sub r (h.mem r hr)
  rw[List.mem_singleton.1 hr];exact j.om
 ·rcases Nat.lt_or_ge i rs.length with hi|hi
  ·rw[List.getElem?_append_left hi] at hr
   obtain⟨t,h1,h2,h3⟩:=h.trs.get i r hr
   refine⟨t,j.kp r (h.mem r (List.mem_of_getElem? hr)) t h1,h2,h3.trans ?_⟩
   unfold lsA
   rw[List.getD_eq_getElem?_getD,List.getD_eq_getElem?_getD,List.map_append,List.getElem?_append_left (by rw[List.length_map];omega)]
  rw[List.getElem?_append_right hi] at hr
  have hi2:i=rs.length:=by
   have:=(List.getElem?_eq_some_iff.1 hr).1
   simp at this;omega
  subst hi2
  obtain⟨t,h1,h2,h3⟩:=j.tr
  simp only[Nat.sub_self,List.getElem?_cons_zero,Option.some.injEq] at hr
  subst hr
  refine⟨t,h1,h2,h3.trans ?_⟩
  unfold lsA
  rw[List.getD_eq_getElem?_getD,List.map_append,List.getElem?_append_right (by rw[List.length_map];omega),List.length_map,hL,Nat.sub_self];rfl
 ·rcases List.mem_append.1 hx with hx|hx
  ·have:=h.lok x hx;exact⟨this.1,by omega,this.2.2⟩
  rw[List.mem_singleton.1 hx];exact j.ok
 have h1:=h.fr
 have h2:=j.fr
 have h3:(((k+1)*c:Nat):Int)=((k*c:Nat):Int)+(c:Int):=by rw[Nat.succ_mul];rfl
 rw[h3]
 omega
theorem ChI.at(h:ChI A R rs LL m k n c){i:Nat}{r:Int}{z:LsE}(hr:rs[i]?=some r)(hz:LL[i]?=some z):r∈R∧∃t:Tr,Is A t r∧t.ok∧t.ls=z.es:=by
 obtain⟨t,h1,h2,h3⟩:=h.trs.get i r hr
 refine⟨h.mem r (List.mem_of_getElem? hr),t,h1,h2,h3.trans ?_⟩
 unfold lsA
 rw[List.getD_eq_getElem?_getD,List.getElem?_map,hz];rfl
theorem ChI.same(h:ChI A R rs LL m k n c){i:Nat}{r:Int}{z:LsE}(hr:rs[i]?=some r)(hz:LL[i]?=some z):ChJ A A R R r z.es m k c:=by
 obtain⟨h1,h2⟩:=h.at hr hz
 have h3:=h.lok z (List.mem_of_getElem? hz)
 exact⟨h.ref,by omega,fun _ h=>h,h1,h2,Kp.refl _ _,⟨h3.1,by omega,h3.2.2⟩,by omega⟩
theorem QW{k v:Int}{l:Zl}(h:X_ l)(hk:-9223372036854775808≤k∧k≤9223372036854775807):X_ (Zs k v l):=fun x hx=>by
 unfold Zs at hx
 rcases List.mem_append.1 hx with hx|hx
 ·exact h x (List.mem_filter.1 hx).1
 rcases List.mem_cons.1 hx with rfl|hx
 ·exact hk
 exact h x (List.mem_filter.1 hx).1
theorem Zf2{k:Int}{l:Zl}(h:X_ l):X_ (Va k l):=fun x hx=>h x (List.mem_filter.1 hx).1
theorem ChI.ins(h:ChI A R rs LL m k n c){i:Nat}{z:LsE}(hz:LL[i]?=some z){t:Tr}(h1:t.ok)(h2:t.ls=z.es){key v:Int}{j:Int}{d:Nat}(hk:-9223372036854775808≤key∧key≤9223372036854775807)(f:TOp A B R j (Tr.ins key v t) d)(hd:d≤c):ChJ A B R (j::R) j (Zs key v z.es) m k c:=by
 have h3:=h.lok z (List.mem_of_getElem? hz)
 refine⟨f.ref,Nat.le_refl _,fun _ h=>List.mem_cons_of_mem _ h,List.mem_cons_self ..,⟨_,f.is,Tr.ins_ok key v t h1,?_⟩,f.kp,⟨ZD h3.1,?_,QW h3.2.2 hk⟩,by have:=f.fr;omega⟩
 ·rw[Tr.ins_ls key v t (by rw[h2];exact h3.1),h2]
 rw[JF h3.1];split<;>omega
theorem ChI.del(h:ChI A R rs LL m k n c){i:Nat}{z:LsE}(hz:LL[i]?=some z){t:Tr}(h1:t.ok)(h2:t.ls=z.es){key:Int}{j:Int}{d:Nat}(f:TOp A B R j (Tr.del key t) d)(hd:d≤c):ChJ A B R (j::R) j (Va key z.es) m k c:=by
 have h3:=h.lok z (List.mem_of_getElem? hz)
 refine⟨f.ref,Nat.le_refl _,fun _ h=>List.mem_cons_of_mem _ h,List.mem_cons_self ..,⟨_,f.is,Tr.del_ok key t h1,?_⟩,f.kp,⟨Vy h3.1,?_,Zf2 h3.2.2⟩,by have:=f.fr;omega⟩
 ·rw[Tr.del_ls key t (by rw[h2];exact h3.1),h2]
 exact Nat.le_trans (List.length_filter_le _ _) (by omega)
theorem ChI.init{i:Int}{t:Tr}{l:Zl}(h1:ARf A [i])(h2:Is A t i)(h3:t.ok)(h4:t.ls=l)(hl:Srt l∧X_ l)(hf:((1+(n+1)*c:Nat):Int)≤A.s.free)(a:Option Addr)(d:Nat):ChI A [i] [i] [⟨l,a,d⟩] l.length 0 n c:=by
 refine⟨h1,by simp,fun _ h=>h,rfl,⟨rfl,fun j r hr=>?_⟩,fun x hx=>?_,by rw[Nat.zero_mul];omega⟩
 ·match j,hr with
  |0,hr=>exact⟨t,Option.some.inj hr▸h2,h3,h4⟩
  |j+1,hr=>simp at hr
 rw[List.mem_singleton.1 hx];exact⟨hl.1,by simp,hl.2⟩
theorem ChI.fin(h:ChI A R rs LL m k n c)(hm:m+k≤100):LOk (LL.map LsE.es):=fun l hl=>by
 obtain⟨x,hx,rfl⟩:=List.mem_map.1 hl
 have:=h.lok x hx
 exact⟨this.1,by omega,this.2.2⟩
end
end Go.V
namespace Go.V
open Go Go.RowKit
structure RSt where
 cap:Int
 T:TM
 P:List PR
 B:List Bool
 LL:List LsE
 ra:Option Addr
 ga:Option Addr
 oa:Option Addr
 va:Option Addr
 pa:Option Addr
 ba:Option Addr
 la:Option Addr
 rc:Nat
 gc:Nat
 oc:Nat
 vc:Nat
 pc:Nat
 bc:Nat
 lc:Nat
abbrev rvA (z:RSt):Array Value:=#[.int .i64 z.cap,.int .i64 z.T.s.cap,.slice z.ra (Za z.T.s.rel).length z.rc,.int .i64 (z.T.s.fresh+1),.slice z.ga (Za (z.T.s.gen.drop 1)).length z.gc,.slice z.oa (Zk (z.T.s.used.drop 1)).length z.oc,.slice z.va (Za (z.T.vals.drop 1)).length z.vc,.int .i64 z.cap,.slice z.pa (ZL z.P).length z.pc,.slice z.ba (Zk z.B).length z.bc,.slice z.la (Yz z.LL).length z.lc]
abbrev wlA (s:Nat) (z:RSt) (u:Option Addr) (hs:List Int) (d:Nat):Array Value:=#[.pointer (some ⟨s,0,none⟩),.int .i64 z.cap,.int .i64 z.T.s.cap,.slice z.ra (Za z.T.s.rel).length z.rc,.int .i64 (z.T.s.fresh+1),.slice z.ga (Za (z.T.s.gen.drop 1)).length z.gc,.slice z.oa (Zk (z.T.s.used.drop 1)).length z.oc,.slice z.va (Za (z.T.vals.drop 1)).length z.vc,.int .i64 z.cap,.slice z.pa (ZL z.P).length z.pc,.slice z.ba (Zk z.B).length z.bc,.slice z.la (Yz z.LL).length z.lc,.slice u (Zv hs).length d]
def Xr(z:RSt):List HP:=[Sh 93 1 (Za z.T.s.rel) z.ra z.rc,Sh 93 1 (Za (z.T.s.gen.drop 1)) z.ga z.gc,Sh 4 1 (Zk (z.T.s.used.drop 1)) z.oa z.oc,Sh 93 1 (Za (z.T.vals.drop 1)) z.va z.vc,Sh 72 1 (ZL z.P) z.pa z.pc,ZE Qg z.P,Sh 4 1 (Zk z.B) z.ba z.bc,Sh 22 1 (Yz z.LL) z.la z.lc,ZE CO z.LL]
theorem Zp7(z:RSt):∀A∈Xr z,Sht A:=fun A hA=>by
 simp only[Xr,List.mem_cons,List.not_mem_nil,or_false] at hA
 rcases hA with rfl|rfl|rfl|rfl|rfl|rfl|rfl|rfl|rfl
 ·exact Sht.sh
 ·exact Sht.sh
 ·exact Sht.sh
 ·exact Sht.sh
 ·exact Sht.sh
 ·exact Sht.shs
 ·exact Sht.sh
 ·exact Sht.sh
 exact Sht.shs
theorem St.rsGet{g w:World}{L:List HP}{z:RSt}(h:St g L w)(i:Nat)(hi:L[i]?=some (ZE Xr [z])):St g (Xr z++L) w:=h.shsGet i hi (List.mem_singleton.2 rfl)
theorem St.rsPut{g w:World}{L:List HP}(z:RSt)(h:St g L w)(is:List Nat)(hp:Go.V.pick L is=some (Xr z)):St g (ZE Xr [z]::L) w:=(h.shsNil Xr).shsCons (Zp7 z) is hp
structure ROk(z:RSt):Prop where
 t:TOk z.T
 p:PRk z.P
 b:z.B.length=z.P.length
 l:z.LL.length=z.P.length
 n:z.P.length≤900
 c:1≤z.cap∧z.cap≤4096
def RSt.rel(z:RSt)(h:Int)(ra oa ba:Option Addr)(rc oc bc:Nat):RSt:={ z with T:=z.T.close h,B:=z.B.set (z.T.val h-1).toNat false,ra:=ra,oa:=oa,ba:=ba,rc:=rc,oc:=oc,bc:=bc }
def RSt.add(z:RSt)(ps:List Int)(es:LsE)(ra ga oa va pa ba la e:Option Addr)(rc gc oc vc pc bc lc f:Nat):RSt:={ cap:=z.cap,T:=z.T.open (z.P.length+1),P:=z.P++[PR.mk ps e f],B:=z.B++[true],LL:=z.LL++[es],ra:=ra,ga:=ga,oa:=oa,va:=va,pa:=pa,ba:=ba,la:=la,rc:=rc,gc:=gc,oc:=oc,vc:=vc,pc:=pc,bc:=bc,lc:=lc }
noncomputable def RSt.room(z:RSt):Int:=min (z.cap-((YD (Y3 z.P z.B)).length:Int)) z.T.s.free
end Go.V
namespace Go.Proofs.YtpebgkkmgffmaaaGreatDoor
open Go Go.V
set_option maxHeartbeats 8000000
set_option maxRecDepth 8192
variable{g w:World}{L:List HP}
theorem Uk(z:RSt)(h:Int)(hz:ROk z)(hh:0≤h∧h≤18446744073709551615)(hn:z.T.s.opn h=true)(Z:St g (ZE Xr [z]::L) w) :
  Zr g L 145 [.agg #[.I z.cap,.I z.T.s.cap,.slice z.ra (Za z.T.s.rel).length z.rc,.I (z.T.s.fresh+1),.slice z.ga (Za (z.T.s.gen.drop 1)).length z.gc,.slice z.oa (Zk (z.T.s.used.drop 1)).length z.oc,.slice z.va (Za (z.T.vals.drop 1)).length z.vc,.I z.cap,.slice z.pa (ZL z.P).length z.pc,.slice z.ba (Zk z.B).length z.bc,.slice z.la (Yz z.LL).length z.lc],.U h] w fun rV=>rV (.tuple #[.I (z.T.val h),.I 0]) [ZE Xr [z]]:=by
 refine Sp.en Tryz.func145 ?_
 refine Zub rfl rfl #[.I z.cap,.I z.T.s.cap,.slice z.ra (Za z.T.s.rel).length z.rc,.I (z.T.s.fresh+1),.slice z.ga (Za (z.T.s.gen.drop 1)).length z.gc,.slice z.oa (Zk (z.T.s.used.drop 1)).length z.oc,.slice z.va (Za (z.T.vals.drop 1)).length z.vc,.I z.cap,.slice z.pa (ZL z.P).length z.pc,.slice z.ba (Zk z.B).length z.bc,.slice z.la (Yz z.LL).length z.lc] Z rfl rfl (fun b1 w Z=>?_)
 have hvr:=hz.t.val_rng h
 replace Z:St g (Sh 93 1 (Za z.T.s.rel) z.ra z.rc::Sh 93 1 (Za (z.T.s.gen.drop 1)) z.ga z.gc::Sh 4 1 (Zk (z.T.s.used.drop 1)) z.oa z.oc::Sh 93 1 (Za (z.T.vals.drop 1)) z.va z.vc::Sh 72 1 (ZL z.P) z.pa z.pc::ZE Qg z.P::Sh 4 1 (Zk z.B) z.ba z.bc::Sh 22 1 (Yz z.LL) z.la z.lc::ZE CO z.LL::Zq b1 #[.I z.cap,.I z.T.s.cap,.slice z.ra (Za z.T.s.rel).length z.rc,.I (z.T.s.fresh+1),.slice z.ga (Za (z.T.s.gen.drop 1)).length z.gc,.slice z.oa (Zk (z.T.s.used.drop 1)).length z.oc,.slice z.va (Za (z.T.vals.drop 1)).length z.vc,.I z.cap,.slice z.pa (ZL z.P).length z.pc,.slice z.ba (Zk z.B).length z.bc,.slice z.la (Yz z.LL).length z.lc] 83::ZE Xr [z]::L) w:=Z.rsGet 1 rfl
 refine Sz ?_
 refine Zse (Zeq z.T z.ra z.ga z.oa z.va z.rc z.gc z.oc z.vc h hz.t hh hn Z) fun w Z=>?_
 replace Z:=(Z.sel 10 [] rfl)
 exact⟨rfl,Z⟩
theorem HO(z:RSt)(h:Int)(hz:ROk z)(hh:0≤h∧h≤18446744073709551615)(hn:z.T.s.opn h=false)(Z:St g (ZE Xr [z]::L) w) :
  Zr g L 145 [.agg #[.I z.cap,.I z.T.s.cap,.slice z.ra (Za z.T.s.rel).length z.rc,.I (z.T.s.fresh+1),.slice z.ga (Za (z.T.s.gen.drop 1)).length z.gc,.slice z.oa (Zk (z.T.s.used.drop 1)).length z.oc,.slice z.va (Za (z.T.vals.drop 1)).length z.vc,.I z.cap,.slice z.pa (ZL z.P).length z.pc,.slice z.ba (Zk z.B).length z.bc,.slice z.la (Yz z.LL).length z.lc],.U h] w fun rV=>rV (.tuple #[.I 0,.I 5]) [ZE Xr [z]]:=by
 refine Sp.en Tryz.func145 ?_
 refine Zub rfl rfl #[.I z.cap,.I z.T.s.cap,.slice z.ra (Za z.T.s.rel).length z.rc,.I (z.T.s.fresh+1),.slice z.ga (Za (z.T.s.gen.drop 1)).length z.gc,.slice z.oa (Zk (z.T.s.used.drop 1)).length z.oc,.slice z.va (Za (z.T.vals.drop 1)).length z.vc,.I z.cap,.slice z.pa (ZL z.P).length z.pc,.slice z.ba (Zk z.B).length z.bc,.slice z.la (Yz z.LL).length z.lc] Z rfl rfl (fun b1 w Z=>?_)
 replace Z:St g (Sh 93 1 (Za z.T.s.rel) z.ra z.rc::Sh 93 1 (Za (z.T.s.gen.drop 1)) z.ga z.gc::Sh 4 1 (Zk (z.T.s.used.drop 1)) z.oa z.oc::Sh 93 1 (Za (z.T.vals.drop 1)) z.va z.vc::Sh 72 1 (ZL z.P) z.pa z.pc::ZE Qg z.P::Sh 4 1 (Zk z.B) z.ba z.bc::Sh 22 1 (Yz z.LL) z.la z.lc::ZE CO z.LL::Zq b1 #[.I z.cap,.I z.T.s.cap,.slice z.ra (Za z.T.s.rel).length z.rc,.I (z.T.s.fresh+1),.slice z.ga (Za (z.T.s.gen.drop 1)).length z.gc,.slice z.oa (Zk (z.T.s.used.drop 1)).length z.oc,.slice z.va (Za (z.T.vals.drop 1)).length z.vc,.I z.cap,.slice z.pa (ZL z.P).length z.pc,.slice z.ba (Zk z.B).length z.bc,.slice z.la (Yz z.LL).length z.lc] 83::ZE Xr [z]::L) w:=Z.rsGet 1 rfl
 refine Sz ?_
 refine Zse (Za9 z.T z.ra z.ga z.oa z.va z.rc z.gc z.oc z.vc h hz.t hh hn Z) fun w Z=>?_
 replace Z:=(Z.sel 10 [] rfl)
 exact⟨rfl,Z⟩
theorem Zah(z:RSt)(h:Int)(k:Nat)(x:LsE)(hz:ROk z)(hh:0≤h∧h≤18446744073709551615)(hn:z.T.s.opn h=true)(hx:z.LL[k]?=some x)(hk:z.T.val h=(k:Int)+1)(Z:St g (ZE Xr [z]::L) w) :
  Zr g L 52 [.agg #[.I z.cap,.I z.T.s.cap,.slice z.ra (Za z.T.s.rel).length z.rc,.I (z.T.s.fresh+1),.slice z.ga (Za (z.T.s.gen.drop 1)).length z.gc,.slice z.oa (Zk (z.T.s.used.drop 1)).length z.oc,.slice z.va (Za (z.T.vals.drop 1)).length z.vc,.I z.cap,.slice z.pa (ZL z.P).length z.pc,.slice z.ba (Zk z.B).length z.bc,.slice z.la (Yz z.LL).length z.lc],.U h] w fun rV=>rV (.tuple #[.slice x.a (Zm x.es).length x.c,.I 0]) [ZE Xr [z],Sh 32 2 (Zm x.es) x.a x.c]:=by
 refine Sp.en Tryz.func52 ?_
 have _:=hk
 refine Zsp fun b1 w Z=>?_
 have hkl:=(List.getElem?_eq_some_iff.1 hx).1;have hzl:=hz.l;have hzn:=hz.n;have hel:=Zcg z.LL
 refine Sz ?_
 refine Ztg (Uk z h hz hh hn (Z.sel 2 [1,0] rfl)) fun w Z=>?_
 replace Z:St g (Sh 93 1 (Za z.T.s.rel) z.ra z.rc::Sh 93 1 (Za (z.T.s.gen.drop 1)) z.ga z.gc::Sh 4 1 (Zk (z.T.s.used.drop 1)) z.oa z.oc::Sh 93 1 (Za (z.T.vals.drop 1)) z.va z.vc::Sh 72 1 (ZL z.P) z.pa z.pc::ZE Qg z.P::Sh 4 1 (Zk z.B) z.ba z.bc::Sh 22 1 (Yz z.LL) z.la z.lc::ZE CO z.LL::ZE Xr [z]::Zq b1 #[.I z.cap,.I z.T.s.cap,.slice z.ra (Za z.T.s.rel).length z.rc,.I (z.T.s.fresh+1),.slice z.ga (Za (z.T.s.gen.drop 1)).length z.gc,.slice z.oa (Zk (z.T.s.used.drop 1)).length z.oc,.slice z.va (Za (z.T.vals.drop 1)).length z.vc,.I z.cap,.slice z.pa (ZL z.P).length z.pc,.slice z.ba (Zk z.B).length z.bc,.slice z.la (Yz z.LL).length z.lc] 83::L) w:=Z.rsGet 0 rfl
 replace Z:St g (Sh 32 2 (Zm x.es) x.a x.c::Sh 93 1 (Za z.T.s.rel) z.ra z.rc::Sh 93 1 (Za (z.T.s.gen.drop 1)) z.ga z.gc::Sh 4 1 (Zk (z.T.s.used.drop 1)) z.oa z.oc::Sh 93 1 (Za (z.T.vals.drop 1)) z.va z.vc::Sh 72 1 (ZL z.P) z.pa z.pc::ZE Qg z.P::Sh 4 1 (Zk z.B) z.ba z.bc::Sh 22 1 (Yz z.LL) z.la z.lc::ZE CO z.LL::ZE Xr [z]::Zq b1 #[.I z.cap,.I z.T.s.cap,.slice z.ra (Za z.T.s.rel).length z.rc,.I (z.T.s.fresh+1),.slice z.ga (Za (z.T.s.gen.drop 1)).length z.gc,.slice z.oa (Zk (z.T.s.used.drop 1)).length z.oc,.slice z.va (Za (z.T.vals.drop 1)).length z.vc,.I z.cap,.slice z.pa (ZL z.P).length z.pc,.slice z.ba (Zk z.B).length z.bc,.slice z.la (Yz z.LL).length z.lc] 83::L) w:=Z.shsGet 8 rfl (List.mem_of_getElem? hx)
 refine Sz ?_
 refine Zsq rfl rfl (i:=(z.T.val h)-1) (k) el_81 rfl rfl (by omega) (by omega) (Z.rdS 8 rfl (Cj hx)).1 ?_
 refine Zsv 1 [.slice x.a (Zm x.es).length x.c] rfl (by exact(Z.rdS 8 rfl (Cj hx)).2 0 _ rfl) ?_
 refine Sz ?_
 replace Z:=(Z.sel 12 [10,0] rfl)
 exact⟨rfl,Z⟩
theorem C1(z:RSt)(h:Int)(hz:ROk z)(hh:0≤h∧h≤18446744073709551615)(hn:z.T.s.opn h=false)(Z:St g (ZE Xr [z]::L) w) :
  Zr g L 52 [.agg #[.I z.cap,.I z.T.s.cap,.slice z.ra (Za z.T.s.rel).length z.rc,.I (z.T.s.fresh+1),.slice z.ga (Za (z.T.s.gen.drop 1)).length z.gc,.slice z.oa (Zk (z.T.s.used.drop 1)).length z.oc,.slice z.va (Za (z.T.vals.drop 1)).length z.vc,.I z.cap,.slice z.pa (ZL z.P).length z.pc,.slice z.ba (Zk z.B).length z.bc,.slice z.la (Yz z.LL).length z.lc],.U h] w fun rV=>rV (.tuple #[.N,.I 5]) [ZE Xr [z]]:=by
 refine Sp.en Tryz.func52 ?_
 refine Zsp fun b1 w Z=>?_
 refine Zse (HO z h hz hh hn (Z.sel 2 [1,0] rfl)) fun w Z=>?_
 replace Z:=(Z.sel 2 [0] rfl)
 exact⟨rfl,Z⟩
theorem QU(z:RSt)(hz:ROk z)(Z:St g (ZE Xr [z]::L) w) :
  Zr g L 141 [.agg #[.I z.cap,.I z.T.s.cap,.slice z.ra (Za z.T.s.rel).length z.rc,.I (z.T.s.fresh+1),.slice z.ga (Za (z.T.s.gen.drop 1)).length z.gc,.slice z.oa (Zk (z.T.s.used.drop 1)).length z.oc,.slice z.va (Za (z.T.vals.drop 1)).length z.vc,.I z.cap,.slice z.pa (ZL z.P).length z.pc,.slice z.ba (Zk z.B).length z.bc,.slice z.la (Yz z.LL).length z.lc]] w fun rV=>rV (.I z.room) [ZE Xr [z]]:=by
 refine Sp.en Tryz.func141 ?_
 refine Zsp fun b1 w Z=>?_
 refine Zsg [([0,2,7,1,3,8,9],some (4,[0,1,7,8,9])),([5,6],some (10,[0,1,5,6])),([11,12,13],none)] ?_
 have hzn:=hz.n;have hzc:=hz.c;have hpl:=Jc z.P z.B;have hnl:=(Ye (Y3 z.P z.B)).2.1;have hil:=Zf (YD (Y3 z.P z.B));have hor:=Zdb hz.t.s;have hul:=Zh (SM.order z.T.s)
 replace Z:St g (Sh 93 1 (Za z.T.s.rel) z.ra z.rc::Sh 93 1 (Za (z.T.s.gen.drop 1)) z.ga z.gc::Sh 4 1 (Zk (z.T.s.used.drop 1)) z.oa z.oc::Sh 93 1 (Za (z.T.vals.drop 1)) z.va z.vc::Sh 72 1 (ZL z.P) z.pa z.pc::ZE Qg z.P::Sh 4 1 (Zk z.B) z.ba z.bc::Sh 22 1 (Yz z.LL) z.la z.lc::ZE CO z.LL::Zq b1 #[.I z.cap,.I z.T.s.cap,.slice z.ra (Za z.T.s.rel).length z.rc,.I (z.T.s.fresh+1),.slice z.ga (Za (z.T.s.gen.drop 1)).length z.gc,.slice z.oa (Zk (z.T.s.used.drop 1)).length z.oc,.slice z.va (Za (z.T.vals.drop 1)).length z.vc,.I z.cap,.slice z.pa (ZL z.P).length z.pc,.slice z.ba (Zk z.B).length z.bc,.slice z.la (Yz z.LL).length z.lc] 83::ZE Xr [z]::L) w:=Z.rsGet 1 rfl
 refine Qd fun w Z=>?_
 refine Zsz (Qu z.cap z.P z.pa z.pc z.B z.ba z.bc hz.p (by omega) hz.b (Z.sel 7 [4,4,4,0,0,0,0] rfl)) fun w a1 c1 Z=>?_
 refine Qd fun w Z=>?_
 refine Zsz (Zmd z.T.s z.ra z.ga z.oa z.rc z.gc z.oc hz.t.s (Z.sel 7 [4,4,4,0,0,0,0] rfl)) fun w a2 c2 Z=>?_
 refine Qd fun w Z=>?_
 replace Z:=(Z.sel 12 [] rfl)
 exact⟨by unfold RSt.room;rw[hil,hul,hor];rfl,Z⟩
theorem HC(z:RSt)(h:Int)(hz:ROk z)(hh:0≤h∧h≤18446744073709551615)(Z:St g (ZE Xr [z]::L) w) :
  Zr g L 145 [.agg #[.I z.cap,.I z.T.s.cap,.slice z.ra (Za z.T.s.rel).length z.rc,.I (z.T.s.fresh+1),.slice z.ga (Za (z.T.s.gen.drop 1)).length z.gc,.slice z.oa (Zk (z.T.s.used.drop 1)).length z.oc,.slice z.va (Za (z.T.vals.drop 1)).length z.vc,.I z.cap,.slice z.pa (ZL z.P).length z.pc,.slice z.ba (Zk z.B).length z.bc,.slice z.la (Yz z.LL).length z.lc],.U h] w fun rV=>rV (.tuple #[.I (if z.T.s.opn h=true then z.T.val h else 0),.I (if z.T.s.opn h=true then 0 else 5)]) [ZE Xr [z]]:=by
 by_cases hn:z.T.s.opn h=true
 ·rw[if_pos hn,if_pos hn];exact Uk z h hz hh hn Z
 rw[if_neg hn,if_neg hn];exact HO z h hz hh (Bool.eq_false_iff.2 hn) Z
theorem Zbe(z:RSt)(x:LsE)(y:Int)(pa2:Option Addr)(pc2:Nat)(hz:ROk z)(Z:St g (ZE Xr [z]::Sh 32 2 (Zm x.es) x.a x.c::Sh 23 1 (Zv [y,y]) pa2 pc2::L) w) :
  Zr g L 286 [.agg #[.I z.cap,.I z.T.s.cap,.slice z.ra (Za z.T.s.rel).length z.rc,.I (z.T.s.fresh+1),.slice z.ga (Za (z.T.s.gen.drop 1)).length z.gc,.slice z.oa (Zk (z.T.s.used.drop 1)).length z.oc,.slice z.va (Za (z.T.vals.drop 1)).length z.vc,.I z.cap,.slice z.pa (ZL z.P).length z.pc,.slice z.ba (Zk z.B).length z.bc,.slice z.la (Yz z.LL).length z.lc],.slice x.a (Zm x.es).length x.c,.slice pa2 (Zv [y,y]).length pc2] w fun rV=>rV (.tuple #[.agg #[.I z.cap,.I z.T.s.cap,.slice z.ra (Za z.T.s.rel).length z.rc,.I (z.T.s.fresh+1),.slice z.ga (Za (z.T.s.gen.drop 1)).length z.gc,.slice z.oa (Zk (z.T.s.used.drop 1)).length z.oc,.slice z.va (Za (z.T.vals.drop 1)).length z.vc,.I z.cap,.slice z.pa (ZL z.P).length z.pc,.slice z.ba (Zk z.B).length z.bc,.slice z.la (Yz z.LL).length z.lc],.U 0,.I 1]) [ZE Xr [z],Sh 32 2 (Zm x.es) x.a x.c,Sh 23 1 (Zv [y,y]) pa2 pc2]:=by
 refine Sp.en Tryz.func286 ?_
 have _:=hz
 refine Zsp fun b1 w Z=>?_
 refine Zsk fun b2 w Z=>?_
 refine Zsg [([0,1,2,3,4,5,6,7,8,11,9,12,10,13,14,15,16],none)] ?_
 have hpl:(Zv [y,y]).length=2:=rfl
 refine Qz ?_
 refine Zsu 22 (.bool false) (congrArg Value.bool (decide_eq_false ((by omega)))) ?_
 refine Qz ?_
 refine Zsu 26 (.bool true) (congrArg Value.bool (decide_eq_true ((by omega)))) ?_
 refine Qz ?_
 refine Zsj rfl rfl (i:=0) (0) el_47 rfl rfl (by omega) (by omega) (Z.rdS 4 rfl (Zw (k:=0) (x:=y) rfl)).1 ?_
 refine Qz ?_
 refine Zsj rfl rfl (i:=1) (1) el_47 rfl rfl (by omega) (by omega) (Z.rdS 4 rfl (Zw (k:=1) (x:=y) rfl)).1 ?_
 refine Qz ?_
 refine Zsn 1 [.U y] rfl (by exact(Z.rdS 4 rfl (Zw (k:=0) (x:=y) rfl)).2 0 _ rfl) ?_
 refine Qz ?_
 refine Zsn 1 [.U y] rfl (by exact(Z.rdS 4 rfl (Zw (k:=1) (x:=y) rfl)).2 0 _ rfl) ?_
 refine Qd fun w Z=>?_
 as_aux_lemma =>
 refine Zs0 rfl (decide_eq_true (rfl)) ?_
 refine Zsh fun w Z=>?_
 replace Z:=(Z.sel 2 [] rfl)
 exact⟨rfl,Z⟩
theorem Zjr{T:TM}{h:Int}(hn:¬(if T.s.opn h=true then(0:Int) else 5)≠0):T.s.opn h=true:=Classical.byContradiction fun h1=>hn (by rw[if_neg h1];decide)
theorem Zli{T:TM}{h:Int}(hn:(if T.s.opn h=true then(0:Int) else 5)≠0):¬T.s.opn h=true:=fun h1=>hn (by rw[if_pos h1])
theorem Zon{T:TM}{hs:List Int}{k:Nat}(hbad:∃y∈hs,T.s.opn y=false)(hop:∀y∈hs.take k,T.s.opn y=true):(k:Int)<(List.length (Zv hs):Int):=by
 rw[YE]
 refine Classical.byContradiction fun h=>?_
 obtain⟨y,hy,hb⟩:=hbad
 have:=hop y (by rw[List.take_of_length_le (by omega)];exact hy)
 rw[hb] at this;cases this
theorem Hg{α:Type}{l:List α}{k:Nat}{y:α}{q:α→Prop}(h:∀x∈l.take k,q x)(hy:l[k]?=some y)(hq:q y):∀x∈l.take (k+1),q x:=fun x hx=>by
 rw[List.take_add_one,hy] at hx
 rcases List.mem_append.1 hx with hx|hx
 ·exact h x hx
 have:x=y:=by simpa using hx
 rw[this];exact hq
theorem Zbj(z:RSt)(x:LsE)(hs:List Int)(pa2:Option Addr)(pc2:Nat)(hz:ROk z)(hhs:∀y∈hs,0≤y∧y≤18446744073709551615)(hsl:hs.length≤10)(hps:ZY hs)(hbad:∃y∈hs,z.T.s.opn y=false)(Z:St g (ZE Xr [z]::Sh 32 2 (Zm x.es) x.a x.c::Sh 23 1 (Zv hs) pa2 pc2::L) w) :
  Zr g L 286 [.agg #[.I z.cap,.I z.T.s.cap,.slice z.ra (Za z.T.s.rel).length z.rc,.I (z.T.s.fresh+1),.slice z.ga (Za (z.T.s.gen.drop 1)).length z.gc,.slice z.oa (Zk (z.T.s.used.drop 1)).length z.oc,.slice z.va (Za (z.T.vals.drop 1)).length z.vc,.I z.cap,.slice z.pa (ZL z.P).length z.pc,.slice z.ba (Zk z.B).length z.bc,.slice z.la (Yz z.LL).length z.lc],.slice x.a (Zm x.es).length x.c,.slice pa2 (Zv hs).length pc2] w fun rV=>rV (.tuple #[.agg #[.I z.cap,.I z.T.s.cap,.slice z.ra (Za z.T.s.rel).length z.rc,.I (z.T.s.fresh+1),.slice z.ga (Za (z.T.s.gen.drop 1)).length z.gc,.slice z.oa (Zk (z.T.s.used.drop 1)).length z.oc,.slice z.va (Za (z.T.vals.drop 1)).length z.vc,.I z.cap,.slice z.pa (ZL z.P).length z.pc,.slice z.ba (Zk z.B).length z.bc,.slice z.la (Yz z.LL).length z.lc],.U 0,.I 5]) [ZE Xr [z],Sh 32 2 (Zm x.es) x.a x.c,Sh 23 1 (Zv hs) pa2 pc2]:=by
 refine Sp.en Tryz.func286 ?_
 have _:=hsl
 have hpl:=YE hs;have hp2:=hps.1
 refine Zsp fun b1 w Z=>?_
 refine Zua rfl rfl zv_83.h Z (fun b2 w Z=>?_)
 refine Sx ?_
 refine Zs9<|Zsw<|Zsw<|Ztc [1,2,3,6,7,8] [35] [] Z (fun vs jS=>∃(t35:Bool),vs=[.bool t35]∧jS []∧(t35=false)) rfl ?_ ?_
 ·refine Zsg [([0,1,2,3,4,5,6,7,8,11,9,12,10,13,14,15,16],none)] ?_
  refine Qz ?_
  refine Zsu 22 (.bool false) (congrArg Value.bool (decide_eq_false ((by omega)))) ?_
  refine Qz ?_
  by_cases cg1:(List.length (Zv hs):Int)=2
  ·refine Zsu 26 (.bool true) (congrArg Value.bool (decide_eq_true cg1)) ?_
   obtain⟨p0,h0⟩:∃u,hs[0]?=some u:=⟨_,List.getElem?_eq_getElem (by omega)⟩;obtain⟨p1,h1⟩:∃u,hs[1]?=some u:=⟨_,List.getElem?_eq_getElem (by omega)⟩
   refine Qz ?_
   refine Zsj rfl rfl (i:=0) (0) el_47 rfl rfl (by omega) (by omega) (Z.rdS 4 rfl (Zw h0)).1 ?_
   refine Qz ?_
   refine Zsj rfl rfl (i:=1) (1) el_47 rfl rfl (by omega) (by omega) (Z.rdS 4 rfl (Zw h1)).1 ?_
   refine Qz ?_
   refine Zsn 1 [.U p0] rfl (by exact(Z.rdS 4 rfl (Zw h0)).2 0 _ rfl) ?_
   refine Qz ?_
   refine Zsn 1 [.U p1] rfl (by exact(Z.rdS 4 rfl (Zw h1)).2 0 _ rfl) ?_
   refine Qd fun w Z=>?_
   exact⟨rfl,decide (p0=p1),rfl,Z,(decide_eq_false (Jv hps h0 h1))⟩
  refine Zsu 26 (.bool false) (congrArg Value.bool (decide_eq_false cg1)) ?_
  refine Qd fun w Z=>?_
  exact⟨rfl,false,rfl,Z,rfl⟩
 rintro _ w j ⟨t35,rfl,Z,h35⟩
 replace Z:=Z.z
 refine Zs8 rfl h35 ?_
 replace Z:=Z.nil_ 3 1
 refine Sz ?_
 refine Zst [1,2,3,6] [9,10] (fun kM vs jS=>∃(k:Nat)(acc:List Int)(u:Option Addr)(d:Nat),vs=[.slice u (Ze acc).length d,.I (k:Int)]∧jS [Zp 3 1 (Ze acc) u d]∧(k≤hs.length)∧(∀y∈hs.take k,z.T.s.opn y=true)∧(acc=(hs.take k).map z.T.val)∧(hs.length-k)=kM) rfl ⟨0,[],none,0,rfl,Z,(Nat.zero_le _),(fun _ h=>by cases h),rfl,rfl⟩ ?_
 rintro _ _ w j ⟨k,acc,u,d,rfl,Z,hk,hop,ha,rfl⟩
 replace Z:=Z.z
 refine Sz ?_
 refine Zs0 rfl (decide_eq_true ((Zon hbad hop))) ?_
 refine Zsg [([0,1,2,3,4],some (5,[])),([6,7,8,9,10],none)] ?_
 have hlt:=Zon hbad hop;have hul2:=YE hs;obtain⟨y,hy⟩:∃u,hs[k]?=some u:=⟨_,List.getElem?_eq_getElem (by omega)⟩;have hyr:=hhs y (List.mem_of_getElem? hy);have hacl:=Zf acc;have hacl2:acc.length=k:=(by rw[ha,List.length_map,List.length_take];omega)
 refine Qz ?_
 refine Zsj rfl rfl (i:=(k:Int)) (k) el_47 rfl rfl (by omega) (by omega) (Z.rdS 5 rfl (Zw hy)).1 ?_
 refine Zsn 1 [.U y] rfl (by exact(Z.rdS 5 rfl (Zw hy)).2 0 _ rfl) ?_
 refine Qd fun w Z=>?_
 refine Zse (HC z y hz hyr (Z.sel 4 [3,0,0,0] rfl)) fun w Z=>?_
 refine Qd fun w Z=>?_
 refine Zsr rfl (fun cd1=>?_) (fun cd1=>?_)
 ·refine Sz ?_
  refine Zsh fun w Z=>?_
  as_aux_lemma =>
  refine Sz ?_
  replace Z:=(Z.sel 4 [0] rfl)
  exact⟨by rw[if_neg (Zli cd1)];rfl,Z⟩
 as_aux_lemma =>
 refine Sz ?_
 refine Zs1 rfl rfl (Ze [if z.T.s.opn y=true then z.T.val y else 0]) el_72 Z (by exact⟨rfl,rfl⟩) (YR _) rfl (Nat.le_of_ble_eq_true rfl) (fun b3 w Z=>?_)
 refine Zs3 rfl rfl 2 (Ze (acc++[if z.T.s.opn y=true then z.T.val y else 0])) el_72 Z rfl (Z.srcO 0 rfl) (XO _ _).symm (Rm.of (by first|omega|(simp<;>omega)) (by decide)) rfl rfl (fun a1 c1 w Z=>?_)
 replace Z:=Z.z
 refine Sz ?_
 exact⟨_,by omega,rfl,k+1,acc++[if z.T.s.opn y=true then z.T.val y else 0],_,_,rfl,(Z.sel 5 [2,2,2,1] rfl),(by omega),(Hg hop hy (Zjr cd1)),(by rw[ha,List.take_add_one,hy,if_pos (Zjr cd1)];simp),rfl⟩
theorem CS(z:RSt)(x:LsE)(hs:List Int)(pa2:Option Addr)(pc2:Nat)(hz:ROk z)(hhs:∀y∈hs,0≤y∧y≤18446744073709551615)(hsl:hs.length≤10)(hps:ZY hs)(hall:∀y∈hs,z.T.s.opn y=true)(hrm:z.room<1)(Z:St g (ZE Xr [z]::Sh 32 2 (Zm x.es) x.a x.c::Sh 23 1 (Zv hs) pa2 pc2::L) w) :
  Zr g L 286 [.agg #[.I z.cap,.I z.T.s.cap,.slice z.ra (Za z.T.s.rel).length z.rc,.I (z.T.s.fresh+1),.slice z.ga (Za (z.T.s.gen.drop 1)).length z.gc,.slice z.oa (Zk (z.T.s.used.drop 1)).length z.oc,.slice z.va (Za (z.T.vals.drop 1)).length z.vc,.I z.cap,.slice z.pa (ZL z.P).length z.pc,.slice z.ba (Zk z.B).length z.bc,.slice z.la (Yz z.LL).length z.lc],.slice x.a (Zm x.es).length x.c,.slice pa2 (Zv hs).length pc2] w fun rV=>rV (.tuple #[.agg #[.I z.cap,.I z.T.s.cap,.slice z.ra (Za z.T.s.rel).length z.rc,.I (z.T.s.fresh+1),.slice z.ga (Za (z.T.s.gen.drop 1)).length z.gc,.slice z.oa (Zk (z.T.s.used.drop 1)).length z.oc,.slice z.va (Za (z.T.vals.drop 1)).length z.vc,.I z.cap,.slice z.pa (ZL z.P).length z.pc,.slice z.ba (Zk z.B).length z.bc,.slice z.la (Yz z.LL).length z.lc],.U 0,.I 2]) [ZE Xr [z],Sh 32 2 (Zm x.es) x.a x.c,Sh 23 1 (Zv hs) pa2 pc2]:=by
 refine Sp.en Tryz.func286 ?_
 have _:=hsl
 have hpl:=YE hs;have hp2:=hps.1
 refine Zsp fun b1 w Z=>?_
 refine Zua rfl rfl zv_83.h Z (fun b2 w Z=>?_)
 refine Sx ?_
 refine Zs9<|Zsw<|Zsw<|Ztc [1,2,3,6,7,8] [35] [] Z (fun vs jS=>∃(t35:Bool),vs=[.bool t35]∧jS []∧(t35=false)) rfl ?_ ?_
 ·refine Zsg [([0,1,2,3,4,5,6,7,8,11,9,12,10,13,14,15,16],none)] ?_
  refine Qz ?_
  refine Zsu 22 (.bool false) (congrArg Value.bool (decide_eq_false ((by omega)))) ?_
  refine Qz ?_
  by_cases cg1:(List.length (Zv hs):Int)=2
  ·refine Zsu 26 (.bool true) (congrArg Value.bool (decide_eq_true cg1)) ?_
   obtain⟨p0,h0⟩:∃u,hs[0]?=some u:=⟨_,List.getElem?_eq_getElem (by omega)⟩;obtain⟨p1,h1⟩:∃u,hs[1]?=some u:=⟨_,List.getElem?_eq_getElem (by omega)⟩
   refine Qz ?_
   refine Zsj rfl rfl (i:=0) (0) el_47 rfl rfl (by omega) (by omega) (Z.rdS 4 rfl (Zw h0)).1 ?_
   refine Qz ?_
   refine Zsj rfl rfl (i:=1) (1) el_47 rfl rfl (by omega) (by omega) (Z.rdS 4 rfl (Zw h1)).1 ?_
   refine Qz ?_
   refine Zsn 1 [.U p0] rfl (by exact(Z.rdS 4 rfl (Zw h0)).2 0 _ rfl) ?_
   refine Qz ?_
   refine Zsn 1 [.U p1] rfl (by exact(Z.rdS 4 rfl (Zw h1)).2 0 _ rfl) ?_
   refine Qd fun w Z=>?_
   exact⟨rfl,decide (p0=p1),rfl,Z,(decide_eq_false (Jv hps h0 h1))⟩
  refine Zsu 26 (.bool false) (congrArg Value.bool (decide_eq_false cg1)) ?_
  refine Qd fun w Z=>?_
  exact⟨rfl,false,rfl,Z,rfl⟩
 rintro _ w j ⟨t35,rfl,Z,h35⟩
 replace Z:=Z.z
 refine Zs8 rfl h35 ?_
 replace Z:=Z.nil_ 3 1
 refine Sz ?_
 refine Zst [1,2,3,6] [9,10] (fun kM vs jS=>∃(k:Nat)(acc:List Int)(u:Option Addr)(d:Nat),vs=[.slice u (Ze acc).length d,.I (k:Int)]∧jS [Zp 3 1 (Ze acc) u d]∧(k≤hs.length)∧(∀y∈hs.take k,z.T.s.opn y=true)∧(acc=(hs.take k).map z.T.val)∧(hs.length-k)=kM) rfl ⟨0,[],none,0,rfl,Z,(Nat.zero_le _),(fun _ h=>by cases h),rfl,rfl⟩ ?_
 rintro _ _ w j ⟨k,acc,u,d,rfl,Z,hk,hop,ha,rfl⟩
 replace Z:=Z.z
 refine Sz ?_
 refine Zsi (fun cd1=>?_) fun cd1=>?_
 ·refine Zsg [([0,1,2,3,4],some (5,[])),([6,7,8,9,10],none)] ?_
  have hlt:True:=trivial;have hul2:=YE hs;obtain⟨y,hy⟩:∃u,hs[k]?=some u:=⟨_,List.getElem?_eq_getElem (by omega)⟩;have hyr:=hhs y (List.mem_of_getElem? hy);have hacl:=Zf acc;have hacl2:acc.length=k:=(by rw[ha,List.length_map,List.length_take];omega)
  refine Qz ?_
  refine Zsj rfl rfl (i:=(k:Int)) (k) el_47 rfl rfl (by omega) (by omega) (Z.rdS 5 rfl (Zw hy)).1 ?_
  refine Zsn 1 [.U y] rfl (by exact(Z.rdS 5 rfl (Zw hy)).2 0 _ rfl) ?_
  refine Qd fun w Z=>?_
  refine Zse (HC z y hz hyr (Z.sel 4 [3,0,0,0] rfl)) fun w Z=>?_
  refine Qd fun w Z=>?_
  refine Zs8 rfl (decide_eq_false ((by rw[if_pos (hall y (List.mem_of_getElem? hy))];decide))) ?_
  as_aux_lemma =>
  refine Sz ?_
  refine Zs1 rfl rfl (Ze [if z.T.s.opn y=true then z.T.val y else 0]) el_72 Z (by exact⟨rfl,rfl⟩) (YR _) rfl (Nat.le_of_ble_eq_true rfl) (fun b3 w Z=>?_)
  refine Zs3 rfl rfl 2 (Ze (acc++[if z.T.s.opn y=true then z.T.val y else 0])) el_72 Z rfl (Z.srcO 0 rfl) (XO _ _).symm (Rm.of (by first|omega|(simp<;>omega)) (by decide)) rfl rfl (fun a1 c1 w Z=>?_)
  replace Z:=Z.z
  refine Sz ?_
  exact⟨_,by omega,rfl,k+1,acc++[if z.T.s.opn y=true then z.T.val y else 0],_,_,rfl,(Z.sel 5 [2,2,2,1] rfl),(by omega),(Hg hop hy (hall y (List.mem_of_getElem? hy))),(by rw[ha,List.take_add_one,hy,if_pos (hall y (List.mem_of_getElem? hy))];simp),rfl⟩
 refine Zse (QU z hz (Z.sel 4 [3,0,0,0] rfl)) fun w Z=>?_
 refine Zs0 rfl (decide_eq_true (hrm)) ?_
 refine Zsh fun w Z=>?_
 replace Z:=(Z.sel 4 [0] rfl)
 exact⟨rfl,Z⟩
theorem Zeh(z:RSt)(x:LsE)(hs:List Int)(pa2:Option Addr)(pc2:Nat)(hz:ROk z)(hhs:∀y∈hs,0≤y∧y≤18446744073709551615)(hsl:hs.length≤10)(hps:ZY hs)(hall:∀y∈hs,z.T.s.opn y=true)(hps2:ZY (List.map z.T.val hs))(hlv:∀y∈hs,ZB z.B (z.T.val y)=true)(hrm:1≤z.room)(Z:St g (ZE Xr [z]::Sh 32 2 (Zm x.es) x.a x.c::Sh 23 1 (Zv hs) pa2 pc2::L) w) :
  Zr g L 286 [.agg #[.I z.cap,.I z.T.s.cap,.slice z.ra (Za z.T.s.rel).length z.rc,.I (z.T.s.fresh+1),.slice z.ga (Za (z.T.s.gen.drop 1)).length z.gc,.slice z.oa (Zk (z.T.s.used.drop 1)).length z.oc,.slice z.va (Za (z.T.vals.drop 1)).length z.vc,.I z.cap,.slice z.pa (ZL z.P).length z.pc,.slice z.ba (Zk z.B).length z.bc,.slice z.la (Yz z.LL).length z.lc],.slice x.a (Zm x.es).length x.c,.slice pa2 (Zv hs).length pc2] w fun rV=>∃(ra ga oa va pa ba la e:Option Addr)(rc gc oc vc pc bc lc f:Nat),rV (.tuple #[.agg #[.I (z.add (List.map z.T.val hs) x ra ga oa va pa ba la e rc gc oc vc pc bc lc f).cap,.I (z.add (List.map z.T.val hs) x ra ga oa va pa ba la e rc gc oc vc pc bc lc f).T.s.cap,.slice (z.add (List.map z.T.val hs) x ra ga oa va pa ba la e rc gc oc vc pc bc lc f).ra (List.length (Za (z.add (List.map z.T.val hs) x ra ga oa va pa ba la e rc gc oc vc pc bc lc f).T.s.rel)) (z.add (List.map z.T.val hs) x ra ga oa va pa ba la e rc gc oc vc pc bc lc f).rc,.I ((z.add (List.map z.T.val hs) x ra ga oa va pa ba la e rc gc oc vc pc bc lc f).T.s.fresh+1),.slice (z.add (List.map z.T.val hs) x ra ga oa va pa ba la e rc gc oc vc pc bc lc f).ga (List.length (Za ((z.add (List.map z.T.val hs) x ra ga oa va pa ba la e rc gc oc vc pc bc lc f).T.s.gen.drop 1))) (z.add (List.map z.T.val hs) x ra ga oa va pa ba la e rc gc oc vc pc bc lc f).gc,.slice (z.add (List.map z.T.val hs) x ra ga oa va pa ba la e rc gc oc vc pc bc lc f).oa (List.length (Zk ((z.add (List.map z.T.val hs) x ra ga oa va pa ba la e rc gc oc vc pc bc lc f).T.s.used.drop 1))) (z.add (List.map z.T.val hs) x ra ga oa va pa ba la e rc gc oc vc pc bc lc f).oc,.slice (z.add (List.map z.T.val hs) x ra ga oa va pa ba la e rc gc oc vc pc bc lc f).va (List.length (Za ((z.add (List.map z.T.val hs) x ra ga oa va pa ba la e rc gc oc vc pc bc lc f).T.vals.drop 1))) (z.add (List.map z.T.val hs) x ra ga oa va pa ba la e rc gc oc vc pc bc lc f).vc,.I (z.add (List.map z.T.val hs) x ra ga oa va pa ba la e rc gc oc vc pc bc lc f).cap,.slice (z.add (List.map z.T.val hs) x ra ga oa va pa ba la e rc gc oc vc pc bc lc f).pa (List.length (ZL (z.add (List.map z.T.val hs) x ra ga oa va pa ba la e rc gc oc vc pc bc lc f).P)) (z.add (List.map z.T.val hs) x ra ga oa va pa ba la e rc gc oc vc pc bc lc f).pc,.slice (z.add (List.map z.T.val hs) x ra ga oa va pa ba la e rc gc oc vc pc bc lc f).ba (List.length (Zk (z.add (List.map z.T.val hs) x ra ga oa va pa ba la e rc gc oc vc pc bc lc f).B)) (z.add (List.map z.T.val hs) x ra ga oa va pa ba la e rc gc oc vc pc bc lc f).bc,.slice (z.add (List.map z.T.val hs) x ra ga oa va pa ba la e rc gc oc vc pc bc lc f).la (List.length (Yz (z.add (List.map z.T.val hs) x ra ga oa va pa ba la e rc gc oc vc pc bc lc f).LL)) (z.add (List.map z.T.val hs) x ra ga oa va pa ba la e rc gc oc vc pc bc lc f).lc],.U z.T.newH,.I 0]) [ZE Xr [z.add (List.map z.T.val hs) x ra ga oa va pa ba la e rc gc oc vc pc bc lc f],Sh 32 2 (Zm x.es) x.a x.c,Sh 23 1 (Zv hs) pa2 pc2]:=by
 refine Sp.en Tryz.func286 ?_
 have _:=hrm
 have _:=hsl
 have hpl:=YE hs;have hp2:=hps.1
 refine Zsp fun b1 w Z=>?_
 refine Zua rfl rfl zv_83.h Z (fun b2 w Z=>?_)
 refine Sx ?_
 refine Zs9<|Zsw<|Zsw<|Ztc [1,2,3,6,7,8] [35] [] Z (fun vs jS=>∃(t35:Bool),vs=[.bool t35]∧jS []∧(t35=false)) rfl ?_ ?_
 ·refine Zsg [([0,1,2,3,4,5,6,7,8,11,9,12,10,13,14,15,16],none)] ?_
  refine Qz ?_
  refine Zsu 22 (.bool false) (congrArg Value.bool (decide_eq_false ((by omega)))) ?_
  refine Qz ?_
  by_cases cg1:(List.length (Zv hs):Int)=2
  ·refine Zsu 26 (.bool true) (congrArg Value.bool (decide_eq_true cg1)) ?_
   obtain⟨p0,h0⟩:∃u,hs[0]?=some u:=⟨_,List.getElem?_eq_getElem (by omega)⟩;obtain⟨p1,h1⟩:∃u,hs[1]?=some u:=⟨_,List.getElem?_eq_getElem (by omega)⟩
   refine Qz ?_
   refine Zsj rfl rfl (i:=0) (0) el_47 rfl rfl (by omega) (by omega) (Z.rdS 4 rfl (Zw h0)).1 ?_
   refine Qz ?_
   refine Zsj rfl rfl (i:=1) (1) el_47 rfl rfl (by omega) (by omega) (Z.rdS 4 rfl (Zw h1)).1 ?_
   refine Qz ?_
   refine Zsn 1 [.U p0] rfl (by exact(Z.rdS 4 rfl (Zw h0)).2 0 _ rfl) ?_
   refine Qz ?_
   refine Zsn 1 [.U p1] rfl (by exact(Z.rdS 4 rfl (Zw h1)).2 0 _ rfl) ?_
   refine Qd fun w Z=>?_
   exact⟨rfl,decide (p0=p1),rfl,Z,(decide_eq_false (Jv hps h0 h1))⟩
  refine Zsu 26 (.bool false) (congrArg Value.bool (decide_eq_false cg1)) ?_
  refine Qd fun w Z=>?_
  exact⟨rfl,false,rfl,Z,rfl⟩
 rintro _ w j ⟨t35,rfl,Z,h35⟩
 replace Z:=Z.z
 refine Zs8 rfl h35 ?_
 replace Z:=Z.nil_ 3 1
 refine Sz ?_
 refine Zst [1,2,3,6] [9,10] (fun kM vs jS=>∃(k:Nat)(acc:List Int)(u:Option Addr)(d:Nat),vs=[.slice u (Ze acc).length d,.I (k:Int)]∧jS [Zp 3 1 (Ze acc) u d]∧(k≤hs.length)∧(∀y∈hs.take k,z.T.s.opn y=true)∧(acc=(hs.take k).map z.T.val)∧(hs.length-k)=kM) rfl ⟨0,[],none,0,rfl,Z,(Nat.zero_le _),(fun _ h=>by cases h),rfl,rfl⟩ ?_
 rintro _ _ w j ⟨k,acc,u,d,rfl,Z,hk,hop,ha,rfl⟩
 replace Z:=Z.z
 refine Sz ?_
 refine Zsi (fun cd1=>?_) fun cd1=>?_
 ·refine Zsg [([0,1,2,3,4],some (5,[])),([6,7,8,9,10],none)] ?_
  have hlt:True:=trivial;have hul2:=YE hs;obtain⟨y,hy⟩:∃u,hs[k]?=some u:=⟨_,List.getElem?_eq_getElem (by omega)⟩;have hyr:=hhs y (List.mem_of_getElem? hy);have hacl:=Zf acc;have hacl2:acc.length=k:=(by rw[ha,List.length_map,List.length_take];omega)
  refine Qz ?_
  refine Zsj rfl rfl (i:=(k:Int)) (k) el_47 rfl rfl (by omega) (by omega) (Z.rdS 5 rfl (Zw hy)).1 ?_
  refine Zsn 1 [.U y] rfl (by exact(Z.rdS 5 rfl (Zw hy)).2 0 _ rfl) ?_
  refine Qd fun w Z=>?_
  refine Zse (HC z y hz hyr (Z.sel 4 [3,0,0,0] rfl)) fun w Z=>?_
  refine Qd fun w Z=>?_
  refine Zs8 rfl (decide_eq_false ((by rw[if_pos (hall y (List.mem_of_getElem? hy))];decide))) ?_
  as_aux_lemma =>
  refine Sz ?_
  refine Zs1 rfl rfl (Ze [if z.T.s.opn y=true then z.T.val y else 0]) el_72 Z (by exact⟨rfl,rfl⟩) (YR _) rfl (Nat.le_of_ble_eq_true rfl) (fun b3 w Z=>?_)
  refine Zs3 rfl rfl 2 (Ze (acc++[if z.T.s.opn y=true then z.T.val y else 0])) el_72 Z rfl (Z.srcO 0 rfl) (XO _ _).symm (Rm.of (by first|omega|(simp<;>omega)) (by decide)) rfl rfl (fun a1 c1 w Z=>?_)
  replace Z:=Z.z
  refine Sz ?_
  exact⟨_,by omega,rfl,k+1,acc++[if z.T.s.opn y=true then z.T.val y else 0],_,_,rfl,(Z.sel 5 [2,2,2,1] rfl),(by omega),(Hg hop hy (hall y (List.mem_of_getElem? hy))),(by rw[ha,List.take_add_one,hy,if_pos (hall y (List.mem_of_getElem? hy))];simp),rfl⟩
 refine Zse (QU z hz (Z.sel 4 [3,0,0,0] rfl)) fun w Z=>?_
 refine Zs8 rfl (decide_eq_false ((by omega))) ?_
 replace Z:St g (Sh 93 1 (Za z.T.s.rel) z.ra z.rc::Sh 93 1 (Za (z.T.s.gen.drop 1)) z.ga z.gc::Sh 4 1 (Zk (z.T.s.used.drop 1)) z.oa z.oc::Sh 93 1 (Za (z.T.vals.drop 1)) z.va z.vc::Sh 72 1 (ZL z.P) z.pa z.pc::ZE Qg z.P::Sh 4 1 (Zk z.B) z.ba z.bc::Sh 22 1 (Yz z.LL) z.la z.lc::ZE CO z.LL::ZE Xr [z]::Zp 3 1 (Ze acc) u d::Zq b2 #[.I 0,.I 0,.N,.I 0,.N,.N,.N,.I 0,.N,.N,.N] 83::Zq b1 #[.I z.cap,.I z.T.s.cap,.slice z.ra (Za z.T.s.rel).length z.rc,.I (z.T.s.fresh+1),.slice z.ga (Za (z.T.s.gen.drop 1)).length z.gc,.slice z.oa (Zk (z.T.s.used.drop 1)).length z.oc,.slice z.va (Za (z.T.vals.drop 1)).length z.vc,.I z.cap,.slice z.pa (ZL z.P).length z.pc,.slice z.ba (Zk z.B).length z.bc,.slice z.la (Yz z.LL).length z.lc] 83::Sh 32 2 (Zm x.es) x.a x.c::Sh 23 1 (Zv hs) pa2 pc2::L) w:=Z.rsGet 0 rfl
 have hzn:=hz.n;have hzb:=hz.b;have hzl:=hz.l;have hrr:z.room=min (z.cap-((YD (Y3 z.P z.B)).length:Int)) z.T.s.free:=rfl;have hml:(List.map z.T.val hs).length=hs.length:=List.length_map ..;obtain rfl:acc=List.map z.T.val hs:=(by rw[ha,List.take_of_length_le (by omega)])
 replace Z:=(Z.at_ 10 rfl).share
 replace Z:=Z.z
 refine Sz ?_
 refine Zum (Zko z.cap z.P z.pa z.pc z.B z.ba z.bc (List.map z.T.val hs) _ _ hz.p (by omega) hz.b (by omega) (Zb5 hps2 (fun y hy=>by obtain⟨y',hy',rfl⟩:=List.mem_map.1 hy;exact hlv y' hy') (by omega)) (Z.sel 8 [5,5,5,0,0,0,0,0] rfl)) fun w e1 f1 a1 c1 b3 d1 Z=>?_
 refine Zsk fun b4 w Z=>?_
 refine Zsh fun w Z=>?_
 refine Zte rfl rfl (Zry z.T z.ra z.ga z.oa z.va z.rc z.gc z.oc z.vc ((List.length z.P)+1) hz.t (by omega) (by omega) (Z.sel 9 [5,5,5,5,0,0,0,0,0] rfl)) rfl ?_
 clear Z;rintro _ w ⟨ra1,ga1,oa1,va1,rc1,gc1,oc1,vc1,rfl,Z⟩
 replace Z:=Z.z
 refine Sz ?_
 refine Zsk fun b5 w Z=>?_
 refine Zsh fun w Z=>?_
 as_aux_lemma =>
 refine Sz ?_
 refine Zsg [([0,1,2],some (3,[1])),([4],some (5,[]))] ?_
 refine Qd fun w Z=>?_
 refine Zut (ds:=#[.I z.cap,.I z.T.s.cap,.slice z.ra (Za z.T.s.rel).length z.rc,.I (z.T.s.fresh+1),.slice z.ga (Za (z.T.s.gen.drop 1)).length z.gc,.slice z.oa (Zk (z.T.s.used.drop 1)).length z.oc,.slice z.va (Za (z.T.vals.drop 1)).length z.vc,.I z.cap,.slice a1 (List.length (ZL (z.P++[PR.mk (List.map z.T.val hs) e1 f1]))) c1,.slice b3 (Zk (z.B++[true])).length d1,.slice z.la (Yz z.LL).length z.lc]) rfl rfl rfl 14 Z rfl rfl rfl rfl (Nat.le_of_ble_eq_true rfl) rfl ag_80.h (fun w Z=>?_)
 replace Z:=Z.z
 refine Sz ?_
 refine Qd fun w Z=>?_
 refine Zut (ds:=#[.I z.cap,.I (z.T.open ((List.length z.P)+1)).s.cap,.slice ra1 (List.length (Za (z.T.open ((List.length z.P)+1)).s.rel)) rc1,.I ((z.T.open ((List.length z.P)+1)).s.fresh+1),.slice ga1 (List.length (Za ((z.T.open ((List.length z.P)+1)).s.gen.drop 1))) gc1,.slice oa1 (List.length (Zk ((z.T.open ((List.length z.P)+1)).s.used.drop 1))) oc1,.slice va1 (List.length (Za ((z.T.open ((List.length z.P)+1)).vals.drop 1))) vc1,.I z.cap,.slice a1 (List.length (ZL (z.P++[PR.mk (List.map z.T.val hs) e1 f1]))) c1,.slice b3 (Zk (z.B++[true])).length d1,.slice z.la (Yz z.LL).length z.lc]) rfl rfl rfl 14 Z rfl rfl rfl rfl (Nat.le_of_ble_eq_true rfl) rfl ag_77.h (fun w Z=>?_)
 replace Z:=Z.z
 refine Sz ?_
 refine Qd fun w Z=>?_
 replace Z:=Z.nil_ 22 1
 refine Zs3 rfl rfl 0 (Yz z.LL) el_81 Z rfl (Z.srcS 11 rfl) (List.nil_append _) (Rm.of (by first|omega|(simp<;>omega)) (by decide)) rfl rfl (fun a2 c2 w Z=>?_)
 replace Z:=Z.z
 refine Sz ?_
 refine Zs1 rfl rfl (Yz [x]) el_81 Z (by exact⟨rfl,rfl⟩) (Zql _) rfl (Nat.le_of_ble_eq_true rfl) (fun b6 w Z=>?_)
 refine Zs3 rfl rfl 1 (Yz (z.LL++[x])) el_81 Z rfl (Z.srcO 0 rfl) (Zlw _ _).symm (Rm.of (by first|omega|(simp<;>omega)) (by decide)) rfl rfl (fun a3 c3 w Z=>?_)
 replace Z:=Z.z
 refine Sz ?_
 refine Zwg 16 Z fun w Z=>?_
 replace Z:=(Z.at_ 1 rfl).share
 replace Z:=Z.z
 refine Sz ?_
 replace Z:St g (ZE CO (z.LL++[x])::Sh 22 1 (Yz (z.LL++[x])) a3 c3::Zp 22 1 (Yz [x]) (some ⟨b6,0,none⟩) (Yz [x]).length::Zq b5 #[.I (z.T.open ((List.length z.P)+1)).s.cap,.slice ra1 (List.length (Za (z.T.open ((List.length z.P)+1)).s.rel)) rc1,.I ((z.T.open ((List.length z.P)+1)).s.fresh+1),.slice ga1 (List.length (Za ((z.T.open ((List.length z.P)+1)).s.gen.drop 1))) gc1,.slice oa1 (List.length (Zk ((z.T.open ((List.length z.P)+1)).s.used.drop 1))) oc1,.slice va1 (List.length (Za ((z.T.open ((List.length z.P)+1)).vals.drop 1))) vc1] 77::Sh 93 1 (Za (z.T.open ((List.length z.P)+1)).s.rel) ra1 rc1::Sh 93 1 (Za ((z.T.open ((List.length z.P)+1)).s.gen.drop 1)) ga1 gc1::Sh 4 1 (Zk ((z.T.open ((List.length z.P)+1)).s.used.drop 1)) oa1 oc1::Sh 93 1 (Za ((z.T.open ((List.length z.P)+1)).vals.drop 1)) va1 vc1::Zq b4 #[.I z.cap,.slice a1 (List.length (ZL (z.P++[PR.mk (List.map z.T.val hs) e1 f1]))) c1,.slice b3 (Zk (z.B++[true])).length d1] 80::Sh 72 1 (ZL (z.P++[PR.mk (List.map z.T.val hs) e1 f1])) a1 c1::ZE Qg (z.P++[PR.mk (List.map z.T.val hs) e1 f1])::Sh 4 1 (Zk (z.B++[true])) b3 d1::Sh 3 1 (Ze (List.map z.T.val hs)) u d::Sh 22 1 (Yz z.LL) z.la z.lc::ZE CO z.LL::ZE Xr [z]::Zq b2 #[.I 0,.I 0,.N,.I 0,.N,.N,.N,.I 0,.N,.N,.N] 83::Zq b1 #[.I z.cap,.I (z.T.open ((List.length z.P)+1)).s.cap,.slice ra1 (List.length (Za (z.T.open ((List.length z.P)+1)).s.rel)) rc1,.I ((z.T.open ((List.length z.P)+1)).s.fresh+1),.slice ga1 (List.length (Za ((z.T.open ((List.length z.P)+1)).s.gen.drop 1))) gc1,.slice oa1 (List.length (Zk ((z.T.open ((List.length z.P)+1)).s.used.drop 1))) oc1,.slice va1 (List.length (Za ((z.T.open ((List.length z.P)+1)).vals.drop 1))) vc1,.I z.cap,.slice a1 (List.length (ZL (z.P++[PR.mk (List.map z.T.val hs) e1 f1]))) c1,.slice b3 (Zk (z.B++[true])).length d1,.slice a3 (Yz (z.LL++[x])).length c3] 83::Sh 32 2 (Zm x.es) x.a x.c::Sh 23 1 (Zv hs) pa2 pc2::L) w:=St.shsSub (zs':=z.LL++[x]) (St.shsCons (Z.shsDup 13 rfl) (z:=x) (Zpp _) [17] rfl) (fun y hy=>by rcases List.mem_append.1 hy with hy|hy<;>simp at hy ⊢<;>simp[hy])
 replace Z:St g (ZE Xr [z.add (List.map z.T.val hs) x ra1 ga1 oa1 va1 a1 b3 a3 e1 rc1 gc1 oc1 vc1 c1 d1 c3 f1]::ZE CO (z.LL++[x])::Sh 22 1 (Yz (z.LL++[x])) a3 c3::Zp 22 1 (Yz [x]) (some ⟨b6,0,none⟩) (Yz [x]).length::Zq b5 #[.I (z.T.open ((List.length z.P)+1)).s.cap,.slice ra1 (List.length (Za (z.T.open ((List.length z.P)+1)).s.rel)) rc1,.I ((z.T.open ((List.length z.P)+1)).s.fresh+1),.slice ga1 (List.length (Za ((z.T.open ((List.length z.P)+1)).s.gen.drop 1))) gc1,.slice oa1 (List.length (Zk ((z.T.open ((List.length z.P)+1)).s.used.drop 1))) oc1,.slice va1 (List.length (Za ((z.T.open ((List.length z.P)+1)).vals.drop 1))) vc1] 77::Sh 93 1 (Za (z.T.open ((List.length z.P)+1)).s.rel) ra1 rc1::Sh 93 1 (Za ((z.T.open ((List.length z.P)+1)).s.gen.drop 1)) ga1 gc1::Sh 4 1 (Zk ((z.T.open ((List.length z.P)+1)).s.used.drop 1)) oa1 oc1::Sh 93 1 (Za ((z.T.open ((List.length z.P)+1)).vals.drop 1)) va1 vc1::Zq b4 #[.I z.cap,.slice a1 (List.length (ZL (z.P++[PR.mk (List.map z.T.val hs) e1 f1]))) c1,.slice b3 (Zk (z.B++[true])).length d1] 80::Sh 72 1 (ZL (z.P++[PR.mk (List.map z.T.val hs) e1 f1])) a1 c1::ZE Qg (z.P++[PR.mk (List.map z.T.val hs) e1 f1])::Sh 4 1 (Zk (z.B++[true])) b3 d1::Sh 3 1 (Ze (List.map z.T.val hs)) u d::Sh 22 1 (Yz z.LL) z.la z.lc::ZE CO z.LL::ZE Xr [z]::Zq b2 #[.I 0,.I 0,.N,.I 0,.N,.N,.N,.I 0,.N,.N,.N] 83::Zq b1 #[.I z.cap,.I (z.T.open ((List.length z.P)+1)).s.cap,.slice ra1 (List.length (Za (z.T.open ((List.length z.P)+1)).s.rel)) rc1,.I ((z.T.open ((List.length z.P)+1)).s.fresh+1),.slice ga1 (List.length (Za ((z.T.open ((List.length z.P)+1)).s.gen.drop 1))) gc1,.slice oa1 (List.length (Zk ((z.T.open ((List.length z.P)+1)).s.used.drop 1))) oc1,.slice va1 (List.length (Za ((z.T.open ((List.length z.P)+1)).vals.drop 1))) vc1,.I z.cap,.slice a1 (List.length (ZL (z.P++[PR.mk (List.map z.T.val hs) e1 f1]))) c1,.slice b3 (Zk (z.B++[true])).length d1,.slice a3 (Yz (z.LL++[x])).length c3] 83::Sh 32 2 (Zm x.es) x.a x.c::Sh 23 1 (Zv hs) pa2 pc2::L) w:=Z.rsPut (z.add (List.map z.T.val hs) x ra1 ga1 oa1 va1 a1 b3 a3 e1 rc1 gc1 oc1 vc1 c1 d1 c3 f1) [4,4,4,4,5,5,5,1,0] rfl
 refine Sz ?_
 refine Zsh fun w Z=>?_
 replace Z:=(Z.sel 19 [0] rfl)
 exact⟨_,_,_,_,_,_,_,_,_,_,_,_,_,_,_,_,rfl,Z⟩
end Go.Proofs.YtpebgkkmgffmaaaGreatDoor
namespace Go.Proofs.YtpebgkkmgffmaaaGreatDoor
open Go Go.V
set_option maxHeartbeats 8000000
set_option maxRecDepth 8192
variable{g w:World}{L:List HP}
theorem Uh(a:Nat)(A:AM)(R:List Int)(i:Int)(hA:ARf A (i::R))(hR:R.length≤900000000)(Z:St g (Zt a A::L) w) :
  Cp g L 102 [.P a,.W i] w fun rV=>∃(A2:AM)(f:Int),rV (.tuple #[.I f,.I 0]) [Zt a A2] ((Rl A A2 R)∧(f=A2.s.free-A.s.free)):=by
 exact(Zqx a A R i hA hR Z).mono fun v w' ⟨A2,f,hv,hS',h1,h2,h3,h4⟩=>⟨A2,f,hv,hS',⟨h1,h2.kp h1,by omega,h2.cap⟩,h3⟩
theorem YF(a:Nat)(A:AM)(R:List Int)(i:Int)(t:Tr)(hA:ARf A R)(hi:Is A t i)(Z:St g (Zt a A::L) w) :
  Zr g L 218 [.P a,.W i] w fun rV=>rV (.I (t.n:Int)) [Zt a A]:=by
 have h:=hA.okrng hi.ref
 rw[←Is.sz hA t i hi]
 exact Zld a A i hA.toAWf (by omega) Z
theorem Yj(a:Nat)(A:AM)(R:List Int)(l r k z:Int)(tl tr:Tr)(hA:ARf A (l::r::R))(hl:Is A tl l)(hr:Is A tr r)(hf:0<A.s.free)(hz:R.length+tl.n+tr.n≤850000000)(Z:St g (Zt a A::L) w) :
  Cp g L 333 [.P a,.W l,.agg #[.I k,.I z],.W r] w fun rV=>∃(A2:AM)(i:Int),rV (.W i) [Zt a A2] (TOp A A2 R i (.node tl k z tr) 1):=by
 refine Sp.en Tryz.func333 ?_
 have _:=hz
 have hM:=Mk.of (k:=k) (v:=z) hA hl hr hf (by omega) (by omega);have hrl:=hA.rng (r:=l) (by simp);have hrr:=hA.rng (r:=r) (by simp)
 refine Zsp fun b1 w Z=>?_
 refine Zse (Znq _ _ k z l r hA.toAWf hM.kd hf (Z.sel 2 [1,0] rfl)) fun w Z=>?_
 refine Zs2 (Uh _ (A.make (A.nodeOf k z l r)) (A.s.next::r::R) l hM.p1 (by simp only[List.length_cons];omega) Z) fun w A1 f1 Z ⟨f2,f3⟩=>?_
 refine Zs2 (Uh _ _ (A.s.next::R) r f2.p1 (by simp only[List.length_cons];omega) Z) fun w A2 f4 Z ⟨f5,f6⟩=>?_
 replace Z:=(Z.sel 2 [0] rfl)
 exact⟨_,_,rfl,Z,hM.op f2 f5⟩
theorem perm3(x y i:Int)(R:List Int):(y::x::i::R).Perm (i::x::y::R) :=
 ((List.Perm.swap x y _).trans (List.Perm.cons x (List.Perm.swap i y R))).trans (List.Perm.swap i x _)
theorem Xv(a:Nat)(A:AM)(R:List Int)(i k z:Int)(l r:Tr)(hA:ARf A (i::R))(hi:Is A (.node l k z r) i)(hz:R.length≤850000000)(Z:St g (Zt a A::L) w) :
  Cp g L 336 [.P a,.W i] w fun rV=>∃(A2:AM)(x y:Int),rV (.tuple #[.W x,.agg #[.I k,.I z],.W y]) [Zt a A2] (Opn A A2 R x y l r):=by
 refine Sp.en Tryz.func336 ?_
 have _:=hz
 obtain⟨hi1,hi2,hik,hiv,hil,hir⟩:=hi;have hri:=hA.rng (r:=i) (by simp);have hrl:=hA.okrng hil.ref;have hrr:=hA.okrng hir.ref
 have hr1:=AM.ret_eq hA hil.ref (by simp;omega);have hr2:=AM.ret_eq hr1.1 (hir.ret (A.nd i).lf).ref (by simp;omega)
 refine Sz ?_
 refine Zsk fun b1 w Z=>?_
 refine Zse (UY _ _ i hA.toAWf (by omega) hi2 (Z.sel 2 [1,0] rfl)) fun w Z=>?_
 refine Zsk fun b2 w Z=>?_
 refine Zsh fun w Z=>?_
 refine Zse (JV _ _ (A.nd i).lf hA.toAWf (by omega) (Z.sel 2 [1,0] rfl)) fun w Z=>?_
 refine Zse (JV _ (A.ret (A.nd i).lf) (A.nd i).rg hr1.1.toAWf (by omega) Z) fun w Z=>?_
 refine Zs2 (Uh _ ((A.ret (A.nd i).lf).ret (A.nd i).rg) ((A.nd i).lf::(A.nd i).rg::R) i (hr2.1.perm (perm3 _ _ _ _)) (by simp only[List.length_cons];omega) Z) fun w A1 f1 Z ⟨f2,f3⟩=>?_
 refine Zsg [([0,2,4,7,1,3,5,8,9],some (6,[0,1,7,8,9])),([],some (10,[7,8])),([11],none)] ?_
 refine Qd fun w Z=>?_
 refine Zs4 rfl rfl (cs:=[.I (A.nd i).key,.I (A.nd i).val]) zv_32.h rfl rfl ?_
 refine Sz ?_
 refine Qd fun w Z=>?_
 refine Zsh fun w Z=>?_
 refine Qd fun w Z=>?_
 replace Z:=(Z.sel 3 [0] rfl)
 exact⟨_,_,_,by rw[←hik,←hiv];rfl,Z,Opn.of ⟨hi1,hi2,hik,hiv,hil,hir⟩ f2⟩
theorem Zdx(p q:Prop)[Decidable p][Decidable q]:(bif decide p then decide q else false)=decide (p∧q):=by
 by_cases h1:p<;>by_cases h2:q<;>simp[h1,h2]
theorem Jh(x y:Int)(hx:0≤x∧x≤2000000000)(hy:0≤y∧y≤2000000000)(Z:St g (L) w) :
  Zr g L 430 [.I x,.I y] w fun rV=>rV (.bool (decide (x+1≤3*(y+1)∧y+1≤3*(x+1)))) []:=by
 refine Sp.en Tryz.func430 ?_
 have _:=hy
 have _:=hx
 refine Ztd 11 rfl (fun j=>?_)
 refine Zsx 18 rfl (X2 (X2 (X2 (dd _) (dd _)) (dd _)) (dd _)) ?_
 refine Sz ?_
 refine Zsm rfl (decide_eq_false ((by omega))) ?_
 refine Ztd 8 rfl (fun j=>?_)
 refine Zsx 32 rfl (Zy (dd _) (dd _)) ?_
 refine Sz ?_
 exact⟨congrArg Value.bool (by rw[Yf (z:=y+1) (by omega),Yf (z:=x+1) (by omega),Yf (z:=3*(x+1)) (by omega),Zdx]),Z⟩
end Go.Proofs.YtpebgkkmgffmaaaGreatDoor
namespace Go.Proofs.YtpebgkkmgffmaaaGreatDoor
open Go Go.V
theorem JY{t:Tr}(h:t.n≠0):∃l k v r,t=.node l k v r:=by
 cases t with
 |nil=>exact absurd rfl h
 |node l k v r=>exact⟨l,k,v,r,rfl⟩
theorem JQ{a b:Prop}[Decidable a][Decidable b](h:a↔b):decide a=decide b:=by
 by_cases h1:a
 ·rw[decide_eq_true h1,decide_eq_true (h.1 h1)]
 rw[decide_eq_false h1,decide_eq_false (fun h2=>h1 (h.2 h2))]
set_option maxHeartbeats 8000000
set_option maxRecDepth 8192
variable{g w:World}{L:List HP}
theorem Zob(a:Nat)(A:AM)(R:List Int)(l r k z:Int)(tl tm ts:Tr)(fk fz:Int)(hA:ARf A (l::r::R))(hl:Is A tl l)(hr:Is A (.node tm fk fz ts) r)(hf:3≤A.s.free)(hz:R.length+tl.n+tm.n+ts.n≤800000000)(Z:St g (Zt a A::L) w) :
  Cp g L 481 [.P a,.I (tl.n:Int),.W l,.agg #[.I k,.I z],.W r] w fun rV=>∃(A2:AM)(i:Int),rV (.W i) [Zt a A2] (TOp A A2 R i (Tr.litL tl k z (.node tm fk fz ts)) 3):=by
 refine Sp.en Tryz.func481 ?_
 have _:=hz
 have _:=hf
 refine Zsp fun b1 w Z=>?_
 refine Ztk (Xv _ _ (l::R) r fk fz tm ts hA.sw hr (by simp only[List.length_cons];omega) (Z.sel 2 [1,0] rfl)) fun w A1 x1 y1 Z f1=>?_
 refine Zsk fun b2 w Z=>?_
 refine Zsh fun w Z=>?_
 have hr1:=f1.rng;have hl1:=f1.kp l (by simp) tl hl;have hx0:=Is.nil_iff f1.il;have hfr1:=f1.fr
 refine Sz ?_
 refine Ztg (YF _ _ (x1::y1::l::R) x1 tm f1.ref f1.il (Z.sel 2 [1,0] rfl)) fun w Z=>?_
 refine Sx ?_
 refine Zs9<|Zsw<|Zsw<|Ztc [0,2,8,10,11,12,13] [45] [] Z (fun vs jS=>∃(tb:Bool),vs=[.bool tb]∧jS []∧(tb=decide (tm.n=0∨(Jn tl.n tm.n∧Jn (tl.n+tm.n+1) ts.n)))) rfl ?_ ?_
 ·refine Sz ?_
  by_cases cg1:x1=0
  ·refine Zsf 31 (.bool true) (congrArg Value.bool (decide_eq_true cg1)) ?_
   refine Sz ?_
   refine Ztr rfl rfl rfl<|Ztr rfl rfl rfl<|Ztr rfl rfl rfl<|Ztr rfl rfl rfl<|Ztr rfl rfl rfl<|Ztr rfl rfl rfl<|Ztr rfl rfl rfl<|Ztr rfl rfl rfl ?_
   refine Sz ?_
   exact⟨rfl,true,rfl,Z,(decide_eq_true (.inl (by rw[hx0.1 cg1];rfl))).symm⟩
  refine Zsf 31 (.bool false) (congrArg Value.bool (decide_eq_false cg1)) ?_
  refine Sz ?_
  refine Zse (Jh (tl.n:Int) (tm.n:Int) (by omega) (by omega) Z) fun w Z=>?_
  by_cases cg2:(tl.n:Int)+1≤3*((tm.n:Int)+1)∧(tm.n:Int)+1≤3*((tl.n:Int)+1)
  ·refine Zsf 35 (.bool true) (congrArg Value.bool (decide_eq_true cg2)) ?_
   refine Sz ?_
   refine Zse (YF _ _ (x1::y1::l::R) y1 ts f1.ref f1.ir Z) fun w Z=>?_
   refine Zse (Jh (((tl.n:Int)+(tm.n:Int))+1) (ts.n:Int) (by omega) (by omega) Z) fun w Z=>?_
   exact⟨rfl,decide ((((tl.n:Int)+(tm.n:Int))+1)+1≤3*((ts.n:Int)+1)∧(ts.n:Int)+1≤3*((((tl.n:Int)+(tm.n:Int))+1)+1)),rfl,Z,(JQ (by have h9:tm.n≠0:=fun e=>cg1 (hx0.2 (Tr.n0 e));unfold Jn;omega))⟩
  refine Zsf 35 (.bool false) (congrArg Value.bool (decide_eq_false cg2)) ?_
  refine Sz ?_
  exact⟨rfl,false,rfl,Z,(decide_eq_false (by have h9:tm.n≠0:=fun e=>cg1 (hx0.2 (Tr.n0 e));unfold Jn;omega)).symm⟩
 rintro _ w j ⟨tb,rfl,Z,hb⟩
 replace Z:=Z.z
 refine Ztm rfl (fun hc=>?_) (fun hc=>?_)
 ·refine Sz ?_
  refine Zsg [([0,1,2,3,4,6,7],some (5,[0,6,7])),([],some (8,[])),([9],none)] ?_
  refine Qd fun w Z=>?_
  refine Zs2 (Yj _ _ (y1::R) l x1 k z tl tm f1.ref.r3 hl1 f1.il (by omega) (by simp only[List.length_cons];omega) Z) fun w A2 i1 Z f2=>?_
  refine Qd fun w Z=>?_
  refine Zs2 (Yj _ _ R i1 y1 fk fz (.node tl k z tm) ts f2.ref f2.is (f2.kp y1 (by simp) ts f1.ir) (by have:=f2.fr;omega) (by simp only[Tr.n];omega) Z) fun w A3 i2 Z f3=>?_
  refine Qd fun w Z=>?_
  replace Z:=(Z.sel 3 [0] rfl)
  exact⟨_,_,rfl,Z,by rw[Tr.litL,if_pos (of_decide_eq_true (hb▸hc))];exact f3.after (f1.ch.trans f2.ch Di Di) HX (by omega)⟩
 have hcn:=of_decide_eq_false (hb.symm.trans hc);obtain⟨tx,gk,gz,ty,htm⟩:=JY (t:=tm) (fun e=>hcn (.inl e));have him:Is A1 (.node tx gk gz ty) x1:=htm▸f1.il;have htn:tm.n=tx.n+ty.n+1:=(by rw[htm];rfl)
 refine Sz ?_
 refine Ztk (Xv _ _ (y1::l::R) x1 gk gz tx ty f1.ref him (by simp only[List.length_cons];omega) Z) fun w A2 x2 y2 Z f2=>?_
 refine Zsk fun b3 w Z=>?_
 refine Zsh fun w Z=>?_
 have hr2:=f2.rng;have hl2:=f2.kp l (by simp) tl hl1;have hs2:=f2.kp y1 (by simp) ts f1.ir;have hfr2:=f2.fr
 refine Sz ?_
 refine Zs2 (Yj _ _ (y2::y1::R) l x2 k z tl tx f2.ref.r4 hl2 f2.il (by omega) (by simp only[List.length_cons];omega) (Z.sel 2 [1,0] rfl)) fun w A3 i1 Z f3=>?_
 refine Zsg [([0,1,2,3,4,5,6],some (7,[0,1,2])),([],some (8,[])),([9],none)] ?_
 have hr3:=f3.rng;have hfr3:=f3.fr
 refine Qd fun w Z=>?_
 refine Zs2 (Yj _ _ (i1::R) y2 y1 fk fz ty ts f3.ref.r3.r3 (f3.kp y2 (by simp) ty f2.ir) (f3.kp y1 (by simp) ts hs2) (by omega) (by simp only[List.length_cons];omega) Z) fun w A4 i2 Z f4=>?_
 refine Qd fun w Z=>?_
 refine Zs2 (Yj _ _ R i1 i2 gk gz (.node tl k z tx) (.node ty fk fz ts) f4.ref.sw (f4.kp i1 (by simp) _ f3.is) f4.is (by have:=f4.fr;omega) (by simp only[Tr.n];omega) Z) fun w A5 i3 Z f5=>?_
 refine Qd fun w Z=>?_
 as_aux_lemma =>
 refine Sz ?_
 replace Z:=(Z.sel 4 [0] rfl)
 exact⟨_,_,rfl,Z,by rw[Tr.litL,if_neg hcn,htm];exact f5.after ((f1.ch.trans f2.ch Di sb2).trans (f3.ch.trans f4.ch sb2 Di) HX HX) HX (by omega)⟩
theorem Zmj(a:Nat)(A:AM)(R:List Int)(l r k z:Int)(tr tm ts:Tr)(fk fz:Int)(hA:ARf A (l::r::R))(hl:Is A (.node ts fk fz tm) l)(hr:Is A tr r)(hf:3≤A.s.free)(hz:R.length+tr.n+tm.n+ts.n≤800000000)(Z:St g (Zt a A::L) w) :
  Cp g L 482 [.P a,.I (tr.n:Int),.W l,.agg #[.I k,.I z],.W r] w fun rV=>∃(A2:AM)(i:Int),rV (.W i) [Zt a A2] (TOp A A2 R i (Tr.litR tr k z (.node ts fk fz tm)) 3):=by
 refine Sp.en Tryz.func482 ?_
 have _:=hz
 have _:=hf
 refine Zsp fun b1 w Z=>?_
 refine Ztk (Xv _ _ (r::R) l fk fz ts tm hA hl (by simp only[List.length_cons];omega) (Z.sel 2 [1,0] rfl)) fun w A1 x1 y1 Z f1=>?_
 refine Zsk fun b2 w Z=>?_
 refine Zsh fun w Z=>?_
 have hr1:=f1.rng;have hl1:=f1.kp r (by simp) tr hr;have hx0:=Is.nil_iff f1.ir;have hfr1:=f1.fr
 refine Sz ?_
 refine Ztg (YF _ _ (x1::y1::r::R) y1 tm f1.ref f1.ir (Z.sel 2 [1,0] rfl)) fun w Z=>?_
 refine Sx ?_
 refine Zs9<|Zsw<|Zsw<|Ztc [0,4,8,10,11,12,13] [45] [] Z (fun vs jS=>∃(tb:Bool),vs=[.bool tb]∧jS []∧(tb=decide (tm.n=0∨(Jn tm.n tr.n∧Jn ts.n (tm.n+tr.n+1))))) rfl ?_ ?_
 ·refine Sz ?_
  by_cases cg1:y1=0
  ·refine Zsf 31 (.bool true) (congrArg Value.bool (decide_eq_true cg1)) ?_
   refine Sz ?_
   refine Ztr rfl rfl rfl<|Ztr rfl rfl rfl<|Ztr rfl rfl rfl<|Ztr rfl rfl rfl<|Ztr rfl rfl rfl<|Ztr rfl rfl rfl<|Ztr rfl rfl rfl<|Ztr rfl rfl rfl ?_
   refine Sz ?_
   exact⟨rfl,true,rfl,Z,(decide_eq_true (.inl (by rw[hx0.1 cg1];rfl))).symm⟩
  refine Zsf 31 (.bool false) (congrArg Value.bool (decide_eq_false cg1)) ?_
  refine Sz ?_
  refine Zse (Jh (tm.n:Int) (tr.n:Int) (by omega) (by omega) Z) fun w Z=>?_
  by_cases cg2:(tm.n:Int)+1≤3*((tr.n:Int)+1)∧(tr.n:Int)+1≤3*((tm.n:Int)+1)
  ·refine Zsf 35 (.bool true) (congrArg Value.bool (decide_eq_true cg2)) ?_
   refine Sz ?_
   refine Zse (YF _ _ (x1::y1::r::R) x1 ts f1.ref f1.il Z) fun w Z=>?_
   refine Zse (Jh (ts.n:Int) (((tm.n:Int)+(tr.n:Int))+1) (by omega) (by omega) Z) fun w Z=>?_
   exact⟨rfl,decide ((ts.n:Int)+1≤3*((((tm.n:Int)+(tr.n:Int))+1)+1)∧(((tm.n:Int)+(tr.n:Int))+1)+1≤3*((ts.n:Int)+1)),rfl,Z,(JQ (by have h9:tm.n≠0:=fun e=>cg1 (hx0.2 (Tr.n0 e));unfold Jn;omega))⟩
  refine Zsf 35 (.bool false) (congrArg Value.bool (decide_eq_false cg2)) ?_
  refine Sz ?_
  exact⟨rfl,false,rfl,Z,(decide_eq_false (by have h9:tm.n≠0:=fun e=>cg1 (hx0.2 (Tr.n0 e));unfold Jn;omega)).symm⟩
 rintro _ w j ⟨tb,rfl,Z,hb⟩
 replace Z:=Z.z
 refine Ztm rfl (fun hc=>?_) (fun hc=>?_)
 ·refine Sz ?_
  refine Zsg [([0,1,2,3,4,5,6],some (7,[0,1,2])),([],some (8,[])),([9],none)] ?_
  refine Qd fun w Z=>?_
  refine Zs2 (Yj _ _ (x1::R) y1 r k z tm tr f1.ref.r3.r3 f1.ir hl1 (by omega) (by simp only[List.length_cons];omega) Z) fun w A2 i1 Z f2=>?_
  refine Qd fun w Z=>?_
  refine Zs2 (Yj _ _ R x1 i1 fk fz ts (.node tm k z tr) f2.ref.sw (f2.kp x1 (by simp) ts f1.il) f2.is (by have:=f2.fr;omega) (by simp only[Tr.n];omega) Z) fun w A3 i2 Z f3=>?_
  refine Qd fun w Z=>?_
  replace Z:=(Z.sel 3 [0] rfl)
  exact⟨_,_,rfl,Z,by rw[Tr.litR,if_pos (of_decide_eq_true (hb▸hc))];exact f3.after (f1.ch.trans f2.ch Di Di) HX (by omega)⟩
 have hcn:=of_decide_eq_false (hb.symm.trans hc);obtain⟨tx,gk,gz,ty,htm⟩:=JY (t:=tm) (fun e=>hcn (.inl e));have him:Is A1 (.node tx gk gz ty) y1:=htm▸f1.ir;have htn:tm.n=tx.n+ty.n+1:=(by rw[htm];rfl)
 refine Sz ?_
 refine Ztk (Xv _ _ (x1::r::R) y1 gk gz tx ty f1.swap him (by simp only[List.length_cons];omega) Z) fun w A2 x2 y2 Z f2=>?_
 refine Zsk fun b3 w Z=>?_
 refine Zsh fun w Z=>?_
 have hr2:=f2.rng;have hl2:=f2.kp r (by simp) tr hl1;have hs2:=f2.kp x1 (by simp) ts f1.il;have hfr2:=f2.fr
 refine Sz ?_
 refine Zs2 (Yj _ _ (y2::r::R) x1 x2 fk fz ts tx f2.ref.r3 hs2 f2.il (by omega) (by simp only[List.length_cons];omega) (Z.sel 2 [1,0] rfl)) fun w A3 i1 Z f3=>?_
 refine Zsg [([0,1,2,3,4,5,6],some (7,[0,1,2])),([],some (8,[])),([9],none)] ?_
 have hr3:=f3.rng;have hfr3:=f3.fr
 refine Qd fun w Z=>?_
 refine Zs2 (Yj _ _ (i1::R) y2 r k z ty tr f3.ref.r3.r3 (f3.kp y2 (by simp) ty f2.ir) (f3.kp r (by simp) tr hl2) (by omega) (by simp only[List.length_cons];omega) Z) fun w A4 i2 Z f4=>?_
 refine Qd fun w Z=>?_
 refine Zs2 (Yj _ _ R i1 i2 gk gz (.node ts fk fz tx) (.node ty k z tr) f4.ref.sw (f4.kp i1 (by simp) _ f3.is) f4.is (by have:=f4.fr;omega) (by simp only[Tr.n];omega) Z) fun w A5 i3 Z f5=>?_
 refine Qd fun w Z=>?_
 as_aux_lemma =>
 refine Sz ?_
 replace Z:=(Z.sel 4 [0] rfl)
 exact⟨_,_,rfl,Z,by rw[Tr.litR,if_neg hcn,htm];exact f5.after ((f1.ch.trans f2.ch Di sb2).trans (f3.ch.trans f4.ch sb2 Di) HX HX) HX (by omega)⟩
theorem Zg0(a:Nat)(A:AM)(R:List Int)(l r k z:Int)(tl tr:Tr)(hA:ARf A (l::r::R))(hl:Is A tl l)(hr:Is A tr r)(hf:3≤A.s.free)(hz:R.length+tl.n+tr.n≤800000000)(Z:St g (Zt a A::L) w) :
  Cp g L 431 [.P a,.W l,.agg #[.I k,.I z],.W r] w fun rV=>∃(A2:AM)(i:Int),rV (.W i) [Zt a A2] (TOp A A2 R i (Tr.bal tl k z tr) 3):=by
 refine Sp.en Tryz.func431 ?_
 have _:=hz
 refine Zsp fun b1 w Z=>?_
 refine Zse (YF _ _ (l::r::R) l tl hA hl (Z.sel 2 [1,0] rfl)) fun w Z=>?_
 refine Zse (YF _ _ (l::r::R) r tr hA hr Z) fun w Z=>?_
 refine Zse (Jh (tl.n:Int) (tr.n:Int) (by omega) (by omega) Z) fun w Z=>?_
 refine Zsi (fun hb=>?_) fun hb=>?_
 ·refine Zs2 (Yj _ _ R l r k z tl tr hA hl hr (by omega) (by omega) Z) fun w A1 i1 Z f1=>?_
  replace Z:=(Z.sel 2 [0] rfl)
  exact⟨_,_,rfl,Z,by unfold Tr.bal;rw[if_pos (show Jn tl.n tr.n by unfold Jn;omega)];exact f1.weak (by omega)⟩
 refine Zsr rfl (fun hlt=>?_) (fun hlt=>?_)
 ·have hbn:¬Jn tl.n tr.n:=(by unfold Jn;omega);obtain⟨tm,fk,fz,ts,htr⟩:=JY (t:=tr) (by omega);have htn:tr.n=tm.n+ts.n+1:=(by rw[htr];rfl);have hr2:Is A (.node tm fk fz ts) r:=htr▸hr
  refine Sz ?_
  refine Zs2 (Zob _ _ R l r k z tl tm ts fk fz hA hl hr2 hf (by omega) Z) fun w A1 i1 Z f1=>?_
  replace Z:=(Z.sel 2 [0] rfl)
  exact⟨_,_,rfl,Z,by unfold Tr.bal;rw[if_neg hbn,if_pos (show tl.n<tr.n by omega),htr];exact f1⟩
 have hbn:¬Jn tl.n tr.n:=(by unfold Jn;omega);obtain⟨ts,fk,fz,tm,htr⟩:=JY (t:=tl) (by omega);have htn:tl.n=ts.n+tm.n+1:=(by rw[htr];rfl);have hl2:Is A (.node ts fk fz tm) l:=htr▸hl
 refine Sz ?_
 refine Zs2 (Zmj _ _ R l r k z tr tm ts fk fz hA hl2 hr hf (by omega) Z) fun w A1 i1 Z f1=>?_
 replace Z:=(Z.sel 2 [0] rfl)
 exact⟨_,_,rfl,Z,by unfold Tr.bal;rw[if_neg hbn,if_neg (show ¬tl.n<tr.n by omega),htr];exact f1⟩
end Go.Proofs.YtpebgkkmgffmaaaGreatDoor
namespace Go.Proofs.YtpebgkkmgffmaaaGreatDoor
open Go Go.V
theorem Zg8{l r:Tr}{k v:Int}(h:Jn l.n r.n):Tr.join l k v r=.node l k v r:=by
 cases l with
 |nil =>
  cases r with
  |nil=>rw[Tr.join]
  |node m a b s=>rw[Tr.join,if_pos (by simpa[Tr.n] using h)]
 |node s a b m =>
  cases r with
  |nil=>rw[Tr.join,if_pos (by simpa[Tr.n] using h)]
  |node m' a' b' s'=>rw[Tr.join,if_pos (by simpa[Tr.n] using h)]
theorem Zme{s m r:Tr}{fk fv k v:Int}(h:¬Jn (Tr.node s fk fv m).n r.n)(hg:r.n<(Tr.node s fk fv m).n):Tr.join (.node s fk fv m) k v r=Tr.bal s fk fv (Tr.join m k v r)∧Tr.jc (.node s fk fv m) r=Tr.jc m r+3:=by
 cases r with
 |nil=>rw[Tr.join,if_neg (by simpa[Tr.n] using h),Tr.jc,if_neg (by simpa[Tr.n] using h)];exact⟨rfl,rfl⟩
 |node m' a' b' s' =>
  have h2:m'.n+s'.n<s.n+m.n:=by simp only[Tr.n] at hg;omega
  rw[Tr.join,if_neg (by simpa[Tr.n] using h),if_pos h2,Tr.jc,if_neg (by simpa[Tr.n] using h),if_pos h2];exact⟨rfl,rfl⟩
theorem Zkv{l m s:Tr}{fk fv k v:Int}(h:¬Jn l.n (Tr.node m fk fv s).n)(hg:¬(Tr.node m fk fv s).n<l.n):Tr.join l k v (.node m fk fv s)=Tr.bal (Tr.join l k v m) fk fv s∧Tr.jc l (.node m fk fv s)=Tr.jc l m+3:=by
 cases l with
 |nil=>rw[Tr.join,if_neg (by simpa[Tr.n] using h),Tr.jc,if_neg (by simpa[Tr.n] using h)];exact⟨rfl,rfl⟩
 |node s' a' b' m' =>
  have h2:¬m.n+s.n<s'.n+m'.n:=by simp only[Tr.n] at hg;omega
  rw[Tr.join,if_neg (by simpa[Tr.n] using h),if_neg h2,Tr.jc,if_neg (by simpa[Tr.n] using h),if_neg h2];exact⟨rfl,rfl⟩
theorem Zrt(l r:Tr):1≤Tr.jc l r:=by
 cases l<;>cases r<;>rw[Tr.jc]<;>(repeat' split)<;>omega
set_option maxHeartbeats 8000000
set_option maxRecDepth 8192
variable{g w:World}{L:List HP}
theorem CI(nM:Nat)(ih:∀mM:Nat,mM<nM→∀(g w:World)(L:List HP)(a:Nat)(A:AM)(R:List Int)(l r k z:Int)(tl tr:Tr),(ARf A (l::r::R))→(Is A tl l)→(Is A tr r)→((Tr.jc tl tr:Int)≤A.s.free)→(R.length+tl.n+tr.n≤700000000)→tl.n+tr.n=mM→St g (Zt a A::L) w→Cp g L 337 [.P a,.W l,.agg #[.I k,.I z],.W r] w fun rV=>∃(A2:AM)(i:Int),rV (.W i) [Zt a A2] (TOp A A2 R i (Tr.join tl k z tr) (Tr.jc tl tr)))(a:Nat)(A:AM)(R:List Int)(l r k z:Int)(tl tr:Tr)(hA:ARf A (l::r::R))(hl:Is A tl l)(hr:Is A tr r)(hf:(Tr.jc tl tr:Int)≤A.s.free)(hz:R.length+tl.n+tr.n≤700000000)(hM:tl.n+tr.n=nM)(Z:St g (Zt a A::L) w) :
  Cp g L 337 [.P a,.W l,.agg #[.I k,.I z],.W r] w fun rV=>∃(A2:AM)(i:Int),rV (.W i) [Zt a A2] (TOp A A2 R i (Tr.join tl k z tr) (Tr.jc tl tr)):=by
 refine Sp.en Tryz.func337 ?_
 have _:=hz
 have _:=hf
 refine Zsp fun b1 w Z=>?_
 have hjp:=Zrt tl tr
 refine Sz ?_
 refine Zse (YF _ _ (l::r::R) l tl hA hl (Z.sel 2 [1,0] rfl)) fun w Z=>?_
 refine Zse (YF _ _ (l::r::R) r tr hA hr Z) fun w Z=>?_
 refine Zse (Jh (tl.n:Int) (tr.n:Int) (by omega) (by omega) Z) fun w Z=>?_
 refine Zsi (fun hb=>?_) fun hb=>?_
 ·refine Zs2 (Yj _ _ R l r k z tl tr hA hl hr (by omega) (by omega) Z) fun w A1 i1 Z f1=>?_
  replace Z:=(Z.sel 2 [0] rfl)
  exact⟨_,_,rfl,Z,by have h9:Jn tl.n tr.n:=(by unfold Jn;omega);rw[Zg8 h9,Tr.jc_bal h9];exact f1⟩
 refine Zsr rfl (fun hlt=>?_) (fun hlt=>?_)
 ·have hbn:¬Jn tl.n tr.n:=(by unfold Jn;omega);obtain⟨ts,fk,fz,tm,htl⟩:=JY (t:=tl) (by omega);have htn:tl.n=ts.n+tm.n+1:=(by rw[htl];rfl);have hl2:Is A (.node ts fk fz tm) l:=htl▸hl;have hj:=Zme (k:=k) (v:=z) (r:=tr) (by rw[←htl];exact hbn) (by rw[←htl];omega);rw[←htl] at hj
  refine Sz ?_
  refine Ztk (Xv _ _ (r::R) l fk fz ts tm hA hl2 (by simp only[List.length_cons];omega) Z) fun w A1 x1 y1 Z f1=>?_
  refine Zsk fun b2 w Z=>?_
  refine Zsh fun w Z=>?_
  refine Zsg [([0,1,2,3,4,5,6],some (7,[0,1,2])),([],some (8,[])),([9],none)] ?_
  have hr1:=f1.rng;have hr2:=f1.kp r (by simp) tr hr;have hfr1:=f1.fr
  refine Qd fun w Z=>?_
  refine Zte rfl rfl (ih (tm.n+tr.n) (by omega) _ _ _ a A1 (x1::R) y1 r k z tm tr (f1.ref.r3.r3) (f1.ir) (hr2) ((by omega)) ((by simp only[List.length_cons];omega)) rfl (Z.sel 2 [1,0] rfl)) rfl ?_
  clear Z;rintro _ w ⟨A2,i1,rfl,Z,f2⟩
  replace Z:=Z.z
  refine Sz ?_
  refine Qd fun w Z=>?_
  refine Zs2 (Zg0 _ _ R x1 i1 fk fz ts (Tr.join tm k z tr) f2.ref.sw (f2.kp x1 (by simp) ts f1.il) f2.is (by have:=f2.fr;omega) (by rw[(Tr.join_n _ _ _ _).1];omega) Z) fun w A3 i2 Z f3=>?_
  refine Qd fun w Z=>?_
  as_aux_lemma =>
  refine Sz ?_
  replace Z:=(Z.sel 3 [0] rfl)
  exact⟨_,_,rfl,Z,by rw[hj.1,hj.2];exact f3.after (f1.ch.trans f2.ch Di Di) HX (by omega)⟩
 have hbn:¬Jn tl.n tr.n:=(by unfold Jn;omega);obtain⟨tm,fk,fz,ts,htr⟩:=JY (t:=tr) (by omega);have htn:tr.n=tm.n+ts.n+1:=(by rw[htr];rfl);have hr2:Is A (.node tm fk fz ts) r:=htr▸hr;have hj:=Zkv (k:=k) (v:=z) (l:=tl) (by rw[←htr];exact hbn) (by rw[←htr];omega);rw[←htr] at hj
 refine Sz ?_
 refine Ztk (Xv _ _ (l::R) r fk fz tm ts hA.sw hr2 (by simp only[List.length_cons];omega) Z) fun w A1 x1 y1 Z f1=>?_
 refine Zsk fun b2 w Z=>?_
 refine Zsh fun w Z=>?_
 refine Zsg [([0,1,2,3,4,6,7],some (5,[0,6,7])),([],some (8,[])),([9],none)] ?_
 have hr1:=f1.rng;have hl2:=f1.kp l (by simp) tl hl;have hfr1:=f1.fr
 refine Qd fun w Z=>?_
 refine Zte rfl rfl (ih (tl.n+tm.n) (by omega) _ _ _ a A1 (y1::R) l x1 k z tl tm (f1.ref.r3) (hl2) (f1.il) ((by omega)) ((by simp only[List.length_cons];omega)) rfl (Z.sel 2 [1,0] rfl)) rfl ?_
 clear Z;rintro _ w ⟨A2,i1,rfl,Z,f2⟩
 replace Z:=Z.z
 refine Sz ?_
 refine Qd fun w Z=>?_
 refine Zs2 (Zg0 _ _ R i1 y1 fk fz (Tr.join tl k z tm) ts f2.ref f2.is (f2.kp y1 (by simp) ts f1.ir) (by have:=f2.fr;omega) (by rw[(Tr.join_n _ _ _ _).1];omega) Z) fun w A3 i2 Z f3=>?_
 refine Qd fun w Z=>?_
 as_aux_lemma =>
 refine Sz ?_
 replace Z:=(Z.sel 3 [0] rfl)
 exact⟨_,_,rfl,Z,by rw[hj.1,hj.2];exact f3.after (f1.ch.trans f2.ch Di Di) HX (by omega)⟩
theorem C4(nM:Nat):∀(g w:World)(L:List HP)(a:Nat)(A:AM)(R:List Int)(l r k z:Int)(tl tr:Tr),(ARf A (l::r::R))→(Is A tl l)→(Is A tr r)→((Tr.jc tl tr:Int)≤A.s.free)→(R.length+tl.n+tr.n≤700000000)→tl.n+tr.n=nM→St g (Zt a A::L) w→Cp g L 337 [.P a,.W l,.agg #[.I k,.I z],.W r] w fun rV=>∃(A2:AM)(i:Int),rV (.W i) [Zt a A2] (TOp A A2 R i (Tr.join tl k z tr) (Tr.jc tl tr)):=by
 induction nM using Nat.strongRecOn with
 |_ nM ih=>intro g w L a A R l r k z tl tr hA hl hr hf hz hM Z;exact CI nM ih a A R l r k z tl tr hA hl hr hf hz hM Z
theorem J2(a:Nat)(A:AM)(R:List Int)(l r k z:Int)(tl tr:Tr)(hA:ARf A (l::r::R))(hl:Is A tl l)(hr:Is A tr r)(hf:(Tr.jc tl tr:Int)≤A.s.free)(hz:R.length+tl.n+tr.n≤700000000)(Z:St g (Zt a A::L) w) :
  Cp g L 337 [.P a,.W l,.agg #[.I k,.I z],.W r] w fun rV=>∃(A2:AM)(i:Int),rV (.W i) [Zt a A2] (TOp A A2 R i (Tr.join tl k z tr) (Tr.jc tl tr)):=C4 _ g w L a A R l r k z tl tr hA hl hr hf hz rfl Z
end Go.Proofs.YtpebgkkmgffmaaaGreatDoor
