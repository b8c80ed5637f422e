/-
  What the proof of Jtb stands on, part 14.
  Conditions: none.
-/
import Derived.Test.YtpebgkkmgffmaaaGreatDoorZtaI
set_option maxRecDepth 8192
namespace Go.Proofs.YtpebgkkmgffmaaaGreatDoor
open Go Go.V Go.RowKit Go.Maps
set_option maxHeartbeats 8000000
set_option maxRecDepth 8192
variable{g w:World}{L:List HP}
theorem Zq4(d p s a m:Nat)(V:VM)(A:AM)(z:RSt)(mm:Nat)(hs:List Int)(hd k:Int)(l:Zl)(hW:WR V A [] z mm)(hrm:0<V.room)(hla:V.last<700)(hhl:hs.length≤900)(hmm:mm≤900)(hh:0≤hd∧hd≤18446744073709551615)(hn:V.T.s.opn hd=true)(hL:Lst z (V.T.val hd) l)(Z:St g (HZ d p m hs::YO p s a V::Zt a A::Xp m z::L) w) :
  Cp g L 7 [.P d,.agg (qO 2 hd 0 k 0 0 0 0 .N)] w fun rV=>∃(hs2:List Int),rV (.tuple #[.agg (qA 0 0 ((Zo k l).getD 0) ((Zo k l).isSome) 0 .N),.bool true]) [HZ d p m hs2,YO p s a V,Zt a A,Xp m z] (hs2.length≤hs.length+1):=by
 refine Sp.en Tryz.func7 ?_
 have _:=hmm
 have _:=hhl
 have _:=hla
 have _:=hrm
 refine Zsp fun b1 w Z=>?_
 refine Zsk fun b2 w Z=>?_
 obtain⟨⟨u,c⟩,Z⟩:=St.exOpen (Z.at_ 2 rfl)
 replace Z:=Z.z
 have hz:=hW.rok;have htt:=hW.tt;have hro:=hW.room;obtain⟨⟨t,t1,t2,t3,t4⟩,hl2,hl3⟩:=hW.lsq hn hL;have hg:Tr.get k t=Zo k l:=(by rw[Tr.get_ls k t t3,t4])
 refine Sz ?_
 refine Zse (QQ _ _ _ _ _ hW.vi.ref.toAWf (Z.sel 6 [4,4,0,0,0,0] rfl)) fun w Z=>?_
 refine Zto (.two [0,4,1,2,3] 5 [] (.one [] 6 [0,1,2,3,4] (.one [] 7 [] .nil)) 6 [0,1,2,3,4] (.one [] 5 [] (.one [] 7 [] .nil))) ?_
 refine Qz ?_
 refine Zta ?_
 intro m1
 replace Z:=Z.drewN m1;generalize hwm1:World.drewN _ _=w at *;clear hwm1
 refine⟨?_,?_⟩
 ·refine Zse (Zcf _ _ _ _ _ hd t k hW.vi hh hn t1 Z) fun w Z=>?_
  refine Qd fun w Z=>?_
  refine Zsk fun b3 w Z=>?_
  refine Qd fun w Z=>?_
  refine Zsh fun w Z=>?_
  refine Qd fun w Z=>?_
  replace Z:=St.cl (f:=Yw d p m hs) ⟨_,_⟩ (Z.sel 5 [3,3,0,0,0] rfl)
  replace Z:=Z.z
  refine Sz ?_
  refine Zsy (Xi _ _ _ _ 2 hd 0 k 0 0 0 0 none 0 0 0 ((Tr.get k t).getD 0) 0 (Tr.get k t).isSome (by decide) (by omega) Z) fun w hs1 Z f1=>?_
  refine Zse (UJ d 2 hd 0 k 0 0 0 0 none 0 0 A.s.free (by decide) Z) fun w Z=>?_
  as_aux_lemma =>
  refine Sz ?_
  refine Zto (.two [0,4,5,1,2,3] 6 [] (.one [] 7 [0,1,2,3,4,5] (.one [] 8 [] .nil)) 7 [0,1,2,3,4,5] (.one [] 6 [] (.one [] 8 [] .nil))) ?_
  obtain⟨⟨u,c⟩,Z⟩:=St.exOpen Z
  replace Z:=Z.z
  refine Qz ?_
  refine Zta ?_
  intro m2
  replace Z:=Z.drewN m2;generalize hwm2:World.drewN _ _=w at *;clear hwm2
  refine⟨?_,?_⟩
  ·refine Zse (UW _ _ A.s.free hd k l hz (by omega) hh (by rw[htt];exact hn) (hW.opl (by rw[htt];exact hn)) (fun y hy=>hW.lsi hL hy hn) (by omega) (Z.sel 8 [7,0,0,0,0,0,0,0] rfl)) fun w Z=>?_
   refine Qd fun w Z=>?_
   refine Zsk fun b4 w Z=>?_
   refine Qd fun w Z=>?_
   refine Zsh fun w Z=>?_
   refine Qd fun w Z=>?_
   replace Z:=St.cl (f:=Yw d p m hs1) ⟨_,_⟩ (Z.sel 4 [2,2,0,0] rfl)
   replace Z:=Z.z
   refine Sz ?_
   refine Zs7 4 [.I 0] rfl (by exact(fun _=>Z.ld 1 rfl rfl)) (fun j=>?_)
   refine Zsx 62 rfl (Zy (dd _) (dd _)) ?_
   refine Sy ?_
   refine Zsf 83 (.bool false) rfl ?_
   as_aux_lemma =>
   refine Sz ?_
   refine Zsg [([0,1,2],some (3,[0])),([],some (4,[])),([5],none)] ?_
   refine Qd fun w Z=>?_
   refine Zse (Yb 0 ((Tr.get k t).getD 0) 0 0 ((Zo k l).getD 0) 0 (Tr.get k t).isSome (Zo k l).isSome rfl (by rw[hg]) (by rw[hg]) rfl Z) fun w Z=>?_
   refine Qd fun w Z=>?_
   refine Zsh fun w Z=>?_
   refine Qd fun w Z=>?_
   replace Z:=(Z.sel 8 [0,3,3,1] rfl)
   rw[hg];exact⟨_,rfl,Z,f1⟩
  refine Zsk fun b4 w Z=>?_
  refine Qd fun w Z=>?_
  refine Zse (UW _ _ A.s.free hd k l hz (by omega) hh (by rw[htt];exact hn) (hW.opl (by rw[htt];exact hn)) (fun y hy=>hW.lsi hL hy hn) (by omega) (Z.sel 9 [8,0,0,0,0,0,0,0,0] rfl)) fun w Z=>?_
  refine Qd fun w Z=>?_
  refine Zsh fun w Z=>?_
  refine Qd fun w Z=>?_
  replace Z:=St.cl (f:=Yw d p m hs1) ⟨_,_⟩ (Z.sel 4 [2,2,0,0] rfl)
  replace Z:=Z.z
  refine Sz ?_
  refine Zs7 4 [.I 0] rfl (by exact(fun _=>Z.ld 2 rfl rfl)) (fun j=>?_)
  refine Zsx 62 rfl (Zy (dd _) (dd _)) ?_
  refine Sy ?_
  refine Zsf 83 (.bool false) rfl ?_
  as_aux_lemma =>
  refine Sz ?_
  refine Zsg [([0,1,2],some (3,[0])),([],some (4,[])),([5],none)] ?_
  refine Qd fun w Z=>?_
  refine Zse (Yb 0 ((Tr.get k t).getD 0) 0 0 ((Zo k l).getD 0) 0 (Tr.get k t).isSome (Zo k l).isSome rfl (by rw[hg]) (by rw[hg]) rfl Z) fun w Z=>?_
  refine Qd fun w Z=>?_
  refine Zsh fun w Z=>?_
  refine Qd fun w Z=>?_
  replace Z:=(Z.sel 8 [0,3,3,0] rfl)
  rw[hg];exact⟨_,rfl,Z,f1⟩
 refine Zsk fun b3 w Z=>?_
 refine Qd fun w Z=>?_
 refine Zse (Zcf _ _ _ _ _ hd t k hW.vi hh hn t1 (Z.sel 3 [1,1,0] rfl)) fun w Z=>?_
 refine Qd fun w Z=>?_
 refine Zsh fun w Z=>?_
 refine Qd fun w Z=>?_
 replace Z:=St.cl (f:=Yw d p m hs) ⟨_,_⟩ (Z.sel 5 [3,3,0,0,0] rfl)
 replace Z:=Z.z
 refine Sz ?_
 refine Zsy (Xi _ _ _ _ 2 hd 0 k 0 0 0 0 none 0 0 0 ((Tr.get k t).getD 0) 0 (Tr.get k t).isSome (by decide) (by omega) Z) fun w hs1 Z f1=>?_
 refine Zse (UJ d 2 hd 0 k 0 0 0 0 none 0 0 A.s.free (by decide) Z) fun w Z=>?_
 as_aux_lemma =>
 refine Sz ?_
 refine Zto (.two [0,4,5,1,2,3] 6 [] (.one [] 7 [0,1,2,3,4,5] (.one [] 8 [] .nil)) 7 [0,1,2,3,4,5] (.one [] 6 [] (.one [] 8 [] .nil))) ?_
 obtain⟨⟨u,c⟩,Z⟩:=St.exOpen Z
 replace Z:=Z.z
 refine Qz ?_
 refine Zta ?_
 intro m2
 replace Z:=Z.drewN m2;generalize hwm2:World.drewN _ _=w at *;clear hwm2
 refine⟨?_,?_⟩
 ·refine Zse (UW _ _ A.s.free hd k l hz (by omega) hh (by rw[htt];exact hn) (hW.opl (by rw[htt];exact hn)) (fun y hy=>hW.lsi hL hy hn) (by omega) (Z.sel 8 [7,0,0,0,0,0,0,0] rfl)) fun w Z=>?_
  refine Qd fun w Z=>?_
  refine Zsk fun b4 w Z=>?_
  refine Qd fun w Z=>?_
  refine Zsh fun w Z=>?_
  refine Qd fun w Z=>?_
  replace Z:=St.cl (f:=Yw d p m hs1) ⟨_,_⟩ (Z.sel 4 [2,2,0,0] rfl)
  replace Z:=Z.z
  refine Sz ?_
  refine Zs7 4 [.I 0] rfl (by exact(fun _=>Z.ld 1 rfl rfl)) (fun j=>?_)
  refine Zsx 62 rfl (Zy (dd _) (dd _)) ?_
  refine Sy ?_
  refine Zsf 83 (.bool false) rfl ?_
  as_aux_lemma =>
  refine Sz ?_
  refine Zsg [([0,1,2],some (3,[0])),([],some (4,[])),([5],none)] ?_
  refine Qd fun w Z=>?_
  refine Zse (Yb 0 ((Tr.get k t).getD 0) 0 0 ((Zo k l).getD 0) 0 (Tr.get k t).isSome (Zo k l).isSome rfl (by rw[hg]) (by rw[hg]) rfl Z) fun w Z=>?_
  refine Qd fun w Z=>?_
  refine Zsh fun w Z=>?_
  refine Qd fun w Z=>?_
  replace Z:=(Z.sel 8 [0,2,2,1] rfl)
  rw[hg];exact⟨_,rfl,Z,f1⟩
 refine Zsk fun b4 w Z=>?_
 refine Qd fun w Z=>?_
 refine Zse (UW _ _ A.s.free hd k l hz (by omega) hh (by rw[htt];exact hn) (hW.opl (by rw[htt];exact hn)) (fun y hy=>hW.lsi hL hy hn) (by omega) (Z.sel 9 [8,0,0,0,0,0,0,0,0] rfl)) fun w Z=>?_
 refine Qd fun w Z=>?_
 refine Zsh fun w Z=>?_
 refine Qd fun w Z=>?_
 replace Z:=St.cl (f:=Yw d p m hs1) ⟨_,_⟩ (Z.sel 4 [2,2,0,0] rfl)
 replace Z:=Z.z
 refine Sz ?_
 refine Zs7 4 [.I 0] rfl (by exact(fun _=>Z.ld 2 rfl rfl)) (fun j=>?_)
 refine Zsx 62 rfl (Zy (dd _) (dd _)) ?_
 refine Sy ?_
 refine Zsf 83 (.bool false) rfl ?_
 as_aux_lemma =>
 refine Sz ?_
 refine Zsg [([0,1,2],some (3,[0])),([],some (4,[])),([5],none)] ?_
 refine Qd fun w Z=>?_
 refine Zse (Yb 0 ((Tr.get k t).getD 0) 0 0 ((Zo k l).getD 0) 0 (Tr.get k t).isSome (Zo k l).isSome rfl (by rw[hg]) (by rw[hg]) rfl Z) fun w Z=>?_
 refine Qd fun w Z=>?_
 refine Zsh fun w Z=>?_
 refine Qd fun w Z=>?_
 replace Z:=(Z.sel 8 [0,2,2,0] rfl)
 rw[hg];exact⟨_,rfl,Z,f1⟩
end Go.Proofs.YtpebgkkmgffmaaaGreatDoor
