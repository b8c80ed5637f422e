/-
  What the proof of Jtb stands on, part 12.
  Conditions: none.
-/
import Derived.Test.YtpebgkkmgffmaaaGreatDoorZtaI
set_option maxRecDepth 8192
namespace Go.Proofs.YtpebgkkmgffmaaaGreatDoor
open Go Go.V Go.RowKit Go.Maps
set_option maxHeartbeats 8000000
set_option maxRecDepth 8192
variable{g w:World}{L:List HP}
theorem Zgw(d p s a m:Nat)(V:VM)(A:AM)(z:RSt)(mm:Nat)(hs:List Int)(es:Zl)(ea:Option Addr)(ec:Nat)(hW:WR V A [] z mm)(hrm:0<V.room)(hla:V.last<700)(hhl:hs.length≤900)(hmm:mm≤900)(hs9:Srt es)(hl:es.length≤mm)(hf:(es.length:Int)≤A.s.free)(Z:St g (HZ d p m hs::YO p s a V::Zt a A::Xp m z::Sh 32 2 (Zm es) ea ec::L) w) :
  Cp g L 7 [.P d,.agg (qO 7 0 0 0 0 0 0 0 (.slice ea (Zm es).length ec))] w fun rV=>∃(V2:VM)(A2:AM)(z2:RSt)(hs2:List Int),rV (.tuple #[.agg (qA 0 V.T.newH 0 false 0 .N),.bool true]) [HZ d p m hs2,YO p s a V2,Zt a A2,Xp m z2,Sh 32 2 (Zm es) ea ec] ((Stp V V2 A A2 z z2 mm [] es)∧(hs2.length≤hs.length+1)):=by
 refine Sp.en Tryz.func7 ?_
 have _:=hmm
 have _:=hhl
 have _:=hla
 refine Zsp fun b1 w Z=>?_
 refine Zsk fun b2 w Z=>?_
 obtain⟨⟨u,c⟩,Z⟩:=St.exOpen (Z.at_ 2 rfl)
 replace Z:=Z.z
 have hz:=hW.rok;have htt:=hW.tt;have hro:=hW.room;have hc9:XZ V.T V.room []=0:=J4 Z5 (fun _ h=>by cases h) (by omega)
 refine Sz ?_
 refine Zse (QQ _ _ _ _ _ hW.vi.ref.toAWf (Z.sel 6 [4,4,0,0,0,0] rfl)) fun w Z=>?_
 refine Zto (.two [0,4,1,2,3] 5 [] (.one [] 6 [0,1,2,3,4] (.one [] 7 [] .nil)) 6 [0,1,2,3,4] (.one [] 5 [] (.one [] 7 [] .nil))) ?_
 refine Qz ?_
 refine Zta ?_
 intro m1
 replace Z:=Z.drewN m1;generalize hwm1:World.drewN _ _=w at *;clear hwm1
 refine⟨?_,?_⟩
 ·refine Zs2 (CQ _ _ _ _ _ _ _ _ hW.vi hrm (by omega) hs9 (by omega) hf (Z.sel 8 [0,0,5,0,0,0,0,0] rfl)) fun w V1 A1 Z f1=>?_
  refine Qd fun w Z=>?_
  refine Zsk fun b3 w Z=>?_
  refine Qd fun w Z=>?_
  refine Zsh fun w Z=>?_
  refine Qd fun w Z=>?_
  replace Z:=St.cl (f:=Yw d p m hs) ⟨_,_⟩ (Z.sel 6 [4,4,0,0,0,0] rfl)
  replace Z:=Z.z
  refine Sz ?_
  refine Zsy (Xi _ _ _ _ 7 0 0 0 0 0 0 0 ea (Zm es).length ec V.T.newH 0 0 false (by decide) (by omega) Z) fun w hs1 Z f2=>?_
  refine Zse (UJ d 7 0 0 0 0 0 0 0 ea (Zm es).length ec A.s.free (by decide) Z) fun w Z=>?_
  as_aux_lemma =>
  refine Sz ?_
  refine Zto (.two [0,4,5,1,2,3] 6 [] (.one [] 7 [0,1,2,3,4,5] (.one [] 8 [] .nil)) 7 [0,1,2,3,4,5] (.one [] 6 [] (.one [] 8 [] .nil))) ?_
  obtain⟨⟨u,c⟩,Z⟩:=St.exOpen Z
  replace Z:=Z.z
  refine Qz ?_
  refine Zta ?_
  intro m2
  replace Z:=Z.drewN m2;generalize hwm2:World.drewN _ _=w at *;clear hwm2
  refine⟨?_,?_⟩
  ·refine Zsy (JT _ _ A.s.free _ _ _ hz (by omega) hs9 (by omega) hf (Z.sel 9 [8,5,0,0,0,0,0,0,0] rfl)) fun w z1 Z f3=>?_
   refine Qd fun w Z=>?_
   refine Zsk fun b4 w Z=>?_
   refine Qd fun w Z=>?_
   refine Zsh fun w Z=>?_
   refine Qd fun w Z=>?_
   replace Z:=St.cl (f:=Yw d p m hs1) ⟨_,_⟩ (Z.sel 5 [3,3,0,0,0] rfl)
   replace Z:=Z.z
   refine Sz ?_
   refine Zs7 4 [.I 0] rfl (by exact(fun _=>Z.ld 1 rfl rfl)) (fun j=>?_)
   refine Zsx 62 rfl (Zy (dd _) (dd _)) ?_
   refine Sy ?_
   refine Zsf 83 (.bool false) rfl ?_
   as_aux_lemma =>
   refine Sz ?_
   refine Zsg [([0,1,2],some (3,[0])),([],some (4,[])),([5],none)] ?_
   refine Qd fun w Z=>?_
   refine Zse (Yb V.T.newH 0 0 (ZS z.T z.room []) 0 0 false false (by rw[(hW.same []).2,ZS,if_pos hc9]) rfl rfl rfl Z) fun w Z=>?_
   refine Qd fun w Z=>?_
   refine Zsh fun w Z=>?_
   refine Qd fun w Z=>?_
   replace Z:=(Z.sel 9 [0,4,4,1,1] rfl)
   exact⟨_,_,_,_,rfl,Z,Stp.of (hs:=[]) hW f1 Z5 (fun _ h=>by cases h) hrm f3 (by omega) ⟨Tr.bld_ok _ _ (Nat.le_refl _),by rw[Tr.bld_ls _ _ (Nat.le_refl _)];exact hs9,Tr.bld_ls _ _ (Nat.le_refl _)⟩ hl,f2⟩
  refine Zsk fun b4 w Z=>?_
  refine Qd fun w Z=>?_
  refine Zsy (JT _ _ A.s.free _ _ _ hz (by omega) hs9 (by omega) hf (Z.sel 10 [9,6,0,0,0,0,0,0,0,0] rfl)) fun w z1 Z f3=>?_
  refine Qd fun w Z=>?_
  refine Zsh fun w Z=>?_
  refine Qd fun w Z=>?_
  replace Z:=St.cl (f:=Yw d p m hs1) ⟨_,_⟩ (Z.sel 5 [3,3,0,0,0] rfl)
  replace Z:=Z.z
  refine Sz ?_
  refine Zs7 4 [.I 0] rfl (by exact(fun _=>Z.ld 3 rfl rfl)) (fun j=>?_)
  refine Zsx 62 rfl (Zy (dd _) (dd _)) ?_
  refine Sy ?_
  refine Zsf 83 (.bool false) rfl ?_
  as_aux_lemma =>
  refine Sz ?_
  refine Zsg [([0,1,2],some (3,[0])),([],some (4,[])),([5],none)] ?_
  refine Qd fun w Z=>?_
  refine Zse (Yb V.T.newH 0 0 (ZS z.T z.room []) 0 0 false false (by rw[(hW.same []).2,ZS,if_pos hc9]) rfl rfl rfl Z) fun w Z=>?_
  refine Qd fun w Z=>?_
  refine Zsh fun w Z=>?_
  refine Qd fun w Z=>?_
  replace Z:=(Z.sel 9 [0,4,4,0,0] rfl)
  exact⟨_,_,_,_,rfl,Z,Stp.of (hs:=[]) hW f1 Z5 (fun _ h=>by cases h) hrm f3 (by omega) ⟨Tr.bld_ok _ _ (Nat.le_refl _),by rw[Tr.bld_ls _ _ (Nat.le_refl _)];exact hs9,Tr.bld_ls _ _ (Nat.le_refl _)⟩ hl,f2⟩
 refine Zsk fun b3 w Z=>?_
 refine Qd fun w Z=>?_
 refine Zs2 (CQ _ _ _ _ _ _ _ _ hW.vi hrm (by omega) hs9 (by omega) hf (Z.sel 9 [1,1,6,0,0,0,0,0,0] rfl)) fun w V1 A1 Z f1=>?_
 refine Qd fun w Z=>?_
 refine Zsh fun w Z=>?_
 refine Qd fun w Z=>?_
 replace Z:=St.cl (f:=Yw d p m hs) ⟨_,_⟩ (Z.sel 6 [4,4,0,0,0,0] rfl)
 replace Z:=Z.z
 refine Sz ?_
 refine Zsy (Xi _ _ _ _ 7 0 0 0 0 0 0 0 ea (Zm es).length ec V.T.newH 0 0 false (by decide) (by omega) Z) fun w hs1 Z f2=>?_
 refine Zse (UJ d 7 0 0 0 0 0 0 0 ea (Zm es).length ec A.s.free (by decide) Z) fun w Z=>?_
 as_aux_lemma =>
 refine Sz ?_
 refine Zto (.two [0,4,5,1,2,3] 6 [] (.one [] 7 [0,1,2,3,4,5] (.one [] 8 [] .nil)) 7 [0,1,2,3,4,5] (.one [] 6 [] (.one [] 8 [] .nil))) ?_
 obtain⟨⟨u,c⟩,Z⟩:=St.exOpen Z
 replace Z:=Z.z
 refine Qz ?_
 refine Zta ?_
 intro m2
 replace Z:=Z.drewN m2;generalize hwm2:World.drewN _ _=w at *;clear hwm2
 refine⟨?_,?_⟩
 ·refine Zsy (JT _ _ A.s.free _ _ _ hz (by omega) hs9 (by omega) hf (Z.sel 9 [8,4,0,0,0,0,0,0,0] rfl)) fun w z1 Z f3=>?_
  refine Qd fun w Z=>?_
  refine Zsk fun b4 w Z=>?_
  refine Qd fun w Z=>?_
  refine Zsh fun w Z=>?_
  refine Qd fun w Z=>?_
  replace Z:=St.cl (f:=Yw d p m hs1) ⟨_,_⟩ (Z.sel 5 [3,3,0,0,0] rfl)
  replace Z:=Z.z
  refine Sz ?_
  refine Zs7 4 [.I 0] rfl (by exact(fun _=>Z.ld 1 rfl rfl)) (fun j=>?_)
  refine Zsx 62 rfl (Zy (dd _) (dd _)) ?_
  refine Sy ?_
  refine Zsf 83 (.bool false) rfl ?_
  as_aux_lemma =>
  refine Sz ?_
  refine Zsg [([0,1,2],some (3,[0])),([],some (4,[])),([5],none)] ?_
  refine Qd fun w Z=>?_
  refine Zse (Yb V.T.newH 0 0 (ZS z.T z.room []) 0 0 false false (by rw[(hW.same []).2,ZS,if_pos hc9]) rfl rfl rfl Z) fun w Z=>?_
  refine Qd fun w Z=>?_
  refine Zsh fun w Z=>?_
  refine Qd fun w Z=>?_
  replace Z:=(Z.sel 9 [0,3,3,1,1] rfl)
  exact⟨_,_,_,_,rfl,Z,Stp.of (hs:=[]) hW f1 Z5 (fun _ h=>by cases h) hrm f3 (by omega) ⟨Tr.bld_ok _ _ (Nat.le_refl _),by rw[Tr.bld_ls _ _ (Nat.le_refl _)];exact hs9,Tr.bld_ls _ _ (Nat.le_refl _)⟩ hl,f2⟩
 refine Zsk fun b4 w Z=>?_
 refine Qd fun w Z=>?_
 refine Zsy (JT _ _ A.s.free _ _ _ hz (by omega) hs9 (by omega) hf (Z.sel 10 [9,5,0,0,0,0,0,0,0,0] rfl)) fun w z1 Z f3=>?_
 refine Qd fun w Z=>?_
 refine Zsh fun w Z=>?_
 refine Qd fun w Z=>?_
 replace Z:=St.cl (f:=Yw d p m hs1) ⟨_,_⟩ (Z.sel 5 [3,3,0,0,0] rfl)
 replace Z:=Z.z
 refine Sz ?_
 refine Zs7 4 [.I 0] rfl (by exact(fun _=>Z.ld 3 rfl rfl)) (fun j=>?_)
 refine Zsx 62 rfl (Zy (dd _) (dd _)) ?_
 refine Sy ?_
 refine Zsf 83 (.bool false) rfl ?_
 as_aux_lemma =>
 refine Sz ?_
 refine Zsg [([0,1,2],some (3,[0])),([],some (4,[])),([5],none)] ?_
 refine Qd fun w Z=>?_
 refine Zse (Yb V.T.newH 0 0 (ZS z.T z.room []) 0 0 false false (by rw[(hW.same []).2,ZS,if_pos hc9]) rfl rfl rfl Z) fun w Z=>?_
 refine Qd fun w Z=>?_
 refine Zsh fun w Z=>?_
 refine Qd fun w Z=>?_
 replace Z:=(Z.sel 9 [0,3,3,0,0] rfl)
 exact⟨_,_,_,_,rfl,Z,Stp.of (hs:=[]) hW f1 Z5 (fun _ h=>by cases h) hrm f3 (by omega) ⟨Tr.bld_ok _ _ (Nat.le_refl _),by rw[Tr.bld_ls _ _ (Nat.le_refl _)];exact hs9,Tr.bld_ls _ _ (Nat.le_refl _)⟩ hl,f2⟩
end Go.Proofs.YtpebgkkmgffmaaaGreatDoor
