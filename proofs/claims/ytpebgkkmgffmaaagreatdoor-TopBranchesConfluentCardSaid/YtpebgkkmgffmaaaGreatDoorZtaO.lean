/-
  What the proof of Jtb stands on, part 15.
  Conditions: none.
-/
import Derived.Test.YtpebgkkmgffmaaaGreatDoorZtaG
import Derived.Test.YtpebgkkmgffmaaaGreatDoorZtaJ
import Derived.Test.YtpebgkkmgffmaaaGreatDoorZtaK
import Derived.Test.YtpebgkkmgffmaaaGreatDoorZtaL
import Derived.Test.YtpebgkkmgffmaaaGreatDoorZtaM
import Derived.Test.YtpebgkkmgffmaaaGreatDoorZtaN
set_option maxRecDepth 8192
namespace Go.Proofs.YtpebgkkmgffmaaaGreatDoor
open Go Go.V Go.RowKit Go.Maps
theorem Zfn{V:VM}{A:AM}{R:List Int}(h:VI V A R):(V.rs.map RN.n).map V.rootOf=V.rs.map RN.root:=by
 rw[List.map_map]
 refine List.map_congr_left fun r hr=>?_
 obtain⟨j,hj⟩:=List.mem_iff_getElem?.1 hr
 exact VM.rootOf_at h.k.uniq hj
theorem sd_at{xs:List Int}{k:Nat}{x y:Int}(h:Sd 0 xs.length xs)(hk:1≤k)(h1:xs[k]?=some x)(h2:xs[k-1]?=some y):¬x<y:=by
 have hl:=(List.getElem?_eq_some_iff.1 h1).1
 have h3:=h (k-1) k (Nat.zero_le _) (by omega) hl
 rw[Zdq h2,Zdq h1] at h3
 exact Int.not_lt.2 h3
set_option maxHeartbeats 8000000
set_option maxRecDepth 8192
variable{g w:World}{L:List HP}
theorem Znm(p s a:Nat)(V:VM)(A:AM)(z:RSt)(mm:Nat)(hW:WR V A [] z mm)(hl:V.rs.length<50)(Z:St g (YO p s a V::L) w) :
  Cp g L 22 [.P p] w fun rV=>∃(ys:List Int)(u:Option Addr)(d:Nat),rV (.slice u (Za ys).length d) [Zp 93 1 (Za ys) u d,YO p s a V] (ys.Perm (V.rs.map RN.root)∧Sd 0 ys.length ys):=by
 refine Sp.en Tryz.func22 ?_
 have _:=hl
 obtain⟨⟨nm,c,x,m⟩,Z⟩:=St.exOpen Z
 replace Z:=Z.z
 obtain⟨ss,hK⟩:=XT hW.vi.g.ok.uniq;obtain⟨hsn,hsp⟩:=hW.need hK;have hsl:=hsp.length_eq;rw[List.length_map] at hsl;have hsr:=hsp.map V.rootOf;rw[Zfn hW.vi] at hsr
 refine Sz ?_
 refine Zsz (Zlo _ _ _ ss hW.vi.k hsp hK.le (by omega) (Z.sel 2 [1,0] rfl)) fun w a1 c1 Z=>?_
 refine Zwo rfl rfl Zpo 3 Z rfl rfl (fun b1 w Z=>?_)
 refine Sz ?_
 refine Zst [2,15] [3] (fun kM vs jS=>vs=[.slice a1 (Za (ss.map V.rootOf)).length c1]∧jS []∧(0)=kM) rfl ⟨rfl,Z,rfl⟩ ?_
 rintro _ _ w j ⟨rfl,Z,rfl⟩
 replace Z:=Z.z
 refine Sz ?_
 refine Zwp rfl rfl 0 4 Z rfl rfl rfl rfl ?_
 refine Sz ?_
 refine Zsy (Zrp (ss.map V.rootOf) _ _ (by rw[List.length_map];omega) (Z.sel 2 [1,0] rfl)) fun w ys1 Z f1=>?_
 replace Z:=St.cl (f:=JI p s a V) ⟨_,_,_,_⟩ (Z.sel 5 [3,2,2,0,0] rfl)
 replace Z:=Z.z
 refine Sz ?_
 replace Z:=(Z.sel 3 [1,0] rfl)
 exact⟨ys1,a1,c1,congrArg (fun n=>Value.slice a1 n c1) (by rw[Zh,Zh,f1.1.length_eq]),Z,f1.1.trans hsr,by rw[f1.1.length_eq];exact f1.2⟩
theorem Zls(p s a:Nat)(V:VM)(A:AM)(hA:AWf A)(Z:St g (YO p s a V::Zt a A::L) w) :
  Zr g L 26 [.P p] w fun rV=>∃(a2:Option Addr)(c2:Nat)(a4:Option Addr)(c4:Nat),rV (.agg #[.slice a2 (Xn (AM.dmp A)).length c2,.slice a4 (Za (SM.order A.s)).length c4]) [Zp 312 11 (Xn (AM.dmp A)) a2 c2,Zp 93 1 (Za (SM.order A.s)) a4 c4,YO p s a V,Zt a A]:=by
 refine Sp.en Tryz.func26 ?_
 refine Zsk fun b1 w Z=>?_
 refine Ztg (YB (Z:=(Z.sel 2 [1,0] rfl))) fun w Z=>?_
 refine Zvv (Zne _ _ hA (Z.sel 3 [2,0,0] rfl)) fun w a1 c1 a2 c2 Z=>?_
 refine Zsh fun w Z=>?_
 replace Z:=(Z.sel 5 [0,0,1,0] rfl)
 exact⟨_,_,_,_,rfl,Z⟩
theorem Zi3(d p s a m:Nat)(V:VM)(A:AM)(z:RSt)(mm:Nat)(hs:List Int)(hW:WR V A [] z mm)(hl:V.rs.length<50)(hla:V.last<700)(Z:St g (HZ d p m hs::YO p s a V::Zt a A::Xp m z::L) w) :
  Zr g L 12 [.P d] w fun rV=>rV (.bool true) [HZ d p m hs,YO p s a V,Zt a A,Xp m z]:=by
 refine Sp.en Tryz.func12 ?_
 have _:=hla
 obtain⟨⟨u,c⟩,Z⟩:=St.exOpen Z
 replace Z:=Z.z
 have hz:=hW.rok;obtain⟨ss,hK⟩:=XT hW.vi.g.ok.uniq;obtain⟨hsn,hsp⟩:=hW.need hK;have hsl:=hsp.length_eq;rw[List.length_map] at hsl;have hra:=hW.ra.len;have hT1:TOk (TM.new 1):=TM.new_ok (by decide);have hnl:(Ze (YD (Y3 z.P z.B))).length=ss.length:=(by rw[Zf,←hsn]);have h00:(Zv (TM.new 1).handles).length=0:=rfl
 refine Sz ?_
 refine Ztk (Znm _ _ _ _ _ _ _ hW hl (Z.sel 3 [2,0,0] rfl)) fun w ys1 u1 d1 Z f1=>?_
 refine Zsg [([0,10,20,1,11,21,2,12,22,3,13,23,4,14,24,5,15,25,6,16,26,7],some (8,[10,11,12,13,14,15,16,20,21,22,23,24,25,26])),([9],some (17,[9,20,21,22,23,24,25,26])),([18,19],some (27,[9,18,19])),([28,29,30],none)] ?_
 obtain⟨⟨ga,oa,va,gb,ob,vb,gc,oc,vc,gd,od,vd⟩,Z⟩:=St.exOpen (Z.at_ 5 rfl)
 replace Z:=Z.z
 replace Z:St g (Sh 93 1 (Za z.T.s.rel) z.ra z.rc::Sh 93 1 (Za (z.T.s.gen.drop 1)) z.ga z.gc::Sh 4 1 (Zk (z.T.s.used.drop 1)) z.oa z.oc::Sh 93 1 (Za (z.T.vals.drop 1)) z.va z.vc::Sh 72 1 (ZL z.P) z.pa z.pc::ZE Qg z.P::Sh 4 1 (Zk z.B) z.ba z.bc::Sh 22 1 (Yz z.LL) z.la z.lc::ZE CO z.LL::Zq m #[.I z.cap,.I z.T.s.cap,.slice z.ra (Za z.T.s.rel).length z.rc,.I (z.T.s.fresh+1),.slice z.ga (Za (z.T.s.gen.drop 1)).length z.gc,.slice z.oa (Zk (z.T.s.used.drop 1)).length z.oc,.slice z.va (Za (z.T.vals.drop 1)).length z.vc,.I z.cap,.slice z.pa (ZL z.P).length z.pc,.slice z.ba (Zk z.B).length z.bc,.slice z.la (Yz z.LL).length z.lc,.N,.I (TM.new 1).s.cap,.slice none (Za (TM.new 1).s.rel).length 0,.I ((TM.new 1).s.fresh+1),.slice ga (List.length (Za ((TM.new 1).s.gen.drop 1))) gc,.slice oa (List.length (Zk ((TM.new 1).s.used.drop 1))) oc,.slice va (List.length (Za ((TM.new 1).vals.drop 1))) vc,.I (TM.new 1).s.cap,.slice none (Za (TM.new 1).s.rel).length 0,.I ((TM.new 1).s.fresh+1),.slice gb (List.length (Za ((TM.new 1).s.gen.drop 1))) gd,.slice ob (List.length (Zk ((TM.new 1).s.used.drop 1))) od,.slice vb (List.length (Za ((TM.new 1).vals.drop 1))) vd,.N,.N] 90::ZE Xr [z]::Sh 93 1 (Za ((TM.new 1).s.gen.drop 1)) ga gc::Sh 4 1 (Zk ((TM.new 1).s.used.drop 1)) oa oc::Sh 93 1 (Za ((TM.new 1).s.gen.drop 1)) gb gd::Sh 4 1 (Zk ((TM.new 1).s.used.drop 1)) ob od::Zp 93 1 (Za ys1) u1 d1::YO p s a V::Zq d #[.P p,.P m,.slice u (Zv hs).length c,.N,.N,.N,.N,.I 0] 58::Zp 23 1 (Zv hs) u c::Zt a A::L) w:=Z.rsGet (z:=z) 1 rfl
 refine Qd fun w Z=>?_
 refine Zsz (Qu z.cap z.P z.pa z.pc z.B z.ba z.bc hz.p (by omega) hz.b (Z.sel 7 [4,4,4,0,0,0,0] rfl)) fun w a1 c1 Z=>?_
 refine Qd fun w Z=>?_
 refine Zsz (Dw (TM.new 1) none _ _ va 0 _ _ vc hT1 (by decide) (Z.selU [12,12] rfl)) fun w a2 c2 Z=>?_
 refine Qd fun w Z=>?_
 refine Zsz (Dw (TM.new 1) none _ _ vb 0 _ _ vd hT1 (by decide) (Z.selU [15,15] rfl)) fun w a3 c3 Z=>?_
 refine Qd fun w Z=>?_
 have hyl:=Zh ys1;have hyp:=f1.1.length_eq;rw[List.length_map] at hyp
 as_aux_lemma =>
 refine Sz ?_
 refine Zst [0,3,4] [5] (fun kM vs jS=>∃(k:Nat),vs=[.I (k:Int)]∧jS []∧(1≤k)∧(ys1.length+1-k)=kM) rfl ⟨1,rfl,Z,(by decide),rfl⟩ ?_
 rintro _ _ w j ⟨k,rfl,Z,hk,rfl⟩
 replace Z:=Z.z
 have hyl:=Zh ys1;have hyp:=f1.1.length_eq;rw[List.length_map] at hyp
 refine Sz ?_
 refine Zsr rfl (fun cd1=>?_) (fun cd1=>?_)
 ·refine Sz ?_
  refine Zsg [([0,1,4,5,2,6,3,7,8,9],none)] ?_
  obtain⟨x,hx⟩:∃x,ys1[k]?=some x:=⟨_,List.getElem?_eq_getElem (by omega)⟩;obtain⟨y,hy⟩:∃y,ys1[k-1]?=some y:=⟨_,List.getElem?_eq_getElem (by omega)⟩
  refine Qz ?_
  refine Zsj rfl rfl (i:=(k:Int)) (k) el_70 rfl rfl (by omega) (by omega) (Z.rdO 18 rfl (Zn hx)).1 ?_
  refine Qz ?_
  refine Zsn 1 [.W x] rfl (by exact(Z.rdO 18 rfl (Zn hx)).2 0 _ rfl) ?_
  refine Zsj rfl rfl (i:=(k:Int)-1) (k-1) el_70 rfl rfl (by omega) (by omega) (Z.rdO 18 rfl (Zn hy)).1 ?_
  refine Zsn 1 [.W y] rfl (by exact(Z.rdO 18 rfl (Zn hy)).2 0 _ rfl) ?_
  refine Qd fun w Z=>?_
  refine Zsm rfl (decide_eq_false ((sd_at f1.2 (by omega) hx hy))) ?_
  exact⟨_,by omega,rfl,k+1,rfl,Z,(by omega),rfl⟩
 refine Sy ?_
 replace Z:=St.cl (f:=QE m z) ⟨_,_,_,_,_,_,_,_,_,_,_,_⟩ (Z.selU [16,16,4,4,1,1] rfl)
 replace Z:=Z.z
 refine Zsf 61 (.bool true) (congrArg Value.bool (decide_eq_true ((by omega)))) ?_
 refine Sz ?_
 refine Zvg (Zls _ _ _ _ _ hW.vi.ref.toAWf (Z.selU [14,16] rfl)) fun w a4 c4 a5 c5 Z=>?_
 replace Z:=(Z.at_ 0 rfl).share
 replace Z:=Z.z
 replace Z:=(Z.at_ 1 rfl).share
 replace Z:=Z.z
 replace Z:=(Z.at_ 17 rfl).share
 replace Z:=Z.z
 refine Zse (Zg9 A _ _ _ _ _ _ _ (hW.vi.ref.perm (by rw[List.append_nil];exact f1.1.symm)) (by omega) (Z.sel 3 [2,1,0] rfl)) fun w Z=>?_
 as_aux_lemma =>
 refine Sz ?_
 replace Z:=St.cl (f:=Yw d p m hs) ⟨_,_⟩ (Z.selU [18,18] rfl)
 replace Z:=Z.z
 refine Sz ?_
 replace Z:=(Z.sel 19 [0,3,3,3] rfl)
 exact⟨rfl,Z⟩
end Go.Proofs.YtpebgkkmgffmaaaGreatDoor
namespace Go.Proofs.YtpebgkkmgffmaaaGreatDoor
open Go Go.V Go.RowKit Go.Maps
structure Wd(V:VM)(A:AM)(z:RSt)(mm n cv sl:Nat)(hs:List Int):Prop where
 wr:WR V A [] z mm
 la:V.last=n
 xl:V.xs.length=n
 cp:V.cap=cv
 fr:V.T.s.free=(cv:Int)-n
 us:A.s.used.length=sl+1
 hl:hs.length≤n
theorem Wd.new{n sl mm:Nat}(h1:1≤n∧n≤4096)(h2:1≤sl∧sl≤65536){z:RSt}(hz:z.T=TM.new n∧z.cap=n∧z.P=[]∧z.B=[]∧z.LL=[]):Wd (VM.new n) (AM.new sl) z mm 0 n sl []:=by
 obtain⟨e1,e2,e3,e4,e5⟩:=hz
 refine⟨⟨VI.new h2 h1,KO.nil,?_,e1,e2,by rw[e5,e3];rfl,fun _ hr=>(by cases hr),fun _ hx=>(by rw[e5] at hx;cases hx),(show(0:Int)≤800 by decide),Int.natCast_nonneg _⟩,rfl,rfl,rfl,?_,?_,Nat.le_refl _⟩
 ·rw[e3,e4];exact RA.nil
 ·show(SM.new n).free=_
  rw[SM.new_free];simp
 show(SM.new sl).used.length=_
 simp[SM.new]
theorem Wd.room{V:VM}{A:AM}{z:RSt}{mm n cv sl:Nat}{hs:List Int}(h:Wd V A z mm n cv sl hs):V.room=(cv:Int)-n:=by
 have h1:=h.wr.vi.cp
 unfold VM.room
 rw[h.xl,h1,h.cp,h.fr];omega
theorem Wd.free{V:VM}{A:AM}{z:RSt}{mm n cv sl:Nat}{hs:List Int}(h:Wd V A z mm n cv sl hs):(sl:Int)-(n*mm:Nat)≤A.s.free:=by
 have h1:=h.wr.used
 have h2:=Uq h.wr.vi
 rw[h.xl] at h2
 have h3:V.rs.length*mm≤n*mm:=Nat.mul_le_mul_right _ h2
 have h4:A.s.cap=(A.s.used.length:Int)-1:=rfl
 rw[h.us] at h4
 omega
theorem Wd.step{V V2:VM}{A A2:AM}{z z2:RSt}{mm n cv sl:Nat}{hs hs2 ps:List Int}{l:Zl}(h:Wd V A z mm n cv sl hs)(hst:Stp V V2 A A2 z z2 mm ps l)(hh:hs2.length≤hs.length+1):Wd V2 A2 z2 mm (n+1) cv sl hs2:=by
 have h1:=h.la
 have h2:=h.fr
 have h3:=h.hl
 refine⟨hst.wr,by rw[hst.ad.la,h1];rfl,by rw[hst.ad.len,h.xl],hst.ad.cap.trans h.cp,by rw[hst.ad.free,h2];omega,hst.us.trans h.us,by omega⟩
theorem Wd.hs{V:VM}{A:AM}{z:RSt}{mm n cv sl:Nat}{hs hs2:List Int}(h:Wd V A z mm n cv sl hs)(hh:hs2.length≤n):Wd V A z mm n cv sl hs2:=⟨h.wr,h.la,h.xl,h.cp,h.fr,h.us,hh⟩
structure Tk(V:VM)(z:RSt)(own:Int→Int)(b0 h:Int)(l:Zl)(cs:List Int):Prop where
 rng:0≤h∧h≤18446744073709551615
 opn:V.T.s.opn h=true
 ls:Lst z (V.T.val h) l
 an:Anc V.xs own b0 (V.T.val h) cs
 kv:X_ l
theorem Zcd{V:VM}{A:AM}{R:List Int}(h:VI V A R)(n:Int):∀x∈YC V.xs n,x≤V.last:=fun x hx=>by
 unfold YC at hx
 cases hf:Z0 V.xs n with
 |none=>rw[hf] at hx;cases hx
 |some v =>
  rw[hf] at hx
  have h1:=Z7 hf
  have h2:=h.g.ok.le v h1.1 x hx
  have h3:=h.g.le v h1.1
  omega
theorem Zm6{V:VM}{A:AM}{R:List Int}(h:VI V A R){n:Int}(hl:Zi V.xs n=true):n∈YC V.xs n∧∀x∈YC V.xs n,x≤n:=by
 have hp:=Ya hl
 unfold ZF at hp
 obtain⟨v,hf⟩:=Option.isSome_iff_exists.1 hp
 have h1:=Z7 hf
 have e:YC V.xs n=v.ab:=by unfold YC;rw[hf];rfl
 rw[e]
 have h2:=h.g.ok.self v h1.1
 rw[h1.2] at h2
 refine⟨h2,fun x hx=>?_⟩
 have h3:=h.g.ok.le v h1.1 x hx
 rw[h1.2] at h3
 exact h3
theorem Stp.e0{V V2:VM}{A A2:AM}{z z2:RSt}{m:Nat}{ps:List Int}{l:Zl}(h:Stp V V2 A A2 z z2 m ps l):Xj V.xs V.cap ps=0:=by
 rcases h.ad.xs with⟨_,_,h1⟩|⟨h1,_⟩
 ·omega
 exact h1
theorem WR.num{V:VM}{A:AM}{R:List Int}{z:RSt}{m:Nat}(h:WR V A R z m){x:Int}(ho:V.T.s.opn x=true):1≤V.T.val x∧V.T.val x≤V.last:=by
 obtain⟨k,y,h1,h2,_⟩:=h.open ho
 have h3:=(List.getElem?_eq_some_iff.1 h2).1
 have h4:=h.ll
 have h5:=h.ra.len
 omega
theorem Tk.old{V V2:VM}{A A2:AM}{z z2:RSt}{m:Nat}{ps:List Int}{l lx:Zl}{own:Int→Int}{b0 h c:Int}{cs:List Int}(hW:WR V A [] z m)(hst:Stp V V2 A A2 z z2 m ps l)(k:Tk V z own b0 h lx cs):Tk V2 z2 (XR own (V.last+1) c) b0 h lx cs:=by
 obtain⟨h1,h2⟩:=hst.ad.old h k.opn
 have h3:=hW.num k.opn
 refine⟨k.rng,h1,by rw[h2];exact hst.old _ _ h3.2 h3.1 k.ls,?_,k.kv⟩
 rw[h2]
 exact k.an.old (Zcd hW.vi _) ((Zdk hst.ad.xs (fun x hx=>hW.vi.g.le x hx) hst.e0 _).2 (by omega))
theorem Tk.new{V V2:VM}{A A2:AM}{z z2:RSt}{m:Nat}{ps:List Int}{l:Zl}{own:Int→Int}{b0 c:Int}{cs:List Int}(hW:WR V A [] z m)(hst:Stp V V2 A A2 z z2 m ps l)(hp:ps≠[])(ha:∀p∈ps,Anc V.xs own b0 p cs)(hc:c∈cs)(hk:X_ l):Tk V2 z2 (XR own (V.last+1) c) b0 V.T.newH l cs:=by
 refine⟨hst.ad.rng,hst.ad.opn,by rw[hst.ad.val];exact hst.ls,?_,hk⟩
 rw[hst.ad.val]
 exact Anc.new hp ha (fun p _=>Zcd hW.vi p) ((Zdk hst.ad.xs (fun x hx=>hW.vi.g.le x hx) hst.e0 _).1 rfl) hc
theorem Tk.self{V:VM}{A:AM}{z:RSt}{m:Nat}{h:Int}{l:Zl}(hW:WR V A [] z m)(hr:0≤h∧h≤18446744073709551615)(ho:V.T.s.opn h=true)(hl:Lst z (V.T.val h) l)(hk:X_ l)(own:Int→Int)(cs:List Int):Tk V z own (V.T.val h) h l cs:=by
 have h1:=Zm6 hW.vi (VM.open_val hW.vi ho).1
 exact⟨hr,ho,hl,⟨h1.1,fun x hx=>.inl (h1.2 x hx)⟩,hk⟩
theorem Tk.first{V V2:VM}{A A2:AM}{z z2:RSt}{m:Nat}{ps:List Int}{l:Zl}(hst:Stp V V2 A A2 z z2 m ps l)(hk:X_ l)(own:Int→Int)(cs:List Int):Tk V2 z2 own (V.last+1) V.T.newH l cs:=by
 have h1:=Tk.self hst.wr hst.ad.rng hst.ad.opn (by rw[hst.ad.val];exact hst.ls) hk own cs
 rw[hst.ad.val] at h1
 exact h1
theorem Tk.mgc{V:VM}{A:AM}{z:RSt}{mm:Nat}{own:Int→Int}{b0 hb h b:Int}{lb lo lt:Zl}{es cs ds:List Int}(hW:WR V A [] z mm)(kb:Tk V z own b0 hb lb es)(hv:V.T.val hb=b0)(k1:Tk V z own b0 h lo cs)(k2:Tk V z own b0 b lt ds)(hd:∀c∈cs,c∉ds)(ap:Apart lb lo lt)(hm:(Z4 lb lt lo).length≤mm)(hf:(lb.length:Int)+lo.length+lt.length+12*((Tr.mxH (lb.length+lo.length+lt.length):Int)+2)≤A.s.free):Mgc V A z mm h b lb lo lt∧XP V h b=b0:=by
 have hb0:XP V h b=b0:=by
  unfold XP
  rw[if_pos ⟨k1.opn,k2.opn⟩]
  exact Zj0 hW.vi.g.ok k1.an k2.an hd (VM.open_val hW.vi k1.opn).1 (VM.open_val hW.vi k2.opn).1
 have h1:=hW.num kb.opn
 have h2:=hW.lsq kb.opn kb.ls
 refine⟨⟨k1.rng,k1.opn,k2.rng,k2.opn,k1.ls,k2.ls,by rw[hb0];omega,⟨hb,kb.opn,by rw[hb0,hv]⟩,by rw[hb0,←hv];exact kb.ls,ap,h2.2.2,(hW.lsq k1.opn k1.ls).2.2,(hW.lsq k2.opn k2.ls).2.2,kb.kv,k1.kv,k2.kv,h2.2.1,hm,hf⟩,hb0⟩
theorem Zkh:X_ []:=fun _ h=>by cases h
theorem DY{l:Zl}(hs:Srt l):X_ l↔∀z,(Zo z l).isSome=true→-9223372036854775808≤z∧z≤9223372036854775807:=by
 constructor
 ·intro h z hz
  obtain⟨v,hv⟩:=Option.isSome_iff_exists.1 hz
  exact h _ ((ZN hs).1 hv)
 intro h x hx
 exact h x.1 (by rw[(ZN hs).2 hx];rfl)
theorem Znr{b t o:Zl}(hb:Srt b)(ht:Srt t)(ho:Srt o)(h2:X_ t)(h3:X_ o):X_ (Z4 b t o):=by
 rw[DY ho] at h3
 rw[DY ht] at h2
 rw[DY (Y2 ho)]
 intro z
 rw[XV hb ht ho z]
 split
 ·exact h3 z
 exact h2 z
theorem Zip{l:Zl}(h:X_ l):Ql (-9223372036854775808) 9223372036854775807 l=l:=List.filter_eq_self.2 fun e he=>by
 have:=h e he
 unfold inK
 rw[Bool.and_eq_true,decide_eq_true_iff,decide_eq_true_iff]
 exact this
set_option maxHeartbeats 8000000
set_option maxRecDepth 8192
variable{g w:World}{L:List HP}
theorem Zhm(Z:St g (L) w) :
  Zr g L 31 [.I 1] w fun rV=>∃(ga oa va:Option Addr)(gc oc vc:Nat),rV (.agg #[.I (TM.new 1).s.cap,.slice none (Za (TM.new 1).s.rel).length 0,.I ((TM.new 1).s.fresh+1),.slice ga (List.length (Za ((TM.new 1).s.gen.drop 1))) gc,.slice oa (List.length (Zk ((TM.new 1).s.used.drop 1))) oc,.slice va (List.length (Za ((TM.new 1).vals.drop 1))) vc]) [Sh 93 1 (Za ((TM.new 1).s.gen.drop 1)) ga gc,Sh 4 1 (Zk ((TM.new 1).s.used.drop 1)) oa oc]:=by
 refine(Zi7 1 (by decide) Z).mono fun v w' h=>?_
 obtain⟨ga,oa,va,gc,oc,vc,h1,h2⟩:=h
 exact⟨ga,oa,va,gc,oc,vc,h1,h2.sel 4 [1,1] rfl⟩
theorem m_new(sl cz:Int)(cv:Nat)(hc:cz=(cv:Int))(h2:1≤cv∧cv≤4096)(Z:St g (L) w) :
  Cp g L 14 [.agg #[.I sl,.I cz,.I 1,.I 1]] w fun rV=>∃(m:Nat)(z:RSt),rV (.P m) [Xp m z] (z.T=TM.new cv∧z.cap=cv∧z.P=[]∧z.B=[]∧z.LL=[]):=by
 refine Sp.en Tryz.func14 ?_
 refine Zsp fun b1 w Z=>?_
 refine Zsg [([0,3,6,1,4,7],some (2,[3,4,6,7])),([],some (5,[6,7])),([],some (8,[])),([],some (9,[])),([],some (10,[])),([11],none)] ?_
 refine Qd fun w Z=>?_
 refine Zsy (Zrl cv cz hc h2 Z) fun w z1 Z f1=>?_
 refine Qd fun w Z=>?_
 refine Zum (Zhm Z) fun w ga1 oa1 va1 gc1 oc1 vc1 Z=>?_
 refine Qd fun w Z=>?_
 refine Zum (Zhm Z) fun w ga2 oa2 va2 gc2 oc2 vc2 Z=>?_
 refine Qd fun w Z=>?_
 refine Zs4 rfl rfl (cs:=[.I z1.cap,.I z1.T.s.cap,.slice z1.ra (Za z1.T.s.rel).length z1.rc,.I (z1.T.s.fresh+1),.slice z1.ga (Za (z1.T.s.gen.drop 1)).length z1.gc,.slice z1.oa (Zk (z1.T.s.used.drop 1)).length z1.oc,.slice z1.va (Za (z1.T.vals.drop 1)).length z1.vc,.I z1.cap,.slice z1.pa (ZL z1.P).length z1.pc,.slice z1.ba (Zk z1.B).length z1.bc,.slice z1.la (Yz z1.LL).length z1.lc,.N,.I (TM.new 1).s.cap,.slice none (Za (TM.new 1).s.rel).length 0,.I ((TM.new 1).s.fresh+1),.slice ga1 (List.length (Za ((TM.new 1).s.gen.drop 1))) gc1,.slice oa1 (List.length (Zk ((TM.new 1).s.used.drop 1))) oc1,.slice va1 (List.length (Za ((TM.new 1).vals.drop 1))) vc1,.I (TM.new 1).s.cap,.slice none (Za (TM.new 1).s.rel).length 0,.I ((TM.new 1).s.fresh+1),.slice ga2 (List.length (Za ((TM.new 1).s.gen.drop 1))) gc2,.slice oa2 (List.length (Zk ((TM.new 1).s.used.drop 1))) oc2,.slice va2 (List.length (Za ((TM.new 1).vals.drop 1))) vc2,.N,.N]) zv_90.h rfl rfl ?_
 refine Sz ?_
 refine Qd fun w Z=>?_
 refine Zsp fun b2 w Z=>?_
 refine Qd fun w Z=>?_
 replace Z:=St.cl (f:=QE b2 z1) ⟨_,_,_,_,_,_,_,_,_,_,_,_⟩ (Z.sel 6 [0,4,2,2,0,0] rfl)
 replace Z:=Z.z
 refine Sz ?_
 replace Z:=(Z.sel 2 [0] rfl)
 exact⟨_,_,rfl,Z,f1⟩
theorem Zol(sl cv:Nat)(sz cz:Int)(e1:sz=(sl:Int))(e2:cz=(cv:Int))(h1:1≤sl∧sl≤65536)(h2:1≤cv∧cv≤4096)(Z:St g (L) w) :
  Cp g L 4 [.agg #[.I sz,.I cz,.I 1,.I 1]] w fun rV=>∃(d p s a m:Nat)(z:RSt),rV (.P d) [HZ d p m [],YO p s a (VM.new cv),Zt a (AM.new sl),Xp m z] (z.T=TM.new cv∧z.cap=cv∧z.P=[]∧z.B=[]∧z.LL=[]):=by
 refine Sp.en Tryz.func4 ?_
 have _:=h1
 refine Zsp fun b1 w Z=>?_
 subst e1
 subst e2
 refine Sz ?_
 refine Zwj (Zes (sl:Int) (cv:Int) 1 1 (by unfold Zdr;omega) Z) fun w p1 s1 a1 Z=>?_
 refine Ztd 3 rfl (fun j=>?_)
 replace Z:St g (Zp 23 1 (Zv []) none 0::YO p1 s1 a1 (VM.new ((cv:Int)).toNat)::Zt a1 (AM.new ((sl:Int)).toNat)::Zq b1 #[.I (sl:Int),.I (cv:Int),.I 1,.I 1] 27::L) w:=Z.nil_ 23 1
 refine Sz ?_
 refine Zsm rfl rfl ?_
 refine Zuk (m_new (sl:Int) (cv:Int) cv rfl h2 Z) fun w m1 z1 Z f1=>?_
 refine Zs4 rfl rfl (cs:=[.P p1,.P m1,.N,.N,.N,.N,.N,.I 0]) zv_58.h rfl rfl<|Zsp fun b2 w Z=>?_
 replace Z:=St.cl (f:=Yw b2 p1 m1 []) ⟨_,_⟩ (Z.sel 3 [0,1,0] rfl)
 replace Z:=Z.z
 refine Sz ?_
 replace Z:=(Z.sel 5 [0,1,1,0] rfl)
 exact⟨_,_,_,_,_,_,rfl,Z,f1⟩
theorem Zke(d p s a m:Nat)(V:VM)(A:AM)(z:RSt)(mm:Nat)(hs:List Int)(h:Int)(l:Zl)(hW:WR V A [] z mm)(hmm:mm≤900)(hh:0≤h∧h≤18446744073709551615)(hn:V.T.s.opn h=true)(hL:Lst z (V.T.val h) l)(hk:X_ l)(Z:St g (HZ d p m hs::YO p s a V::Zt a A::L) w) :
  Zr g L 11 [.P d,.U h] w fun rV=>∃(u2:Option Addr)(d2:Nat),rV (.slice u2 (Zm l).length d2) [Zp 32 2 (Zm l) u2 d2,HZ d p m hs,YO p s a V,Zt a A]:=by
 refine Sp.en Tryz.func11 ?_
 have _:=hmm
 obtain⟨⟨u,c⟩,Z⟩:=St.exOpen Z
 replace Z:=Z.z
 obtain⟨⟨t,t1,t2,t3,t4⟩,hl2,hl3⟩:=hW.lsq hn hL;have htn:t.n=l.length:=(by rw[←Tr.ls_len,t4]);have hbf:=Zip hk
 refine Sz ?_
 refine Zs4 rfl rfl (cs:=[.I 19,.U h,.U 0,.I 0,.I 0,.I (-9223372036854775808),.I 9223372036854775807,.I 1000,.bool false,.string ⟨#[]⟩,.N,.N,.N]) zv_43.h rfl rfl<|Zsz (Zk3 _ _ _ _ _ h t (-9223372036854775808) 9223372036854775807 hW.vi hh hn t1 t3 (by omega) (by decide) (Z.sel 4 [2,2,0,0] rfl)) fun w u1 d1 Z=>?_
 replace Z:=St.cl (f:=Yw d p m hs) ⟨_,_⟩ (Z.sel 5 [3,3,0,0,0] rfl)
 replace Z:=Z.z
 refine Sz ?_
 replace Z:=(Z.sel 2 [1,0] rfl)
 rw[t4,hbf] at Z;rw[t4,hbf];exact⟨_,_,rfl,Z⟩
end Go.Proofs.YtpebgkkmgffmaaaGreatDoor
