/-
  What the proof of Jtb stands on, part 16.
  Conditions: none.
-/
import Derived.Test.YtpebgkkmgffmaaaGreatDoorZtaO
set_option maxRecDepth 8192
namespace Go.Proofs.YtpebgkkmgffmaaaGreatDoor
open Go Go.V Go.RowKit Go.Maps
theorem Z3{xs:List Int}{k:Nat}(h:k<xs.length):(Zv xs)[k]?=some [.U (gI xs k)]:=Zw (Vu h)
theorem Zrx{xs:List Int}{i j:Nat}(hx:xs.length=4)(hi:i<4)(hj:j<4)(h1:1≤j):gI (sw 1 j (sw 0 i xs)) 0=gI xs i:=by
 have h2:=Ju 0 i xs
 rw[Xs (by omega) (by omega),if_neg (by omega),if_neg (by omega),Xs (by omega) (by omega)]
 split
 ·rename_i e;rw[←e]
 rw[if_pos rfl]
theorem Zbs{raw:Zl}(h:X_ raw):∀k,X_ (X7 raw k)
 |0=>fun x hx=>by cases hx
 |k+1=>by
  cases he:raw[k]? with
  |none =>
   have:X7 raw (k+1)=X7 raw k:=by unfold X7;rw[List.take_add_one,he];simp
   rw[this];exact Zbs h k
  |some e =>
   rw[U7 he]
   exact QW (Zbs h k) (h e (List.mem_of_getElem? he))
structure Bs(V:VM)(z:RSt)(own:Int→Int)(b0 hb:Int)(lb:Zl):Prop where
 tk:∀cs,Tk V z own b0 hb lb cs
 vl:V.T.val hb=b0
theorem Bs.old{V V2:VM}{A A2:AM}{z z2:RSt}{m:Nat}{ps:List Int}{l lx:Zl}{own:Int→Int}{b0 h c:Int}(hW:WR V A [] z m)(hst:Stp V V2 A A2 z z2 m ps l)(k:Bs V z own b0 h lx):Bs V2 z2 (XR own (V.last+1) c) b0 h lx:=⟨fun cs=>(k.tk cs).old hW hst,((hst.ad.old h (k.tk []).opn).2).trans k.vl⟩
theorem Bs.new{V V2:VM}{A A2:AM}{z z2:RSt}{m:Nat}{ps:List Int}{l:Zl}(hst:Stp V V2 A A2 z z2 m ps l)(hk:X_ l)(own:Int→Int):Bs V2 z2 own (V.last+1) V.T.newH l:=⟨fun cs=>Tk.first hst hk own cs,hst.ad.val⟩
theorem ZW:ArP Tryz.prog 44 4 23:=⟨by kernel_rfl,by kernel_rfl⟩
theorem Zn9(l:Zl)(w:Int×Bool×Int):(lw1 l w).length≤l.length+1:=by
 unfold lw1
 split
 ·unfold Zs
  have h1:=List.length_filter_le (fun x:Int×Int=>decide (x.1<w.1)) l
  have h2:(l.filter fun x=>decide (x.1<w.1)).length+(l.filter fun x=>decide (w.1<x.1)).length≤l.length:=by
   induction l with
   |nil=>simp
   |cons x l ih =>
    have ih:=ih (List.length_filter_le _ _)
    rw[List.filter_cons,List.filter_cons]
    split<;>split<;>simp_all<;>omega
  simp only[List.length_append,List.length_cons];omega
 have:=List.length_filter_le (fun x:Int×Int=>decide (x.1≠w.1)) l
 unfold Va;omega
theorem Zdi:∀(M:J3)(l:Zl),(lwA M l).length≤l.length+M.length
 |[],l=>Nat.le_refl _
 |w::M,l=>by
  have h1:=Zdi M (lw1 l w)
  have h2:=Zn9 l w
  show(lwA M (lw1 l w)).length≤_
  simp only[List.length_cons];omega
theorem DS(b t o:Zl):(Z4 b t o).length≤o.length+(b.length+t.length):=by
 unfold Z4
 have h1:=Zdi (Zfo b t) o
 have h2:=DQ b t
 have h3:(Zfo b t).length=(Y4 b t).length:=by unfold Zfo;rw[List.length_map]
 omega
theorem Zgq{lb:Zl}(hb:Srt lb):Apart lb (Zs 1 11 lb) (Zs 2 20 lb):=fun z=>by
 by_cases h:z=1
 ·exact .inr (by rw[Xb hb,if_neg (by omega)])
 exact .inl (by rw[Xb hb,if_neg h])
theorem Zq9{lb:Zl}(hb:Srt lb):Zo 1 (Z4 lb (Zs 2 20 lb) (Zs 1 11 lb))=some 11:=by
 rw[XV hb (ZD hb) (ZD hb)]
 simp[Xb hb]
theorem YS{k v:Int}{l:Zl}(h:Srt l):(Zs k v l).length≤l.length+1:=by
 have:=JF (k:=k) (v:=v) h
 split at this<;>omega
theorem Zbf:Srt (Zs 1 10 [])∧(Zs 1 10 []).length≤1:=⟨ZD List.Pairwise.nil,YS (k:=1) (v:=10) (l:=[]) List.Pairwise.nil⟩
theorem kv1{k v:Int}{l:Zl}(h:X_ l)(hk:1≤k∧k≤2):X_ (Zs k v l):=QW h (by omega)
set_option maxHeartbeats 8000000
set_option maxRecDepth 8192
variable{g w:World}{L:List HP}
theorem Zfb(Z:St g (L) w) :
  Zr g L 5 [] w fun rV=>rV (.bool true) []:=by
 refine Sp.en Tryz.func5 ?_
 refine Zs4 rfl rfl (cs:=[.I 400,.I 20,.I 1,.I 1]) zv_27.h rfl rfl<|Zvh (Zol 400 20 400 20 rfl rfl (by decide) (by decide) Z) fun w d1 p1 s1 a1 m1 z1 Z f1=>?_
 have W0:=Wd.new (n:=20) (sl:=400) (mm:=10) (by decide) (by decide) f1;have r0:=W0.room;have v0:=W0.la
 refine Sz ?_
 refine Zsm rfl rfl ?_
 refine Zs4 rfl rfl (cs:=[.I 1,.U 0,.U 0,.I 0,.I 0,.I 0,.I 0,.I 0,.bool false,.string ⟨#[]⟩,.N,.N,.N]) zv_43.h rfl rfl<|Ztp (Zrg _ _ _ _ _ (VM.new 20) (AM.new 400) _ 10 [] W0.wr (by omega) (by omega) (by decide) (by decide) Z) fun w V1 A1 z2 hs1 Z ⟨f2,f3⟩=>?_
 refine Zsk fun b1 w Z=>?_
 refine Zsh fun w Z=>?_
 have W1:=W0.step f2 f3;have r1:=W1.room;have v1:=W1.la;have q1:=W1.free;have g1:=W1.hl
 refine Sz ?_
 refine Zs4 rfl rfl (cs:=[.I 3,.U (VM.new 20).T.newH,.U 0,.I 1,.I 10,.I 0,.I 0,.I 0,.bool false,.string ⟨#[]⟩,.N,.N,.N]) zv_43.h rfl rfl<|Ztp (XH _ _ _ _ _ _ _ _ _ _ (VM.new 20).T.newH 1 10 [] W1.wr (by omega) (by omega) (by omega) (by decide) f2.ad.rng f2.ad.opn (by rw[f2.ad.val];exact f2.ls) (by decide) (by have:=Tr.mxH_le 1;show 4*((Tr.mxH 1:Int)+2)≤_;omega) (Z.sel 5 [1,1,1,1,0] rfl)) fun w V2 A2 z3 hs2 Z ⟨f4,f5⟩=>?_
 refine Zsk fun b2 w Z=>?_
 refine Zsh fun w Z=>?_
 have W2:=W1.step f4 f5;have r2:=W2.room;have v2:=W2.la;have q2:=W2.free;have g2:=W2.hl;have B2:=Bs.new f4 (kv1 Zkh (by decide)) (fun _=>5);have k2:=B2.tk [0]
 refine Sz ?_
 refine Zs4 rfl rfl (cs:=[.I 3,.U V1.T.newH,.U 0,.I 1,.I 11,.I 0,.I 0,.I 0,.bool false,.string ⟨#[]⟩,.N,.N,.N]) zv_43.h rfl rfl<|Ztp (XH _ _ _ _ _ _ _ _ _ _ V1.T.newH 1 11 (Zs 1 10 []) W2.wr (by omega) (by omega) (by omega) (by decide) k2.rng k2.opn k2.ls (by have:=Zbf.2;omega) (by have:=Tr.mxH_le ((Zs 1 10 []).length+1);omega) (Z.sel 5 [1,1,1,1,0] rfl)) fun w V3 A3 z4 hs3 Z ⟨f6,f7⟩=>?_
 refine Zsk fun b3 w Z=>?_
 refine Zsh fun w Z=>?_
 have W3:=W2.step f6 f7;have r3:=W3.room;have v3:=W3.la;have q3:=W3.free;have g3:=W3.hl;have B3:=B2.old (c:=0) W2.wr f6;have k3:=B3.tk [1];have c3:=Tk.new (c:=0) W2.wr f6 (by simp) (fun p hp=>by rw[List.mem_singleton.1 hp];exact k2.an) (by simp) (kv1 k2.kv (by decide))
 refine Sz ?_
 refine Zs4 rfl rfl (cs:=[.I 3,.U V1.T.newH,.U 0,.I 2,.I 20,.I 0,.I 0,.I 0,.bool false,.string ⟨#[]⟩,.N,.N,.N]) zv_43.h rfl rfl<|Ztp (XH _ _ _ _ _ _ _ _ _ _ V1.T.newH 2 20 (Zs 1 10 []) W3.wr (by omega) (by omega) (by omega) (by decide) k3.rng k3.opn k3.ls (by have:=Zbf.2;omega) (by have:=Tr.mxH_le ((Zs 1 10 []).length+1);omega) (Z.sel 5 [1,1,1,1,0] rfl)) fun w V4 A4 z5 hs4 Z ⟨f8,f9⟩=>?_
 refine Zsk fun b4 w Z=>?_
 refine Zsh fun w Z=>?_
 have W4:=W3.step f8 f9;have r4:=W4.room;have v4:=W4.la;have q4:=W4.free;have g4:=W4.hl;have B4:=B3.old (c:=1) W3.wr f8;have c4:=Tk.old (c:=1) W3.wr f8 c3;have e4:=Tk.new (c:=1) W3.wr f8 (by simp) (fun p hp=>by rw[List.mem_singleton.1 hp];exact k3.an) (by simp) (kv1 k3.kv (by decide));have lb1:=Zbf;have lc1:=YS (k:=1) (v:=11) Zbf.1;have le1:=YS (k:=2) (v:=20) Zbf.1;have ml:=DS (Zs 1 10 []) (Zs 2 20 (Zs 1 10 [])) (Zs 1 11 (Zs 1 10 []));obtain⟨M4,hb4⟩:=Tk.mgc W4.wr (B4.tk []) B4.vl c4 e4 (by decide) (Zgq Zbf.1) (by omega) (by have h5:Tr.mxH ((Zs 1 10 []).length+(Zs 1 11 (Zs 1 10 [])).length+(Zs 2 20 (Zs 1 10 [])).length)≤Tr.mxH 5:=Tr.mxH_mono (by omega);have h6:Tr.mxH 5≤10:=(by decide);omega)
 refine Sz ?_
 refine Zs4 rfl rfl (cs:=[.I 10,.U V2.T.newH,.U V3.T.newH,.I 0,.I 0,.I 0,.I 0,.I 3,.bool false,.string ⟨#[]⟩,.N,.N,.N]) zv_43.h rfl rfl<|Ztp (C5 _ _ _ _ _ _ _ _ _ _ V2.T.newH V3.T.newH _ _ _ W4.wr (by omega) (by omega) (by omega) (by decide) M4 (Z.sel 5 [1,1,1,1,0] rfl)) fun w V5 A5 z6 hs5 Z ⟨f10,f11⟩=>?_
 refine Zsk fun b5 w Z=>?_
 refine Zsh fun w Z=>?_
 as_aux_lemma =>
 have W5:=W4.step f10 f11;have r5:=W5.room;have v5:=W5.la;have g5:=W5.hl
 refine Sz ?_
 refine Zs4 rfl rfl (cs:=[.I 2,.U V4.T.newH,.U 0,.I 1,.I 0,.I 0,.I 0,.I 0,.bool false,.string ⟨#[]⟩,.N,.N,.N]) zv_43.h rfl rfl<|Zsy (Zq4 _ _ _ _ _ _ _ _ _ _ V4.T.newH 1 (Z4 (Zs 1 10 []) (Zs 2 20 (Zs 1 10 [])) (Zs 1 11 (Zs 1 10 []))) W5.wr (by omega) (by omega) (by omega) (by decide) f10.ad.rng f10.ad.opn (by rw[f10.ad.val];exact f10.ls) (Z.sel 5 [1,1,1,1,0] rfl)) fun w hs6 Z f12=>?_
 refine Zsk fun b6 w Z=>?_
 refine Zsh fun w Z=>?_
 have e2:XP V4 V2.T.newH V3.T.newH=2:=(by rw[hb4];omega);have e3:=Zq9 Zbf.1
 refine Sz ?_
 refine Zs7 14 [.I (XP V4 V2.T.newH V3.T.newH),.bool (Zo 1 (Z4 (Zs 1 10 []) (Zs 2 20 (Zs 1 10 [])) (Zs 1 11 (Zs 1 10 [])))).isSome,.I ((Zo 1 (Z4 (Zs 1 10 []) (Zs 2 20 (Zs 1 10 [])) (Zs 1 11 (Zs 1 10 [])))).getD 0)] rfl (by exact⟨fun _=>Z.ld 5 rfl rfl,fun _=>Z.ld 0 rfl rfl,fun _=>Z.ld 0 rfl rfl⟩) (fun j=>?_)
 refine Zsx 85 rfl (Zy (Zy (Zy (dd _) (dd _)) (dv _)) (dd _)) ?_
 refine Sz ?_
 replace Z:=(Z.sel 10 [] rfl)
 rw[e2,e3];exact⟨rfl,Z⟩
theorem wt5{k:Int}(h:k.tmod 4<0):IntKind.i64.wrap (k.tmod 4+4)=k.tmod 4+4:=Yf (by have:=tm_lt (k:=k) (n:=4) (by decide);omega)
theorem brof(k:Int)(hk:-9223372036854775808≤k∧k≤9223372036854775807)(Z:St g (L) w) :
  Zr g L 8 [.I k] w fun rV=>rV (.I (k%4)) []:=by
 refine Sp.enter Tryz.func8 rfl (by kernel_rfl) (by kernel_rfl) ?_
 have _:=hk
 refine Sy ?_
 refine Zso 1 rfl ?_
 refine Sz ?_
 refine Zsr rfl (fun cd1=>?_) (fun cd1=>?_)
 ·refine Sy ?_
  refine Zso 1 rfl<|Zsf 9 (.I ((k.tmod 4)+4)) (congrArg (Value.int .i64) (by exact wt5 cd1)) ?_
  refine Sz ?_
  rw[Zrq (n:=4) (by decide) cd1];exact⟨rfl,Z⟩
 refine Sz ?_
 exact⟨congrArg (fun x:Int=>Value.I x) (Zpj (n:=4) (by decide) cd1),Z⟩
structure T4(V:VM)(z:RSt)(own:Int→Int)(b0:Int)(base F:Zl)(n:Nat)(t:Int)(l:Zl)(c:Int):Prop where
 tk:Tk V z own b0 t l [c]
 pr:Prt base F [c] l
 le:l.length≤n
theorem T4.put{V V2:VM}{A A2:AM}{z z2:RSt}{m n:Nat}{own:Int→Int}{b0 t c k v:Int}{base F l:Zl}(hW:WR V A [] z m)(h:T4 V z own b0 base F n t l c)(hst:Stp V V2 A A2 z z2 m [V.T.val t] (Zs k v l))(hF:Srt F)(hk:k%4=c)(hr:-9223372036854775808≤k∧k≤9223372036854775807):T4 V2 z2 (XR own (V.last+1) c) b0 base (Zs k v F) (n+1) V.T.newH (Zs k v l) c:=by
 refine⟨Tk.new hW hst (by simp) (fun p hp=>by rw[List.mem_singleton.1 hp];exact h.tk.an) (by simp) (QW h.tk.kv hr),Prt.put hF h.pr hk,?_⟩
 have h1:=YS (k:=k) (v:=v) h.pr.1
 have h2:=h.le
 omega
theorem T4.keep{V V2:VM}{A A2:AM}{z z2:RSt}{m n:Nat}{own:Int→Int}{b0 t c c2 k v:Int}{ps:List Int}{base F l lx:Zl}(hW:WR V A [] z m)(h:T4 V z own b0 base F n t l c)(hst:Stp V V2 A A2 z z2 m ps lx)(hF:Srt F)(hk:k%4≠c):T4 V2 z2 (XR own (V.last+1) c2) b0 base (Zs k v F) (n+1) t l c :=
 ⟨h.tk.old hW hst,Prt.keep hF h.pr hk,by have:=h.le;omega⟩
theorem T4.old{V V2:VM}{A A2:AM}{z z2:RSt}{m n:Nat}{own:Int→Int}{b0 t c c2:Int}{ps:List Int}{base F l lx:Zl}(hW:WR V A [] z m)(h:T4 V z own b0 base F n t l c)(hst:Stp V V2 A A2 z z2 m ps lx):T4 V2 z2 (XR own (V.last+1) c2) b0 base F n t l c :=
 ⟨h.tk.old hW hst,h.pr,h.le⟩
structure Lf(V:VM)(z:RSt)(own:Int→Int)(b0:Int)(base F:Zl)(n:Nat)(xs cs:List Int):Prop where
 pm:cs.Perm [0,1,2,3]
 ln:xs.length=4
 tp:∀(k:Nat),k<4→∃l,T4 V z own b0 base F n (gI xs k) l (gI cs k)
theorem Lf.cl{V:VM}{z:RSt}{own:Int→Int}{b0:Int}{base F:Zl}{n:Nat}{xs cs:List Int}(h:Lf V z own b0 base F n xs cs):cs.length=4:=h.pm.length_eq
theorem Lf.mk4{V:VM}{z:RSt}{own:Int→Int}{b0:Int}{base F:Zl}{n:Nat}{t0 t1 t2 t3:Int}{l0 l1 l2 l3:Zl}(h0:T4 V z own b0 base F n t0 l0 0)(h1:T4 V z own b0 base F n t1 l1 1)(h2:T4 V z own b0 base F n t2 l2 2)(h3:T4 V z own b0 base F n t3 l3 3):Lf V z own b0 base F n [t0,t1,t2,t3] [0,1,2,3]:=by
 refine⟨List.Perm.refl _,rfl,fun k hk=>?_⟩
 have:k=0∨k=1∨k=2∨k=3:=by omega
 rcases this with rfl|rfl|rfl|rfl
 ·exact⟨_,h0⟩
 ·exact⟨_,h1⟩
 ·exact⟨_,h2⟩
 exact⟨_,h3⟩
theorem Lf.swap{V:VM}{z:RSt}{own:Int→Int}{b0:Int}{base F:Zl}{n:Nat}{xs cs:List Int}(h:Lf V z own b0 base F n xs cs){i j:Nat}(hi:i<4)(hj:j<4):Lf V z own b0 base F n (sw i j xs) (sw i j cs):=by
 have h1:=h.cl
 have h2:=h.ln
 refine⟨(Zc1 (by omega) (by omega)).trans h.pm,by rw[Ju];exact h2,fun k hk=>?_⟩
 rw[Xs (by omega) (by omega),Xs (by omega) (by omega)]
 split
 ·exact h.tp i hi
 split
 ·exact h.tp j hj
 exact h.tp k hk
theorem Lf.old{V V2:VM}{A A2:AM}{z z2:RSt}{m n:Nat}{own:Int→Int}{b0 c2:Int}{ps xs cs:List Int}{base F lx:Zl}(hW:WR V A [] z m)(h:Lf V z own b0 base F n xs cs)(hst:Stp V V2 A A2 z z2 m ps lx):Lf V2 z2 (XR own (V.last+1) c2) b0 base F n xs cs :=
 ⟨h.pm,h.ln,fun k hk=>by obtain⟨l,hl⟩:=h.tp k hk;exact⟨l,hl.old hW hst⟩⟩
structure Nw(V:VM)(z:RSt)(own:Int→Int)(b0:Int)(base F:Zl)(cs:List Int)(k:Nat)(t:Int)(l:Zl):Prop where
 tk:Tk V z own b0 t l (cs.take k)
 pr:Prt base F (cs.take k) l
 le:l.length≤56*k
theorem Nw.one{V:VM}{z:RSt}{own:Int→Int}{b0:Int}{base F:Zl}{n:Nat}{xs cs:List Int}(hn:n≤36)(h:Lf V z own b0 base F n xs cs):∃l,Nw V z own b0 base F cs 1 (gI xs 0) l:=by
 obtain⟨l,hl⟩:=h.tp 0 (by decide)
 have h1:=h.cl
 have e:cs.take 1=[gI cs 0]:=by
  match cs,h1 with
  |c::_,_=>rfl
 have h2:=hl.le
 exact⟨l,by rw[e];exact hl.tk,by rw[e];exact hl.pr,by omega⟩
theorem Zd7{cs:List Int}{k:Nat}(h:k<cs.length):cs.take (k+1)=cs.take k++[gI cs k]:=by rw[List.take_add_one,Vu h];rfl
theorem Zaz{cs:List Int}{k:Nat}(hp:cs.Perm [0,1,2,3])(h:k<cs.length):gI cs k∉cs.take k:=fun hm=>by
 have h1:(cs.take (k+1)).Nodup:=((hp.nodup_iff.2 (by decide)).sublist (List.take_sublist _ _))
 rw[Zd7 h] at h1
 exact(List.nodup_append.1 h1).2.2 _ hm _ (List.mem_singleton.2 rfl) rfl
theorem Nw.ap{V:VM}{z:RSt}{own:Int→Int}{b0:Int}{base F:Zl}{n k:Nat}{xs cs:List Int}{t:Int}{l l2:Zl}(h:Nw V z own b0 base F cs k t l)(hL:Lf V z own b0 base F n xs cs)(hk:k<4)(h2:T4 V z own b0 base F n (gI xs k) l2 (gI cs k)):Apart base l l2 :=
 Prt.apart h.pr h2.pr (Zaz hL.pm (by have:=hL.cl;omega))
theorem Nw.step{V V2:VM}{A A2:AM}{z z2:RSt}{m n k:Nat}{own:Int→Int}{b0 t:Int}{xs cs ps:List Int}{base F l l2:Zl}(hW:WR V A [] z m)(hb:Srt base∧base.length≤20)(hn:n≤36)(h:Nw V z own b0 base F cs k t l)(hL:Lf V z own b0 base F n xs cs)(hk:k<4)(h2:T4 V z own b0 base F n (gI xs k) l2 (gI cs k))(hst:Stp V V2 A A2 z z2 m (ps.map V.T.val) (Z4 base l2 l))(hp:ps=ZX t (gI xs k)):Nw V2 z2 (XR own (V.last+1) (gI cs k)) b0 base F cs (k+1) V.T.newH (Z4 base l2 l):=by
 have h1:=hL.cl
 have h3:=Zaz hL.pm (k:=k) (by omega)
 have e:=Zd7 (cs:=cs) (k:=k) (by omega)
 refine⟨Tk.new hW hst ?_ (fun p hq=>?_) ?_ (Znr hb.1 h2.pr.1 h.pr.1 h2.tk.kv h.tk.kv),?_,?_⟩
 ·rw[hp];unfold ZX;split<;>simp
 ·obtain⟨y,hy,rfl⟩:=List.mem_map.1 hq
  rw[hp] at hy
  refine HW (q:=fun y=>Anc V.xs own b0 (V.T.val y) (cs.take (k+1))) ?_ ?_ y hy
  ·exact h.tk.an.mono fun c hc=>by rw[e];exact List.mem_append_left _ hc
  exact h2.tk.an.mono fun c hc=>by rw[e];exact List.mem_append_right _ hc
 ·rw[e];exact List.mem_append_right _ (List.mem_singleton.2 rfl)
 ·rw[e];exact Prt.merge hb.1 h.pr h2.pr h3
 have h4:=DS base l2 l
 have h5:=h.le
 have h6:=h2.le
 omega
theorem Nw.end{V:VM}{z:RSt}{own:Int→Int}{b0:Int}{base F:Zl}{n:Nat}{xs cs:List Int}{t:Int}{l:Zl}(hF:Srt F)(h:Nw V z own b0 base F cs 4 t l)(hL:Lf V z own b0 base F n xs cs):l=F :=
 Prt.all hF h.pr fun c h1 h2=>by
  rw[List.take_of_length_le (by rw[hL.cl];exact Nat.le_refl _),hL.pm.mem_iff]
  have:c=0∨c=1∨c=2∨c=3:=by omega
  rcases this with rfl|rfl|rfl|rfl<;>simp
theorem Nw.mgc{V:VM}{A:AM}{z:RSt}{n k nn:Nat}{own:Int→Int}{b0 hb t:Int}{xs cs hs:List Int}{base F l l2:Zl}(hW:Wd V A z 224 nn 60 8000 hs)(hnn:nn≤23)(hbs:Srt base∧base.length≤20)(hB:Bs V z own b0 hb base)(hn:n≤36)(h:Nw V z own b0 base F cs k t l)(hL:Lf V z own b0 base F n xs cs)(hk:k<4)(h2:T4 V z own b0 base F n (gI xs k) l2 (gI cs k)):Mgc V A z 224 t (gI xs k) base l l2∧XP V t (gI xs k)=b0:=by
 have h1:=hL.cl
 have h3:=hW.free
 have h4:=DS base l2 l
 have h5:=h.le
 have h6:=h2.le
 have h7:=Tr.mxH_le (base.length+l.length+l2.length)
 have h8:nn*224≤23*224:=Nat.mul_le_mul_right _ hnn
 refine Tk.mgc hW.wr (hB.tk []) hB.vl h.tk h2.tk (fun c hc hd=>?_) (h.ap hL hk h2) (by omega) (by omega)
 rw[List.mem_singleton.1 hd] at hc
 exact Zaz hL.pm (by omega) hc
theorem Zlf(raw eds:Zl)(ra ea:Option Addr)(rc ec:Nat)(od:Int)(hkr:X_ raw)(hke:X_ eds)(hrl:raw.length≤maxLen)(hel:eds.length≤maxLen)(hod:0≤od∧od≤18446744073709551615)(Z:St g (Sh 32 2 (Zm raw) ra rc::Sh 32 2 (Zm eds) ea ec::L) w) :
  Zr g L 3 [.slice ra (Zm raw).length rc,.slice ea (Zm eds).length ec,.U od] w fun rV=>rV (.bool true) []:=by
 refine Sp.en Tryz.func3 ?_
 have _:=hod
 have _:=hel
 have _:=hrl
 have hrn:=Zu raw;have hen:=Zu eds
 refine Zs4 rfl rfl (cs:=[.I 8000,.I 60,.I 1,.I 1]) zv_27.h rfl rfl<|Zvh (Zol 8000 60 8000 60 rfl rfl (by decide) (by decide) Z) fun w d1 p1 s1 a1 m1 z1 Z f1=>?_
 refine Zse (Zfb Z) fun w Z=>?_
 refine Zsm rfl rfl ?_
 refine Zsz (Zl7 _ _ _ 20 (by decide) (Z.sel 5 [4,0,0,0,0] rfl)) fun w a2 c1 Z=>?_
 have W0:=Wd.new (n:=60) (sl:=8000) (mm:=224) (by decide) (by decide) f1;have r0:=W0.room;have v0:=W0.la;have q0:=W0.free;have hms:=Ce raw 20;have hmr:=Zbs hkr 20
 refine Sz ?_
 refine Zs4 rfl rfl (cs:=[.I 7,.U 0,.U 0,.I 0,.I 0,.I 0,.I 0,.I 0,.bool false,.string ⟨#[]⟩,.N,.slice a2 (Zm (X7 raw 20)).length c1,.N]) zv_43.h rfl rfl ?_
 replace Z:=(Z.at_ 0 rfl).share
 replace Z:=Z.z
 refine Ztp (Zgw _ _ _ _ _ (VM.new 60) (AM.new 8000) _ 224 [] (X7 raw 20) _ _ W0.wr (by omega) (by omega) (by decide) (by decide) hms.1 (by omega) (by omega) (Z.sel 6 [2,2,2,2,0,0] rfl)) fun w V1 A1 z2 hs1 Z ⟨f2,f3⟩=>?_
 refine Zsk fun b1 w Z=>?_
 refine Zsh fun w Z=>?_
 have W1:=W0.step f2 f3;have B1:=Bs.new f2 hmr (fun _=>5);have P1:∀c,T4 V1 z2 (fun _=>5) ((VM.new 60).last+1) (X7 raw 20) (X7 raw 20) 20 (VM.new 60).T.newH (X7 raw 20) c:=fun c=>⟨B1.tk [c],Prt.base hms.1 (fun _=>rfl) [c],hms.2⟩
 refine Sz ?_
 refine Zuv rfl rfl (cs:=[.U (VM.new 60).T.newH,.U (VM.new 60).T.newH,.U (VM.new 60).T.newH,.U (VM.new 60).T.newH]) ar_44 zv_44.h rfl<|Zsk fun b2 w Z=>?_
 refine Ztz (vs:=#[.U (VM.new 60).T.newH,.U (VM.new 60).T.newH,.U (VM.new 60).T.newH,.U (VM.new 60).T.newH]) rfl rfl rfl 0 Z rfl rfl rfl rfl (Eq.trans (b:=4) rfl rfl) ag_44.h (fun w Z=>?_)
 replace Z:=Z.z
 as_aux_lemma =>
 refine Sz ?_
 refine Zst [1,2,7,11] [8,12] (fun kM vs jS=>∃(k:Nat)(V:VM)(A:AM)(z:RSt)(hs:List Int)(own:Int→Int)(F:Zl)(t0 t1 t2 t3:Int)(l0 l1 l2 l3:Zl)(la:Option Addr)(lc:Nat),vs=[.slice la (Zm F).length lc,.I (k:Int)]∧jS [Zq b2 #[.U t0,.U t1,.U t2,.U t3] 44,Zq b1 (qA 0 ((VM.new 60).T.newH) 0 false 0 .N) 39,HZ d1 p1 m1 hs,YO p1 s1 a1 V,Zt a1 A,Xp m1 z,Sh 32 2 (Zm F) la lc]∧(k≤eds.length∧k≤16)∧(Wd V A z 224 (k+1) 60 8000 hs)∧(Bs V z own ((VM.new 60).last+1) (VM.new 60).T.newH (X7 raw 20))∧(T4 V z own ((VM.new 60).last+1) (X7 raw 20) F (20+k) t0 l0 0)∧(T4 V z own ((VM.new 60).last+1) (X7 raw 20) F (20+k) t1 l1 1)∧(T4 V z own ((VM.new 60).last+1) (X7 raw 20) F (20+k) t2 l2 2)∧(T4 V z own ((VM.new 60).last+1) (X7 raw 20) F (20+k) t3 l3 3)∧(Srt F∧F.length≤20+k)∧(eds.length+17-k)=kM) rfl ⟨0,V1,A1,z2,hs1,fun _=>5,X7 raw 20,(VM.new 60).T.newH,(VM.new 60).T.newH,(VM.new 60).T.newH,(VM.new 60).T.newH,X7 raw 20,X7 raw 20,X7 raw 20,X7 raw 20,a2,c1,rfl,Z,(by omega),W1,B1,(P1 0),(P1 1),(P1 2),(P1 3),hms,rfl⟩ ?_
 rintro _ _ w j ⟨k,V,A,z,hs,own,F,t0,t1,t2,t3,l0,l1,l2,l3,la,lc,rfl,Z,hk,hW,hB,h0,h1,h2,h3,hF,rfl⟩
 replace Z:=Z.z
 refine Sz ?_
 refine Ztd 3 rfl (fun j=>?_)
 refine Zsx 64 rfl (Zy (dd _) (dd _)) ?_
 refine Sz ?_
 refine Zsr rfl (fun cd1=>?_) (fun cd1=>?_)
 ·obtain⟨e,he⟩:∃e,eds[k]?=some e:=⟨_,List.getElem?_eq_getElem (by omega)⟩;have her:=hke e (List.mem_of_getElem? he);have r9:=hW.room;have v9:=hW.la;have q9:=hW.free;have g9:=hW.hl;have hk8:(k+1)*224≤17*224:=Nat.mul_le_mul_right _ (by omega)
  refine Sz ?_
  refine Zsq rfl rfl (i:=(k:Int)) (k) el_22 rfl rfl (by omega) (by omega) (Z.rdS 8 rfl (Zd he)).1 ?_
  refine Sz ?_
  refine Zsv 1 [.I e.1] rfl (by exact(Z.rdS 8 rfl (Zd he)).2 0 _ rfl) ?_
  refine Zse (brof e.1 her Z) fun w Z=>?_
  refine Zto (.two [0,1,4,5,9,10,2,6,11,3,7,12,8,13,14] 15 [] (.one [16,17,18] 19 [0,1,2,3,4,5,6,7,8,9,10,11,12,13,14,16,17,18] (.one [] 20 [18] (.seg [21] .nil))) 19 [0,1,2,3,4,5,6,7,8,9,10,11,12,13,14] (.one [] 15 [] (.one [16,17,18] 20 [18] (.seg [21] .nil)))) ?_
  rcases(show e.1%4=0∨e.1%4=1∨e.1%4=2∨e.1%4=3 from by omega) with ha1|ha1|ha1|ha1
  ·refine Zsu 13 (.I 0) (congrArg (Value.int .i64) ha1) ?_
   refine Qz ?_
   refine Ztt rfl rfl (0) ZW rfl rfl (by omega) (by omega) ?_
   refine Zsj rfl rfl (i:=(k:Int)) (k) el_22 rfl rfl (by omega) (by omega) (Z.rdS 8 rfl (Zd he)).1 ?_
   refine Zsj rfl rfl (i:=(k:Int)) (k) el_22 rfl rfl (by omega) (by omega) (Z.rdS 8 rfl (Zd he)).1 ?_
   refine Qz ?_
   refine Zsn 1 [.I e.1] rfl (by exact(Z.rdS 8 rfl (Zd he)).2 0 _ rfl) ?_
   refine Zsn 1 [.I e.2] rfl (by exact(Z.rdS 8 rfl (Zd he)).2 1 _ rfl) ?_
   refine Ztj rfl rfl (cs:=[.I 3,.U t0,.U 0,.I e.1,.I e.2,.I 0,.I 0,.I 0,.bool false,.string ⟨#[]⟩,.N,.N,.N]) zv_43.h rfl rfl<|Zta ?_
   intro m2
   replace Z:=Z.drewN m2;generalize hwm2:World.drewN _ _=w at *;clear hwm2
   refine⟨?_,?_⟩
   ·refine Ztp (XH _ _ _ _ _ _ _ _ 224 _ t0 e.1 e.2 l0 hW.wr (by omega) (by omega) (by omega) (by decide) h0.tk.rng h0.tk.opn h0.tk.ls (by have:=h0.le;omega) (by have:=Tr.mxH_le (l0.length+1);omega) (Z.sel 6 [2,2,2,2,0,0] rfl)) fun w V2 A2 z3 hs2 Z ⟨f4,f5⟩=>?_
    refine Qd fun w Z=>?_
    refine Zsk fun b3 w Z=>?_
    refine⟨by exact⟨Zsl rfl rfl rfl rfl,Zsl rfl rfl rfl rfl,Zts rfl rfl (0) ZW rfl rfl (by omega) (by omega) rfl rfl,Zs6 rfl rfl rfl rfl (Z.ld 5 rfl rfl),Zsl rfl rfl rfl rfl,Zsl rfl rfl rfl rfl,Ztn rfl rfl (i:=(k:Int)) (k) el_22 rfl rfl (by omega) (by omega) (Z.rdS 9 rfl (Zd he)).1 rfl rfl,Zsl rfl rfl rfl rfl,Zs6 rfl rfl rfl rfl ((Z.rdS 9 rfl (Zd he)).2 0 _ rfl),Zsl rfl rfl rfl rfl,Zsl rfl rfl rfl rfl,Ztn rfl rfl (i:=(k:Int)) (k) el_22 rfl rfl (by omega) (by omega) (Z.rdS 9 rfl (Zd he)).1 rfl rfl,Zsl rfl rfl rfl rfl,Zs6 rfl rfl rfl rfl ((Z.rdS 9 rfl (Zd he)).2 1 _ rfl),Zt1 rfl rfl (cs:=[.I 3,.U t0,.U 0,.I e.1,.I e.2,.I 0,.I 0,.I 0,.bool false,.string ⟨#[]⟩,.N,.N,.N]) zv_43.h rfl rfl rfl rfl,Zsl rfl rfl rfl rfl,Zsl rfl rfl rfl rfl,Zsl rfl rfl rfl rfl⟩,?_⟩
    refine Qd fun w Z=>?_
    refine Zsh fun w Z=>?_
    refine Qd fun w Z=>?_
    as_aux_lemma =>
    refine Sz ?_
    refine Zsg [([0,1,3,4,5,2,6,7,9],some (8,[0,1,2,9])),([],some (10,[])),([11],none)] ?_
    refine Qz ?_
    refine Zsj rfl rfl (i:=(k:Int)) (k) el_22 rfl rfl (by omega) (by omega) (Z.rdS 9 rfl (Zd he)).1 ?_
    refine Ztq rfl rfl [.I e.1,.I e.2] ag_32.h rfl (Z.rdS 9 rfl (Zd he)).2<|Ztt rfl rfl (0) ZW rfl rfl (by omega) (by omega) ?_
    refine Qd fun w Z=>?_
    refine Zsz (Yn _ _ _ e.1 e.2 hF.1 (by omega) (Z.sel 8 [7,0,0,0,0,0,0,0] rfl)) fun w a3 c2 Z=>?_
    refine⟨by exact⟨Zsl rfl rfl rfl rfl,Zsl rfl rfl rfl rfl,Zs6 rfl rfl rfl rfl (Z.ld 2 rfl rfl),Zts rfl rfl (0) ZW rfl rfl (by omega) (by omega) rfl rfl⟩,?_⟩
    refine Qd fun w Z=>?_
    refine Zss fun w Z=>?_
    refine Qd fun w Z=>?_
    replace Z:=(Z.at_ 0 rfl).share
    replace Z:=Z.z
    exact⟨_,by omega,rfl,k+1,V2,A2,z3,hs2,XR own (V.last+1) 0,Zs e.1 e.2 F,V.T.newH,t1,t2,t3,Zs e.1 e.2 l0,l1,l2,l3,a3,c2,rfl,(Z.sel 9 [7,7,3,3,3,3,0] rfl),(by omega),(hW.step f4 f5),(hB.old hW.wr f4),(h0.put hW.wr f4 hF.1 ha1 her),(h1.keep hW.wr f4 hF.1 (by omega)),(h2.keep hW.wr f4 hF.1 (by omega)),(h3.keep hW.wr f4 hF.1 (by omega)),(⟨ZD hF.1,by have:=YS (k:=e.1) (v:=e.2) hF.1;omega⟩),rfl⟩
   refine Zsk fun b3 w Z=>?_
   refine⟨by exact⟨Zsl rfl rfl rfl rfl,Zsl rfl rfl rfl rfl,Zts rfl rfl (0) ZW rfl rfl (by omega) (by omega) rfl rfl,Zs6 rfl rfl rfl rfl (Z.ld 1 rfl rfl),Zsl rfl rfl rfl rfl,Zsl rfl rfl rfl rfl,Ztn rfl rfl (i:=(k:Int)) (k) el_22 rfl rfl (by omega) (by omega) (Z.rdS 9 rfl (Zd he)).1 rfl rfl,Zsl rfl rfl rfl rfl,Zs6 rfl rfl rfl rfl ((Z.rdS 9 rfl (Zd he)).2 0 _ rfl),Zsl rfl rfl rfl rfl,Zsl rfl rfl rfl rfl,Ztn rfl rfl (i:=(k:Int)) (k) el_22 rfl rfl (by omega) (by omega) (Z.rdS 9 rfl (Zd he)).1 rfl rfl,Zsl rfl rfl rfl rfl,Zs6 rfl rfl rfl rfl ((Z.rdS 9 rfl (Zd he)).2 1 _ rfl),Zt1 rfl rfl (cs:=[.I 3,.U t0,.U 0,.I e.1,.I e.2,.I 0,.I 0,.I 0,.bool false,.string ⟨#[]⟩,.N,.N,.N]) zv_43.h rfl rfl rfl rfl⟩,?_⟩
   refine Qd fun w Z=>?_
   refine Ztp (XH _ _ _ _ _ _ _ _ 224 _ t0 e.1 e.2 l0 hW.wr (by omega) (by omega) (by omega) (by decide) h0.tk.rng h0.tk.opn h0.tk.ls (by have:=h0.le;omega) (by have:=Tr.mxH_le (l0.length+1);omega) (Z.sel 7 [3,3,3,3,0,0,0] rfl)) fun w V2 A2 z3 hs2 Z ⟨f4,f5⟩=>?_
   refine Qd fun w Z=>?_
   refine Zsh fun w Z=>?_
   refine Qd fun w Z=>?_
   as_aux_lemma =>
   refine Sz ?_
   refine Zsg [([0,1,3,4,5,2,6,7,9],some (8,[0,1,2,9])),([],some (10,[])),([11],none)] ?_
   refine Qz ?_
   refine Zsj rfl rfl (i:=(k:Int)) (k) el_22 rfl rfl (by omega) (by omega) (Z.rdS 9 rfl (Zd he)).1 ?_
   refine Ztq rfl rfl [.I e.1,.I e.2] ag_32.h rfl (Z.rdS 9 rfl (Zd he)).2<|Ztt rfl rfl (0) ZW rfl rfl (by omega) (by omega) ?_
   refine Qd fun w Z=>?_
   refine Zsz (Yn _ _ _ e.1 e.2 hF.1 (by omega) (Z.sel 8 [7,0,0,0,0,0,0,0] rfl)) fun w a3 c2 Z=>?_
   refine⟨by exact⟨Zsl rfl rfl rfl rfl,Zsl rfl rfl rfl rfl,Zs6 rfl rfl rfl rfl (Z.ld 6 rfl rfl),Zts rfl rfl (0) ZW rfl rfl (by omega) (by omega) rfl rfl⟩,?_⟩
   refine Qd fun w Z=>?_
   refine Zss fun w Z=>?_
   refine Qd fun w Z=>?_
   replace Z:=(Z.at_ 0 rfl).share
   replace Z:=Z.z
   exact⟨_,by omega,rfl,k+1,V2,A2,z3,hs2,XR own (V.last+1) 0,Zs e.1 e.2 F,V.T.newH,t1,t2,t3,Zs e.1 e.2 l0,l1,l2,l3,a3,c2,rfl,(Z.sel 9 [7,7,2,2,2,2,0] rfl),(by omega),(hW.step f4 f5),(hB.old hW.wr f4),(h0.put hW.wr f4 hF.1 ha1 her),(h1.keep hW.wr f4 hF.1 (by omega)),(h2.keep hW.wr f4 hF.1 (by omega)),(h3.keep hW.wr f4 hF.1 (by omega)),(⟨ZD hF.1,by have:=YS (k:=e.1) (v:=e.2) hF.1;omega⟩),rfl⟩
  ·refine Zsu 13 (.I 1) (congrArg (Value.int .i64) ha1) ?_
   refine Qz ?_
   refine Ztt rfl rfl (1) ZW rfl rfl (by omega) (by omega) ?_
   refine Zsj rfl rfl (i:=(k:Int)) (k) el_22 rfl rfl (by omega) (by omega) (Z.rdS 8 rfl (Zd he)).1 ?_
   refine Zsj rfl rfl (i:=(k:Int)) (k) el_22 rfl rfl (by omega) (by omega) (Z.rdS 8 rfl (Zd he)).1 ?_
   refine Qz ?_
   refine Zsn 1 [.I e.1] rfl (by exact(Z.rdS 8 rfl (Zd he)).2 0 _ rfl) ?_
   refine Zsn 1 [.I e.2] rfl (by exact(Z.rdS 8 rfl (Zd he)).2 1 _ rfl) ?_
   refine Ztj rfl rfl (cs:=[.I 3,.U t1,.U 0,.I e.1,.I e.2,.I 0,.I 0,.I 0,.bool false,.string ⟨#[]⟩,.N,.N,.N]) zv_43.h rfl rfl<|Zta ?_
   intro m2
   replace Z:=Z.drewN m2;generalize hwm2:World.drewN _ _=w at *;clear hwm2
   refine⟨?_,?_⟩
   ·refine Ztp (XH _ _ _ _ _ _ _ _ 224 _ t1 e.1 e.2 l1 hW.wr (by omega) (by omega) (by omega) (by decide) h1.tk.rng h1.tk.opn h1.tk.ls (by have:=h1.le;omega) (by have:=Tr.mxH_le (l1.length+1);omega) (Z.sel 6 [2,2,2,2,0,0] rfl)) fun w V2 A2 z3 hs2 Z ⟨f4,f5⟩=>?_
    refine Qd fun w Z=>?_
    refine Zsk fun b3 w Z=>?_
    refine⟨by exact⟨Zsl rfl rfl rfl rfl,Zsl rfl rfl rfl rfl,Zts rfl rfl (1) ZW rfl rfl (by omega) (by omega) rfl rfl,Zs6 rfl rfl rfl rfl (Z.ld 5 rfl rfl),Zsl rfl rfl rfl rfl,Zsl rfl rfl rfl rfl,Ztn rfl rfl (i:=(k:Int)) (k) el_22 rfl rfl (by omega) (by omega) (Z.rdS 9 rfl (Zd he)).1 rfl rfl,Zsl rfl rfl rfl rfl,Zs6 rfl rfl rfl rfl ((Z.rdS 9 rfl (Zd he)).2 0 _ rfl),Zsl rfl rfl rfl rfl,Zsl rfl rfl rfl rfl,Ztn rfl rfl (i:=(k:Int)) (k) el_22 rfl rfl (by omega) (by omega) (Z.rdS 9 rfl (Zd he)).1 rfl rfl,Zsl rfl rfl rfl rfl,Zs6 rfl rfl rfl rfl ((Z.rdS 9 rfl (Zd he)).2 1 _ rfl),Zt1 rfl rfl (cs:=[.I 3,.U t1,.U 0,.I e.1,.I e.2,.I 0,.I 0,.I 0,.bool false,.string ⟨#[]⟩,.N,.N,.N]) zv_43.h rfl rfl rfl rfl,Zsl rfl rfl rfl rfl,Zsl rfl rfl rfl rfl,Zsl rfl rfl rfl rfl⟩,?_⟩
    refine Qd fun w Z=>?_
    refine Zsh fun w Z=>?_
    refine Qd fun w Z=>?_
    as_aux_lemma =>
    refine Sz ?_
    refine Zsg [([0,1,3,4,5,2,6,7,9],some (8,[0,1,2,9])),([],some (10,[])),([11],none)] ?_
    refine Qz ?_
    refine Zsj rfl rfl (i:=(k:Int)) (k) el_22 rfl rfl (by omega) (by omega) (Z.rdS 9 rfl (Zd he)).1 ?_
    refine Ztq rfl rfl [.I e.1,.I e.2] ag_32.h rfl (Z.rdS 9 rfl (Zd he)).2<|Ztt rfl rfl (1) ZW rfl rfl (by omega) (by omega) ?_
    refine Qd fun w Z=>?_
    refine Zsz (Yn _ _ _ e.1 e.2 hF.1 (by omega) (Z.sel 8 [7,0,0,0,0,0,0,0] rfl)) fun w a3 c2 Z=>?_
    refine⟨by exact⟨Zsl rfl rfl rfl rfl,Zsl rfl rfl rfl rfl,Zs6 rfl rfl rfl rfl (Z.ld 2 rfl rfl),Zts rfl rfl (1) ZW rfl rfl (by omega) (by omega) rfl rfl⟩,?_⟩
    refine Qd fun w Z=>?_
    refine Zss fun w Z=>?_
    refine Qd fun w Z=>?_
    replace Z:=(Z.at_ 0 rfl).share
    replace Z:=Z.z
    exact⟨_,by omega,rfl,k+1,V2,A2,z3,hs2,XR own (V.last+1) 1,Zs e.1 e.2 F,t0,V.T.newH,t2,t3,l0,Zs e.1 e.2 l1,l2,l3,a3,c2,rfl,(Z.sel 9 [7,7,3,3,3,3,0] rfl),(by omega),(hW.step f4 f5),(hB.old hW.wr f4),(h0.keep hW.wr f4 hF.1 (by omega)),(h1.put hW.wr f4 hF.1 ha1 her),(h2.keep hW.wr f4 hF.1 (by omega)),(h3.keep hW.wr f4 hF.1 (by omega)),(⟨ZD hF.1,by have:=YS (k:=e.1) (v:=e.2) hF.1;omega⟩),rfl⟩
   refine Zsk fun b3 w Z=>?_
   refine⟨by exact⟨Zsl rfl rfl rfl rfl,Zsl rfl rfl rfl rfl,Zts rfl rfl (1) ZW rfl rfl (by omega) (by omega) rfl rfl,Zs6 rfl rfl rfl rfl (Z.ld 1 rfl rfl),Zsl rfl rfl rfl rfl,Zsl rfl rfl rfl rfl,Ztn rfl rfl (i:=(k:Int)) (k) el_22 rfl rfl (by omega) (by omega) (Z.rdS 9 rfl (Zd he)).1 rfl rfl,Zsl rfl rfl rfl rfl,Zs6 rfl rfl rfl rfl ((Z.rdS 9 rfl (Zd he)).2 0 _ rfl),Zsl rfl rfl rfl rfl,Zsl rfl rfl rfl rfl,Ztn rfl rfl (i:=(k:Int)) (k) el_22 rfl rfl (by omega) (by omega) (Z.rdS 9 rfl (Zd he)).1 rfl rfl,Zsl rfl rfl rfl rfl,Zs6 rfl rfl rfl rfl ((Z.rdS 9 rfl (Zd he)).2 1 _ rfl),Zt1 rfl rfl (cs:=[.I 3,.U t1,.U 0,.I e.1,.I e.2,.I 0,.I 0,.I 0,.bool false,.string ⟨#[]⟩,.N,.N,.N]) zv_43.h rfl rfl rfl rfl⟩,?_⟩
   refine Qd fun w Z=>?_
   refine Ztp (XH _ _ _ _ _ _ _ _ 224 _ t1 e.1 e.2 l1 hW.wr (by omega) (by omega) (by omega) (by decide) h1.tk.rng h1.tk.opn h1.tk.ls (by have:=h1.le;omega) (by have:=Tr.mxH_le (l1.length+1);omega) (Z.sel 7 [3,3,3,3,0,0,0] rfl)) fun w V2 A2 z3 hs2 Z ⟨f4,f5⟩=>?_
   refine Qd fun w Z=>?_
   refine Zsh fun w Z=>?_
   refine Qd fun w Z=>?_
   as_aux_lemma =>
   refine Sz ?_
   refine Zsg [([0,1,3,4,5,2,6,7,9],some (8,[0,1,2,9])),([],some (10,[])),([11],none)] ?_
   refine Qz ?_
   refine Zsj rfl rfl (i:=(k:Int)) (k) el_22 rfl rfl (by omega) (by omega) (Z.rdS 9 rfl (Zd he)).1 ?_
   refine Ztq rfl rfl [.I e.1,.I e.2] ag_32.h rfl (Z.rdS 9 rfl (Zd he)).2<|Ztt rfl rfl (1) ZW rfl rfl (by omega) (by omega) ?_
   refine Qd fun w Z=>?_
   refine Zsz (Yn _ _ _ e.1 e.2 hF.1 (by omega) (Z.sel 8 [7,0,0,0,0,0,0,0] rfl)) fun w a3 c2 Z=>?_
   refine⟨by exact⟨Zsl rfl rfl rfl rfl,Zsl rfl rfl rfl rfl,Zs6 rfl rfl rfl rfl (Z.ld 6 rfl rfl),Zts rfl rfl (1) ZW rfl rfl (by omega) (by omega) rfl rfl⟩,?_⟩
   refine Qd fun w Z=>?_
   refine Zss fun w Z=>?_
   refine Qd fun w Z=>?_
   replace Z:=(Z.at_ 0 rfl).share
   replace Z:=Z.z
   exact⟨_,by omega,rfl,k+1,V2,A2,z3,hs2,XR own (V.last+1) 1,Zs e.1 e.2 F,t0,V.T.newH,t2,t3,l0,Zs e.1 e.2 l1,l2,l3,a3,c2,rfl,(Z.sel 9 [7,7,2,2,2,2,0] rfl),(by omega),(hW.step f4 f5),(hB.old hW.wr f4),(h0.keep hW.wr f4 hF.1 (by omega)),(h1.put hW.wr f4 hF.1 ha1 her),(h2.keep hW.wr f4 hF.1 (by omega)),(h3.keep hW.wr f4 hF.1 (by omega)),(⟨ZD hF.1,by have:=YS (k:=e.1) (v:=e.2) hF.1;omega⟩),rfl⟩
  ·refine Zsu 13 (.I 2) (congrArg (Value.int .i64) ha1) ?_
   refine Qz ?_
   refine Ztt rfl rfl (2) ZW rfl rfl (by omega) (by omega) ?_
   refine Zsj rfl rfl (i:=(k:Int)) (k) el_22 rfl rfl (by omega) (by omega) (Z.rdS 8 rfl (Zd he)).1 ?_
   refine Zsj rfl rfl (i:=(k:Int)) (k) el_22 rfl rfl (by omega) (by omega) (Z.rdS 8 rfl (Zd he)).1 ?_
   refine Qz ?_
   refine Zsn 1 [.I e.1] rfl (by exact(Z.rdS 8 rfl (Zd he)).2 0 _ rfl) ?_
   refine Zsn 1 [.I e.2] rfl (by exact(Z.rdS 8 rfl (Zd he)).2 1 _ rfl) ?_
   refine Ztj rfl rfl (cs:=[.I 3,.U t2,.U 0,.I e.1,.I e.2,.I 0,.I 0,.I 0,.bool false,.string ⟨#[]⟩,.N,.N,.N]) zv_43.h rfl rfl<|Zta ?_
   intro m2
   replace Z:=Z.drewN m2;generalize hwm2:World.drewN _ _=w at *;clear hwm2
   refine⟨?_,?_⟩
   ·refine Ztp (XH _ _ _ _ _ _ _ _ 224 _ t2 e.1 e.2 l2 hW.wr (by omega) (by omega) (by omega) (by decide) h2.tk.rng h2.tk.opn h2.tk.ls (by have:=h2.le;omega) (by have:=Tr.mxH_le (l2.length+1);omega) (Z.sel 6 [2,2,2,2,0,0] rfl)) fun w V2 A2 z3 hs2 Z ⟨f4,f5⟩=>?_
    refine Qd fun w Z=>?_
    refine Zsk fun b3 w Z=>?_
    refine⟨by exact⟨Zsl rfl rfl rfl rfl,Zsl rfl rfl rfl rfl,Zts rfl rfl (2) ZW rfl rfl (by omega) (by omega) rfl rfl,Zs6 rfl rfl rfl rfl (Z.ld 5 rfl rfl),Zsl rfl rfl rfl rfl,Zsl rfl rfl rfl rfl,Ztn rfl rfl (i:=(k:Int)) (k) el_22 rfl rfl (by omega) (by omega) (Z.rdS 9 rfl (Zd he)).1 rfl rfl,Zsl rfl rfl rfl rfl,Zs6 rfl rfl rfl rfl ((Z.rdS 9 rfl (Zd he)).2 0 _ rfl),Zsl rfl rfl rfl rfl,Zsl rfl rfl rfl rfl,Ztn rfl rfl (i:=(k:Int)) (k) el_22 rfl rfl (by omega) (by omega) (Z.rdS 9 rfl (Zd he)).1 rfl rfl,Zsl rfl rfl rfl rfl,Zs6 rfl rfl rfl rfl ((Z.rdS 9 rfl (Zd he)).2 1 _ rfl),Zt1 rfl rfl (cs:=[.I 3,.U t2,.U 0,.I e.1,.I e.2,.I 0,.I 0,.I 0,.bool false,.string ⟨#[]⟩,.N,.N,.N]) zv_43.h rfl rfl rfl rfl,Zsl rfl rfl rfl rfl,Zsl rfl rfl rfl rfl,Zsl rfl rfl rfl rfl⟩,?_⟩
    refine Qd fun w Z=>?_
    refine Zsh fun w Z=>?_
    refine Qd fun w Z=>?_
    as_aux_lemma =>
    refine Sz ?_
    refine Zsg [([0,1,3,4,5,2,6,7,9],some (8,[0,1,2,9])),([],some (10,[])),([11],none)] ?_
    refine Qz ?_
    refine Zsj rfl rfl (i:=(k:Int)) (k) el_22 rfl rfl (by omega) (by omega) (Z.rdS 9 rfl (Zd he)).1 ?_
    refine Ztq rfl rfl [.I e.1,.I e.2] ag_32.h rfl (Z.rdS 9 rfl (Zd he)).2<|Ztt rfl rfl (2) ZW rfl rfl (by omega) (by omega) ?_
    refine Qd fun w Z=>?_
    refine Zsz (Yn _ _ _ e.1 e.2 hF.1 (by omega) (Z.sel 8 [7,0,0,0,0,0,0,0] rfl)) fun w a3 c2 Z=>?_
    refine⟨by exact⟨Zsl rfl rfl rfl rfl,Zsl rfl rfl rfl rfl,Zs6 rfl rfl rfl rfl (Z.ld 2 rfl rfl),Zts rfl rfl (2) ZW rfl rfl (by omega) (by omega) rfl rfl⟩,?_⟩
    refine Qd fun w Z=>?_
    refine Zss fun w Z=>?_
    refine Qd fun w Z=>?_
    replace Z:=(Z.at_ 0 rfl).share
    replace Z:=Z.z
    exact⟨_,by omega,rfl,k+1,V2,A2,z3,hs2,XR own (V.last+1) 2,Zs e.1 e.2 F,t0,t1,V.T.newH,t3,l0,l1,Zs e.1 e.2 l2,l3,a3,c2,rfl,(Z.sel 9 [7,7,3,3,3,3,0] rfl),(by omega),(hW.step f4 f5),(hB.old hW.wr f4),(h0.keep hW.wr f4 hF.1 (by omega)),(h1.keep hW.wr f4 hF.1 (by omega)),(h2.put hW.wr f4 hF.1 ha1 her),(h3.keep hW.wr f4 hF.1 (by omega)),(⟨ZD hF.1,by have:=YS (k:=e.1) (v:=e.2) hF.1;omega⟩),rfl⟩
   refine Zsk fun b3 w Z=>?_
   refine⟨by exact⟨Zsl rfl rfl rfl rfl,Zsl rfl rfl rfl rfl,Zts rfl rfl (2) ZW rfl rfl (by omega) (by omega) rfl rfl,Zs6 rfl rfl rfl rfl (Z.ld 1 rfl rfl),Zsl rfl rfl rfl rfl,Zsl rfl rfl rfl rfl,Ztn rfl rfl (i:=(k:Int)) (k) el_22 rfl rfl (by omega) (by omega) (Z.rdS 9 rfl (Zd he)).1 rfl rfl,Zsl rfl rfl rfl rfl,Zs6 rfl rfl rfl rfl ((Z.rdS 9 rfl (Zd he)).2 0 _ rfl),Zsl rfl rfl rfl rfl,Zsl rfl rfl rfl rfl,Ztn rfl rfl (i:=(k:Int)) (k) el_22 rfl rfl (by omega) (by omega) (Z.rdS 9 rfl (Zd he)).1 rfl rfl,Zsl rfl rfl rfl rfl,Zs6 rfl rfl rfl rfl ((Z.rdS 9 rfl (Zd he)).2 1 _ rfl),Zt1 rfl rfl (cs:=[.I 3,.U t2,.U 0,.I e.1,.I e.2,.I 0,.I 0,.I 0,.bool false,.string ⟨#[]⟩,.N,.N,.N]) zv_43.h rfl rfl rfl rfl⟩,?_⟩
   refine Qd fun w Z=>?_
   refine Ztp (XH _ _ _ _ _ _ _ _ 224 _ t2 e.1 e.2 l2 hW.wr (by omega) (by omega) (by omega) (by decide) h2.tk.rng h2.tk.opn h2.tk.ls (by have:=h2.le;omega) (by have:=Tr.mxH_le (l2.length+1);omega) (Z.sel 7 [3,3,3,3,0,0,0] rfl)) fun w V2 A2 z3 hs2 Z ⟨f4,f5⟩=>?_
   refine Qd fun w Z=>?_
   refine Zsh fun w Z=>?_
   refine Qd fun w Z=>?_
   as_aux_lemma =>
   refine Sz ?_
   refine Zsg [([0,1,3,4,5,2,6,7,9],some (8,[0,1,2,9])),([],some (10,[])),([11],none)] ?_
   refine Qz ?_
   refine Zsj rfl rfl (i:=(k:Int)) (k) el_22 rfl rfl (by omega) (by omega) (Z.rdS 9 rfl (Zd he)).1 ?_
   refine Ztq rfl rfl [.I e.1,.I e.2] ag_32.h rfl (Z.rdS 9 rfl (Zd he)).2<|Ztt rfl rfl (2) ZW rfl rfl (by omega) (by omega) ?_
   refine Qd fun w Z=>?_
   refine Zsz (Yn _ _ _ e.1 e.2 hF.1 (by omega) (Z.sel 8 [7,0,0,0,0,0,0,0] rfl)) fun w a3 c2 Z=>?_
   refine⟨by exact⟨Zsl rfl rfl rfl rfl,Zsl rfl rfl rfl rfl,Zs6 rfl rfl rfl rfl (Z.ld 6 rfl rfl),Zts rfl rfl (2) ZW rfl rfl (by omega) (by omega) rfl rfl⟩,?_⟩
   refine Qd fun w Z=>?_
   refine Zss fun w Z=>?_
   refine Qd fun w Z=>?_
   replace Z:=(Z.at_ 0 rfl).share
   replace Z:=Z.z
   exact⟨_,by omega,rfl,k+1,V2,A2,z3,hs2,XR own (V.last+1) 2,Zs e.1 e.2 F,t0,t1,V.T.newH,t3,l0,l1,Zs e.1 e.2 l2,l3,a3,c2,rfl,(Z.sel 9 [7,7,2,2,2,2,0] rfl),(by omega),(hW.step f4 f5),(hB.old hW.wr f4),(h0.keep hW.wr f4 hF.1 (by omega)),(h1.keep hW.wr f4 hF.1 (by omega)),(h2.put hW.wr f4 hF.1 ha1 her),(h3.keep hW.wr f4 hF.1 (by omega)),(⟨ZD hF.1,by have:=YS (k:=e.1) (v:=e.2) hF.1;omega⟩),rfl⟩
  refine Zsu 13 (.I 3) (congrArg (Value.int .i64) ha1) ?_
  refine Qz ?_
  refine Ztt rfl rfl (3) ZW rfl rfl (by omega) (by omega) ?_
  refine Zsj rfl rfl (i:=(k:Int)) (k) el_22 rfl rfl (by omega) (by omega) (Z.rdS 8 rfl (Zd he)).1 ?_
  refine Zsj rfl rfl (i:=(k:Int)) (k) el_22 rfl rfl (by omega) (by omega) (Z.rdS 8 rfl (Zd he)).1 ?_
  refine Qz ?_
  refine Zsn 1 [.I e.1] rfl (by exact(Z.rdS 8 rfl (Zd he)).2 0 _ rfl) ?_
  refine Zsn 1 [.I e.2] rfl (by exact(Z.rdS 8 rfl (Zd he)).2 1 _ rfl) ?_
  refine Ztj rfl rfl (cs:=[.I 3,.U t3,.U 0,.I e.1,.I e.2,.I 0,.I 0,.I 0,.bool false,.string ⟨#[]⟩,.N,.N,.N]) zv_43.h rfl rfl<|Zta ?_
  intro m2
  replace Z:=Z.drewN m2;generalize hwm2:World.drewN _ _=w at *;clear hwm2
  refine⟨?_,?_⟩
  ·refine Ztp (XH _ _ _ _ _ _ _ _ 224 _ t3 e.1 e.2 l3 hW.wr (by omega) (by omega) (by omega) (by decide) h3.tk.rng h3.tk.opn h3.tk.ls (by have:=h3.le;omega) (by have:=Tr.mxH_le (l3.length+1);omega) (Z.sel 6 [2,2,2,2,0,0] rfl)) fun w V2 A2 z3 hs2 Z ⟨f4,f5⟩=>?_
   refine Qd fun w Z=>?_
   refine Zsk fun b3 w Z=>?_
   refine⟨by exact⟨Zsl rfl rfl rfl rfl,Zsl rfl rfl rfl rfl,Zts rfl rfl (3) ZW rfl rfl (by omega) (by omega) rfl rfl,Zs6 rfl rfl rfl rfl (Z.ld 5 rfl rfl),Zsl rfl rfl rfl rfl,Zsl rfl rfl rfl rfl,Ztn rfl rfl (i:=(k:Int)) (k) el_22 rfl rfl (by omega) (by omega) (Z.rdS 9 rfl (Zd he)).1 rfl rfl,Zsl rfl rfl rfl rfl,Zs6 rfl rfl rfl rfl ((Z.rdS 9 rfl (Zd he)).2 0 _ rfl),Zsl rfl rfl rfl rfl,Zsl rfl rfl rfl rfl,Ztn rfl rfl (i:=(k:Int)) (k) el_22 rfl rfl (by omega) (by omega) (Z.rdS 9 rfl (Zd he)).1 rfl rfl,Zsl rfl rfl rfl rfl,Zs6 rfl rfl rfl rfl ((Z.rdS 9 rfl (Zd he)).2 1 _ rfl),Zt1 rfl rfl (cs:=[.I 3,.U t3,.U 0,.I e.1,.I e.2,.I 0,.I 0,.I 0,.bool false,.string ⟨#[]⟩,.N,.N,.N]) zv_43.h rfl rfl rfl rfl,Zsl rfl rfl rfl rfl,Zsl rfl rfl rfl rfl,Zsl rfl rfl rfl rfl⟩,?_⟩
   refine Qd fun w Z=>?_
   refine Zsh fun w Z=>?_
   refine Qd fun w Z=>?_
   as_aux_lemma =>
   refine Sz ?_
   refine Zsg [([0,1,3,4,5,2,6,7,9],some (8,[0,1,2,9])),([],some (10,[])),([11],none)] ?_
   refine Qz ?_
   refine Zsj rfl rfl (i:=(k:Int)) (k) el_22 rfl rfl (by omega) (by omega) (Z.rdS 9 rfl (Zd he)).1 ?_
   refine Ztq rfl rfl [.I e.1,.I e.2] ag_32.h rfl (Z.rdS 9 rfl (Zd he)).2<|Ztt rfl rfl (3) ZW rfl rfl (by omega) (by omega) ?_
   refine Qd fun w Z=>?_
   refine Zsz (Yn _ _ _ e.1 e.2 hF.1 (by omega) (Z.sel 8 [7,0,0,0,0,0,0,0] rfl)) fun w a3 c2 Z=>?_
   refine⟨by exact⟨Zsl rfl rfl rfl rfl,Zsl rfl rfl rfl rfl,Zs6 rfl rfl rfl rfl (Z.ld 2 rfl rfl),Zts rfl rfl (3) ZW rfl rfl (by omega) (by omega) rfl rfl⟩,?_⟩
   refine Qd fun w Z=>?_
   refine Zss fun w Z=>?_
   refine Qd fun w Z=>?_
   replace Z:=(Z.at_ 0 rfl).share
   replace Z:=Z.z
   exact⟨_,by omega,rfl,k+1,V2,A2,z3,hs2,XR own (V.last+1) 3,Zs e.1 e.2 F,t0,t1,t2,V.T.newH,l0,l1,l2,Zs e.1 e.2 l3,a3,c2,rfl,(Z.sel 9 [7,7,3,3,3,3,0] rfl),(by omega),(hW.step f4 f5),(hB.old hW.wr f4),(h0.keep hW.wr f4 hF.1 (by omega)),(h1.keep hW.wr f4 hF.1 (by omega)),(h2.keep hW.wr f4 hF.1 (by omega)),(h3.put hW.wr f4 hF.1 ha1 her),(⟨ZD hF.1,by have:=YS (k:=e.1) (v:=e.2) hF.1;omega⟩),rfl⟩
  refine Zsk fun b3 w Z=>?_
  refine⟨by exact⟨Zsl rfl rfl rfl rfl,Zsl rfl rfl rfl rfl,Zts rfl rfl (3) ZW rfl rfl (by omega) (by omega) rfl rfl,Zs6 rfl rfl rfl rfl (Z.ld 1 rfl rfl),Zsl rfl rfl rfl rfl,Zsl rfl rfl rfl rfl,Ztn rfl rfl (i:=(k:Int)) (k) el_22 rfl rfl (by omega) (by omega) (Z.rdS 9 rfl (Zd he)).1 rfl rfl,Zsl rfl rfl rfl rfl,Zs6 rfl rfl rfl rfl ((Z.rdS 9 rfl (Zd he)).2 0 _ rfl),Zsl rfl rfl rfl rfl,Zsl rfl rfl rfl rfl,Ztn rfl rfl (i:=(k:Int)) (k) el_22 rfl rfl (by omega) (by omega) (Z.rdS 9 rfl (Zd he)).1 rfl rfl,Zsl rfl rfl rfl rfl,Zs6 rfl rfl rfl rfl ((Z.rdS 9 rfl (Zd he)).2 1 _ rfl),Zt1 rfl rfl (cs:=[.I 3,.U t3,.U 0,.I e.1,.I e.2,.I 0,.I 0,.I 0,.bool false,.string ⟨#[]⟩,.N,.N,.N]) zv_43.h rfl rfl rfl rfl⟩,?_⟩
  refine Qd fun w Z=>?_
  refine Ztp (XH _ _ _ _ _ _ _ _ 224 _ t3 e.1 e.2 l3 hW.wr (by omega) (by omega) (by omega) (by decide) h3.tk.rng h3.tk.opn h3.tk.ls (by have:=h3.le;omega) (by have:=Tr.mxH_le (l3.length+1);omega) (Z.sel 7 [3,3,3,3,0,0,0] rfl)) fun w V2 A2 z3 hs2 Z ⟨f4,f5⟩=>?_
  refine Qd fun w Z=>?_
  refine Zsh fun w Z=>?_
  refine Qd fun w Z=>?_
  as_aux_lemma =>
  refine Sz ?_
  refine Zsg [([0,1,3,4,5,2,6,7,9],some (8,[0,1,2,9])),([],some (10,[])),([11],none)] ?_
  refine Qz ?_
  refine Zsj rfl rfl (i:=(k:Int)) (k) el_22 rfl rfl (by omega) (by omega) (Z.rdS 9 rfl (Zd he)).1 ?_
  refine Ztq rfl rfl [.I e.1,.I e.2] ag_32.h rfl (Z.rdS 9 rfl (Zd he)).2<|Ztt rfl rfl (3) ZW rfl rfl (by omega) (by omega) ?_
  refine Qd fun w Z=>?_
  refine Zsz (Yn _ _ _ e.1 e.2 hF.1 (by omega) (Z.sel 8 [7,0,0,0,0,0,0,0] rfl)) fun w a3 c2 Z=>?_
  refine⟨by exact⟨Zsl rfl rfl rfl rfl,Zsl rfl rfl rfl rfl,Zs6 rfl rfl rfl rfl (Z.ld 6 rfl rfl),Zts rfl rfl (3) ZW rfl rfl (by omega) (by omega) rfl rfl⟩,?_⟩
  refine Qd fun w Z=>?_
  refine Zss fun w Z=>?_
  refine Qd fun w Z=>?_
  replace Z:=(Z.at_ 0 rfl).share
  replace Z:=Z.z
  exact⟨_,by omega,rfl,k+1,V2,A2,z3,hs2,XR own (V.last+1) 3,Zs e.1 e.2 F,t0,t1,t2,V.T.newH,l0,l1,l2,Zs e.1 e.2 l3,a3,c2,rfl,(Z.sel 9 [7,7,2,2,2,2,0] rfl),(by omega),(hW.step f4 f5),(hB.old hW.wr f4),(h0.keep hW.wr f4 hF.1 (by omega)),(h1.keep hW.wr f4 hF.1 (by omega)),(h2.keep hW.wr f4 hF.1 (by omega)),(h3.put hW.wr f4 hF.1 ha1 her),(⟨ZD hF.1,by have:=YS (k:=e.1) (v:=e.2) hF.1;omega⟩),rfl⟩
 refine Sz ?_
 refine Zst [2,7,8,11] [16] (fun kM vs jS=>∃(r nn:Nat)(W:VM)(B:AM)(y:RSt)(gs:List Int)(ow:Int→Int),vs=[.I (r:Int)]∧jS [Zq b2 #[.U t0,.U t1,.U t2,.U t3] 44,Zq b1 (qA 0 ((VM.new 60).T.newH) 0 false 0 .N) 39,HZ d1 p1 m1 gs,YO p1 s1 a1 W,Zt a1 B,Xp m1 y]∧(r≤2)∧(Wd W B y 224 nn 60 8000 gs)∧(nn≤k+1+3*r)∧(Bs W y ow ((VM.new 60).last+1) (VM.new 60).T.newH (X7 raw 20))∧(Lf W y ow ((VM.new 60).last+1) (X7 raw 20) F (20+k) [t0,t1,t2,t3] [0,1,2,3])∧(2-r)=kM) rfl ⟨0,k+1,V,A,z,hs,own,rfl,Z,(Nat.zero_le _),hW,(by omega),hB,(Lf.mk4 h0 h1 h2 h3),rfl⟩ ?_
 rintro _ _ w j ⟨r,nn,W,B,y,gs,ow,rfl,Z,hr,hW2,hnn,hB2,hL2,rfl⟩
 replace Z:=Z.z
 refine Sz ?_
 refine Zsi (fun cd2=>?_) fun cd2=>?_
 ·refine Zty rfl rfl (0) ZW rfl rfl (by omega) (by omega) ?_
  refine Sz ?_
  refine Zty rfl rfl (1) ZW rfl rfl (by omega) (by omega) ?_
  refine Sz ?_
  refine Zty rfl rfl (2) ZW rfl rfl (by omega) (by omega) ?_
  refine Sz ?_
  refine Zty rfl rfl (3) ZW rfl rfl (by omega) (by omega) ?_
  refine Sz ?_
  refine Zs1 rfl rfl (Zv [t0,t1,t2,t3]) el_47 Z (by exact⟨rfl,rfl,rfl,rfl,rfl,rfl,rfl,rfl⟩) (YG _) rfl (Nat.le_of_ble_eq_true rfl) (fun b3 w Z=>?_)
  have hl5:[t0,t1,t2,t3].length=4:=rfl;have hl4:(Zv [t0,t1,t2,t3]).length=4:=rfl
  refine Sz ?_
  refine Zsq rfl rfl (i:=0) (0) el_47 rfl rfl (by omega) (X1 (Zw (show[t0,t1,t2,t3][0]?=some t0 from rfl))) (Z.rdO 0 rfl (Zw (show[t0,t1,t2,t3][0]?=some t0 from rfl))).1 ?_
  refine Zsv 1 [.U t0] rfl (by exact(Z.rdO 0 rfl (Zw (show[t0,t1,t2,t3][0]?=some t0 from rfl))).2 0 _ rfl) ?_
  refine Sx ?_
  refine Zs9<|Zsw<|Zsw<|WC.region ?_
  refine Sx ?_
  refine Zs9<|Ztc [2,7,8,11,16,17,109,110,113,114,115,116,117,118,119,120,121,122,123,124,125,126] [18] [_] Z (fun vs jS=>∃(xs cs:List Int)(nu:Int),vs=[.U nu]∧jS [Zp 23 1 (Zv xs) (some ⟨b3,0,none⟩) (Zv [t0,t1,t2,t3]).length]∧(nu=gI xs 0)∧(Lf W y ow ((VM.new 60).last+1) (X7 raw 20) F (20+k) xs cs)) rfl ?_ ?_
  ·refine Zsr rfl (fun cd3=>?_) (fun cd3=>?_)
   ·refine Sy ?_
    obtain⟨I,hI⟩:∃I:Nat,(I:Int)=od%4:=⟨(od%4).toNat,by omega⟩;obtain⟨J,hJ⟩:∃J:Nat,(J:Int)=1+od/4%3:=⟨(1+od/4%3).toNat,by omega⟩;have hI4:I<4:=(by omega);have hJ4:J<4:=(by omega);have hJ1:1≤J:=(by omega);have hl6:(sw 0 I [t0,t1,t2,t3]).length=4:=Ju _ _ _
    refine Zso 1 rfl<|Zsf 128 (.U (od%4)) (congrArg (Value.int .u64) (Int.tmod_eq_emod_of_nonneg (a:=od) (by omega))) ?_
    as_aux_lemma =>
    refine Sz ?_
    refine Zsq rfl rfl (i:=od%4) (I) el_47 rfl rfl (by omega) (by omega) (Z.rdO 0 rfl (Z3 (k:=I) (by show I<4;omega))).1 ?_
    refine Zsv 1 [.U (gI [t0,t1,t2,t3] I)] rfl (by exact(Z.rdO 0 rfl (Z3 (k:=I) (by show I<4;omega))).2 0 _ rfl) ?_
    refine Sz ?_
    refine Zsg [([0,1,2,3,4,7,5,8,6,9,10],some (11,[1,2])),([12],some (13,[]))] ?_
    refine Qz ?_
    refine Zsj rfl rfl (i:=od%4) (I) el_47 rfl rfl (by omega) (by omega) (Z.rdO 0 rfl (Z3 (k:=I) (by omega))).1 ?_
    refine Zsj rfl rfl (i:=0) (0) el_47 rfl rfl (by omega) (by omega) (Z.rdO 0 rfl (Z3 (k:=0) (by omega))).1 ?_
    refine Zsn 1 [.U (gI [t0,t1,t2,t3] I)] rfl (by exact(Z.rdO 0 rfl (Z3 (k:=I) (by omega))).2 0 _ rfl) ?_
    refine Zsn 1 [.U (gI [t0,t1,t2,t3] 0)] rfl (by exact(Z.rdO 0 rfl (Z3 (k:=0) (by omega))).2 0 _ rfl) ?_
    refine Zsj rfl rfl (i:=0) (0) el_47 rfl rfl (by omega) (by omega) (Z.rdO 0 rfl (Z3 (k:=0) (by omega))).1 ?_
    refine Qd fun w Z=>?_
    refine Zs5 rfl rfl rfl 0 (0) 0 [.U (gI [t0,t1,t2,t3] 0)] (Zv (List.set [t0,t1,t2,t3] (0) (gI [t0,t1,t2,t3] (I)))) Z rfl (Z3 (k:=0) (by omega)) rfl rfl rfl rfl rfl (QZ _ _ _) (fun w Z=>?_)
    replace Z:=Z.z
    refine Sz ?_
    refine Zsj rfl rfl (i:=od%4) (I) el_47 rfl rfl (by omega) (by omega) (Z.rdO 0 rfl (Z3 (k:=I) (by rw[List.length_set];omega))).1 ?_
    refine Qd fun w Z=>?_
    refine Zs5 rfl rfl rfl 0 (I) 0 [.U (gI (List.set [t0,t1,t2,t3] 0 (gI [t0,t1,t2,t3] I)) I)] (Zv (sw (0) (I) [t0,t1,t2,t3])) Z rfl (Z3 (k:=I) (by rw[List.length_set];omega)) rfl rfl rfl rfl rfl (QZ _ _ _) (fun w Z=>?_)
    replace Z:=Z.z
    refine Sz ?_
    refine Qe fun w Z=>?_
    refine Sy ?_
    refine Zso 1 rfl<|Zsf 146 (.U (od/4)) (congrArg (Value.int .u64) (Zdw (p:=od) (q:=4) (by omega))) ?_
    refine Zso 1 rfl<|Zsf 147 (.U ((od/4)%3)) (congrArg (Value.int .u64) (Int.tmod_eq_emod_of_nonneg (a:=od/4) (by omega))) ?_
    refine Sz ?_
    refine Zsg [([0,1,2,3,4,7,5,8,6,9,10],some (11,[1,2])),([12],some (13,[]))] ?_
    refine Qz ?_
    refine Zsj rfl rfl (i:=1+((od/4)%3)) (J) el_47 rfl rfl (by omega) (by omega) (Z.rdO 0 rfl (Z3 (k:=J) (by omega))).1 ?_
    refine Zsj rfl rfl (i:=1) (1) el_47 rfl rfl (by omega) (by omega) (Z.rdO 0 rfl (Z3 (k:=1) (by omega))).1 ?_
    refine Zsn 1 [.U (gI (sw 0 I [t0,t1,t2,t3]) J)] rfl (by exact(Z.rdO 0 rfl (Z3 (k:=J) (by omega))).2 0 _ rfl) ?_
    refine Zsn 1 [.U (gI (sw 0 I [t0,t1,t2,t3]) 1)] rfl (by exact(Z.rdO 0 rfl (Z3 (k:=1) (by omega))).2 0 _ rfl) ?_
    refine Zsj rfl rfl (i:=1) (1) el_47 rfl rfl (by omega) (by omega) (Z.rdO 0 rfl (Z3 (k:=1) (by omega))).1 ?_
    refine Qd fun w Z=>?_
    refine Zs5 rfl rfl rfl 0 (1) 0 [.U (gI (sw 0 I [t0,t1,t2,t3]) 1)] (Zv (List.set (sw 0 I [t0,t1,t2,t3]) (1) (gI (sw 0 I [t0,t1,t2,t3]) (J)))) Z rfl (Z3 (k:=1) (by omega)) rfl rfl rfl rfl rfl (QZ _ _ _) (fun w Z=>?_)
    replace Z:=Z.z
    refine Sz ?_
    refine Zsj rfl rfl (i:=1+((od/4)%3)) (J) el_47 rfl rfl (by omega) (by omega) (Z.rdO 0 rfl (Z3 (k:=J) (by rw[List.length_set];omega))).1 ?_
    refine Qd fun w Z=>?_
    refine Zs5 rfl rfl rfl 0 (J) 0 [.U (gI (List.set (sw 0 I [t0,t1,t2,t3]) 1 (gI (sw 0 I [t0,t1,t2,t3]) J)) J)] (Zv (sw (1) (J) (sw 0 I [t0,t1,t2,t3]))) Z rfl (Z3 (k:=J) (by rw[List.length_set];omega)) rfl rfl rfl rfl rfl (QZ _ _ _) (fun w Z=>?_)
    replace Z:=Z.z
    refine Sz ?_
    refine Qd fun w Z=>?_
    exact⟨rfl,sw 1 J (sw 0 I [t0,t1,t2,t3]),sw 1 J (sw 0 I [0,1,2,3]),gI [t0,t1,t2,t3] I,rfl,Z,(Zrx rfl hI4 hJ4 hJ1).symm,(hL2.swap (by decide) hI4).swap (by decide) hJ4⟩
   refine Sz ?_
   exact⟨rfl,[t0,t1,t2,t3],[0,1,2,3],t0,rfl,Z,rfl,hL2⟩
  rintro _ w j ⟨xs,cs,nu,rfl,Z,hnu,hLx⟩
  replace Z:=Z.z
  as_aux_lemma =>
  have hx4:=hLx.ln;obtain⟨lx,hx⟩:=Nw.one (by omega) hLx;have hxu:=YE xs
  refine Sz ?_
  refine Zst [2,7,8,11,16,17,109,110,113,114,115,116,117,118,119,120,121,122,123,124,125,126] [18,21] (fun kM vs jS=>∃(q n3:Nat)(W3:VM)(B3:AM)(y3:RSt)(g3:List Int)(o3:Int→Int)(nu3:Int)(lw:Zl),vs=[.U nu3,.I (q:Int)]∧jS [Zp 23 1 (Zv xs) (some ⟨b3,0,none⟩) (Zv [t0,t1,t2,t3]).length,Zq b2 #[.U t0,.U t1,.U t2,.U t3] 44,Zq b1 (qA 0 ((VM.new 60).T.newH) 0 false 0 .N) 39,HZ d1 p1 m1 g3,YO p1 s1 a1 W3,Zt a1 B3,Xp m1 y3]∧(1≤q∧q≤4)∧(Wd W3 B3 y3 224 n3 60 8000 g3)∧(n3+1≤k+1+3*r+q)∧(Bs W3 y3 o3 ((VM.new 60).last+1) (VM.new 60).T.newH (X7 raw 20))∧(Lf W3 y3 o3 ((VM.new 60).last+1) (X7 raw 20) F (20+k) xs cs)∧(Lf W3 y3 o3 ((VM.new 60).last+1) (X7 raw 20) F (20+k) [t0,t1,t2,t3] [0,1,2,3])∧(Nw W3 y3 o3 ((VM.new 60).last+1) (X7 raw 20) F cs q nu3 lw)∧(4-q)=kM) rfl ⟨1,nn,W,B,y,gs,ow,nu,lx,rfl,Z,(by decide),hW2,(by omega),hB2,hLx,hL2,(by rw[hnu];exact hx),rfl⟩ ?_
  rintro _ _ w j ⟨q,n3,W3,B3,y3,g3,o3,nu3,lw,rfl,Z,hq,hW3,hn3,hB3,hL3,hL4,hN,rfl⟩
  replace Z:=Z.z
  refine Sz ?_
  refine Zsr rfl (fun cd3=>?_) (fun cd3=>?_)
  ·obtain⟨l8,h8⟩:=hL3.tp q (by omega);obtain⟨M9,hb9⟩:=Nw.mgc hW3 (by omega) hms hB3 (by omega) hN hL3 (by omega) h8;have r7:=hW3.room;have v7:=hW3.la;have g7:=hW3.hl
   refine Sz ?_
   refine Zsq rfl rfl (i:=(q:Int)) (q) el_47 rfl rfl (by omega) (by omega) (Z.rdO 0 rfl (Zw (Vu (k:=q) (by omega)))).1 ?_
   refine Zsv 1 [.U (gI xs q)] rfl (by exact(Z.rdO 0 rfl (Zw (Vu (k:=q) (by omega)))).2 0 _ rfl) ?_
   refine Zs4 rfl rfl (cs:=[.I 10,.U nu3,.U (gI xs q),.I 0,.I 0,.I 0,.I 0,.I 3,.bool false,.string ⟨#[]⟩,.N,.N,.N]) zv_43.h rfl rfl<|Ztp (C5 _ _ _ _ _ _ _ _ _ _ nu3 (gI xs q) _ _ _ hW3.wr (by omega) (by omega) (by omega) (by decide) M9 (Z.sel 7 [3,3,3,3,0,0,0] rfl)) fun w V2 A2 z3 hs2 Z ⟨f4,f5⟩=>?_
   refine Zsk fun b4 w Z=>?_
   refine Zsh fun w Z=>?_
   refine Zs7 5 [.N] rfl (by exact(fun _=>Z.ld 0 rfl rfl)) (fun j=>?_)
   refine Zsx 188 rfl (X2 (dd _) (dd _)) ?_
   refine Sz ?_
   exact⟨_,by omega,rfl,q+1,n3+1,V2,A2,z3,hs2,XR o3 (W3.last+1) (gI cs q),W3.T.newH,Z4 (X7 raw 20) l8 lw,rfl,(Z.sel 8 [5,5,5,1,1,1,1] rfl),(by omega),(hW3.step f4 f5),(by omega),(hB3.old hW3.wr f4),(hL3.old hW3.wr f4),(hL4.old hW3.wr f4),(hN.step hW3.wr hms (by omega) hL3 (by omega) h8 f4 rfl),rfl⟩
  have hq4:q=4:=(by omega);subst hq4;have hlF:=hN.end hF.1 hL3
  refine Sz ?_
  refine Zsz (Zke _ _ _ _ _ _ _ _ _ _ nu3 lw hW3.wr (by decide) hN.tk.rng hN.tk.opn hN.tk.ls hN.tk.kv (Z.sel 6 [3,3,3,0,0,0] rfl)) fun w u1 d2 Z=>?_
  replace Z:=(Z.at_ 0 rfl).share
  replace Z:=Z.z
  refine Zsy (Zgm _ _ _ _ _ _ (by have:=hN.le;omega) (Z.sel 9 [0,7,0,0,0,0,0,0,0] rfl)) fun w ok1 Z f4=>?_
  refine Zsm rfl (by rw[f4.2 hlF];decide) ?_
  exact⟨_,by omega,rfl,r+1,n3,W3,B3,y3,g3,o3,rfl,(Z.sel 9 [6,6,2,2,2,3,1] rfl),(by omega),hW3,(by omega),hB3,hL4,rfl⟩
 refine Zse (Zi3 _ _ _ _ _ _ _ _ _ _ hW2.wr (by have:=Uq hW2.wr.vi;have:=hW2.xl;omega) (by have:=hW2.la;omega) (Z.sel 6 [2,2,2,2,0,0] rfl)) fun w Z=>?_
 replace Z:=(Z.sel 9 [] rfl)
 exact⟨rfl,Z⟩
end Go.Proofs.YtpebgkkmgffmaaaGreatDoor
namespace Go.Proofs.YtpebgkkmgffmaaaGreatDoor
open Go Go.V Go.RowKit
set_option maxRecDepth 100000
section
variable{H:Type}{enc:TypeId×Value→H}{w:World}{cs:List Value}
theorem one1{x:List Value}{v:Value}(h:x=[v])(h1:v.oneCell'=true):x.length=1∧∀u∈x,u.oneCell'=true:=by
 subst h;exact⟨rfl,fun u hu=>by simp at hu;subst hu;exact h1⟩
end
end Go.Proofs.YtpebgkkmgffmaaaGreatDoor
namespace Go.Proofs.YtpebgkkmgffmaaaGreatDoor
open Go Go.V Go.RowKit
set_option maxRecDepth 100000
theorem Zqo{H:Type}{enc:TypeId×Value→H}{w:World}{cs:List Value}(h:Rdc enc Tryz.prog w 32 cs):∃c0 c1:Value,cs=[c0,c1]∧Rdc enc Tryz.prog w 2 [c0]∧Rdc enc Tryz.prog w 2 [c1]:=by
 obtain⟨hl,hf⟩:=Rdc.struct h Tryz.underlying32
 rw[show Tryz.prog.cellsOf 32=2 by kernel_rfl] at hl
 match cs,hl with
 |[c0,c1],_ =>
  have f0:Rdc enc Tryz.prog w 2 (([c0,c1].drop 0).take (Tryz.prog.cellsOf 2)):=hf 0 _ rfl
  rw[show Tryz.prog.cellsOf 2=1 by kernel_rfl] at f0
  have f1:Rdc enc Tryz.prog w 2 (([c0,c1].drop 1).take (Tryz.prog.cellsOf 2)):=hf 1 _ rfl
  rw[show Tryz.prog.cellsOf 2=1 by kernel_rfl] at f1
  exact⟨c0,c1,rfl,f0,f1⟩
section
variable{H:Type}{enc:TypeId×Value→H}{w:World}{cs:List Value}
theorem Zif(h:Rdc enc Tryz.prog w 2 cs):∃n,cs=[.int .i64 n]∧Ir n:=by
 obtain⟨n,h1,h2,h3⟩:=h.int (k:=.i64) (by kernel_rfl)
 exact⟨n,h1,h2,h3⟩
theorem Zrw(h:Rdc enc Tryz.prog w 23 cs):∃n,cs=[.int .u64 n]∧0≤n∧n≤18446744073709551615:=by
 obtain⟨n,h1,h2,h3⟩:=h.int (k:=.u64) (by kernel_rfl)
 exact⟨n,h1,h2,h3⟩
theorem Zhw(h:Rdc enc Tryz.prog w 32 cs):∃x:Int×Int,cs=[.int .i64 x.1,.int .i64 x.2]∧Ir x.1∧Ir x.2:=by
 obtain⟨c0,c1,rfl,h0,h1⟩:=Zqo h
 obtain⟨a,e0,w0⟩:=Zif h0
 obtain⟨b,e1,w1⟩:=Zif h1
 cases e0;cases e1
 exact⟨(a,b),rfl,w0,w1⟩
theorem Zb3(h:Rdc enc Tryz.prog w 22 cs):∃(l:List (Int×Int))(a:Option Addr)(c:Nat),cs=[.slice a (Zm l).length c]∧(∀x∈l,Ir x.1∧Ir x.2)∧l.length≤maxLen∧∀e,Hw w (Sh e 2 (Zm l) a c):=by
 obtain⟨a,c,ls,h1,h2,h3,h4⟩:=Rdc.slice (e:=32) (size:=2) h (by kernel_rfl) (by kernel_rfl) (by decide) (fun x hx=>by
  obtain⟨n,hn,_⟩:=Zhw hx
  subst hn;exact⟨rfl,fun u hu=>by simp at hu;rcases hu with rfl|rfl<;>rfl⟩)
 obtain⟨m,rfl,hm⟩:=Zg7 (fun x:Int×Int=>[Value.int .i64 x.1,Value.int .i64 x.2]) (fun x=>Ir x.1∧Ir x.2) ls (fun x hx=>by
  obtain⟨n,hn,hb⟩:=Zhw (h3 x hx)
  exact⟨n,hn,hb⟩)
 exact⟨m,a,c,h1,hm,by simpa using h2,h4⟩
end
end Go.Proofs.YtpebgkkmgffmaaaGreatDoor
