/-
  What the proof of Jtb stands on, part 8.
  Conditions: none.
-/
import Derived.Test.YtpebgkkmgffmaaaGreatDoorZtaD
set_option maxRecDepth 8192
namespace Go.V
open Go
def Sim{α:Type}(r q:α×Nat×Int):Prop:=q.2.2=r.2.2∧(r.2.2=0→q=r)
section
variable{bs:List Int}{p:Nat}{e:Int}
theorem Sim.refl{α:Type}(r:α×Nat×Int):Sim r r:=⟨rfl,fun _=>rfl⟩
end
end Go.V
namespace Go.V
open Go
section
variable{bs:List Int}{p:Nat}{e:Int}
theorem Sim.of{α:Type}{r q:α×Nat×Int}(h:q.2.2=r.2.2)(h2:r.2.2=0→q=r):Sim r q:=⟨h,h2⟩
theorem Sim.map{α β:Type}{r q:α×Nat×Int}(h:Sim r q)(f:α→β):Sim (f r.1,r.2) (f q.1,q.2):=⟨h.1,fun hh=>by rw[h.2 hh]⟩
end
end Go.V
namespace Go.V
open Go
section
variable{bs:List Int}{p:Nat}{e:Int}
def Ch8(l:List (Int×Int×Int×Int)):Prop:=∀c∈l,0≤c.1∧c.1≤255
structure OpR(x:OpM):Prop where
 t:OpT x
 l:OpL x
 k:Ch8 x.chs
end
theorem B8.app{l m:List Int}(h:B8 l)(k:B8 m):B8 (l++m):=fun x hx=>by
 rcases List.mem_append.1 hx with hx|hx
 ·exact h x hx
 exact k x hx
theorem B8.take{l:List Int}{k:Nat}(h:B8 l):B8 (l.take k):=fun x hx=>h x (List.mem_of_mem_take hx)
theorem B8.drop{l:List Int}{k:Nat}(h:B8 l):B8 (l.drop k):=fun x hx=>h x (List.mem_of_mem_drop hx)
theorem B8.one{c:Int}(h:0≤c∧c≤255):B8 [c]:=fun x hx=>by simp at hx;subst hx;exact h
theorem B8.nil:B8 []:=fun _ h=>by cases h
theorem B8.cons{c:Int}{l:List Int}(h:0≤c∧c≤255)(k:B8 l):B8 (c::l):=fun x hx=>by
 rcases List.mem_cons.1 hx with rfl|hx
 ·exact h
 exact k x hx
end Go.V
namespace Go.V
open Go
theorem AnM.ext'{x y:AnM}(h:x.err=y.err∧x.handle=y.handle∧x.value=y.value∧x.found=y.found∧x.n=y.n∧x.ekey=y.ekey∧x.eval=y.eval∧x.count=y.count∧x.sum=y.sum∧x.mn=y.mn∧x.mx=y.mx∧x.ents=y.ents∧x.chs=y.chs∧x.keys=y.keys∧x.bytes=y.bytes):x=y:=by
 cases x;cases y;simp only[AnM.mk.injEq];exact h
structure AnT(x:AnM):Prop where
 err:QG x.err
 handle:0≤x.handle∧x.handle≤18446744073709551615
 value:QG x.value
 n:QG x.n
 ekey:QG x.ekey
 eval:QG x.eval
 count:QG x.count
 sum:QG x.sum
 mn:QG x.mn
 mx:QG x.mx
 ents:Zqg x.ents
 chs:Zq8 x.chs
 keys:I64s x.keys
 by_:B8 x.bytes
def Zd6(x:AnM):Prop:=60<x.ents.length∨60<x.chs.length∨60<x.keys.length∨300<x.bytes.length
instance(x:AnM):Decidable (Zd6 x):=by unfold Zd6;infer_instance
theorem AnT.w{x:AnM}(h:AnT x)(hb:¬Zd6 x):AnW x:=by
 unfold Zd6 at hb
 exact⟨h.err,h.handle,h.value,h.n,h.ekey,h.eval,h.count,h.sum,h.mn,h.mx,h.ents,h.chs,h.keys,by omega,by omega,by omega,by omega⟩
section
variable{bs:List Int}
structure AnR(bs:List Int)(x:AnM):Prop where
 ents:x.ents.length≤bs.length
 chs:x.chs.length≤bs.length
 keys:x.keys.length≤bs.length
 by_:B8 x.bytes
end
end Go.V
namespace Go.Proofs.YtpebgkkmgffmaaaGreatDoor
open Go Go.V
set_option maxHeartbeats 8000000
set_option maxRecDepth 8192
variable{g w:World}{L:List HP}
theorem Cm(x y:AnM)(ab ae ac ak ab2 ae2 ac2 ak2:Option Addr)(cb ce cc ck cb2 ce2 cc2 ck2:Nat)(h1:x.ents.length≤1000000000)(h2:x.chs.length≤1000000000)(h3:x.keys.length≤1000000000)(hbx:B8 x.bytes)(hby:B8 y.bytes)(Z:St g (Sh 5 1 (Jk x.bytes) ab cb::Sh 32 2 (Zm x.ents) ae ce::Sh 181 4 (Yo x.chs) ac cc::Sh 2 1 (Ze x.keys) ak ck::Sh 5 1 (Jk y.bytes) ab2 cb2::Sh 32 2 (Zm y.ents) ae2 ce2::Sh 181 4 (Yo y.chs) ac2 cc2::Sh 2 1 (Ze y.keys) ak2 ck2::L) w) :
  Cp g L 19 [.agg #[.I x.err,.U x.handle,.I x.value,.bool x.found,.I x.n,.I x.ekey,.I x.eval,.I x.count,.I x.sum,.I x.mn,.I x.mx,.slice ae (Zm x.ents).length ce,.slice ac (Yo x.chs).length cc,.slice ak (Ze x.keys).length ck,.slice ab (Jk x.bytes).length cb],.agg #[.I y.err,.U y.handle,.I y.value,.bool y.found,.I y.n,.I y.ekey,.I y.eval,.I y.count,.I y.sum,.I y.mn,.I y.mx,.slice ae2 (Zm y.ents).length ce2,.slice ac2 (Yo y.chs).length cc2,.slice ak2 (Ze y.keys).length ck2,.slice ab2 (Jk y.bytes).length cb2]] w fun rV=>∃(ok:Bool),rV (.bool ok) [Sh 5 1 (Jk x.bytes) ab cb,Sh 32 2 (Zm x.ents) ae ce,Sh 181 4 (Yo x.chs) ac cc,Sh 2 1 (Ze x.keys) ak ck,Sh 5 1 (Jk y.bytes) ab2 cb2,Sh 32 2 (Zm y.ents) ae2 ce2,Sh 181 4 (Yo y.chs) ac2 cc2,Sh 2 1 (Ze y.keys) ak2 ck2] (ok=true↔x=y):=by
 refine Sp.en Tryz.func19 ?_
 have _:=h3
 have _:=h2
 have _:=h1
 refine Zsp fun b1 w Z=>?_
 refine Zsp fun b2 w Z=>?_
 have hk1:=Zf x.keys;have hk2:=Zf y.keys
 refine Sz ?_
 refine Zsi (fun cd1=>?_) fun cd1=>?_
 ·replace Z:=(Z.sel 2 [] rfl)
  exact⟨_,rfl,Z,⟨fun h=>(by cases h),fun h=>by rw[hk1,hk2,h] at cd1;exact absurd rfl cd1⟩⟩
 refine Zst [2,3] [5] (fun kM vs jS=>∃(k:Nat),vs=[.I (k:Int)]∧jS []∧(k≤x.keys.length)∧(x.keys.take k=y.keys.take k)∧(x.keys.length-k)=kM) rfl ⟨0,rfl,Z,(Nat.zero_le _),rfl,rfl⟩ ?_
 rintro _ _ w j ⟨k,rfl,Z,hk,he,rfl⟩
 replace Z:=Z.z
 refine Sz ?_
 refine Zsr rfl (fun cd2=>?_) (fun cd2=>?_)
 ·refine Sz ?_
  refine Zsg [([0,2,5,7,1,6,3,8,4,9,10],none)] ?_
  obtain⟨v,hkx⟩:∃v,x.keys[k]?=some v:=⟨_,List.getElem?_eq_getElem (by omega)⟩
  refine Qz ?_
  refine Zsj rfl rfl (i:=(k:Int)) (k) el_36 rfl rfl (by omega) (X1 (Zc hkx)) (Z.rdS 5 rfl (Zc hkx)).1 ?_
  obtain⟨u,hky⟩:∃u,y.keys[k]?=some u:=⟨_,List.getElem?_eq_getElem (by omega)⟩
  refine Zsj rfl rfl (i:=(k:Int)) (k) el_36 rfl rfl (by omega) (X1 (Zc hky)) (Z.rdS 9 rfl (Zc hky)).1 ?_
  refine Zsn 1 [.I v] rfl (by exact(Z.rdS 5 rfl (Zc hkx)).2 0 _ rfl) ?_
  refine Zsn 1 [.I u] rfl (by exact(Z.rdS 9 rfl (Zc hky)).2 0 _ rfl) ?_
  refine Qd fun w Z=>?_
  refine Zsi (fun cd3=>?_) fun cd3=>?_
  ·replace Z:=(Z.sel 2 [] rfl)
   exact⟨_,rfl,Z,⟨fun h=>(by cases h),fun h=>by subst h;rw[hkx] at hky;cases hky;exact absurd rfl cd3⟩⟩
  exact⟨_,by omega,rfl,k+1,rfl,Z,(by omega),(by rw[List.take_add_one,List.take_add_one,he,hkx,hky,Classical.not_not.1 cd3]),rfl⟩
 have hkk:x.keys=y.keys:=by rw[←List.take_of_length_le (i:=k) (l:=x.keys) (by omega),he,List.take_of_length_le (by omega)]
 refine Sz ?_
 by_cases cg1:x.err=y.err
 ·refine Zsf 36 (.bool true) (congrArg Value.bool (decide_eq_true cg1)) ?_
  refine Sz ?_
  by_cases cg2:x.handle=y.handle
  ·refine Zsf 43 (.bool true) (congrArg Value.bool (decide_eq_true cg2)) ?_
   refine Sz ?_
   by_cases cg3:x.value=y.value
   ·refine Zsf 50 (.bool true) (congrArg Value.bool (decide_eq_true cg3)) ?_
    refine Sz ?_
    by_cases cg4:(x.found==y.found)=true
    ·refine Zsf 57 (.bool true) (congrArg Value.bool cg4) ?_
     refine Sz ?_
     by_cases cg5:x.n=y.n
     ·refine Zsf 64 (.bool true) (congrArg Value.bool (decide_eq_true cg5)) ?_
      refine Sz ?_
      refine Zvn rfl rfl Zog (xs:=[.I x.ekey,.I x.eval]) (ys:=[.I y.ekey,.I y.eval]) rfl rfl rfl rfl<|Zsx 69 rfl (Zy (dd _) (dd _)) ?_
      refine Sz ?_
      by_cases cg6:(x.ekey=y.ekey)∧(x.eval=y.eval)
      ·refine Zsf 71 (.bool true) (congrArg Value.bool (decide_eq_true cg6)) ?_
       refine Sz ?_
       refine Zvn rfl rfl eq_34 (xs:=[.I x.count,.I x.sum,.I x.mn,.I x.mx]) (ys:=[.I y.count,.I y.sum,.I y.mn,.I y.mx]) rfl rfl rfl rfl<|Zsx 76 rfl (Zy (dd _) (Zy (dd _) (Zy (dd _) (dd _)))) ?_
       refine Sz ?_
       by_cases cg7:(x.count=y.count)∧((x.sum=y.sum)∧((x.mn=y.mn)∧(x.mx=y.mx)))
       ·refine Zsf 78 (.bool true) (congrArg Value.bool (decide_eq_true cg7)) ?_
        refine Sz ?_
        refine Zsy (Zgm x.ents y.ents _ _ _ _ (by omega) (Z.sel 8 [3,6,0,0,0,0,0,0] rfl)) fun w ok1 Z f1=>?_
        by_cases cg8:ok1=true
        ·refine Zsf 85 (.bool true) (congrArg Value.bool cg8) ?_
         refine Sz ?_
         refine Zsy (Zha x.chs y.chs _ _ _ _ (by omega) (Z.sel 9 [5,7,0,0,0,0,0,0,0] rfl)) fun w ok2 Z f2=>?_
         by_cases cg9:ok2=true
         ·refine Zsf 92 (.bool true) (congrArg Value.bool cg9) ?_
          refine Sx ?_
          refine Zsf 94 (.slice ab x.bytes.length cb) (congrArg (fun m=>Value.slice ab m cb) (YH x.bytes))<|Zup rfl rfl Tryz.underlying37 Tryz.underlying9 Tryz.underlying5 (Z.srcS 6 rfl) (by assumption) rfl ?_
          refine Sx ?_
          refine Zsf 97 (.slice ab2 y.bytes.length cb2) (congrArg (fun m=>Value.slice ab2 m cb2) (YH y.bytes))<|Zup rfl rfl Tryz.underlying37 Tryz.underlying9 Tryz.underlying5 (Z.srcS 8 rfl) (by assumption) rfl ?_
          as_aux_lemma =>
          refine Sz ?_
          replace Z:=(Z.sel 9 [6,2,0,4,4,1,0] rfl)
          exact⟨_,rfl,Z,⟨fun h=>AnM.ext' ⟨cg1,cg2,cg3,by simpa using cg4,cg5,cg6.1,cg6.2,cg7.1,cg7.2.1,cg7.2.2.1,cg7.2.2.2,f1.1 cg8,f2.1 cg9,hkk,Zdc hbx hby (of_decide_eq_true h)⟩,fun h=>decide_eq_true (by rw[h])⟩⟩
         refine Zsf 92 (.bool false) (congrArg Value.bool (Bool.eq_false_iff.2 cg9)) ?_
         as_aux_lemma =>
         refine Sz ?_
         replace Z:=(Z.sel 9 [6,2,0,4,4,1,0] rfl)
         exact⟨_,rfl,Z,⟨fun h=>(by cases h),fun h=>absurd (f2.2 (by rw[h])) cg9⟩⟩
        refine Zsf 85 (.bool false) (congrArg Value.bool (Bool.eq_false_iff.2 cg8)) ?_
        as_aux_lemma =>
        refine Sz ?_
        replace Z:=(Z.sel 8 [4,0,3,3,3,0] rfl)
        exact⟨_,rfl,Z,⟨fun h=>(by cases h),fun h=>absurd (f1.2 (by rw[h])) cg8⟩⟩
       refine Zsf 78 (.bool false) (congrArg Value.bool (decide_eq_false cg7)) ?_
       as_aux_lemma =>
       refine Sz ?_
       replace Z:=(Z.sel 2 [] rfl)
       exact⟨_,rfl,Z,⟨fun h=>(by cases h),fun h=>absurd (by subst h;simp) cg7⟩⟩
      refine Zsf 71 (.bool false) (congrArg Value.bool (decide_eq_false cg6)) ?_
      as_aux_lemma =>
      refine Sz ?_
      replace Z:=(Z.sel 2 [] rfl)
      exact⟨_,rfl,Z,⟨fun h=>(by cases h),fun h=>absurd (by subst h;simp) cg6⟩⟩
     refine Zsf 64 (.bool false) (congrArg Value.bool (decide_eq_false cg5)) ?_
     as_aux_lemma =>
     refine Sz ?_
     replace Z:=(Z.sel 2 [] rfl)
     exact⟨_,rfl,Z,⟨fun h=>(by cases h),fun h=>absurd (by subst h;simp) cg5⟩⟩
    refine Zsf 57 (.bool false) (congrArg Value.bool (Bool.eq_false_iff.2 cg4)) ?_
    as_aux_lemma =>
    refine Sz ?_
    replace Z:=(Z.sel 2 [] rfl)
    exact⟨_,rfl,Z,⟨fun h=>(by cases h),fun h=>absurd (by subst h;simp) cg4⟩⟩
   refine Zsf 50 (.bool false) (congrArg Value.bool (decide_eq_false cg3)) ?_
   as_aux_lemma =>
   refine Sz ?_
   replace Z:=(Z.sel 2 [] rfl)
   exact⟨_,rfl,Z,⟨fun h=>(by cases h),fun h=>absurd (by subst h;simp) cg3⟩⟩
  refine Zsf 43 (.bool false) (congrArg Value.bool (decide_eq_false cg2)) ?_
  as_aux_lemma =>
  refine Sz ?_
  replace Z:=(Z.sel 2 [] rfl)
  exact⟨_,rfl,Z,⟨fun h=>(by cases h),fun h=>absurd (by subst h;simp) cg2⟩⟩
 refine Zsf 36 (.bool false) (congrArg Value.bool (decide_eq_false cg1)) ?_
 as_aux_lemma =>
 refine Sz ?_
 replace Z:=(Z.sel 2 [] rfl)
 exact⟨_,rfl,Z,⟨fun h=>(by cases h),fun h=>absurd (by subst h;simp) cg1⟩⟩
end Go.Proofs.YtpebgkkmgffmaaaGreatDoor
namespace Go.V
open Go
def Prt(b F:Zl)(cs:List Int)(l:Zl):Prop:=Srt l∧∀z,Zo z l=if z%4∈cs then Zo z F else Zo z b
theorem Prt.base{b F:Zl}(hb:Srt b)(h:∀z,Zo z F=Zo z b)(cs:List Int):Prt b F cs b:=⟨hb,fun z=>by rw[h];split<;>rfl⟩
theorem Prt.put{b F l:Zl}{c k v:Int}(hF:Srt F)(h:Prt b F [c] l)(hk:k%4=c):Prt b (Zs k v F) [c] (Zs k v l):=⟨ZD h.1,fun z=>by
 rw[Xb h.1,Xb hF,h.2 z]
 by_cases hz:z=k
 ·rw[if_pos hz,if_pos hz,if_pos (by rw[hz,hk];exact List.mem_singleton.2 rfl)]
 rw[if_neg hz,if_neg hz]⟩
theorem Prt.keep{b F l:Zl}{c k v:Int}(hF:Srt F)(h:Prt b F [c] l)(hk:k%4≠c):Prt b (Zs k v F) [c] l:=⟨h.1,fun z=>by
 rw[h.2 z]
 by_cases hz:z%4∈[c]
 ·rw[if_pos hz,if_pos hz,Xb hF,if_neg fun e=>hk (by rw[←e];exact List.mem_singleton.1 hz)]
 rw[if_neg hz,if_neg hz]⟩
theorem Prt.apart{b F o t:Zl}{cs:List Int}{c:Int}(ho:Prt b F cs o)(ht:Prt b F [c] t)(hc:c∉cs):Apart b o t:=fun z=>by
 by_cases hz:z%4=c
 ·exact .inl (by rw[ho.2 z,if_neg (by rw[hz];exact hc)])
 exact .inr (by rw[ht.2 z,if_neg (by rw[List.mem_singleton];exact hz)])
theorem Prt.merge{b F o t:Zl}{cs:List Int}{c:Int}(hb:Srt b)(ho:Prt b F cs o)(ht:Prt b F [c] t)(hc:c∉cs):Prt b F (cs++[c]) (Z4 b t o):=⟨Y2 ho.1,fun z=>by
 rw[XV hb ht.1 ho.1 z,ht.2 z,ho.2 z]
 by_cases hz:z%4=c
 ·rw[if_pos (List.mem_singleton.2 hz),if_neg (show z%4∉cs by rw[hz];exact hc),if_pos (show z%4∈cs++[c] by rw[hz];simp)]
  split
  ·rename_i e;exact e
  rfl
 rw[if_neg (show z%4∉[c] by rw[List.mem_singleton];exact hz),if_pos rfl]
 have:z%4∈cs++[c]↔z%4∈cs:=by simp[hz]
 by_cases h:z%4∈cs
 ·rw[if_pos h,if_pos (this.2 h)]
 rw[if_neg h,if_neg (fun k=>h (this.1 k))]⟩
theorem Prt.all{b F l:Zl}{cs:List Int}(hF:Srt F)(h:Prt b F cs l)(hc:∀c,0≤c→c<4→c∈cs):l=F:=kve h.1 hF fun z=>by
 rw[h.2 z,if_pos (hc _ (Int.emod_nonneg z (by decide)) (Int.emod_lt_of_pos z (by decide)))]
def Anc(xs:List VN)(own:Int→Int)(b0 n:Int)(cs:List Int):Prop:=b0∈YC xs n∧∀z∈YC xs n,z≤b0∨own z∈cs
theorem Zj0{xs:List VN}{q:Nat}(hG:GOk xs q){own:Int→Int}{b0 n m:Int}{cs ds:List Int}(h1:Anc xs own b0 n cs)(h2:Anc xs own b0 m ds)(hd:∀c∈cs,c∉ds)(l1:Zi xs n=true)(l2:Zi xs m=true):Z9 xs n m=b0:=by
 unfold Z9
 rw[if_pos ⟨l1,l2⟩]
 have key:∀z∈YC xs n,z∈YC xs m→z≤b0:=fun z hz hz2=>by
  rcases h1.2 z hz with h|h
  ·exact h
  rcases h2.2 z hz2 with k|k
  ·exact k
  exact absurd k (hd _ h)
 exact JN (hG.ascA n) h1.1 h2.1 key
theorem Anc.mono{xs:List VN}{own:Int→Int}{b0 n:Int}{cs ds:List Int}(h:Anc xs own b0 n cs)(hs:∀c∈cs,c∈ds):Anc xs own b0 n ds:=⟨h.1,fun z hz=>(h.2 z hz).imp id (hs _)⟩
theorem Zdk{xs xs2:List VN}{cap last last2:Int}{ps:List Int}(h:AddP xs cap last ps xs2 last2)(hl:∀x∈xs,x.n≤last)(h0:Xj xs cap ps=0)(n:Int):(n=last+1→∀z,z∈YC xs2 n↔z=n∨∃p∈ps,z∈YC xs p)∧(n≠last+1→YC xs2 n=YC xs n):=by
 obtain⟨_,_,ab,_,h4,h5⟩:=h.vw hl h0
 constructor
 ·rintro rfl z
  rw[XK,h5,if_pos rfl]
  show z∈ab↔_
  rw[h4]
  unfold Je
  simp
 intro hn
 rw[XK,h5,if_neg hn,←XK]
def XR(own:Int→Int)(n c:Int):Int→Int:=fun z=>if z=n then c else own z
theorem Anc.old{xs xs2:List VN}{own:Int→Int}{b0 n last c:Int}{cs:List Int}(h:Anc xs own b0 n cs)(hb:∀z∈YC xs n,z≤last)(hab:YC xs2 n=YC xs n):Anc xs2 (XR own (last+1) c) b0 n cs:=by
 refine⟨by rw[hab];exact h.1,fun z hz=>?_⟩
 rw[hab] at hz
 have h1:=hb z hz
 rcases h.2 z hz with h2|h2
 ·exact .inl h2
 exact .inr (by unfold XR;rw[if_neg (by omega)];exact h2)
theorem Anc.new{xs xs2:List VN}{own:Int→Int}{b0 last c:Int}{ps cs:List Int}(hp:ps≠[])(h:∀p∈ps,Anc xs own b0 p cs)(hb:∀p∈ps,∀z∈YC xs p,z≤last)(hab:∀z,z∈YC xs2 (last+1)↔z=last+1∨∃p∈ps,z∈YC xs p)(hc:c∈cs):Anc xs2 (XR own (last+1) c) b0 (last+1) cs:=by
 refine⟨?_,fun z hz=>?_⟩
 ·obtain⟨p,hq⟩:=List.exists_mem_of_ne_nil ps hp
  exact(hab b0).2 (.inr ⟨p,hq,(h p hq).1⟩)
 rcases(hab z).1 hz with rfl|⟨p,hq,hz2⟩
 ·exact .inr (by unfold XR;rw[if_pos rfl];exact hc)
 have h1:=hb p hq z hz2
 rcases(h p hq).2 z hz2 with h2|h2
 ·exact .inl h2
 exact .inr (by unfold XR;rw[if_neg (by omega)];exact h2)
end Go.V
