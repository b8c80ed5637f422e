/-
  What the proof of Jtb stands on, part 2.
  Conditions: none.
-/
import Derived.Test.YtpebgkkmgffmaaaGreatDoorZtaA
set_option maxRecDepth 8192
namespace Go
abbrev Value.I(x:Int):Value:=.int .i64 x
abbrev Value.U(x:Int):Value:=.int .u64 x
abbrev Value.W(x:Int):Value:=.int .u32 x
abbrev Value.P(b:Nat):Value:=.pointer (some ⟨b,0,none⟩)
abbrev Value.N:Value:=.slice none 0 0
abbrev qO(c h b k v l i n:Int)(s:Value):Array Value:=#[.I c,.U h,.U b,.I k,.I v,.I l,.I i,.I n,.bool false,.string ⟨#[]⟩,.N,s,.N]
abbrev qA(e h v:Int)(f:Bool)(n:Int)(s:Value):Array Value:=#[.I e,.U h,.I v,.bool f,.I n,.I 0,.I 0,.I 0,.I 0,.I 0,.I 0,s,.N,.N,.N]
end Go
namespace Go.V
open Go Go.RowKit
def NL(M N:List HP):Prop:=M=N
theorem NL.n{M:List HP}:NL M M:=rfl
theorem NL.c{M T N:List HP}{A:HP}(h:M=A::T)(k:NL T N):NL M (A::N):=h.trans (congrArg _ k)
theorem St.z{g w:World}{L L':List HP}(h:St g L w)(e:NL L L':=by(repeat apply NL.c rfl);exact NL.n):St g L' w:=e▸h
section
variable{P:Program}{T:Tab}[hT:TabOk P T]{n:Nat}{os l:List Oper}{K:Kt}{F:Fm}{w g:World}{Q:Qt}{L:List HP}
def okY(o:Oper):Bool:=match o.op with
 |.binOp b _ _ _ _=>(match b with|.eql=>true|.neq=>true|.lss=>true|.leq=>true|.gtr=>true|.geq=>true|_=>false)
 |.unOp _ _ _=>false
 |.convert _ _ _=>false
 |_=>true
theorem Zt5{o:Oper}{d:Nat}{v:Value}(hg:o.guard=none)(hd:o.dst=some d)(hv:pv T o F=some v)(hk:WL P n os l K (upd F d v) w):WL P n os (o::l) K F w :=
 Ztb hg (fun hok=>Vj hv hok w) (by rw[hd];exact hk)
theorem Zuw{o:Oper}{d:Nat}{v:Value}(_hy:okY o=true)(hg:o.guard=none)(hd:o.dst=some d)(hv:pv T o F=some v)(hk:WL P n os l K (upd F d v) w):WL P n os (o::l) K F w:=Zt5 hg hd hv hk
def okN(o:Oper):Bool:=match o.op with
 |.unOp .not _ _=>true
 |_=>false
theorem Zvt{o:Oper}{d:Nat}{v:Value}(_hy:okN o=true)(hg:o.guard=none)(hd:o.dst=some d)(hv:pv T o F=some v)(hk:WL P n os l K (upd F d v) w):WL P n os (o::l) K F w:=Zt5 hg hd hv hk
theorem Zt3{o:Oper}{d:Nat}{z:Int}(hg:o.guard=none)(hd:o.dst=some d)(h:pv T o F=some (.int .i64 (IntKind.i64.wrap z)))(hz:-9223372036854775808≤z∧z≤9223372036854775807)(hk:WL P n os l K (upd F d (.int .i64 z)) w):WL P n os (o::l) K F w :=
 Zt5 hg hd h (by rw[Yf hz];exact hk)
theorem Zur{o:Oper}{d:Nat}{z:Int}(hg:o.guard=none)(hd:o.dst=some d)(h:pv T o F=some (.int .u64 (IntKind.u64.wrap z)))(hz:0≤z∧z≤18446744073709551615)(hk:WL P n os l K (upd F d (.int .u64 z)) w):WL P n os (o::l) K F w :=
 Zt5 hg hd h (by rw[V' hz];exact hk)
theorem Zux{o:Oper}{d:Nat}{z:Int}(hg:o.guard=none)(hd:o.dst=some d)(h:pv T o F=some (.int .u32 (IntKind.u32.wrap z)))(hz:0≤z∧z≤4294967295)(hk:WL P n os l K (upd F d (.int .u32 z)) w):WL P n os (o::l) K F w :=
 Zt5 hg hd h (by rw[Zkw hz];exact hk)
theorem Zvu{o:Oper}{d:Nat}{b:Bool}{p:Prop}{i:Decidable p}(hg:o.guard=none)(hd:o.dst=some d)(h:pv T o F=some (.bool (!b)))(hb:b=@decide p i)(hk:WL P n os l K (upd F d (.bool (decide (¬p)))) w):WL P n os (o::l) K F w :=
 Zt5 hg hd h (by rw[hb,Jy (dd p)];exact hk)
theorem Zuy{o:Oper}{d:Nat}{b:Bool}(hg:o.guard=none)(hd:o.dst=some d)(h:pv T o F=some (.bool (!b)))(hb:b=true)(hk:WL P n os l K (upd F d (.bool false)) w):WL P n os (o::l) K F w:=Zt5 hg hd h (by rw[hb];exact hk)
theorem Zuz{o:Oper}{d:Nat}{b:Bool}(hg:o.guard=none)(hd:o.dst=some d)(h:pv T o F=some (.bool (!b)))(hb:b=false)(hk:WL P n os l K (upd F d (.bool true)) w):WL P n os (o::l) K F w:=Zt5 hg hd h (by rw[hb];exact hk)
def Fd(L:List HP)(b:Nat)(cs:List Value):Prop:=∃i t,CN L i=some (Zq b cs.toArray t)
theorem Fd.h{L:List HP}{b t:Nat}{cs:List Value}{A:HP}(h:A=Zq b cs.toArray t):Fd (A::L) b cs:=⟨0,t,by rw[h];rfl⟩
theorem Fd.t{L:List HP}{b:Nat}{cs:List Value}{A:HP}(h:Fd L b cs):Fd (A::L) b cs:=let⟨i,t,h⟩:=h;⟨i+1,t,h⟩
theorem Fd.c{L M:List HP}{b:Nat}{cs:List Value}{A:HP}(e:L=A::M)(h:Fd (A::M) b cs):Fd L b cs:=e▸h
theorem Zu0{o:Oper}{d b off:Nat}{cs:List Value}{v:Value}(hg:o.guard=none)(hd:o.dst=some d)(ha:ldO T o F=some ⟨b,off,none⟩)(Z:St g L w)(hf:Fd L b cs)(hv:CN cs off=some v)(hk:WL P n os l K (upd F d v) w):WL P n os (o::l) K F w :=
 Ztb hg (fun hok=>HR ha hok (let⟨i,_,h⟩:=hf;Z.ld i (by rw[←ZU,h]) (by rw[ZU] at hv;simpa using hv))) (by rw[hd];exact hk)
theorem Zu1{o:Oper}{i d:Nat}{b v:Bool}(hg:o.guard=some (i,b))(hs:Y5 os i=some d)(hv:F d=.bool v)(hb:v=b)(h:WL P n os ({ o with guard:=none }::l) K F w):WL P n os (o::l) K F w:=Zv6 hg hs (hv.trans (by rw[hb])) h
theorem Zug{o:Oper}{i d e:Nat}{b v c:Bool}(hg:o.guard=some (i,b))(hs:Y5 os i=some d)(hv:F d=.bool v)(hc:(!b)=c)(hb:v=c)(hd:o.dst=some e)(h:WL P n os l K (upd F e undef) w):WL P n os (o::l) K F w:=Zv7 hg hs hv (by rw[hb,←hc];cases b<;>rfl) (by rw[hd];exact h)
class AgC(P:Program)(t:Nat)(m:outParam Nat):Prop where
 h:QV P t m
class ZvC(P:Program)(t:Nat)(cs:outParam (List Value)):Prop where
 h:ZV P t cs.toArray
def Ug:List Value→Nat→Nat→Option (List Value)
 |_,_,0=>some []
 |[],_,_+1=>none
 |a::r,0,n+1=>(match Ug r 0 n with|some s=>some (a::s)|none=>none)
 |_::r,k+1,n+1=>Ug r k (n+1)
theorem Jr:∀{cs:List Value}{k n:Nat}{ds:List Value},Ug cs k n=some ds→(cs.drop k).take n=ds∧ds.length=n
 |_,_,0,_,h=>by simp only[Ug,Option.some.injEq] at h;subst h;simp
 |[],_,_+1,_,h=>by simp[Ug] at h
 |a::r,0,n+1,ds,h=>by
  unfold Ug at h
  cases h1:Ug r 0 n with
  |none=>simp[h1] at h
  |some s =>
   simp only[h1,Option.some.injEq] at h;subst h
   obtain⟨h2,h3⟩:=Jr h1
   simp at h2;simp[h2,h3]
 |_::r,k+1,n+1,ds,h=>by
  simp only[Ug] at h
  obtain⟨h2,h3⟩:=Jr h
  exact⟨by simpa using h2,h3⟩
theorem Fd.at_{L:List HP}{b off m:Nat}{cs ds:List Value}(Z:St g L w)(hf:Fd L b cs)(hc:Ug cs off m=some ds):∀(j:Nat)(u:Value),ds[j]?=some u→w.cell? ⟨b,off+j,none⟩=some u:=by
 obtain⟨i,t,h⟩:=hf
 obtain⟨h1,h2⟩:=Jr hc
 exact Z.part i (by rw[←ZU,h]) (by rw[h2];simpa using h1)
theorem Zu2{o:Oper}{t:TypeId}{x:Operand}{d b off m:Nat}{cs ds:List Value}[hA:AgC P t m](hg:o.guard=none)(hd:o.dst=some d)(ho:o.op=.load t x)(hx:ev F x=.pointer (some ⟨b,off,none⟩))(Z:St g L w)(hf:Fd L b cs)(hc:Ug cs off m=some ds)(hk:WL P n os l K (upd F d (.agg ds.toArray)) w):WL P n os (o::l) K F w :=
 Ztx hg ho ds (by rw[(Jr hc).2];exact hA.h) hx (hf.at_ Z hc) (by rw[hd];exact hk)
def Zay:Value→Option (List Value)
 |.agg ⟨l⟩=>some l
 |v=>(match frc v with|some u=>some [u]|none=>none)
def Rp(L:List HP)(b:Nat)(cs ds:List Value)(L':List HP):Prop:=∃i t,CN L i=some (Zq b cs.toArray t)∧L'=L.set i (Zq b ds.toArray t)
theorem Rp.h{L:List HP}{b t:Nat}{cs ds:List Value}{A:HP}(h:A=Zq b cs.toArray t):Rp (A::L) b cs ds (Zq b ds.toArray t::L):=⟨0,t,by rw[h];rfl,rfl⟩
theorem Rp.t{L L':List HP}{b:Nat}{cs ds:List Value}{A:HP}(h:Rp L b cs ds L'):Rp (A::L) b cs ds (A::L'):=let⟨i,t,h,e⟩:=h;⟨i+1,t,h,by rw[e];rfl⟩
theorem Rp.c{L L' M:List HP}{b:Nat}{cs ds:List Value}{A:HP}(e:L=A::M)(h:Rp (A::M) b cs ds L'):Rp L b cs ds L':=e▸h
structure IsSt(o:Oper)(t:TypeId)(F:Fm)(b off:Nat)(v:Value):Prop where
 ex:∃x y,o.guard=none∧o.dst=none∧o.op=.store t x y∧ev F x=.pointer (some ⟨b,off,none⟩)∧frc (ev F y)=some v
theorem rs.o:Jz P F w [] []:=trivial
theorem rs.t{t:Nat}{r:List ResultVar}{v:Value}{vs:List Value}(hv:frc (F t)=some v)(h:Jz P F w r vs):Jz P F w (.tmp t::r) (v::vs):=by
 rw[JM] at hv
 cases r with
 |nil =>
  cases vs with
  |nil=>exact Option.some.inj hv
  |cons=>exact h.elim
 |cons=>exact⟨Option.some.inj hv,h⟩
theorem rs.c{a t b m:Nat}{r:List ResultVar}{cs ds:List Value}{vs:List Value}[hA:AgC P t m](hF:F a=.pointer (some ⟨b,0,none⟩))(Z:St g L w)(hf:Fd L b cs)(hc:Ug cs 0 m=some ds)(h:Jz P F w r vs):Jz P F w (.cell a t::r) (.agg ds.toArray::vs) :=
 by
 have h1:(loadVar t ⟨b,0,none⟩).run P w=.ok (.agg ds.toArray) w:=by
  have h2:=Yi (P:=P) (w:=w) (b:=b) (off:=0) (cs:=ds) (t:=t) hA.h (Jr hc).2 (hf.at_ Z hc)
  simpa using h2
 exact⟨⟨_,hF,h1⟩,h⟩
theorem fin.c{rs:List ResultVar}{vs:List Value}{Ψ:Value→World→Prop}(h:Jz P F w rs vs)(k:Ψ (tup vs) w):fin P rs Ψ .ret F w:=⟨_,h,k⟩
section
variable{K:Fm→Prop}
theorem Zt6{o:Oper}{d:Nat}{v:Value}(hg:o.guard=none)(hd:o.dst=some d)(hv:pv T o F=some v)(hk:WQ P n os l w K (upd F d v)):WQ P n os (o::l) w K F :=
 Ztu hg (fun hok _=>Vj hv hok _) (by rw[hd];exact hk)
theorem Zu3{o:Oper}{d:Nat}{v:Value}(_hy:okY o=true)(hg:o.guard=none)(hd:o.dst=some d)(hv:pv T o F=some v)(hk:WQ P n os l w K (upd F d v)):WQ P n os (o::l) w K F:=Zt6 hg hd hv hk
theorem Zu4{o:Oper}{d:Nat}{v:Value}(_hy:okN o=true)(hg:o.guard=none)(hd:o.dst=some d)(hv:pv T o F=some v)(hk:WQ P n os l w K (upd F d v)):WQ P n os (o::l) w K F:=Zt6 hg hd hv hk
theorem Zu5{o:Oper}{d:Nat}{z:Int}(hg:o.guard=none)(hd:o.dst=some d)(h:pv T o F=some (.int .i64 (IntKind.i64.wrap z)))(hz:-9223372036854775808≤z∧z≤9223372036854775807)(hk:WQ P n os l w K (upd F d (.int .i64 z))):WQ P n os (o::l) w K F:=Zt6 hg hd h (by rw[Yf hz];exact hk)
theorem Zu6{o:Oper}{d:Nat}{z:Int}(hg:o.guard=none)(hd:o.dst=some d)(h:pv T o F=some (.int .u64 (IntKind.u64.wrap z)))(hz:0≤z∧z≤18446744073709551615)(hk:WQ P n os l w K (upd F d (.int .u64 z))):WQ P n os (o::l) w K F:=Zt6 hg hd h (by rw[V' hz];exact hk)
theorem Zu7{o:Oper}{d:Nat}{z:Int}(hg:o.guard=none)(hd:o.dst=some d)(h:pv T o F=some (.int .u32 (IntKind.u32.wrap z)))(hz:0≤z∧z≤4294967295)(hk:WQ P n os l w K (upd F d (.int .u32 z))):WQ P n os (o::l) w K F:=Zt6 hg hd h (by rw[Zkw hz];exact hk)
theorem Zu8{o:Oper}{d:Nat}{b:Bool}{p:Prop}{i:Decidable p}(hg:o.guard=none)(hd:o.dst=some d)(h:pv T o F=some (.bool (!b)))(hb:b=@decide p i)(hk:WQ P n os l w K (upd F d (.bool (decide (¬p))))):WQ P n os (o::l) w K F:=Zt6 hg hd h (by rw[hb,Jy (dd p)];exact hk)
theorem Zu9{o:Oper}{d:Nat}{b:Bool}(hg:o.guard=none)(hd:o.dst=some d)(h:pv T o F=some (.bool (!b)))(hb:b=true)(hk:WQ P n os l w K (upd F d (.bool false))):WQ P n os (o::l) w K F:=Zt6 hg hd h (by rw[hb];exact hk)
theorem Zva{o:Oper}{d:Nat}{b:Bool}(hg:o.guard=none)(hd:o.dst=some d)(h:pv T o F=some (.bool (!b)))(hb:b=false)(hk:WQ P n os l w K (upd F d (.bool true))):WQ P n os (o::l) w K F:=Zt6 hg hd h (by rw[hb];exact hk)
theorem Zvb{o:Oper}{d b off:Nat}{cs:List Value}{v:Value}(hg:o.guard=none)(hd:o.dst=some d)(ha:ldO T o F=some ⟨b,off,none⟩)(Z:St g L w)(hf:Fd L b cs)(hv:CN cs off=some v)(hk:WQ P n os l w K (upd F d v)):WQ P n os (o::l) w K F :=
 Ztu hg (fun hok m=>HR ha hok (let⟨i,_,h⟩:=hf;(Z.drewN m).ld i (by rw[←ZU,h]) (by rw[ZU] at hv;simpa using hv))) (by rw[hd];exact hk)
theorem Zvc{o:Oper}{t:TypeId}{x:Operand}{d b off m:Nat}{cs ds:List Value}[hA:AgC P t m](hg:o.guard=none)(hd:o.dst=some d)(ho:o.op=.load t x)(hx:ev F x=.pointer (some ⟨b,off,none⟩))(Z:St g L w)(hf:Fd L b cs)(hc:Ug cs off m=some ds)(hk:WQ P n os l w K (upd F d (.agg ds.toArray))):WQ P n os (o::l) w K F :=
 Ztq hg ho ds (by rw[(Jr hc).2];exact hA.h) hx (hf.at_ Z hc) (by rw[hd];exact hk)
theorem Zvd{o:Oper}{i d:Nat}{b v:Bool}(hg:o.guard=some (i,b))(hs:Y5 os i=some d)(hv:F d=.bool v)(hb:v=b)(h:WQ P n os ({ o with guard:=none }::l) w K F):WQ P n os (o::l) w K F:=Zti hg hs (hv.trans (by rw[hb])) h
theorem Zuh{o:Oper}{i d e:Nat}{b v c:Bool}(hg:o.guard=some (i,b))(hs:Y5 os i=some d)(hv:F d=.bool v)(hc:(!b)=c)(hb:v=c)(hd:o.dst=some e)(h:WQ P n os l w K (upd F e undef)):WQ P n os (o::l) w K F:=Zv8 hg hs hv (by rw[hb,←hc];cases b<;>rfl) (by rw[hd];exact h)
theorem Zwd{o:Oper}{d:Nat}{z:Int}(hg:o.guard=none)(h:pv T o F=some (.int .i64 (IntKind.i64.wrap z)))(hd:o.dst=some d)(hv:F d=.int .i64 z)(hz:-9223372036854775808≤z∧z≤9223372036854775807):RQ P n os w F o:=Zsl hg h hd (by rw[hv,Yf hz])
theorem Zwe{o:Oper}{d b off:Nat}{cs:List Value}{v:Value}(hg:o.guard=none)(ha:ldO T o F=some ⟨b,off,none⟩)(hd:o.dst=some d)(Z:St g L w)(hf:Fd L b cs)(hv:CN cs off=some v)(hF:F d=v):RQ P n os w F o :=
 Zs6 hg ha hd hF (let⟨i,_,h⟩:=hf;Z.ld i (by rw[←ZU,h]) (by rw[ZU] at hv;simpa using hv))
theorem Zwf{o:Oper}{t:TypeId}{x:Operand}{d b off m:Nat}{cs ds:List Value}[hA:AgC P t m](hg:o.guard=none)(hd:o.dst=some d)(ho:o.op=.load t x)(hx:ev F x=.pointer (some ⟨b,off,none⟩))(Z:St g L w)(hf:Fd L b cs)(hc:Ug cs off m=some ds)(hF:F d=.agg ds.toArray):RQ P n os w F o :=
 Zuf hg ho ds (by rw[(Jr hc).2];exact hA.h) hx (hf.at_ Z hc) hd hF
theorem RQs.i{q:List Oper}{X:Prop}(h:RQs P n os w F q)(k:X):RQs P n os w F q∧X:=⟨h,k⟩
end
def nfv(F:Fm):List Nat→Option (List Value)
 |[]=>some []
 |d::ds=>match frc (F d),nfv F ds with|some v,some vs=>some (v::vs)|_,_=>none
theorem Zam{F:Fm}:∀{ds:List Nat}{vs:List Value},nfv F ds=some vs→vals F ds=vs
 |[],_,h=>by simp only[nfv,Option.some.injEq] at h;exact h
 |_::ds,vs,h=>by
  unfold nfv at h
  rw[JM] at h
  cases h1:nfv F ds with
  |none=>simp[h1] at h
  |some us=>simp only[h1,Option.some.injEq] at h;subst h;simp only[vals,Zam h1]
theorem Q3(F:Fm):∀(a b:List Nat),vals F (a++b)=vals F a++vals F b
 |[],_=>rfl
 |_::a,b=>congrArg _ (Q3 F a b)
theorem HT(g:Fm):∀(a b:List Nat)(u v:List Value),a.length=u.length→Qk g (a++b) (u++v)=Qk (Qk g b v) a u
 |[],_,[],_,_=>rfl
 |_::a,b,_::u,v,h=>by simp only[List.cons_append,Qk];rw[HT g a b u v (by simpa using h)]
theorem HE(F:Fm):∀(a:List Nat),(vals F a).length=a.length
 |[]=>rfl
 |_::a=>congrArg _ (HE F a)
theorem Zst{c:Code}{R:List HP}(d0 d1:List Nat){v0:List Value}(I:Nat→List Value→(List HP→Prop)→Prop){k:Nat}(h:nfv F d0=some v0)(h0:I k (vals F d1) (fun M=>St g (M++R) w))(hr:∀k vs w F',I k vs (fun M=>St g (M++R) w)→WC P n c (sq (fun F' w'=>∃m,m<k∧vals F' d0=v0∧I m (vals F' d1) (fun M=>St g (M++R) w')) Q) (Qk (Qk F' d1 vs) d0 v0) w):WC P n (.loop c) Q F w :=
 have h':=Zam h
 have hl:d0.length=v0.length:=by rw[←h',HE]
 Zvy (d0++d1) (fun k vs w=>∃us,vs=v0++us∧I k us (fun M=>St g (M++R) w)) k ⟨_,by rw[Q3,h'],h0⟩ (by
  rintro k _ w F' ⟨us,rfl,hI⟩
  rw[HT _ _ _ _ _ hl]
  refine(hr k us w F' hI).mono fun e F2 w2 hh=>?_
  cases e with
  |nrm=>obtain⟨m,hm,h1,h2⟩:=hh;exact⟨m,hm,_,by rw[Q3,h1],h2⟩
  |_=>exact hh)
theorem Ztc{c:Code}{N:Kt}{R:List HP}(d0 d1:List Nat){v0:List Value}(M0:List HP)(_hS:St g (M0++R) w)(J:List Value→(List HP→Prop)→Prop)(h:nfv F d0=some v0)(h1:WC P n c (sq (fun F' w'=>vals F' d0=v0∧J (vals F' d1) (fun M=>St g (M++R) w')) Q) F w)(hk:∀vs w F',J vs (fun M=>St g (M++R) w)→N (Qk (Qk F' d1 vs) d0 v0) w):WC P n c (sq N Q) F w :=
 have h':=Zam h
 have hl:d0.length=v0.length:=by rw[←h',HE]
 Zvx (d0++d1) (fun vs w=>∃us,vs=v0++us∧J us (fun M=>St g (M++R) w)) (h1.mono fun e F2 w2 hh=>by
  cases e with
  |nrm=>obtain⟨h1,h2⟩:=hh;exact⟨_,by rw[Q3,h1],h2⟩
  |_=>exact hh) (by
  rintro _ w F' ⟨us,rfl,hI⟩
  rw[HT _ _ _ _ _ hl]
  exact hk us w F' hI)
abbrev Cq(P:Program)(g:World)(L:List HP)(f:FuncId)(vs:List Value)(w:World)(Ψ:(Value→List HP→Prop→Prop)→Prop):Prop:=Sp P f vs w fun v w'=>Ψ fun u N p=>v=u∧St g (N++L) w'∧p
abbrev Cn(P:Program)(g:World)(L:List HP)(f:FuncId)(vs:List Value)(w:World)(Ψ:(Value→List HP→Prop)→Prop):Prop:=Sp P f vs w fun v w'=>Ψ fun u N=>v=u∧St g (N++L) w'
theorem sq.a{N:Kt}(h:N F w):sq N Q .nrm F w:=h
theorem sq.x{N:Kt}{i:Nat}(h:Q (.ext i) F w):sq N Q (.ext i) F w:=h
theorem sq.r{N:Kt}(h:Q .ret F w):sq N Q .ret F w:=h
theorem bl.a{i:Nat}(h:Q .nrm F w):bl i Q .nrm F w:=h
theorem bl.e{i:Nat}(h:Q .nrm F w):bl i Q (.ext i) F w:=by
 unfold bl;simp only[Nat.beq_refl,cond_true];exact h
theorem bl.x{i j:Nat}(e:Nat.beq i j=false)(h:Q (.ext i) F w):bl j Q (.ext i) F w:=by
 unfold bl;simp only[e,cond_false];exact h
theorem bl.r{i:Nat}(h:Q .ret F w):bl i Q .ret F w:=h
def Za2:List Value→Nat→Value→Option (List Value)
 |[],_,_=>none
 |_::r,0,v=>some (v::r)
 |a::r,k+1,v=>match Za2 r k v with|some r'=>some (a::r')|none=>none
theorem D3{v:Value}:∀{cs:List Value}{k:Nat}{ds:List Value},Za2 cs k v=some ds→k<cs.length∧ds=cs.set k v
 |[],_,_,h=>by cases h
 |_::_,0,_,h=>by simp only[Za2,Option.some.injEq] at h;subst h;simp
 |a::r,k+1,ds,h=>by
  unfold Za2 at h
  cases h1:Za2 r k v with
  |none=>simp[h1] at h
  |some r' =>
   simp only[h1,Option.some.injEq] at h;subst h
   obtain⟨h2,h3⟩:=D3 h1
   simp[h3,h2]
theorem Zwg{o:Oper}{t:TypeId}{x y:Operand}{b off:Nat}{cs ds:List Value}{t':TypeId}{v:Value}{L':List HP}(i:Nat)(Z:St g L w)(hk:∀w',St g L' w'→WL P n os l K F w')(hg:o.guard=none:=by exact rfl)(hd:o.dst=none:=by exact rfl)(ho:o.op=.store t x y:=by exact rfl)(hi:CN L i=some (Zq b cs.toArray t'):=by exact rfl)(hx:ev F x=.pointer (some ⟨b,off,none⟩):=by exact rfl)(hv0:frc (ev F y)=some v:=by exact rfl)(h1:v.oneCell'=true:=by exact rfl)(hc:Za2 cs off v=some ds:=by exact rfl)(ht:mem T.ones t=true:=by exact rfl)(e:NL (L.set i (Zq b ds.toArray t')) L':=by(repeat apply NL.c rfl);exact NL.n):WL P n os (o::l) K F w:=by
 obtain⟨h2,h3⟩:=D3 hc
 have hv:=Option.some.inj ((JM _).symm.trans hv0)
 refine Zuo hg hd ho i Z (by rw[←ZU,hi]) hx hv h1 (YX.2 (by simpa using h2)) ht fun w' h=>hk w' (e▸?_)
 rw[h3];simpa using h
def nfr(F:Fm):List ResultVar→Option (List Value)
 |[]=>some []
 |.tmp t::r=>(match frc (F t),nfr F r with|some v,some vs=>some (v::vs)|_,_=>none)
 |_=>none
theorem Hr{F:Fm}{w:World}:∀{rs:List ResultVar}{vs:List Value},nfr F rs=some vs→Jz P F w rs vs
 |[],vs,h=>by simp only[nfr,Option.some.injEq] at h;subst h;trivial
 |.cell _ _::_,_,h=>by cases h
 |.tmp t::r,vs,h=>by
  unfold nfr at h
  rw[JM] at h
  cases h1:nfr F r with
  |none=>simp[h1] at h
  |some us =>
   simp only[h1,Option.some.injEq] at h;subst h
   have ih:=Hr (w:=w) h1
   cases r with
   |nil=>simp only[nfr,Option.some.injEq] at h1;subst h1;rfl
   |cons x r=>exact⟨rfl,ih⟩
theorem fin.t{rs:List ResultVar}{vs:List Value}{Ψ:Value→World→Prop}(h:nfr F rs=some vs)(k:Ψ (tup vs) w):fin P rs Ψ .ret F w:=⟨_,Hr h,k⟩
theorem fin.u{rs:List ResultVar}{vs:List Value}{Ψ:Value→World→Prop}(h:nfr F rs=some vs)(k:Ψ (tup vs) w):fin P rs Ψ .nrm F w:=⟨_,Hr h,k⟩
structure Held(p:Prop):Prop where
 out:p
theorem Sz{G G':Prop}(k:G')(h:Held G'→G:=by
  intro k
  repeat first
   |refine Zs9 ?_
   |refine Zuw rfl rfl rfl rfl ?_
   |refine Zt3 rfl rfl rfl (by omega) ?_
   |with_reducible refine Zsw ?_
   |with_reducible refine WC.region ?_
   |with_reducible refine Ztw ?_
   |with_reducible refine Zt9 ?_
   |with_reducible refine Zui ?_
   |with_reducible refine Zvj ?_
   |with_reducible refine Zun ?_
   |with_reducible refine sq.a ?_
   |with_reducible refine bl.a ?_
   |with_reducible refine sq.x ?_
   |with_reducible refine bl.e ?_
   |refine bl.x rfl ?_
   |with_reducible refine sq.r ?_
   |with_reducible refine bl.r ?_
   |refine Zud rfl (by first|with_reducible rfl|decide) ?_
   |refine Zs8 rfl (by first|with_reducible rfl|decide) ?_
   |with_reducible refine fin.t rfl ?_
   |with_reducible refine fin.u rfl ?_
   |refine fin.c (by(repeat first|exact rs.o|apply rs.t rfl|apply rs.c rfl Z (by(repeat first|with_reducible exact Fd.h rfl|with_reducible apply Fd.t|(apply Fd.c rfl));done) (by exact rfl));done) ?_
   |refine Zu2 rfl rfl rfl rfl Z (by(repeat first|with_reducible exact Fd.h rfl|with_reducible apply Fd.t|(apply Fd.c rfl));done) (by exact rfl) ?_
   |refine Zu0 rfl rfl rfl Z (by(repeat first|with_reducible exact Fd.h rfl|with_reducible apply Fd.t|(apply Fd.c rfl));done) (by exact rfl) ?_
   |refine Zur rfl rfl rfl (by omega) ?_
   |refine Zux rfl rfl rfl (by omega) ?_
   |refine Zuy rfl rfl rfl (by with_reducible rfl) ?_
   |refine Zuz rfl rfl rfl (by with_reducible rfl) ?_
   |refine Zvu rfl rfl rfl (by with_reducible rfl) ?_
   |refine Zvt rfl rfl rfl rfl ?_
   |refine Zu1 rfl rfl rfl (by with_reducible rfl) ?_
   |refine Zug (c:=true) rfl rfl rfl rfl (by with_reducible rfl) rfl ?_
   |refine Zug (c:=false) rfl rfl rfl rfl (by with_reducible rfl) rfl ?_
   |(refine RQs.i ?_ ?_;focus ((repeat first|exact trivial|exact Zsl rfl rfl rfl rfl|exact Zwe rfl rfl rfl Z (by(repeat first|with_reducible exact Fd.h rfl|with_reducible apply Fd.t|(apply Fd.c rfl));done) (by exact rfl) (by exact rfl)|exact Zwf rfl rfl rfl rfl Z (by(repeat first|with_reducible exact Fd.h rfl|with_reducible apply Fd.t|(apply Fd.c rfl));done) (by exact rfl) (by exact rfl)|exact Zwd rfl rfl rfl rfl (by omega)|exact Zwa rfl rfl rfl rfl rfl rfl|refine Zv9 rfl rfl rfl ?_|refine And.intro ?_ ?_);done))
   |refine Zsw ?_
   |refine WC.region ?_
   |refine Ztw ?_
   |refine Zt9 ?_
   |refine Zui ?_
   |refine Zun ?_
  exact k.out):G:=h ⟨k⟩
theorem Qz{G G':Prop}(k:G')(h:Held G'→G:=by
  intro k
  repeat first
   |refine Zu3 rfl rfl rfl rfl ?_
   |refine Zu5 rfl rfl rfl (by omega) ?_
   |refine Zvc rfl rfl rfl rfl Z (by(repeat first|with_reducible exact Fd.h rfl|with_reducible apply Fd.t|(apply Fd.c rfl));done) (by exact rfl) ?_
   |refine Zvb rfl rfl rfl Z (by(repeat first|with_reducible exact Fd.h rfl|with_reducible apply Fd.t|(apply Fd.c rfl));done) (by exact rfl) ?_
   |refine Zu6 rfl rfl rfl (by omega) ?_
   |refine Zu7 rfl rfl rfl (by omega) ?_
   |refine Zu9 rfl rfl rfl (by with_reducible rfl) ?_
   |refine Zva rfl rfl rfl (by with_reducible rfl) ?_
   |refine Zu8 rfl rfl rfl (by with_reducible rfl) ?_
   |refine Zu4 rfl rfl rfl rfl ?_
   |refine Zvd rfl rfl rfl (by with_reducible rfl) ?_
   |refine Zuh (c:=true) rfl rfl rfl rfl (by with_reducible rfl) rfl ?_
   |refine Zuh (c:=false) rfl rfl rfl rfl (by with_reducible rfl) rfl ?_
  exact k.out):G:=h ⟨k⟩
theorem Qd{G:Prop}{G':World→Prop}(k:∀w',St g L w'→G' w')(h:(∀w',St g L w'→Held (G' w'))→G:=by
  intro k
  repeat first
   |refine Zu3 rfl rfl rfl rfl ?_
   |refine Zu5 rfl rfl rfl (by omega) ?_
   |refine Zvc rfl rfl rfl rfl Z (by(repeat first|with_reducible exact Fd.h rfl|with_reducible apply Fd.t|(apply Fd.c rfl));done) (by exact rfl) ?_
   |refine Zvb rfl rfl rfl Z (by(repeat first|with_reducible exact Fd.h rfl|with_reducible apply Fd.t|(apply Fd.c rfl));done) (by exact rfl) ?_
   |refine Zu6 rfl rfl rfl (by omega) ?_
   |refine Zu7 rfl rfl rfl (by omega) ?_
   |refine Zu9 rfl rfl rfl (by with_reducible rfl) ?_
   |refine Zva rfl rfl rfl (by with_reducible rfl) ?_
   |refine Zu8 rfl rfl rfl (by with_reducible rfl) ?_
   |refine Zu4 rfl rfl rfl rfl ?_
   |refine Zvd rfl rfl rfl (by with_reducible rfl) ?_
   |refine Zuh (c:=true) rfl rfl rfl rfl (by with_reducible rfl) rfl ?_
   |refine Zuh (c:=false) rfl rfl rfl rfl (by with_reducible rfl) rfl ?_
  first
   |exact WQ.dn (by assumption) (fun w Z=>Sz (k w Z).out)
   |exact St.dn (by assumption) (fun w Z=>Sz (k w Z).out)
   |exact Zta (St.dn (by assumption) (fun w Z=>Sz (k w Z).out))):G:=h (fun w Z=>⟨k w Z⟩)
theorem Qe{G:Prop}{G':World→Prop}(k:∀w',St g L w'→G' w')(h:(∀w',St g L w'→Held (G' w'))→G:=by
  intro k
  repeat first
   |refine Zu3 rfl rfl rfl rfl ?_
   |refine Zu5 rfl rfl rfl (by omega) ?_
   |refine Zvc rfl rfl rfl rfl Z (by(repeat first|with_reducible exact Fd.h rfl|with_reducible apply Fd.t|(apply Fd.c rfl));done) (by exact rfl) ?_
   |refine Zvb rfl rfl rfl Z (by(repeat first|with_reducible exact Fd.h rfl|with_reducible apply Fd.t|(apply Fd.c rfl));done) (by exact rfl) ?_
   |refine Zu6 rfl rfl rfl (by omega) ?_
   |refine Zu7 rfl rfl rfl (by omega) ?_
   |refine Zu9 rfl rfl rfl (by with_reducible rfl) ?_
   |refine Zva rfl rfl rfl (by with_reducible rfl) ?_
   |refine Zu8 rfl rfl rfl (by with_reducible rfl) ?_
   |refine Zu4 rfl rfl rfl rfl ?_
   |refine Zvd rfl rfl rfl (by with_reducible rfl) ?_
   |refine Zuh (c:=true) rfl rfl rfl rfl (by with_reducible rfl) rfl ?_
   |refine Zuh (c:=false) rfl rfl rfl rfl (by with_reducible rfl) rfl ?_
  first
   |exact WQ.dn (by assumption) (fun w Z=>(k w Z).out)
   |exact St.dn (by assumption) (fun w Z=>(k w Z).out)
   |exact Zta (St.dn (by assumption) (fun w Z=>(k w Z).out))):G:=h (fun w Z=>⟨k w Z⟩)
theorem Sy{G G':Prop}(k:G')(h:Held G'→G:=by
  intro k
  repeat first
   |refine Zs9 ?_
   |refine Zuw rfl rfl rfl rfl ?_
   |with_reducible refine Zsw ?_
   |with_reducible refine WC.region ?_
   |with_reducible refine Ztw ?_
   |with_reducible refine Zt9 ?_
   |with_reducible refine Zui ?_
   |with_reducible refine Zvj ?_
   |with_reducible refine Zun ?_
   |with_reducible refine sq.a ?_
   |with_reducible refine bl.a ?_
   |with_reducible refine sq.x ?_
   |with_reducible refine bl.e ?_
   |refine bl.x rfl ?_
   |with_reducible refine sq.r ?_
   |with_reducible refine bl.r ?_
   |refine Zud rfl (by first|with_reducible rfl|decide) ?_
   |refine Zs8 rfl (by first|with_reducible rfl|decide) ?_
   |with_reducible refine fin.t rfl ?_
   |with_reducible refine fin.u rfl ?_
   |refine fin.c (by(repeat first|exact rs.o|apply rs.t rfl|apply rs.c rfl Z (by(repeat first|with_reducible exact Fd.h rfl|with_reducible apply Fd.t|(apply Fd.c rfl));done) (by exact rfl));done) ?_
   |refine Zu2 rfl rfl rfl rfl Z (by(repeat first|with_reducible exact Fd.h rfl|with_reducible apply Fd.t|(apply Fd.c rfl));done) (by exact rfl) ?_
   |refine Zu0 rfl rfl rfl Z (by(repeat first|with_reducible exact Fd.h rfl|with_reducible apply Fd.t|(apply Fd.c rfl));done) (by exact rfl) ?_
   |refine Zuy rfl rfl rfl (by with_reducible rfl) ?_
   |refine Zuz rfl rfl rfl (by with_reducible rfl) ?_
   |refine Zu1 rfl rfl rfl (by with_reducible rfl) ?_
   |refine Zug (c:=true) rfl rfl rfl rfl (by with_reducible rfl) rfl ?_
   |refine Zug (c:=false) rfl rfl rfl rfl (by with_reducible rfl) rfl ?_
   |refine Zsw ?_
   |refine WC.region ?_
   |refine Ztw ?_
   |refine Zt9 ?_
   |refine Zui ?_
   |refine Zun ?_
  exact k.out):G:=h ⟨k⟩
theorem Sx{G G':Prop}(k:G')(h:Held G'→G:=by
  intro k
  repeat first
   |refine Zuw rfl rfl rfl rfl ?_
   |refine Zt3 rfl rfl rfl (by omega) ?_
   |refine Zu2 rfl rfl rfl rfl Z (by(repeat first|with_reducible exact Fd.h rfl|with_reducible apply Fd.t|(apply Fd.c rfl));done) (by exact rfl) ?_
   |refine Zu0 rfl rfl rfl Z (by(repeat first|with_reducible exact Fd.h rfl|with_reducible apply Fd.t|(apply Fd.c rfl));done) (by exact rfl) ?_
   |refine Zur rfl rfl rfl (by omega) ?_
   |refine Zux rfl rfl rfl (by omega) ?_
   |refine Zuy rfl rfl rfl (by with_reducible rfl) ?_
   |refine Zuz rfl rfl rfl (by with_reducible rfl) ?_
   |refine Zvu rfl rfl rfl (by with_reducible rfl) ?_
   |refine Zvt rfl rfl rfl rfl ?_
   |refine Zu1 rfl rfl rfl (by with_reducible rfl) ?_
   |refine Zug (c:=true) rfl rfl rfl rfl (by with_reducible rfl) rfl ?_
   |refine Zug (c:=false) rfl rfl rfl rfl (by with_reducible rfl) rfl ?_
  exact k.out):G:=h ⟨k⟩
theorem Sp.en {f : FuncId} {fn : Func} {c : Code} {vs : List Value} {Ψ : Value → World → Prop} {G' : Prop} (hf : P.funcs[f]? = some fn) (k : G') (hb : fn.body = some c := by exact rfl) (hnm : (fn.name == "runtime.NumGoroutine") = false := by kernel_rfl)
  (hok : (V6 fn.ntmps c && okR fn.ntmps fn.results.toList && Nat.ble vs.length fn.ntmps) = true := by kernel_rfl) (hz : Held G' → WC P fn.ntmps c (fin P fn.results.toList Ψ) (fr0 vs) w := by intro k; exact Sz k.out) : Sp P f vs w Ψ := Sp.enter hf hb hnm hok (hz ⟨k⟩)
theorem Zsi{c:Operand}{x y:Code}{p:Prop}{i:Decidable p}{G1 G0:Prop}(h1:p→G1)(h0:¬p→G0)(hc:ev F c=.bool (@decide p i):=by exact rfl)(z1:p→Held G1→WC P n x Q F w:=by intro _ k;exact Sz k.out)(z0:¬p→Held G0→WC P n y Q F w:=by intro _ k;exact Sz k.out):WC P n (.cond c x y) Q F w :=
 Zsr hc (fun h=>z1 h ⟨h1 h⟩) (fun h=>z0 h ⟨h0 h⟩)
theorem Ztl{c:Operand}{x y:Code}{b:Bool}{G1 G0:Prop}(h1:b=true→G1)(h0:b=false→G0)(hc:ev F c=.bool b:=by exact rfl)(z1:b=true→Held G1→WC P n x Q F w:=by intro _ k;exact Sz k.out)(z0:b=false→Held G0→WC P n y Q F w:=by intro _ k;exact Sz k.out):WC P n (.cond c x y) Q F w :=
 Ztm hc (fun h=>z1 h ⟨h1 h⟩) (fun h=>z0 h ⟨h0 h⟩)
theorem Zs0{c:Operand}{x y:Code}{b:Bool}{G':Prop}(hc:ev F c=.bool b)(hb:b=true)(k:G')(z:Held G'→WC P n x Q F w:=by intro k;exact Sz k.out):WC P n (.cond c x y) Q F w:=Zud hc hb (z ⟨k⟩)
theorem Zsm{c:Operand}{x y:Code}{b:Bool}{G':Prop}(hc:ev F c=.bool b)(hb:b=false)(k:G')(z:Held G'→WC P n y Q F w:=by intro k;exact Sz k.out):WC P n (.cond c x y) Q F w:=Zs8 hc hb (z ⟨k⟩)
theorem Zsk{o:Oper}{t d:Nat}{cs:List Value}{G':Nat→World→Prop}[hZ:ZvC P t cs](hk:∀b w',St g (Zq b cs.toArray t::L) w'→G' b w')(hg:o.guard=none:=by exact rfl)(hd:o.dst=some d:=by exact rfl)(ho:o.op=.alloc t:=by exact rfl)(Z:St g L w:=by assumption)(hz:∀b w',St g (Zq b cs.toArray t::L) w'→Held (G' b w')→WL P n os l K (upd F d (.pointer (some ⟨b,0,none⟩))) w':=by intro b w Z k;exact Sz k.out):WL P n os (o::l) K F w :=
 Zua hg ho hZ.h Z (fun b w' h=>by rw[hd];exact hz b w' h ⟨hk b w' h⟩)
theorem Zsp{o:Oper}{t d:Nat}{x:Operand}{v:Value}{cs:List Value}{G':Nat→World→Prop}(hk:∀b w',St g (Zq b cs.toArray t::L) w'→G' b w')(hg:o.guard=none:=by exact rfl)(hd:o.dst=some d:=by exact rfl)(ho:o.op=.box t x:=by exact rfl)(hv:ev F x=v:=by exact rfl)(hc:Zay v=some cs:=by exact rfl)(Z:St g L w:=by assumption)(hz:∀b w',St g (Zq b cs.toArray t::L) w'→Held (G' b w')→WL P n os l K (upd F d (.pointer (some ⟨b,0,none⟩))) w':=by intro b w Z k;exact Sz k.out):WL P n os (o::l) K F w :=
 Zub hg ho cs.toArray Z hv (by
  cases v with
  |agg cs=>obtain⟨l⟩:=cs;simp only[Zay,Option.some.injEq] at hc;subst hc;rfl
  |_=>simp only[Zay,frc,Option.some.injEq] at hc;subst hc;rfl) (fun b w' h=>by rw[hd];exact hz b w' h ⟨hk b w' h⟩)
theorem Zss{o:Oper}{t:TypeId}{b off:Nat}{cs ds:List Value}{v:Value}{L':List HP}{G':World→Prop}(hk:∀w',St g L' w'→G' w')(ho:IsSt o t F b off v:=by exact⟨⟨_,_,rfl,rfl,rfl,rfl,rfl⟩⟩)(Z:St g L w:=by assumption)(hf:Fd L b cs:=by repeat first|with_reducible exact Fd.h rfl|with_reducible apply Fd.t|(apply Fd.c rfl))(hc:Za2 cs off v=some ds:=by exact rfl)(hr:Rp L b cs ds L':=by repeat first|with_reducible exact Rp.h rfl|with_reducible apply Rp.t|(apply Rp.c rfl))(h1:v.oneCell'=true:=by exact rfl)(ht:mem T.ones t=true:=by exact rfl)(hz:∀w',St g L' w'→Held (G' w')→WL P n os l K F w':=by intro w Z k;exact Sz k.out):WL P n os (o::l) K F w:=by
 obtain⟨x,y,hg,hd,ho,hx,hv0⟩:=ho.ex
 have hv:=Option.some.inj ((JM _).symm.trans hv0)
 have _:=hf
 obtain⟨i,t',hi,rfl⟩:=hr
 obtain⟨h2,h3⟩:=D3 hc
 refine Zuo hg hd ho i Z (by rw[←ZU,hi]) hx hv h1 (YX.2 (by simpa using h2)) ht fun w' h=>?_
 have h':St g (L.set i (Zq b ds.toArray t')) w':=by rw[h3];simpa using h
 exact hz w' h' ⟨hk w' h'⟩
theorem Zsh{o:Oper}{t:TypeId}{b m:Nat}{cs ds:List Value}{L':List HP}{G':World→Prop}[hA:AgC P t m](hk:∀w',St g L' w'→G' w')(ho:IsSt o t F b 0 (.agg ds.toArray):=by exact⟨⟨_,_,rfl,rfl,rfl,rfl,rfl⟩⟩)(Z:St g L w:=by assumption)(hr:Rp L b cs ds L':=by repeat first|with_reducible exact Rp.h rfl|with_reducible apply Rp.t|(apply Rp.c rfl))(hm:ds.length=m:=by exact rfl)(hm':cs.length=m:=by exact rfl)(h1:ds.all (·.oneCell')=true:=by exact rfl)(hz:∀w',St g L' w'→Held (G' w')→WL P n os l K F w':=by intro w Z k;exact Sz k.out):WL P n os (o::l) K F w:=by
 obtain⟨x,y,hg,hd,ho,hx,hv0⟩:=ho.ex
 have hv:=Option.some.inj ((JM _).symm.trans hv0)
 obtain⟨i,t',hi,rfl⟩:=hr
 exact Ztz hg hd ho i Z (by rw[←ZU,hi]) hx hv (by simpa using h1) (by simp[hm,hm']) (by simpa[hm] using hA.h) (fun w' h=>hz w' h ⟨hk w' h⟩)
theorem Zsg{id:Nat}(st:Stp)(h:PL P n os (Q .nrm) st F w)(hm:P.follows .mixedOrders=true:=by kernel_rfl)(hB:Plan.check os.toArray st=true:=by kernel_rfl):WC P n (.region id os.toArray true) Q F w:=Zv1 st hm hB h
theorem Zto{id:Nat}(st:Plan.Tr)(h:PT P n os (Q .nrm) st F w)(hm:P.follows .mixedOrders=true:=by kernel_rfl)(hB:Plan.checkT os.toArray st=true:=by kernel_rfl):WC P n (.region id os.toArray true) Q F w:=Zv2 st hm hB h
structure IsCall(o:Oper)(f:FuncId)(F:Fm)(xs:List Operand)(ts:Array TypeId)(vs:List Value)(d:Option Nat):Prop where
 hg:o.guard=none
 ho:o.op=.call { callee:=.value (.func f),args:=xs.toArray,argTypes:=ts }
 hd:o.dst=d
 hv:evs F xs=vs
variable{o:Oper}{f:FuncId}{xs:List Operand}{ts:Array TypeId}{vs:List Value}{d:Nat}{α0 α1 α2 α3 α4 α5:Type}
theorem Ztg{v:Value}{L1 L2:List HP}(hs:Sp P f vs w fun u w'=>u=v∧St g L1 w')(hk:∀(w:World),St g L2 w→WL P n os l K (upd F d v) w)(ho:IsCall o f F xs ts vs (some d):=by exact⟨rfl,rfl,rfl,rfl⟩)(e:NL L1 L2:=by(repeat apply NL.c rfl);exact NL.n):WL P n os (o::l) K F w:=Zte ho.hg ho.ho hs ho.hv (by rintro _ w' ⟨rfl,h⟩;rw[ho.hd];exact hk w' (e▸h))
theorem Zse{v:Value}{L1 L2:List HP}{G':World→Prop}(hs:Sp P f vs w fun u w'=>u=v∧St g L1 w')(hk:∀(w:World),St g L2 w→G' w)(ho:IsCall o f F xs ts vs (some d):=by exact⟨rfl,rfl,rfl,rfl⟩)(e:NL L1 L2:=by(repeat apply NL.c rfl);exact NL.n)(hz:∀(w:World),St g L2 w→Held (G' w)→WL P n os l K (upd F d v) w:=by intro w Z k;exact Sz k.out):WL P n os (o::l) K F w:=Ztg hs (fun w h=>hz w h ⟨hk w h⟩) ho e
theorem Zwh{v:Value}{L1 L2:List HP}{R:Prop}(hs:Sp P f vs w fun u w'=>u=v∧St g L1 w'∧R)(hk:∀(w:World),St g L2 w→R→WL P n os l K (upd F d v) w)(ho:IsCall o f F xs ts vs (some d):=by exact⟨rfl,rfl,rfl,rfl⟩)(e:NL L1 L2:=by(repeat apply NL.c rfl);exact NL.n):WL P n os (o::l) K F w:=Zte ho.hg ho.ho hs ho.hv (by rintro _ w' ⟨rfl,h,r⟩;rw[ho.hd];exact hk w' (e▸h) r)
theorem Zus{v:Value}{L1 L2:List HP}{R:Prop}{G':World→Prop}(hs:Sp P f vs w fun u w'=>u=v∧St g L1 w'∧R)(hk:∀(w:World),St g L2 w→R→G' w)(ho:IsCall o f F xs ts vs (some d):=by exact⟨rfl,rfl,rfl,rfl⟩)(e:NL L1 L2:=by(repeat apply NL.c rfl);exact NL.n)(hz:∀(w:World),St g L2 w→R→Held (G' w)→WL P n os l K (upd F d v) w:=by intro w Z _ k;exact Sz k.out):WL P n os (o::l) K F w:=Zwh hs (fun w h r=>hz w h r ⟨hk w h r⟩) ho e
theorem Zve{v:α0→Value}{L1 L2:α0→List HP}(hs:Sp P f vs w fun u w'=>∃(x0:α0),u=v x0∧St g (L1 x0) w')(hk:∀(w:World)(x0:α0),St g (L2 x0) w→WL P n os l K (upd F d (v x0)) w)(ho:IsCall o f F xs ts vs (some d):=by exact⟨rfl,rfl,rfl,rfl⟩)(e:∀(x0:α0),NL (L1 x0) (L2 x0):=by intro _;(repeat apply NL.c rfl);exact NL.n):WL P n os (o::l) K F w:=Zte ho.hg ho.ho hs ho.hv (by rintro _ w' ⟨x0,rfl,h⟩;rw[ho.hd];exact hk w' x0 (e x0▸h))
theorem Zt7{v:α0→Value}{L1 L2:α0→List HP}{G':World→α0→Prop}(hs:Sp P f vs w fun u w'=>∃(x0:α0),u=v x0∧St g (L1 x0) w')(hk:∀(w:World)(x0:α0),St g (L2 x0) w→G' w x0)(ho:IsCall o f F xs ts vs (some d):=by exact⟨rfl,rfl,rfl,rfl⟩)(e:∀(x0:α0),NL (L1 x0) (L2 x0):=by intro _;(repeat apply NL.c rfl);exact NL.n)(hz:∀(w:World)(x0:α0),St g (L2 x0) w→Held (G' w x0)→WL P n os l K (upd F d (v x0)) w:=by intro w _ Z k;exact Sz k.out):WL P n os (o::l) K F w:=Zve hs (fun w x0 h=>hz w x0 h ⟨hk w x0 h⟩) ho e
theorem Zt8{v:α0→Value}{L1 L2:α0→List HP}{R:α0→Prop}(hs:Sp P f vs w fun u w'=>∃(x0:α0),u=v x0∧St g (L1 x0) w'∧R x0)(hk:∀(w:World)(x0:α0),St g (L2 x0) w→R x0→WL P n os l K (upd F d (v x0)) w)(ho:IsCall o f F xs ts vs (some d):=by exact⟨rfl,rfl,rfl,rfl⟩)(e:∀(x0:α0),NL (L1 x0) (L2 x0):=by intro _;(repeat apply NL.c rfl);exact NL.n):WL P n os (o::l) K F w:=Zte ho.hg ho.ho hs ho.hv (by rintro _ w' ⟨x0,rfl,h,r⟩;rw[ho.hd];exact hk w' x0 (e x0▸h) r)
theorem Zsy{v:α0→Value}{L1 L2:α0→List HP}{R:α0→Prop}{G':World→α0→Prop}(hs:Sp P f vs w fun u w'=>∃(x0:α0),u=v x0∧St g (L1 x0) w'∧R x0)(hk:∀(w:World)(x0:α0),St g (L2 x0) w→R x0→G' w x0)(ho:IsCall o f F xs ts vs (some d):=by exact⟨rfl,rfl,rfl,rfl⟩)(e:∀(x0:α0),NL (L1 x0) (L2 x0):=by intro _;(repeat apply NL.c rfl);exact NL.n)(hz:∀(w:World)(x0:α0),St g (L2 x0) w→R x0→Held (G' w x0)→WL P n os l K (upd F d (v x0)) w:=by intro w _ Z _ k;exact Sz k.out):WL P n os (o::l) K F w:=Zt8 hs (fun w x0 h r=>hz w x0 h r ⟨hk w x0 h r⟩) ho e
theorem Zvf{v:α0→α1→Value}{L1 L2:α0→α1→List HP}(hs:Sp P f vs w fun u w'=>∃(x0:α0)(x1:α1),u=v x0 x1∧St g (L1 x0 x1) w')(hk:∀(w:World)(x0:α0)(x1:α1),St g (L2 x0 x1) w→WL P n os l K (upd F d (v x0 x1)) w)(ho:IsCall o f F xs ts vs (some d):=by exact⟨rfl,rfl,rfl,rfl⟩)(e:∀(x0:α0)(x1:α1),NL (L1 x0 x1) (L2 x0 x1):=by intro _ _;(repeat apply NL.c rfl);exact NL.n):WL P n os (o::l) K F w:=Zte ho.hg ho.ho hs ho.hv (by rintro _ w' ⟨x0,x1,rfl,h⟩;rw[ho.hd];exact hk w' x0 x1 (e x0 x1▸h))
theorem Zsz{v:α0→α1→Value}{L1 L2:α0→α1→List HP}{G':World→α0→α1→Prop}(hs:Sp P f vs w fun u w'=>∃(x0:α0)(x1:α1),u=v x0 x1∧St g (L1 x0 x1) w')(hk:∀(w:World)(x0:α0)(x1:α1),St g (L2 x0 x1) w→G' w x0 x1)(ho:IsCall o f F xs ts vs (some d):=by exact⟨rfl,rfl,rfl,rfl⟩)(e:∀(x0:α0)(x1:α1),NL (L1 x0 x1) (L2 x0 x1):=by intro _ _;(repeat apply NL.c rfl);exact NL.n)(hz:∀(w:World)(x0:α0)(x1:α1),St g (L2 x0 x1) w→Held (G' w x0 x1)→WL P n os l K (upd F d (v x0 x1)) w:=by intro w _ _ Z k;exact Sz k.out):WL P n os (o::l) K F w:=Zvf hs (fun w x0 x1 h=>hz w x0 x1 h ⟨hk w x0 x1 h⟩) ho e
theorem Zuk{v:α0→α1→Value}{L1 L2:α0→α1→List HP}{R:α0→α1→Prop}(hs:Sp P f vs w fun u w'=>∃(x0:α0)(x1:α1),u=v x0 x1∧St g (L1 x0 x1) w'∧R x0 x1)(hk:∀(w:World)(x0:α0)(x1:α1),St g (L2 x0 x1) w→R x0 x1→WL P n os l K (upd F d (v x0 x1)) w)(ho:IsCall o f F xs ts vs (some d):=by exact⟨rfl,rfl,rfl,rfl⟩)(e:∀(x0:α0)(x1:α1),NL (L1 x0 x1) (L2 x0 x1):=by intro _ _;(repeat apply NL.c rfl);exact NL.n):WL P n os (o::l) K F w:=Zte ho.hg ho.ho hs ho.hv (by rintro _ w' ⟨x0,x1,rfl,h,r⟩;rw[ho.hd];exact hk w' x0 x1 (e x0 x1▸h) r)
theorem Zs2{v:α0→α1→Value}{L1 L2:α0→α1→List HP}{R:α0→α1→Prop}{G':World→α0→α1→Prop}(hs:Sp P f vs w fun u w'=>∃(x0:α0)(x1:α1),u=v x0 x1∧St g (L1 x0 x1) w'∧R x0 x1)(hk:∀(w:World)(x0:α0)(x1:α1),St g (L2 x0 x1) w→R x0 x1→G' w x0 x1)(ho:IsCall o f F xs ts vs (some d):=by exact⟨rfl,rfl,rfl,rfl⟩)(e:∀(x0:α0)(x1:α1),NL (L1 x0 x1) (L2 x0 x1):=by intro _ _;(repeat apply NL.c rfl);exact NL.n)(hz:∀(w:World)(x0:α0)(x1:α1),St g (L2 x0 x1) w→R x0 x1→Held (G' w x0 x1)→WL P n os l K (upd F d (v x0 x1)) w:=by intro w _ _ Z _ k;exact Sz k.out):WL P n os (o::l) K F w:=Zuk hs (fun w x0 x1 h r=>hz w x0 x1 h r ⟨hk w x0 x1 h r⟩) ho e
theorem Zwi{v:α0→α1→α2→Value}{L1 L2:α0→α1→α2→List HP}(hs:Sp P f vs w fun u w'=>∃(x0:α0)(x1:α1)(x2:α2),u=v x0 x1 x2∧St g (L1 x0 x1 x2) w')(hk:∀(w:World)(x0:α0)(x1:α1)(x2:α2),St g (L2 x0 x1 x2) w→WL P n os l K (upd F d (v x0 x1 x2)) w)(ho:IsCall o f F xs ts vs (some d):=by exact⟨rfl,rfl,rfl,rfl⟩)(e:∀(x0:α0)(x1:α1)(x2:α2),NL (L1 x0 x1 x2) (L2 x0 x1 x2):=by intro _ _ _;(repeat apply NL.c rfl);exact NL.n):WL P n os (o::l) K F w:=Zte ho.hg ho.ho hs ho.hv (by rintro _ w' ⟨x0,x1,x2,rfl,h⟩;rw[ho.hd];exact hk w' x0 x1 x2 (e x0 x1 x2▸h))
theorem Zwj{v:α0→α1→α2→Value}{L1 L2:α0→α1→α2→List HP}{G':World→α0→α1→α2→Prop}(hs:Sp P f vs w fun u w'=>∃(x0:α0)(x1:α1)(x2:α2),u=v x0 x1 x2∧St g (L1 x0 x1 x2) w')(hk:∀(w:World)(x0:α0)(x1:α1)(x2:α2),St g (L2 x0 x1 x2) w→G' w x0 x1 x2)(ho:IsCall o f F xs ts vs (some d):=by exact⟨rfl,rfl,rfl,rfl⟩)(e:∀(x0:α0)(x1:α1)(x2:α2),NL (L1 x0 x1 x2) (L2 x0 x1 x2):=by intro _ _ _;(repeat apply NL.c rfl);exact NL.n)(hz:∀(w:World)(x0:α0)(x1:α1)(x2:α2),St g (L2 x0 x1 x2) w→Held (G' w x0 x1 x2)→WL P n os l K (upd F d (v x0 x1 x2)) w:=by intro w _ _ _ Z k;exact Sz k.out):WL P n os (o::l) K F w:=Zwi hs (fun w x0 x1 x2 h=>hz w x0 x1 x2 h ⟨hk w x0 x1 x2 h⟩) ho e
theorem Zul{v:α0→α1→α2→Value}{L1 L2:α0→α1→α2→List HP}{R:α0→α1→α2→Prop}(hs:Sp P f vs w fun u w'=>∃(x0:α0)(x1:α1)(x2:α2),u=v x0 x1 x2∧St g (L1 x0 x1 x2) w'∧R x0 x1 x2)(hk:∀(w:World)(x0:α0)(x1:α1)(x2:α2),St g (L2 x0 x1 x2) w→R x0 x1 x2→WL P n os l K (upd F d (v x0 x1 x2)) w)(ho:IsCall o f F xs ts vs (some d):=by exact⟨rfl,rfl,rfl,rfl⟩)(e:∀(x0:α0)(x1:α1)(x2:α2),NL (L1 x0 x1 x2) (L2 x0 x1 x2):=by intro _ _ _;(repeat apply NL.c rfl);exact NL.n):WL P n os (o::l) K F w:=Zte ho.hg ho.ho hs ho.hv (by rintro _ w' ⟨x0,x1,x2,rfl,h,r⟩;rw[ho.hd];exact hk w' x0 x1 x2 (e x0 x1 x2▸h) r)
theorem Ztk{v:α0→α1→α2→Value}{L1 L2:α0→α1→α2→List HP}{R:α0→α1→α2→Prop}{G':World→α0→α1→α2→Prop}(hs:Sp P f vs w fun u w'=>∃(x0:α0)(x1:α1)(x2:α2),u=v x0 x1 x2∧St g (L1 x0 x1 x2) w'∧R x0 x1 x2)(hk:∀(w:World)(x0:α0)(x1:α1)(x2:α2),St g (L2 x0 x1 x2) w→R x0 x1 x2→G' w x0 x1 x2)(ho:IsCall o f F xs ts vs (some d):=by exact⟨rfl,rfl,rfl,rfl⟩)(e:∀(x0:α0)(x1:α1)(x2:α2),NL (L1 x0 x1 x2) (L2 x0 x1 x2):=by intro _ _ _;(repeat apply NL.c rfl);exact NL.n)(hz:∀(w:World)(x0:α0)(x1:α1)(x2:α2),St g (L2 x0 x1 x2) w→R x0 x1 x2→Held (G' w x0 x1 x2)→WL P n os l K (upd F d (v x0 x1 x2)) w:=by intro w _ _ _ Z _ k;exact Sz k.out):WL P n os (o::l) K F w:=Zul hs (fun w x0 x1 x2 h r=>hz w x0 x1 x2 h r ⟨hk w x0 x1 x2 h r⟩) ho e
theorem Zvv{v:α0→α1→α2→α3→Value}{L1 L2:α0→α1→α2→α3→List HP}(hs:Sp P f vs w fun u w'=>∃(x0:α0)(x1:α1)(x2:α2)(x3:α3),u=v x0 x1 x2 x3∧St g (L1 x0 x1 x2 x3) w')(hk:∀(w:World)(x0:α0)(x1:α1)(x2:α2)(x3:α3),St g (L2 x0 x1 x2 x3) w→WL P n os l K (upd F d (v x0 x1 x2 x3)) w)(ho:IsCall o f F xs ts vs (some d):=by exact⟨rfl,rfl,rfl,rfl⟩)(e:∀(x0:α0)(x1:α1)(x2:α2)(x3:α3),NL (L1 x0 x1 x2 x3) (L2 x0 x1 x2 x3):=by intro _ _ _ _;(repeat apply NL.c rfl);exact NL.n):WL P n os (o::l) K F w:=Zte ho.hg ho.ho hs ho.hv (by rintro _ w' ⟨x0,x1,x2,x3,rfl,h⟩;rw[ho.hd];exact hk w' x0 x1 x2 x3 (e x0 x1 x2 x3▸h))
theorem Zvg{v:α0→α1→α2→α3→Value}{L1 L2:α0→α1→α2→α3→List HP}{G':World→α0→α1→α2→α3→Prop}(hs:Sp P f vs w fun u w'=>∃(x0:α0)(x1:α1)(x2:α2)(x3:α3),u=v x0 x1 x2 x3∧St g (L1 x0 x1 x2 x3) w')(hk:∀(w:World)(x0:α0)(x1:α1)(x2:α2)(x3:α3),St g (L2 x0 x1 x2 x3) w→G' w x0 x1 x2 x3)(ho:IsCall o f F xs ts vs (some d):=by exact⟨rfl,rfl,rfl,rfl⟩)(e:∀(x0:α0)(x1:α1)(x2:α2)(x3:α3),NL (L1 x0 x1 x2 x3) (L2 x0 x1 x2 x3):=by intro _ _ _ _;(repeat apply NL.c rfl);exact NL.n)(hz:∀(w:World)(x0:α0)(x1:α1)(x2:α2)(x3:α3),St g (L2 x0 x1 x2 x3) w→Held (G' w x0 x1 x2 x3)→WL P n os l K (upd F d (v x0 x1 x2 x3)) w:=by intro w _ _ _ _ Z k;exact Sz k.out):WL P n os (o::l) K F w:=Zvv hs (fun w x0 x1 x2 x3 h=>hz w x0 x1 x2 x3 h ⟨hk w x0 x1 x2 x3 h⟩) ho e
theorem Zwk{v:α0→α1→α2→α3→Value}{L1 L2:α0→α1→α2→α3→List HP}{R:α0→α1→α2→α3→Prop}(hs:Sp P f vs w fun u w'=>∃(x0:α0)(x1:α1)(x2:α2)(x3:α3),u=v x0 x1 x2 x3∧St g (L1 x0 x1 x2 x3) w'∧R x0 x1 x2 x3)(hk:∀(w:World)(x0:α0)(x1:α1)(x2:α2)(x3:α3),St g (L2 x0 x1 x2 x3) w→R x0 x1 x2 x3→WL P n os l K (upd F d (v x0 x1 x2 x3)) w)(ho:IsCall o f F xs ts vs (some d):=by exact⟨rfl,rfl,rfl,rfl⟩)(e:∀(x0:α0)(x1:α1)(x2:α2)(x3:α3),NL (L1 x0 x1 x2 x3) (L2 x0 x1 x2 x3):=by intro _ _ _ _;(repeat apply NL.c rfl);exact NL.n):WL P n os (o::l) K F w:=Zte ho.hg ho.ho hs ho.hv (by rintro _ w' ⟨x0,x1,x2,x3,rfl,h,r⟩;rw[ho.hd];exact hk w' x0 x1 x2 x3 (e x0 x1 x2 x3▸h) r)
theorem Ztp{v:α0→α1→α2→α3→Value}{L1 L2:α0→α1→α2→α3→List HP}{R:α0→α1→α2→α3→Prop}{G':World→α0→α1→α2→α3→Prop}(hs:Sp P f vs w fun u w'=>∃(x0:α0)(x1:α1)(x2:α2)(x3:α3),u=v x0 x1 x2 x3∧St g (L1 x0 x1 x2 x3) w'∧R x0 x1 x2 x3)(hk:∀(w:World)(x0:α0)(x1:α1)(x2:α2)(x3:α3),St g (L2 x0 x1 x2 x3) w→R x0 x1 x2 x3→G' w x0 x1 x2 x3)(ho:IsCall o f F xs ts vs (some d):=by exact⟨rfl,rfl,rfl,rfl⟩)(e:∀(x0:α0)(x1:α1)(x2:α2)(x3:α3),NL (L1 x0 x1 x2 x3) (L2 x0 x1 x2 x3):=by intro _ _ _ _;(repeat apply NL.c rfl);exact NL.n)(hz:∀(w:World)(x0:α0)(x1:α1)(x2:α2)(x3:α3),St g (L2 x0 x1 x2 x3) w→R x0 x1 x2 x3→Held (G' w x0 x1 x2 x3)→WL P n os l K (upd F d (v x0 x1 x2 x3)) w:=by intro w _ _ _ _ Z _ k;exact Sz k.out):WL P n os (o::l) K F w:=Zwk hs (fun w x0 x1 x2 x3 h r=>hz w x0 x1 x2 x3 h r ⟨hk w x0 x1 x2 x3 h r⟩) ho e
theorem Zwl{v:α0→α1→α2→α3→α4→Value}{L1 L2:α0→α1→α2→α3→α4→List HP}(hs:Sp P f vs w fun u w'=>∃(x0:α0)(x1:α1)(x2:α2)(x3:α3)(x4:α4),u=v x0 x1 x2 x3 x4∧St g (L1 x0 x1 x2 x3 x4) w')(hk:∀(w:World)(x0:α0)(x1:α1)(x2:α2)(x3:α3)(x4:α4),St g (L2 x0 x1 x2 x3 x4) w→WL P n os l K (upd F d (v x0 x1 x2 x3 x4)) w)(ho:IsCall o f F xs ts vs (some d):=by exact⟨rfl,rfl,rfl,rfl⟩)(e:∀(x0:α0)(x1:α1)(x2:α2)(x3:α3)(x4:α4),NL (L1 x0 x1 x2 x3 x4) (L2 x0 x1 x2 x3 x4):=by intro _ _ _ _ _;(repeat apply NL.c rfl);exact NL.n):WL P n os (o::l) K F w:=Zte ho.hg ho.ho hs ho.hv (by rintro _ w' ⟨x0,x1,x2,x3,x4,rfl,h⟩;rw[ho.hd];exact hk w' x0 x1 x2 x3 x4 (e x0 x1 x2 x3 x4▸h))
theorem Zw8{v:α0→α1→α2→α3→α4→Value}{L1 L2:α0→α1→α2→α3→α4→List HP}{G':World→α0→α1→α2→α3→α4→Prop}(hs:Sp P f vs w fun u w'=>∃(x0:α0)(x1:α1)(x2:α2)(x3:α3)(x4:α4),u=v x0 x1 x2 x3 x4∧St g (L1 x0 x1 x2 x3 x4) w')(hk:∀(w:World)(x0:α0)(x1:α1)(x2:α2)(x3:α3)(x4:α4),St g (L2 x0 x1 x2 x3 x4) w→G' w x0 x1 x2 x3 x4)(ho:IsCall o f F xs ts vs (some d):=by exact⟨rfl,rfl,rfl,rfl⟩)(e:∀(x0:α0)(x1:α1)(x2:α2)(x3:α3)(x4:α4),NL (L1 x0 x1 x2 x3 x4) (L2 x0 x1 x2 x3 x4):=by intro _ _ _ _ _;(repeat apply NL.c rfl);exact NL.n)(hz:∀(w:World)(x0:α0)(x1:α1)(x2:α2)(x3:α3)(x4:α4),St g (L2 x0 x1 x2 x3 x4) w→Held (G' w x0 x1 x2 x3 x4)→WL P n os l K (upd F d (v x0 x1 x2 x3 x4)) w:=by intro w _ _ _ _ _ Z k;exact Sz k.out):WL P n os (o::l) K F w:=Zwl hs (fun w x0 x1 x2 x3 x4 h=>hz w x0 x1 x2 x3 x4 h ⟨hk w x0 x1 x2 x3 x4 h⟩) ho e
theorem Zwm{v:α0→α1→α2→α3→α4→α5→Value}{L1 L2:α0→α1→α2→α3→α4→α5→List HP}(hs:Sp P f vs w fun u w'=>∃(x0:α0)(x1:α1)(x2:α2)(x3:α3)(x4:α4)(x5:α5),u=v x0 x1 x2 x3 x4 x5∧St g (L1 x0 x1 x2 x3 x4 x5) w')(hk:∀(w:World)(x0:α0)(x1:α1)(x2:α2)(x3:α3)(x4:α4)(x5:α5),St g (L2 x0 x1 x2 x3 x4 x5) w→WL P n os l K (upd F d (v x0 x1 x2 x3 x4 x5)) w)(ho:IsCall o f F xs ts vs (some d):=by exact⟨rfl,rfl,rfl,rfl⟩)(e:∀(x0:α0)(x1:α1)(x2:α2)(x3:α3)(x4:α4)(x5:α5),NL (L1 x0 x1 x2 x3 x4 x5) (L2 x0 x1 x2 x3 x4 x5):=by intro _ _ _ _ _ _;(repeat apply NL.c rfl);exact NL.n):WL P n os (o::l) K F w:=Zte ho.hg ho.ho hs ho.hv (by rintro _ w' ⟨x0,x1,x2,x3,x4,x5,rfl,h⟩;rw[ho.hd];exact hk w' x0 x1 x2 x3 x4 x5 (e x0 x1 x2 x3 x4 x5▸h))
theorem Zum{v:α0→α1→α2→α3→α4→α5→Value}{L1 L2:α0→α1→α2→α3→α4→α5→List HP}{G':World→α0→α1→α2→α3→α4→α5→Prop}(hs:Sp P f vs w fun u w'=>∃(x0:α0)(x1:α1)(x2:α2)(x3:α3)(x4:α4)(x5:α5),u=v x0 x1 x2 x3 x4 x5∧St g (L1 x0 x1 x2 x3 x4 x5) w')(hk:∀(w:World)(x0:α0)(x1:α1)(x2:α2)(x3:α3)(x4:α4)(x5:α5),St g (L2 x0 x1 x2 x3 x4 x5) w→G' w x0 x1 x2 x3 x4 x5)(ho:IsCall o f F xs ts vs (some d):=by exact⟨rfl,rfl,rfl,rfl⟩)(e:∀(x0:α0)(x1:α1)(x2:α2)(x3:α3)(x4:α4)(x5:α5),NL (L1 x0 x1 x2 x3 x4 x5) (L2 x0 x1 x2 x3 x4 x5):=by intro _ _ _ _ _ _;(repeat apply NL.c rfl);exact NL.n)(hz:∀(w:World)(x0:α0)(x1:α1)(x2:α2)(x3:α3)(x4:α4)(x5:α5),St g (L2 x0 x1 x2 x3 x4 x5) w→Held (G' w x0 x1 x2 x3 x4 x5)→WL P n os l K (upd F d (v x0 x1 x2 x3 x4 x5)) w:=by intro w _ _ _ _ _ _ Z k;exact Sz k.out):WL P n os (o::l) K F w:=Zwm hs (fun w x0 x1 x2 x3 x4 x5 h=>hz w x0 x1 x2 x3 x4 x5 h ⟨hk w x0 x1 x2 x3 x4 x5 h⟩) ho e
theorem Zwn{v:α0→α1→α2→α3→α4→α5→Value}{L1 L2:α0→α1→α2→α3→α4→α5→List HP}{R:α0→α1→α2→α3→α4→α5→Prop}(hs:Sp P f vs w fun u w'=>∃(x0:α0)(x1:α1)(x2:α2)(x3:α3)(x4:α4)(x5:α5),u=v x0 x1 x2 x3 x4 x5∧St g (L1 x0 x1 x2 x3 x4 x5) w'∧R x0 x1 x2 x3 x4 x5)(hk:∀(w:World)(x0:α0)(x1:α1)(x2:α2)(x3:α3)(x4:α4)(x5:α5),St g (L2 x0 x1 x2 x3 x4 x5) w→R x0 x1 x2 x3 x4 x5→WL P n os l K (upd F d (v x0 x1 x2 x3 x4 x5)) w)(ho:IsCall o f F xs ts vs (some d):=by exact⟨rfl,rfl,rfl,rfl⟩)(e:∀(x0:α0)(x1:α1)(x2:α2)(x3:α3)(x4:α4)(x5:α5),NL (L1 x0 x1 x2 x3 x4 x5) (L2 x0 x1 x2 x3 x4 x5):=by intro _ _ _ _ _ _;(repeat apply NL.c rfl);exact NL.n):WL P n os (o::l) K F w:=Zte ho.hg ho.ho hs ho.hv (by rintro _ w' ⟨x0,x1,x2,x3,x4,x5,rfl,h,r⟩;rw[ho.hd];exact hk w' x0 x1 x2 x3 x4 x5 (e x0 x1 x2 x3 x4 x5▸h) r)
theorem Zvh{v:α0→α1→α2→α3→α4→α5→Value}{L1 L2:α0→α1→α2→α3→α4→α5→List HP}{R:α0→α1→α2→α3→α4→α5→Prop}{G':World→α0→α1→α2→α3→α4→α5→Prop}(hs:Sp P f vs w fun u w'=>∃(x0:α0)(x1:α1)(x2:α2)(x3:α3)(x4:α4)(x5:α5),u=v x0 x1 x2 x3 x4 x5∧St g (L1 x0 x1 x2 x3 x4 x5) w'∧R x0 x1 x2 x3 x4 x5)(hk:∀(w:World)(x0:α0)(x1:α1)(x2:α2)(x3:α3)(x4:α4)(x5:α5),St g (L2 x0 x1 x2 x3 x4 x5) w→R x0 x1 x2 x3 x4 x5→G' w x0 x1 x2 x3 x4 x5)(ho:IsCall o f F xs ts vs (some d):=by exact⟨rfl,rfl,rfl,rfl⟩)(e:∀(x0:α0)(x1:α1)(x2:α2)(x3:α3)(x4:α4)(x5:α5),NL (L1 x0 x1 x2 x3 x4 x5) (L2 x0 x1 x2 x3 x4 x5):=by intro _ _ _ _ _ _;(repeat apply NL.c rfl);exact NL.n)(hz:∀(w:World)(x0:α0)(x1:α1)(x2:α2)(x3:α3)(x4:α4)(x5:α5),St g (L2 x0 x1 x2 x3 x4 x5) w→R x0 x1 x2 x3 x4 x5→Held (G' w x0 x1 x2 x3 x4 x5)→WL P n os l K (upd F d (v x0 x1 x2 x3 x4 x5)) w:=by intro w _ _ _ _ _ _ Z _ k;exact Sz k.out):WL P n os (o::l) K F w:=Zwn hs (fun w x0 x1 x2 x3 x4 x5 h r=>hz w x0 x1 x2 x3 x4 x5 h r ⟨hk w x0 x1 x2 x3 x4 x5 h r⟩) ho e
end
end Go.V
namespace Go.Proofs.YtpebgkkmgffmaaaGreatDoor
open Go Go.V
def tab:Tab:={ ints:=[(2,.i64),(3,.i64),(5,.u8),(6,.u8),(12,.u64),(21,.i32),(23,.u64),(30,.i64),(93,.u32),(307,.u64),(436,.i64),(541,.u64),(632,.u8),(633,.u8),(636,.i32),(637,.i32)],strs:=[9,10,11],bools:=[4],ptrs:=[15,16,17,24,51,54,99,102,105,112,144,145,158,166,215,397,477,517,528,532,545,559,560,564,572,579,635],slices:=[22,35,36,37,47,56,65,70,72,73,78,81,84,87,88,95,154,226,278,279,324,355,478,502,575],flds:=[(7,[(0,1,false),(1,1,false),(2,1,false),(3,1,false)]),(8,[(0,1,false),(1,1,false),(2,1,false),(3,1,false)]),(13,[(0,1,false),(1,1,false)]),(14,[(0,1,false),(1,1,false)]),(18,[(0,1,false)]),(19,[(0,1,false)]),(26,[(0,1,false),(1,1,false),(2,1,false),(3,1,false)]),(27,[(0,1,false),(1,1,false),(2,1,false),(3,1,false)]),(31,[(0,1,false),(1,1,false)]),(32,[(0,1,false),(1,1,false)]),(33,[(0,1,false),(1,1,false),(2,1,false),(3,1,false)]),(34,[(0,1,false),(1,1,false),(2,1,false),(3,1,false)]),(38,[(0,1,false),(1,1,false),(2,1,false),(3,1,false),(4,1,false),(5,2,true),(7,4,true),(11,1,false),(12,1,false),(13,1,false),(14,1,false)]),(39,[(0,1,false),(1,1,false),(2,1,false),(3,1,false),(4,1,false),(5,2,true),(7,4,true),(11,1,false),(12,1,false),(13,1,false),(14,1,false)]),(42,[(0,1,false),(1,1,false),(2,1,false),(3,1,false),(4,1,false),(5,1,false),(6,1,false),(7,1,false),(8,1,false),(9,1,false),(10,1,false),(11,1,false),(12,1,false)]),(43,[(0,1,false),(1,1,false),(2,1,false),(3,1,false),(4,1,false),(5,1,false),(6,1,false),(7,1,false),(8,1,false),(9,1,false),(10,1,false),(11,1,false),(12,1,false)]),(57,[(0,1,false),(1,1,false),(2,1,false),(3,1,false),(4,1,false),(5,1,false),(6,1,false),(7,1,false)]),(58,[(0,1,false),(1,1,false),(2,1,false),(3,1,false),(4,1,false),(5,1,false),(6,1,false),(7,1,false)]),(66,[(0,1,false),(1,1,false),(2,1,false),(3,1,false),(4,1,false),(5,1,false),(6,1,false),(7,1,false)]),(67,[(0,1,false),(1,1,false),(2,1,false),(3,1,false),(4,1,false),(5,1,false),(6,1,false),(7,1,false)]),(74,[(0,1,false),(1,1,false),(2,1,false),(3,1,false),(4,1,false)]),(75,[(0,1,false),(1,1,false),(2,1,false),(3,1,false),(4,1,false)]),(76,[(0,5,true),(5,1,false)]),(77,[(0,5,true),(5,1,false)]),(79,[(0,1,false),(1,1,false),(2,1,false)]),(80,[(0,1,false),(1,1,false),(2,1,false)]),(82,[(0,1,false),(1,6,true),(7,3,true),(10,1,false)]),(83,[(0,1,false),(1,6,true),(7,3,true),(10,1,false)]),(85,[(0,1,false)]),(86,[(0,1,false)]),(89,[(0,11,true),(11,1,true),(12,6,true),(18,6,true),(24,1,false),(25,1,false)]),(90,[(0,11,true),(11,1,true),(12,6,true),(18,6,true),(24,1,false),(25,1,false)]),(96,[(0,1,false),(1,1,false)]),(97,[(0,1,false),(1,1,false)]),(108,[(0,1,false),(1,1,false),(2,1,false),(3,1,false),(4,1,false)]),(109,[(0,1,false),(1,1,false),(2,1,false),(3,1,false),(4,1,false)]),(140,[(0,1,false),(1,1,false),(2,1,false),(3,1,false),(4,1,false),(5,1,false),(6,1,false),(7,1,false)]),(141,[(0,1,false),(1,1,false),(2,1,false),(3,1,false),(4,1,false),(5,1,false),(6,1,false),(7,1,false)]),(142,[(0,1,false),(1,1,false)]),(143,[(0,1,false),(1,1,false)]),(146,[(0,1,false),(1,1,false),(2,1,false)]),(147,[(0,1,false),(1,1,false),(2,1,false)]),(162,[(0,1,false),(1,1,false)]),(163,[(0,1,false),(1,1,false)]),(164,[(0,1,false),(1,1,false),(2,2,true),(4,1,false)]),(165,[(0,1,false),(1,1,false),(2,2,true),(4,1,false)]),(169,[(0,1,false),(1,1,false)]),(170,[(0,1,false),(1,1,false)]),(172,[(0,1,false)]),(173,[(0,1,false)]),(176,[(0,1,false),(1,1,false),(2,1,false),(3,1,false)]),(177,[(0,1,false),(1,1,false),(2,1,false),(3,1,false)]),(180,[(0,1,false),(1,1,false),(2,1,false),(3,1,false)]),(181,[(0,1,false),(1,1,false),(2,1,false),(3,1,false)]),(216,[(0,1,false),(1,1,false)]),(217,[(0,1,false),(1,1,false)]),(238,[(0,1,false),(1,1,false),(2,1,false),(3,1,false)]),(239,[(0,1,false),(1,1,false),(2,1,false),(3,1,false)]),(268,[(0,1,false),(1,1,false),(2,1,false)]),(269,[(0,1,false),(1,1,false),(2,1,false)]),(280,[(0,1,false),(1,1,false),(2,1,false),(3,1,false)]),(281,[(0,1,false),(1,1,false),(2,1,false),(3,1,false)]),(311,[(0,1,false),(1,1,false),(2,1,false),(3,8,true)]),(312,[(0,1,false),(1,1,false),(2,1,false),(3,8,true)]),(313,[(0,1,false),(1,1,false),(2,1,false),(3,1,false)]),(314,[(0,1,false),(1,1,false),(2,1,false),(3,1,false)]),(320,[(0,1,false),(1,1,false),(2,1,false)]),(321,[(0,1,false),(1,1,false),(2,1,false)]),(322,[(0,1,false),(1,1,false),(2,1,false),(3,1,false)]),(323,[(0,1,false),(1,1,false),(2,1,false),(3,1,false)]),(331,[(0,1,false),(1,1,false)]),(332,[(0,1,false),(1,1,false)]),(349,[(0,1,false),(1,1,false),(2,1,false),(3,1,false),(4,1,false)]),(350,[(0,1,false),(1,1,false),(2,1,false),(3,1,false),(4,1,false)]),(351,[(0,1,false),(1,1,false)]),(352,[(0,1,false),(1,1,false)]),(356,[(0,1,false),(1,1,false),(2,1,false),(3,1,false)]),(357,[(0,1,false),(1,1,false),(2,1,false),(3,1,false)]),(373,[(0,1,false),(1,1,false),(2,1,false),(3,1,false),(4,1,false),(5,2,true),(7,1,false)]),(374,[(0,1,false),(1,1,false),(2,1,false),(3,1,false),(4,1,false),(5,2,true),(7,1,false)]),(378,[(0,1,false),(1,1,false)]),(379,[(0,1,false),(1,1,false)]),(389,[(0,1,false),(1,1,false),(2,1,false),(3,1,false),(4,1,false),(5,1,false),(6,1,false)]),(390,[(0,1,false),(1,1,false),(2,1,false),(3,1,false),(4,1,false),(5,1,false),(6,1,false)]),(398,[(0,1,false),(1,1,false),(2,1,false)]),(399,[(0,1,false),(1,1,false),(2,1,false)]),(410,[(0,1,false),(1,1,false)]),(411,[(0,1,false),(1,1,false)]),(421,[(0,1,false),(1,1,false),(2,1,false)]),(422,[(0,1,false),(1,1,false),(2,1,false)]),(425,[(0,1,false),(1,1,false),(2,1,false)]),(426,[(0,1,false),(1,1,false),(2,1,false)]),(455,[(0,1,false),(1,1,false)]),(456,[(0,1,false),(1,1,false)]),(464,[(0,1,false),(1,1,false)]),(465,[(0,1,false),(1,1,false)]),(479,[(0,4,true),(4,1,false),(5,1,false),(6,1,false),(7,1,false)]),(480,[(0,4,true),(4,1,false),(5,1,false),(6,1,false),(7,1,false)]),(482,[(0,2,true),(2,1,false),(3,1,false)]),(483,[(0,2,true),(2,1,false),(3,1,false)]),(484,[(0,1,false),(1,1,false),(2,1,false),(3,1,false)]),(485,[(0,1,false),(1,1,false),(2,1,false),(3,1,false)]),(500,[(0,1,false),(1,1,false)]),(501,[(0,1,false),(1,1,false)]),(503,[(0,1,false)]),(504,[(0,1,false)]),(506,[(0,1,false),(1,1,false),(2,2,true),(4,1,false)]),(507,[(0,1,false),(1,1,false),(2,2,true),(4,1,false)]),(520,[(0,1,false),(1,1,false)]),(521,[(0,1,false),(1,1,false)]),(529,[(0,2,true),(2,1,false),(3,1,false)]),(530,[(0,2,true),(2,1,false),(3,1,false)]),(533,[(0,2,true),(2,1,false),(3,1,false),(4,1,false)]),(534,[(0,2,true),(2,1,false),(3,1,false),(4,1,false)]),(561,[(0,1,false),(1,1,false),(2,1,false)]),(562,[(0,1,false),(1,1,false),(2,1,false)]),(573,[(0,1,false),(1,1,false)]),(574,[(0,1,false),(1,1,false)]),(615,[(0,1,false),(1,1,false)]),(616,[(0,1,false),(1,1,false)]),(627,[(0,1,false),(1,1,false),(2,1,false),(3,1,false)]),(628,[(0,1,false),(1,1,false),(2,1,false),(3,1,false)]),(638,[(0,1,false),(1,1,false),(2,1,false),(3,1,false),(4,1,false),(5,1,false),(6,1,false),(7,1,false),(8,1,false),(9,1,false),(10,1,false)]),(639,[(0,1,false),(1,1,false),(2,1,false),(3,1,false),(4,1,false),(5,1,false),(6,1,false),(7,1,false),(8,1,false),(9,1,false),(10,1,false)])],ones:=[1,2,3,4,5,6,9,10,11,12,15,16,17,20,21,22,23,24,25,28,29,30,35,36,37,41,45,46,47,48,49,50,51,53,54,55,56,59,60,61,62,63,64,65,69,70,71,72,73,78,81,84,87,88,91,92,93,94,95,98,99,101,102,104,105,106,107,110,111,112,113,114,115,116,117,119,120,121,122,123,124,126,127,128,130,131,132,134,136,138,139,144,145,148,149,150,151,152,153,154,155,157,158,160,161,166,168,171,174,175,179,182,183,185,186,187,188,190,192,193,194,195,196,198,199,200,201,203,204,205,206,208,209,211,212,214,215,218,220,222,223,224,225,226,227,229,230,231,233,234,235,236,237,241,243,244,245,246,248,249,250,251,252,253,254,255,256,257,258,259,260,261,263,265,267,270,272,274,275,277,278,279,282,284,286,288,289,290,291,293,294,295,296,297,298,299,300,302,303,304,305,306,307,308,309,310,316,317,318,319,324,325,326,327,328,329,330,333,334,335,336,337,338,339,340,341,343,345,346,347,348,353,354,355,359,360,361,362,364,365,366,367,368,369,371,372,375,376,381,382,383,384,385,387,388,391,392,393,394,395,396,397,400,402,403,404,405,406,407,409,412,413,414,415,417,419,420,423,424,427,428,429,430,431,432,433,434,435,436,438,439,440,441,443,444,445,446,447,448,449,451,452,454,457,459,460,461,463,466,467,468,469,470,471,472,474,475,476,477,478,481,486,487,488,489,491,492,493,494,495,496,497,498,499,502,505,509,510,511,513,514,515,516,517,518,519,522,523,524,526,527,528,531,532,536,537,538,539,540,541,542,543,544,545,546,547,548,549,550,551,553,554,555,557,558,559,560,563,564,565,566,567,568,569,570,571,572,575,577,578,579,580,582,583,584,585,586,587,588,589,591,592,593,594,595,596,597,598,599,600,601,602,603,604,605,607,608,609,610,611,612,613,618,619,620,621,622,623,624,625,626,632,633,634,635,636,637] }
theorem tabok:tab.chk Tryz.prog=true:=by kernel_rfl
instance:TabOk Tryz.prog tab:=⟨tabok⟩
abbrev Cp:=Cq Tryz.prog
abbrev Zr:=Cn Tryz.prog
instance zv_3:ZvC Tryz.prog 3 [.int .i64 0]:=⟨Yp (v:=.int .i64 0) (by kernel_rfl) rfl⟩
instance zv_27:ZvC Tryz.prog 27 [.int .i64 0,.int .i64 0,.int .i64 0,.int .i64 0]:=⟨Yp (v:=.agg #[.int .i64 0,.int .i64 0,.int .i64 0,.int .i64 0]) (by kernel_rfl) rfl⟩
instance zv_32:ZvC Tryz.prog 32 [.int .i64 0,.int .i64 0]:=⟨Yp (v:=.agg #[.int .i64 0,.int .i64 0]) (by kernel_rfl) rfl⟩
instance zv_35:ZvC Tryz.prog 35 [.slice none 0 0]:=⟨Yp (v:=.slice none 0 0) (by kernel_rfl) rfl⟩
instance zv_39:ZvC Tryz.prog 39 [.int .i64 0,.int .u64 0,.int .i64 0,.bool false,.int .i64 0,.int .i64 0,.int .i64 0,.int .i64 0,.int .i64 0,.int .i64 0,.int .i64 0,.slice none 0 0,.slice none 0 0,.slice none 0 0,.slice none 0 0]:=⟨Yp (v:=.agg #[.int .i64 0,.int .u64 0,.int .i64 0,.bool false,.int .i64 0,.int .i64 0,.int .i64 0,.int .i64 0,.int .i64 0,.int .i64 0,.int .i64 0,.slice none 0 0,.slice none 0 0,.slice none 0 0,.slice none 0 0]) (by kernel_rfl) rfl⟩
instance zv_43:ZvC Tryz.prog 43 [.int .i64 0,.int .u64 0,.int .u64 0,.int .i64 0,.int .i64 0,.int .i64 0,.int .i64 0,.int .i64 0,.bool false,.string ⟨#[]⟩,.slice none 0 0,.slice none 0 0,.slice none 0 0]:=⟨Yp (v:=.agg #[.int .i64 0,.int .u64 0,.int .u64 0,.int .i64 0,.int .i64 0,.int .i64 0,.int .i64 0,.int .i64 0,.bool false,.string ⟨#[]⟩,.slice none 0 0,.slice none 0 0,.slice none 0 0]) (by kernel_rfl) rfl⟩
instance zv_44:ZvC Tryz.prog 44 [.int .u64 0,.int .u64 0,.int .u64 0,.int .u64 0]:=⟨Yp (v:=.agg #[.int .u64 0,.int .u64 0,.int .u64 0,.int .u64 0]) (by kernel_rfl) rfl⟩
instance zv_58:ZvC Tryz.prog 58 [.pointer none,.pointer none,.slice none 0 0,.slice none 0 0,.slice none 0 0,.slice none 0 0,.slice none 0 0,.int .i64 0]:=⟨Yp (v:=.agg #[.pointer none,.pointer none,.slice none 0 0,.slice none 0 0,.slice none 0 0,.slice none 0 0,.slice none 0 0,.int .i64 0]) (by kernel_rfl) rfl⟩
instance zv_75:ZvC Tryz.prog 75 [.int .i64 0,.slice none 0 0,.int .i64 0,.slice none 0 0,.slice none 0 0]:=⟨Yp (v:=.agg #[.int .i64 0,.slice none 0 0,.int .i64 0,.slice none 0 0,.slice none 0 0]) (by kernel_rfl) rfl⟩
instance zv_77:ZvC Tryz.prog 77 [.int .i64 0,.slice none 0 0,.int .i64 0,.slice none 0 0,.slice none 0 0,.slice none 0 0]:=⟨Yp (v:=.agg #[.int .i64 0,.slice none 0 0,.int .i64 0,.slice none 0 0,.slice none 0 0,.slice none 0 0]) (by kernel_rfl) rfl⟩
instance zv_80:ZvC Tryz.prog 80 [.int .i64 0,.slice none 0 0,.slice none 0 0]:=⟨Yp (v:=.agg #[.int .i64 0,.slice none 0 0,.slice none 0 0]) (by kernel_rfl) rfl⟩
instance zv_83:ZvC Tryz.prog 83 [.int .i64 0,.int .i64 0,.slice none 0 0,.int .i64 0,.slice none 0 0,.slice none 0 0,.slice none 0 0,.int .i64 0,.slice none 0 0,.slice none 0 0,.slice none 0 0]:=⟨Yp (v:=.agg #[.int .i64 0,.int .i64 0,.slice none 0 0,.int .i64 0,.slice none 0 0,.slice none 0 0,.slice none 0 0,.int .i64 0,.slice none 0 0,.slice none 0 0,.slice none 0 0]) (by kernel_rfl) rfl⟩
instance zv_90:ZvC Tryz.prog 90 [.int .i64 0,.int .i64 0,.slice none 0 0,.int .i64 0,.slice none 0 0,.slice none 0 0,.slice none 0 0,.int .i64 0,.slice none 0 0,.slice none 0 0,.slice none 0 0,.slice none 0 0,.int .i64 0,.slice none 0 0,.int .i64 0,.slice none 0 0,.slice none 0 0,.slice none 0 0,.int .i64 0,.slice none 0 0,.int .i64 0,.slice none 0 0,.slice none 0 0,.slice none 0 0,.slice none 0 0,.slice none 0 0]:=⟨Yp (v:=.agg #[.int .i64 0,.int .i64 0,.slice none 0 0,.int .i64 0,.slice none 0 0,.slice none 0 0,.slice none 0 0,.int .i64 0,.slice none 0 0,.slice none 0 0,.slice none 0 0,.slice none 0 0,.int .i64 0,.slice none 0 0,.int .i64 0,.slice none 0 0,.slice none 0 0,.slice none 0 0,.int .i64 0,.slice none 0 0,.int .i64 0,.slice none 0 0,.slice none 0 0,.slice none 0 0,.slice none 0 0,.slice none 0 0]) (by kernel_rfl) rfl⟩
instance zv_97:ZvC Tryz.prog 97 [.slice none 0 0,.slice none 0 0]:=⟨Yp (v:=.agg #[.slice none 0 0,.slice none 0 0]) (by kernel_rfl) rfl⟩
instance zv_109:ZvC Tryz.prog 109 [.pointer none,.pointer none,.pointer none,.pointer none,.map none]:=⟨Yp (v:=.agg #[.pointer none,.pointer none,.pointer none,.pointer none,.map none]) (by kernel_rfl) rfl⟩
instance zv_141:ZvC Tryz.prog 141 [.int .i64 0,.int .i64 0,.int .u32 0,.int .u32 0,.int .i64 0,.int .i64 0,.int .i64 0,.int .i64 0]:=⟨Yp (v:=.agg #[.int .i64 0,.int .i64 0,.int .u32 0,.int .u32 0,.int .i64 0,.int .i64 0,.int .i64 0,.int .i64 0]) (by kernel_rfl) rfl⟩
instance zv_163:ZvC Tryz.prog 163 [.pointer none,.map none]:=⟨Yp (v:=.agg #[.pointer none,.map none]) (by kernel_rfl) rfl⟩
instance zv_165:ZvC Tryz.prog 165 [.pointer none,.pointer none,.pointer none,.map none,.int .i64 0]:=⟨Yp (v:=.agg #[.pointer none,.pointer none,.pointer none,.map none,.int .i64 0]) (by kernel_rfl) rfl⟩
instance zv_170:ZvC Tryz.prog 170 [.pointer none,.slice none 0 0]:=⟨Yp (v:=.agg #[.pointer none,.slice none 0 0]) (by kernel_rfl) rfl⟩
instance zv_173:ZvC Tryz.prog 173 [.map none]:=⟨Yp (v:=.agg #[.map none]) (by kernel_rfl) rfl⟩
instance zv_177:ZvC Tryz.prog 177 [.pointer none,.slice none 0 0,.slice none 0 0,.int .u64 0]:=⟨Yp (v:=.agg #[.pointer none,.slice none 0 0,.slice none 0 0,.int .u64 0]) (by kernel_rfl) rfl⟩
instance zv_181:ZvC Tryz.prog 181 [.int .i64 0,.int .i64 0,.int .i64 0,.int .i64 0]:=⟨Yp (v:=.agg #[.int .i64 0,.int .i64 0,.int .i64 0,.int .i64 0]) (by kernel_rfl) rfl⟩
instance zv_312:ZvC Tryz.prog 312 [.bool false,.int .i64 0,.int .u32 0,.int .i64 0,.int .i64 0,.int .u32 0,.int .u32 0,.int .i64 0,.int .i64 0,.int .i64 0,.int .i64 0]:=⟨Yp (v:=.agg #[.bool false,.int .i64 0,.int .u32 0,.int .i64 0,.int .i64 0,.int .u32 0,.int .u32 0,.int .i64 0,.int .i64 0,.int .i64 0,.int .i64 0]) (by kernel_rfl) rfl⟩
instance zv_315:ZvC Tryz.prog 315 [.int .u32 0,.int .u32 0]:=⟨Yp (v:=.agg #[.int .u32 0,.int .u32 0]) (by kernel_rfl) rfl⟩
instance zv_321:ZvC Tryz.prog 321 [.int .i64 0,.int .i64 0,.map none]:=⟨Yp (v:=.agg #[.int .i64 0,.int .i64 0,.map none]) (by kernel_rfl) rfl⟩
instance zv_323:ZvC Tryz.prog 323 [.slice none 0 0,.slice none 0 0,.slice none 0 0,.int .u32 0]:=⟨Yp (v:=.agg #[.slice none 0 0,.slice none 0 0,.slice none 0 0,.int .u32 0]) (by kernel_rfl) rfl⟩
instance zv_332:ZvC Tryz.prog 332 [.bool false,.slice none 0 0]:=⟨Yp (v:=.agg #[.bool false,.slice none 0 0]) (by kernel_rfl) rfl⟩
instance zv_350:ZvC Tryz.prog 350 [.pointer none,.int .u32 0,.bool false,.map none,.slice none 0 0]:=⟨Yp (v:=.agg #[.pointer none,.int .u32 0,.bool false,.map none,.slice none 0 0]) (by kernel_rfl) rfl⟩
instance zv_352:ZvC Tryz.prog 352 [.int .i64 0,.int .i64 0]:=⟨Yp (v:=.agg #[.int .i64 0,.int .i64 0]) (by kernel_rfl) rfl⟩
instance zv_365:ZvC Tryz.prog 365 [.map none]:=⟨Yp (v:=.map none) (by kernel_rfl) rfl⟩
instance zv_379:ZvC Tryz.prog 379 [.bool false,.int .i64 0]:=⟨Yp (v:=.agg #[.bool false,.int .i64 0]) (by kernel_rfl) rfl⟩
instance zv_390:ZvC Tryz.prog 390 [.int .i64 0,.int .i64 0,.int .i64 0,.bool false,.bool false,.bool false,.bool false]:=⟨Yp (v:=.agg #[.int .i64 0,.int .i64 0,.int .i64 0,.bool false,.bool false,.bool false,.bool false]) (by kernel_rfl) rfl⟩
instance zv_399:ZvC Tryz.prog 399 [.pointer none,.slice none 0 0,.int .i64 0]:=⟨Yp (v:=.agg #[.pointer none,.slice none 0 0,.int .i64 0]) (by kernel_rfl) rfl⟩
instance zv_504:ZvC Tryz.prog 504 [.slice none 0 0]:=⟨Yp (v:=.agg #[.slice none 0 0]) (by kernel_rfl) rfl⟩
instance zv_507:ZvC Tryz.prog 507 [.int .u32 0,.int .i64 0,.int .i64 0,.int .i64 0,.bool false]:=⟨Yp (v:=.agg #[.int .u32 0,.int .i64 0,.int .i64 0,.int .i64 0,.bool false]) (by kernel_rfl) rfl⟩
instance zv_534:ZvC Tryz.prog 534 [.slice none 0 0,.slice none 0 0,.int .i64 0,.bool false,.int .i64 0]:=⟨Yp (v:=.agg #[.slice none 0 0,.slice none 0 0,.int .i64 0,.bool false,.int .i64 0]) (by kernel_rfl) rfl⟩
instance zv_541:ZvC Tryz.prog 541 [.int .u64 0]:=⟨Yp (v:=.int .u64 0) (by kernel_rfl) rfl⟩
instance zv_576:ZvC Tryz.prog 576 [.int .i64 0,.int .i64 0,.int .i64 0,.int .i64 0,.int .i64 0,.int .i64 0,.int .i64 0,.int .i64 0,.int .i64 0,.int .i64 0,.int .i64 0,.int .i64 0,.int .i64 0,.int .i64 0,.int .i64 0,.int .i64 0,.int .i64 0,.int .i64 0,.int .i64 0,.int .i64 0,.int .i64 0,.int .i64 0,.int .i64 0,.int .i64 0,.int .i64 0,.int .i64 0,.int .i64 0,.int .i64 0,.int .i64 0,.int .i64 0,.int .i64 0,.int .i64 0,.int .i64 0,.int .i64 0,.int .i64 0,.int .i64 0,.int .i64 0,.int .i64 0,.int .i64 0,.int .i64 0,.int .i64 0,.int .i64 0,.int .i64 0,.int .i64 0,.int .i64 0,.int .i64 0,.int .i64 0,.int .i64 0,.int .i64 0,.int .i64 0,.int .i64 0,.int .i64 0,.int .i64 0,.int .i64 0,.int .i64 0,.int .i64 0,.int .i64 0,.int .i64 0,.int .i64 0,.int .i64 0,.int .i64 0,.int .i64 0,.int .i64 0,.int .i64 0,.int .i64 0,.int .i64 0,.int .i64 0,.int .i64 0,.int .i64 0,.int .i64 0,.int .i64 0,.int .i64 0,.int .i64 0,.int .i64 0,.int .i64 0,.int .i64 0,.int .i64 0,.int .i64 0,.int .i64 0,.int .i64 0,.int .i64 0]:=⟨Yp (v:=.agg #[.int .i64 0,.int .i64 0,.int .i64 0,.int .i64 0,.int .i64 0,.int .i64 0,.int .i64 0,.int .i64 0,.int .i64 0,.int .i64 0,.int .i64 0,.int .i64 0,.int .i64 0,.int .i64 0,.int .i64 0,.int .i64 0,.int .i64 0,.int .i64 0,.int .i64 0,.int .i64 0,.int .i64 0,.int .i64 0,.int .i64 0,.int .i64 0,.int .i64 0,.int .i64 0,.int .i64 0,.int .i64 0,.int .i64 0,.int .i64 0,.int .i64 0,.int .i64 0,.int .i64 0,.int .i64 0,.int .i64 0,.int .i64 0,.int .i64 0,.int .i64 0,.int .i64 0,.int .i64 0,.int .i64 0,.int .i64 0,.int .i64 0,.int .i64 0,.int .i64 0,.int .i64 0,.int .i64 0,.int .i64 0,.int .i64 0,.int .i64 0,.int .i64 0,.int .i64 0,.int .i64 0,.int .i64 0,.int .i64 0,.int .i64 0,.int .i64 0,.int .i64 0,.int .i64 0,.int .i64 0,.int .i64 0,.int .i64 0,.int .i64 0,.int .i64 0,.int .i64 0,.int .i64 0,.int .i64 0,.int .i64 0,.int .i64 0,.int .i64 0,.int .i64 0,.int .i64 0,.int .i64 0,.int .i64 0,.int .i64 0,.int .i64 0,.int .i64 0,.int .i64 0,.int .i64 0,.int .i64 0,.int .i64 0]) (by kernel_rfl) rfl⟩
instance ag_27:AgC Tryz.prog 27 4:=⟨X3 (by kernel_rfl) (by kernel_rfl) (by kernel_rfl)⟩
instance ag_32:AgC Tryz.prog 32 2:=⟨X3 (by kernel_rfl) (by kernel_rfl) (by kernel_rfl)⟩
instance ag_34:AgC Tryz.prog 34 4:=⟨X3 (by kernel_rfl) (by kernel_rfl) (by kernel_rfl)⟩
instance ag_39:AgC Tryz.prog 39 15:=⟨X3 (by kernel_rfl) (by kernel_rfl) (by kernel_rfl)⟩
instance ag_43:AgC Tryz.prog 43 13:=⟨X3 (by kernel_rfl) (by kernel_rfl) (by kernel_rfl)⟩
instance ag_44:AgC Tryz.prog 44 4:=⟨X3 (by kernel_rfl) (by kernel_rfl) (by kernel_rfl)⟩
instance ag_75:AgC Tryz.prog 75 5:=⟨X3 (by kernel_rfl) (by kernel_rfl) (by kernel_rfl)⟩
instance ag_77:AgC Tryz.prog 77 6:=⟨X3 (by kernel_rfl) (by kernel_rfl) (by kernel_rfl)⟩
instance ag_80:AgC Tryz.prog 80 3:=⟨X3 (by kernel_rfl) (by kernel_rfl) (by kernel_rfl)⟩
instance ag_83:AgC Tryz.prog 83 11:=⟨X3 (by kernel_rfl) (by kernel_rfl) (by kernel_rfl)⟩
instance ag_97:AgC Tryz.prog 97 2:=⟨X3 (by kernel_rfl) (by kernel_rfl) (by kernel_rfl)⟩
instance ag_141:AgC Tryz.prog 141 8:=⟨X3 (by kernel_rfl) (by kernel_rfl) (by kernel_rfl)⟩
instance ag_181:AgC Tryz.prog 181 4:=⟨X3 (by kernel_rfl) (by kernel_rfl) (by kernel_rfl)⟩
instance ag_312:AgC Tryz.prog 312 11:=⟨X3 (by kernel_rfl) (by kernel_rfl) (by kernel_rfl)⟩
instance ag_315:AgC Tryz.prog 315 2:=⟨X3 (by kernel_rfl) (by kernel_rfl) (by kernel_rfl)⟩
instance ag_332:AgC Tryz.prog 332 2:=⟨X3 (by kernel_rfl) (by kernel_rfl) (by kernel_rfl)⟩
instance ag_352:AgC Tryz.prog 352 2:=⟨X3 (by kernel_rfl) (by kernel_rfl) (by kernel_rfl)⟩
instance ag_379:AgC Tryz.prog 379 2:=⟨X3 (by kernel_rfl) (by kernel_rfl) (by kernel_rfl)⟩
instance ag_390:AgC Tryz.prog 390 7:=⟨X3 (by kernel_rfl) (by kernel_rfl) (by kernel_rfl)⟩
instance ag_507:AgC Tryz.prog 507 5:=⟨X3 (by kernel_rfl) (by kernel_rfl) (by kernel_rfl)⟩
instance ag_576:AgC Tryz.prog 576 81:=⟨X3 (by kernel_rfl) (by kernel_rfl) (by kernel_rfl)⟩
theorem el_22:Elem Tryz.prog 22 32 #[.int .i64 0,.int .i64 0] 2 16:=UR (v:=.agg #[.int .i64 0,.int .i64 0]) Tryz.underlying22 (by kernel_rfl) rfl rfl (by decide) rfl
theorem el_35:Elem Tryz.prog 35 181 #[.int .i64 0,.int .i64 0,.int .i64 0,.int .i64 0] 4 32:=UR (v:=.agg #[.int .i64 0,.int .i64 0,.int .i64 0,.int .i64 0]) Tryz.underlying35 (by kernel_rfl) rfl rfl (by decide) rfl
theorem el_36:Elem Tryz.prog 36 2 #[.int .i64 0] 1 8:=UR (v:=.int .i64 0) Tryz.underlying36 (by kernel_rfl) rfl rfl (by decide) rfl
theorem el_47:Elem Tryz.prog 47 23 #[.int .u64 0] 1 8:=UR (v:=.int .u64 0) Tryz.underlying47 (by kernel_rfl) rfl rfl (by decide) rfl
theorem el_65:Elem Tryz.prog 65 141 #[.int .i64 0,.int .i64 0,.int .u32 0,.int .u32 0,.int .i64 0,.int .i64 0,.int .i64 0,.int .i64 0] 8 56:=UR (v:=.agg #[.int .i64 0,.int .i64 0,.int .u32 0,.int .u32 0,.int .i64 0,.int .i64 0,.int .i64 0,.int .i64 0]) Tryz.underlying65 (by kernel_rfl) rfl rfl (by decide) rfl
theorem el_70:Elem Tryz.prog 70 93 #[.int .u32 0] 1 4:=UR (v:=.int .u32 0) Tryz.underlying70 (by kernel_rfl) rfl rfl (by decide) rfl
theorem el_72:Elem Tryz.prog 72 3 #[.int .i64 0] 1 8:=UR (v:=.int .i64 0) Tryz.underlying72 (by kernel_rfl) rfl rfl (by decide) rfl
theorem el_73:Elem Tryz.prog 73 4 #[.bool false] 1 1:=UR (v:=.bool false) Tryz.underlying73 (by kernel_rfl) rfl rfl (by decide) rfl
theorem el_78:Elem Tryz.prog 78 72 #[.slice none 0 0] 1 24:=UR (v:=.slice none 0 0) Tryz.underlying78 (by kernel_rfl) rfl rfl (by decide) rfl
theorem el_81:Elem Tryz.prog 81 22 #[.slice none 0 0] 1 24:=UR (v:=.slice none 0 0) Tryz.underlying81 (by kernel_rfl) rfl rfl (by decide) rfl
theorem el_95:Elem Tryz.prog 95 312 #[.bool false,.int .i64 0,.int .u32 0,.int .i64 0,.int .i64 0,.int .u32 0,.int .u32 0,.int .i64 0,.int .i64 0,.int .i64 0,.int .i64 0] 11 80:=UR (v:=.agg #[.bool false,.int .i64 0,.int .u32 0,.int .i64 0,.int .i64 0,.int .u32 0,.int .u32 0,.int .i64 0,.int .i64 0,.int .i64 0,.int .i64 0]) Tryz.underlying95 (by kernel_rfl) rfl rfl (by decide) rfl
theorem el_502:Elem Tryz.prog 502 507 #[.int .u32 0,.int .i64 0,.int .i64 0,.int .i64 0,.bool false] 5 40:=UR (v:=.agg #[.int .u32 0,.int .i64 0,.int .i64 0,.int .i64 0,.bool false]) Tryz.underlying502 (by kernel_rfl) rfl rfl (by decide) rfl
theorem Zog:EqT Tryz.prog 32 [.int .i64,.int .i64]:=⟨by kernel_rfl,by kernel_rfl,by kernel_rfl,by kernel_rfl⟩
theorem eq_34:EqT Tryz.prog 34 [.int .i64,.int .i64,.int .i64,.int .i64]:=⟨by kernel_rfl,by kernel_rfl,by kernel_rfl,by kernel_rfl⟩
theorem Zo8:EqT Tryz.prog 181 [.int .i64,.int .i64,.int .i64,.int .i64]:=⟨by kernel_rfl,by kernel_rfl,by kernel_rfl,by kernel_rfl⟩
theorem Zpo:MapT Tryz.prog 107 143 ((Tryz.prog.underlying 143).getD .invalid) 147 (.agg #[.pointer none,.pointer none,.int .u32 0]):=Zsd (by kernel_rfl) (by kernel_rfl) (by kernel_rfl)
theorem HV:MapT Tryz.prog 161 3 (.int .i64) 93 (.int .u32 0):=Zsd (by kernel_rfl) (by kernel_rfl) (by kernel_rfl)
theorem JE:MapT Tryz.prog 319 3 (.int .i64) 332 (.agg #[.bool false,.slice none 0 0]):=Zsd (by kernel_rfl) (by kernel_rfl) (by kernel_rfl)
theorem ar_44:ArrT Tryz.prog 44 4 23:=⟨by kernel_rfl,by kernel_rfl⟩
theorem Zbg:ArrT Tryz.prog 315 2 93:=⟨by kernel_rfl,by kernel_rfl⟩
end Go.Proofs.YtpebgkkmgffmaaaGreatDoor
namespace Go.V
open Go Go.RowKit Go.Maps Go.Sort
section
variable{g w w':World}{L:List HP}{e size n:Nat}{v:Value}{xs:List Value}
theorem St.of_row(ls:List (List Value))(h:St g L w)(hb:Below w.heap.size w w')(hr:w'.ownsRow w.heap.size e size v n xs)(hls:ls.flatten=xs)(hn:ls.length=n)(hok:OkE size ls) :
  ∃a c,v=.slice a ls.length c∧St g (Zp e size ls a c::L) w':=by
 subst hn;subst hls
 have h0:St g (pur True::L) w:=h.add fun _ _=>trivial
 obtain⟨b1,b2,b3,b4,b5⟩:=hb
 obtain⟨_,⟨rfl,hn⟩|⟨q,cap,cur,rfl,hq,hcur,h1,h2,h3,h4⟩⟩:=hr
 ·have hz:ls=[]:=List.length_eq_zero_iff.1 hn
  subst hz
  refine⟨none,0,rfl,h0.upd b1 b2 b3 b4 fun o1 r _ _ _ _=>⟨fun _=>none,⟨OkE.nil _,.inl ⟨rfl,rfl,rfl⟩⟩,fun _ _ h=>(by cases h),fun k hk=>absurd rfl hk,fun k hk _=>b5 k hk⟩⟩
 refine⟨some ⟨q,0,none⟩,cap,rfl,h0.upd b1 b2 b3 b4 fun o1 r _ _ _ _=>⟨fun k=>if k=q then some (.cells cur e (0,0)) else none,⟨hok,.inr ⟨q,cur,rfl,by simp,h1,h2,h3,h4⟩⟩,fun k x hx=>?_,fun k hk=>?_,fun k hk _=>b5 k hk⟩⟩
 ·simp only at hx
  split at hx
  ·rename_i hk;subst hk;simp only[Option.some.injEq] at hx;subst hx;exact hcur
  cases hx
 simp only[ne_eq,ite_eq_right_iff,reduceCtorEq,imp_false,Classical.not_not] at hk
 exact .inr (by omega)
end
section
variable{g w:World}{L:List HP}{e c:Nat}{ls:List Int}{b:Nat}
theorem JZ(l:List Int):(Ze l).flatten=l.map (Value.int .i64):=by
 induction l with
 |nil=>rfl
 |cons x l ih=>simp only[Ze,List.map_cons,List.flatten_cons,List.singleton_append] at ih ⊢;rw[ih]
theorem St.holdsI(h:St g L w)(i:Nat)(hi:L[i]?=some (Zp e 1 (Ze ls) (some ⟨b,0,none⟩) c)):Holds (Value.int .i64) w b 0 ls.toArray∧b<w.heap.size∧ls.length≤c:=by
 obtain⟨o1,r,⟨h1,h2⟩,ho,hr⟩:=h.get i hi
 rcases h2 with⟨h3,_,_⟩|⟨b',cur,h3,q2,q3,q4,q5,q6⟩
 ·cases h3
 cases h3
 have hb:=ho _ _ q2
 refine⟨holds_of_blockI hb (by rw[Zf,Nat.mul_one,JZ] at q6;exact q6),(Array.getElem?_eq_some_iff.1 hb).1,by simpa using q3⟩
theorem St.putI(h:St g (Zp e 1 (Ze ls) (some ⟨b,0,none⟩) c::L) w)(ts:List Int)(hl:ts.length=ls.length)(n:Nat)(os:Array Obj) :
  St g (Zp e 1 (Ze ts) (some ⟨b,0,none⟩) c::L) (grow (putRow (Value.int .i64) (Sort.ahead w n) b 0 ts.toArray) os):=by
 have hg:=grownBy_sortedI (w:=w) (g:=b) (n:=n) (os:=os) ts.toArray
 refine h.upd hg.os hg.tape hg.output hg.size fun o1 r hA hw _ _=>?_
 obtain⟨h1,h2⟩:=hA
 rcases h2 with⟨h3,_,_⟩|⟨b',cur,h3,q2,q3,q4,q5,q6⟩
 ·cases h3
 cases h3
 have hb:=hw _ _ q2
 rw[Zf] at q3 q6
 refine⟨fun k=>if k=b then some (.cells (putCells (Value.int .i64) 0 ts.toArray cur) e (0,0)) else none,⟨YR _,.inr ⟨b,_,rfl,if_pos rfl,by rw[Zf,hl];exact q3,q4,by simp[putCells,q5],?_⟩⟩,fun k x hx=>?_,fun k hk=>?_,fun k hk hn=>?_⟩
 ·rw[Zf,Nat.mul_one,JZ]
  exact take_putCellsI cur ts (by rw[hl,q5,Nat.mul_one];exact q3)
 ·simp only at hx
  split at hx
  ·rename_i hk;subst hk;simp only[Option.some.injEq] at hx;subst hx;exact heap_sortedI _ hb
  cases hx
 ·simp only[ne_eq,ite_eq_right_iff,reduceCtorEq,imp_false,Classical.not_not] at hk
  subst hk;exact .inl (by rw[q2];simp)
 refine hg.block k hk fun he=>?_
 simp only[Option.some.injEq] at he;subst he
 rw[q2] at hn;cases hn
theorem St.ownTake{a:Option Addr}{size:Nat}{ks:List (List Value)}(h:St g (Zp e size ks a c::L) w)(k:Nat):St g (Zp e size (ks.take k) a c::L) w:=by
 refine h.impl fun o r ⟨h1,h2⟩=>⟨fun x hx=>h1 x (List.mem_of_mem_take hx),?_⟩
 rcases h2 with⟨q1,q2,rfl⟩|⟨b,cur,q1,q2,q3,q4,q5,q6⟩
 ·exact .inl ⟨q1,q2,by simp⟩
 refine .inr ⟨b,cur,q1,q2,Nat.le_trans (by rw[List.length_take];omega) q3,q4,q5,?_⟩
 have h4:∀x∈ks.take k,x.length=size:=fun x hx=>h1.len x (List.mem_of_mem_take hx)
 have h5:=ZR (ks.take k) size h4
 have h6:(ks.take k).flatten=ks.flatten.take ((ks.take k).length*size):=by
  have h7:ks.flatten=(ks.take k).flatten++(ks.drop k).flatten:=by rw[←List.flatten_append,List.take_append_drop]
  rw[h7,List.take_left' h5]
 rw[h6,←q6,List.take_take]
 congr 1
 have:(ks.take k).length≤ks.length:=by rw[List.length_take];omega
 exact(Nat.min_eq_left (Nat.mul_le_mul_right _ this)).symm
theorem St.addrI{a:Option Addr}(h:St g L w)(i:Nat)(hi:L[i]?=some (Zp e 1 (Ze ls) a c))(hne:ls≠[]):∃b,a=some ⟨b,0,none⟩:=by
 obtain⟨o1,r,⟨h1,h2⟩,ho,hr⟩:=h.get i hi
 rcases h2 with⟨_,_,h3⟩|⟨b',cur,h3,_⟩
 ·simp[Ze] at h3;exact absurd h3 hne
 exact⟨b',h3⟩
end
theorem C0(l:List Int):(Go.Lib.compact l).length≤l.length:=by
 unfold Go.Lib.compact Go.Lib.compactUpTo
 rw[List.length_map]
 exact Nat.le_trans (List.length_filter_le _ _) (by simp)
theorem HK{ys ss:List Int}(hp:ss.Perm ys)(hs:ss.Pairwise (·≤·)):ys.mergeSort (fun x y=>decide (x≤y))=ss:=by
 have h1:=mergeSort_of_perm_i hp
 show ys.mergeSort leI=_
 rw[←h1]
 exact List.mergeSort_of_pairwise (le:=leI) (hs.imp fun h=>decide_eq_true h)
end Go.V
namespace Go.V
open Go Go.RowKit Go.Maps
structure VN where
 n:Int
 live:Bool
 ab:List Int
 a:Option Addr
 c:Nat
 born:Nat
def vV(x:VN):Value:=.agg #[.bool x.live,.slice x.a (Ze x.ab).length x.c]
def vK(x:VN):Value×Value×Nat:=(.int .i64 x.n,vV x,x.born)
def vF(x:VN):List HP:=[Sh 3 1 (Ze x.ab) x.a x.c]
theorem vF_sh(x:VN):∀A∈vF x,Sht A:=fun A hA=>by
 simp only[vF,List.mem_singleton] at hA;subst hA;exact Sht.sh
def VUq(xs:List VN):Prop:=xs.Pairwise fun x y=>x.n≠y.n
theorem Zov(xs:List VN):∀x∈xs.map vK,MapKept.IsKey (.int .i64) x.1:=fun x hx=>by
 obtain⟨y,_,rfl⟩:=List.mem_map.1 hx
 rfl
theorem Zmt{xs:List VN}{k:Nat}{x:VN}(hx:xs[k]?=some x)(hu:VUq xs):Q0 (.int .i64) (.int .i64 x.n) (xs.map vK)=some (some (k,vV x)):=by
 refine U6 (d:=.int .i64) (k:=.int .i64 x.n) (b:=x.born) rfl (Zov xs) (by rw[List.getElem?_map,hx];rfl) fun j hj y hy=>?_
 rw[List.getElem?_map] at hy
 cases hz:xs[j]? with
 |none=>rw[hz] at hy;cases hy
 |some u =>
  rw[hz] at hy
  simp only[Option.map_some,Option.some.injEq] at hy
  subst hy
  intro he
  have he2:u.n=x.n:=(Value.int.inj he).2
  have hl:=(List.getElem?_eq_some_iff.1 hz).1
  have hl2:=(List.getElem?_eq_some_iff.1 hx).1
  refine List.pairwise_iff_getElem.1 hu j k hl hl2 hj ?_
  rw[(List.getElem?_eq_some_iff.1 hz).2,(List.getElem?_eq_some_iff.1 hx).2,he2]
theorem Zoc{xs:List VN}{n:Int}(h:∀x∈xs,x.n≠n):Q0 (.int .i64) (.int .i64 n) (xs.map vK)=some none:=by
 refine Hx (d:=.int .i64) (k:=.int .i64 n) rfl (Zov xs) fun x hx=>?_
 obtain⟨y,hy,rfl⟩:=List.mem_map.1 hx
 intro he
 exact h y hy (Value.int.inj he).2
theorem DN(xs:List VN)(n:Int):(∃(k:Nat)(x:VN),xs[k]?=some x∧x.n=n)∨∀x∈xs,x.n≠n:=by
 by_cases h:∃x∈xs,x.n=n
 ·obtain⟨x,hx,hn⟩:=h
  obtain⟨k,hk⟩:=List.mem_iff_getElem?.1 hx
  exact .inl ⟨k,x,hk,hn⟩
 exact .inr fun x hx hn=>h ⟨x,hx,hn⟩
theorem VUq.one{R:List VN}(h:VUq R){i j:Nat}{x y:VN}(hi:R[i]?=some x)(hj:R[j]?=some y)(he:x.n=y.n):i=j:=by
 have h1:=(List.getElem?_eq_some_iff.1 hi).1
 have h2:=(List.getElem?_eq_some_iff.1 hj).1
 have e1:R[i]=x:=(List.getElem?_eq_some_iff.1 hi).2
 have e2:R[j]=y:=(List.getElem?_eq_some_iff.1 hj).2
 rcases Nat.lt_trichotomy i j with hl|hl|hl
 ·exact absurd (by rw[e1,e2];exact he) (List.pairwise_iff_getElem.1 h i j h1 h2 hl)
 ·exact hl
 exact absurd (by rw[e1,e2];exact he.symm) (List.pairwise_iff_getElem.1 h j i h2 h1 hl)
def Z0(xs:List VN)(n:Int):Option VN:=xs.find? fun x=>decide (x.n=n)
def Zi(xs:List VN)(n:Int):Bool:=((Z0 xs n).map (·.live)).getD false
def ZF(xs:List VN)(n:Int):Bool:=(Z0 xs n).isSome
def YC(xs:List VN)(n:Int):List Int:=((Z0 xs n).map (·.ab)).getD []
theorem Q9{xs:List VN}{k:Nat}{x:VN}(hx:xs[k]?=some x)(hu:VUq xs):Z0 xs x.n=some x:=by
 cases hf:Z0 xs x.n with
 |none =>
  have:=List.find?_eq_none.1 hf x (List.mem_of_getElem? hx)
  exact absurd (decide_eq_true rfl) this
 |some y =>
  have hn:y.n=x.n:=of_decide_eq_true (List.find?_some (p:=fun q:VN=>decide (q.n=x.n)) hf)
  obtain⟨j,hj⟩:=List.mem_iff_getElem?.1 (List.mem_of_find?_eq_some hf)
  have:=hu.one hj hx hn
  subst this
  rw[hj] at hx;exact hx
theorem Ja{xs:List VN}{n:Int}(h:∀x∈xs,x.n≠n):Z0 xs n=none:=by
 refine List.find?_eq_none.2 fun x hx he=>h x hx (of_decide_eq_true he)
theorem Z7{xs:List VN}{n:Int}{x:VN}(h:Z0 xs n=some x):x∈xs∧x.n=n:=⟨List.mem_of_find?_eq_some h,of_decide_eq_true (List.find?_some (p:=fun q:VN=>decide (q.n=n)) h)⟩
theorem Za8{xs:List VN}{n:Int}:Z0 xs n=none↔∀x∈xs,x.n≠n:=⟨fun h x hx e=>List.find?_eq_none.1 h x hx (decide_eq_true e),Ja⟩
theorem Zeu{xs:List VN}{x:VN}(hx:x∈xs)(hu:VUq xs):Z0 xs x.n=some x:=by
 obtain⟨k,hk⟩:=List.mem_iff_getElem?.1 hx
 exact Q9 hk hu
theorem H8{xs:List VN}{n:Int}{x:VN}(h:Z0 xs n=some x):Zi xs n=x.live∧ZF xs n=true∧YC xs n=x.ab:=by simp[Zi,ZF,YC,h]
theorem Q7{xs:List VN}{n:Int}(h:Z0 xs n=none):Zi xs n=false∧ZF xs n=false∧YC xs n=[]:=by simp[Zi,ZF,YC,h]
theorem Ya{xs:List VN}{n:Int}(h:Zi xs n=true):ZF xs n=true:=by
 unfold Zi at h;unfold ZF
 cases hf:Z0 xs n with
 |none=>rw[hf] at h;cases h
 |some x=>rfl
theorem ZO{xs:List VN}{n:Int}:ZF xs n=true↔∃x∈xs,x.n=n:=by
 unfold ZF
 cases hf:Z0 xs n with
 |none=>exact⟨fun h=>(by cases h),fun⟨x,hx,hn⟩=>absurd hn (Za8.1 hf x hx)⟩
 |some x=>exact⟨fun _=>⟨x,Z7 hf⟩,fun _=>rfl⟩
structure VOk(xs:List VN)(q:Nat):Prop where
 uniq:VUq xs
 born:∀x∈xs,x.born<q
 bnd:(xs.map (·.born)).Nodup
 rng:∀x∈xs,1≤x.n∧x.n≤1000000000
 num:xs.length≤4096
section
variable{P:Program}{k:TypeId}
def UM(_:Value):Option (DataW Unit×List MemPlace):=some (.nil,[])
theorem Zf7(xs:List VN)(q:Nat)(h:VOk xs q)(hk:P.underlying k=some (.int .i64)){w:World}{b:Nat}(hb:w.heap[b]?=some (.map (mE (xs.map vK)) q)) :
  ∃D:DataW Unit,w.ownsMap P k UM b 4096 D∧Maps.size D=xs.length∧(intKeys D).Perm (xs.map (·.n)):=by
 have hrd:∀x:VN,x∈xs→Go.WideElems.rd P k UM ⟨.int .i64 x.n,vV x,x.born⟩=some (.int .i64 x.n,.nil):=fun x hx=>by
  have h1:=h.rng x hx
  have h2:(Lit.int .i64 x.n).wf=true:=by
   have e1:IntKind.i64.min=-9223372036854775808:=by decide
   have e2:IntKind.i64.max=9223372036854775807:=by decide
   simp only[Lit.wf,e1,e2,Bool.and_eq_true,decide_eq_true_eq]
   omega
  have h3:keyOf P k (.int .i64 x.n)=some (.int .i64 x.n):=by simp[keyOf,hk,mapKey,h2]
  simp[Go.WideElems.rd,h3,UM]
 have hF:Go.WideElems.Fit P k UM (mE (xs.map vK)) q:=by
  refine⟨by rw[Qb,List.length_map];exact Nat.le_trans h.num (by decide),⟨?_,?_,?_⟩,?_⟩
  ·intro x hx
   simp only[ZJ,List.map_map,List.mem_map] at hx
   obtain⟨y,hy,rfl⟩:=hx
   exact h.born y hy
  ·rw[ZJ,List.map_map,List.map_map]
   exact h.bnd
  ·rw[ZJ,List.map_map,List.map_map]
   refine List.pairwise_map.2 (h.uniq.imp fun {a b} hne he=>hne ?_)
   exact(Value.int.inj he).2
  intro x hx
  simp only[ZJ,List.map_map,List.mem_map] at hx
  obtain⟨y,hy,rfl⟩:=hx
  exact⟨_,hrd y hy⟩
 refine⟨_,⟨_,_,hb,hF,by rw[Qb,List.length_map];exact h.num,rfl⟩,?_,?_⟩
 ·rw[Maps.size_eq,(WideShapes.sorted_perm _).length_eq];simp
 refine((WideShapes.sorted_perm _).map _).trans ?_
 rw[ZJ,List.map_map,List.map_map,List.map_map]
 refine List.Perm.of_eq (List.map_congr_left fun x hx=>?_)
 simp only[Function.comp_def,vK,Go.WideElems.rg,hrd x hx,Option.getD_some,intOf]
end
end Go.V
namespace Go.V
open Go Go.RowKit
def Asc(l:List Int):Prop:=l.Pairwise fun a b=>a<b
def D1(l m:List Int):Int:=((l.filter fun z=>decide (z∈m)).getLast?).getD 0
theorem Asc.nodup{l:List Int}(h:Asc l):l.Nodup:=h.imp fun h=>by omega
theorem Asc.last{l:List Int}(h:Asc l){u:Int}(hu:u∈l)(hm:∀z∈l,z≤u):l.getLast?=some u:=by
 induction l with
 |nil=>cases hu
 |cons x t ih =>
  have hp:=List.pairwise_cons.1 h
  cases t with
  |nil=>simp at hu;subst hu;rfl
  |cons y t =>
   rw[List.getLast?_cons_cons]
   refine ih hp.2 ?_ fun z hz=>hm z (List.mem_cons_of_mem _ hz)
   rcases List.mem_cons.1 hu with rfl|hu
   ·have h1:=hp.1 y (List.mem_cons_self ..)
    have h2:=hm y (List.mem_cons_of_mem _ (List.mem_cons_self ..))
    omega
   exact hu
theorem JN{l m:List Int}(h:Asc l){u:Int}(h1:u∈l)(h2:u∈m)(hm:∀z∈l,z∈m→z≤u):D1 l m=u:=by
 unfold D1
 have h3:Asc (l.filter fun z=>decide (z∈m)):=h.sublist List.filter_sublist
 rw[h3.last (List.mem_filter.2 ⟨h1,decide_eq_true h2⟩) fun z hz=>hm z (List.mem_filter.1 hz).1 (of_decide_eq_true (List.mem_filter.1 hz).2)]
 rfl
theorem Us{l m:List Int}(h:∀z∈l,z∉m):D1 l m=0:=by
 unfold D1
 rw[List.filter_eq_nil_iff.2 fun z hz hd=>h z hz (of_decide_eq_true hd)]
 rfl
theorem Asc.max_ex{l:List Int}(h:Asc l)(hne:l≠[]):∃u∈l,∀z∈l,z≤u:=by
 refine⟨l.getLast hne,List.getLast_mem hne,fun z hz=>?_⟩
 induction l with
 |nil=>exact absurd rfl hne
 |cons x t ih =>
  have hp:=List.pairwise_cons.1 h
  cases t with
  |nil=>simp at hz;subst hz;exact Int.le_refl _
  |cons y t =>
   rw[List.getLast_cons (by simp)]
   rcases List.mem_cons.1 hz with rfl|hz
   ·have h1:=hp.1 _ (List.getLast_mem (l:=y::t) (by simp));omega
   exact ih hp.2 (by simp) hz
theorem JP{l m:List Int}(h:Asc l):(D1 l m=0∧∀z∈l,z∉m)∨(D1 l m∈l∧D1 l m∈m∧∀z∈l,z∈m→z≤D1 l m):=by
 by_cases hne:(l.filter fun z=>decide (z∈m))=[]
 ·have h1:∀z∈l,z∉m:=fun z hz hzm=>List.filter_eq_nil_iff.1 hne z hz (decide_eq_true hzm)
  exact .inl ⟨Us h1,h1⟩
 obtain⟨u,hu,hm⟩:=(show Asc _ from h.sublist List.filter_sublist).max_ex hne
 have h1:=(List.mem_filter.1 hu).1
 have h2:u∈m:=of_decide_eq_true (List.mem_filter.1 hu).2
 have h3:∀z∈l,z∈m→z≤u:=fun z hz hzm=>hm z (List.mem_filter.2 ⟨hz,decide_eq_true hzm⟩)
 rw[JN h h1 h2 h3]
 exact .inr ⟨h1,h2,h3⟩
theorem Zjv{l m:List Int}(hl:Asc l)(hm:Asc m):D1 l m=D1 m l:=by
 rcases JP (l:=l) (m:=m) hl with⟨h1,h2⟩|⟨h1,h2,h3⟩
 ·rw[h1,Us fun z hz hzl=>h2 z hzl hz]
 exact(JN hm h2 h1 fun z hz hzl=>h3 z hzl hz).symm
theorem Cf{l:List Int}(h:Asc l){k:Nat}{u:Int}(hu:l[k]?=some u){z:Int}(hz:z∈l.take (k+1)):z≤u:=by
 rw[List.take_add_one,hu] at hz
 rcases List.mem_append.1 hz with hz|hz
 ·obtain⟨i,hi⟩:=List.mem_iff_getElem?.1 hz
  rw[List.getElem?_take] at hi
  split at hi
  ·rename_i hlt
   have h1:=(List.getElem?_eq_some_iff.1 hi).1
   have h2:=(List.getElem?_eq_some_iff.1 hu).1
   have h3:=List.pairwise_iff_getElem.1 h i k h1 h2 hlt
   rw[(List.getElem?_eq_some_iff.1 hi).2,(List.getElem?_eq_some_iff.1 hu).2] at h3
   omega
  cases hi
 simp at hz;omega
theorem Hj{l:List Int}{k:Nat}{u z:Int}(hu:l[k]?=some u)(hz:z∈l.take (k+1))(hne:z≠u):z∈l.take k:=by
 rw[List.take_add_one,hu] at hz
 rcases List.mem_append.1 hz with hz|hz
 ·exact hz
 simp at hz;exact absurd hz hne
def Z9(xs:List VN)(x y:Int):Int:=if Zi xs x=true∧Zi xs y=true then D1 (YC xs x) (YC xs y) else 0
structure GOk(xs:List VN)(q:Nat):Prop extends VOk xs q where
 asc:∀x∈xs,Asc x.ab
 self:∀x∈xs,x.n∈x.ab
 le:∀x∈xs,∀z∈x.ab,z≤x.n
 pre:∀x∈xs,∀z∈x.ab,ZF xs z=true
 tr:∀x∈xs,∀z∈x.ab,∀u∈YC xs z,u∈x.ab
theorem Dr:∀{l m:List Int},l.Nodup→(∀z∈l,z∈m)→l.length≤m.length
 |[],_,_,_=>Nat.zero_le _
 |x::t,m,h,hs=>by
  have hp:=List.nodup_cons.1 h
  have h1:=List.perm_cons_erase (hs x (List.mem_cons_self ..))
  have h2:t.length≤(m.erase x).length:=Dr hp.2 fun z hz=>by
   have h3:=h1.mem_iff.1 (hs z (List.mem_cons_of_mem _ hz))
   rcases List.mem_cons.1 h3 with rfl|h3
   ·exact absurd hz hp.1
   exact h3
  have h4:=h1.length_eq
  simp only[List.length_cons] at h4 ⊢
  omega
theorem GOk.len{xs:List VN}{q:Nat}(h:GOk xs q){x:VN}(hx:x∈xs):x.ab.length≤xs.length:=by
 have h1:x.ab.length≤(xs.map VN.n).length:=by
  refine Dr (h.asc x hx).nodup fun z hz=>?_
  obtain⟨y,hy,hn⟩:=ZO.1 (h.pre x hx z hz)
  exact List.mem_map.2 ⟨y,hy,hn⟩
 simpa using h1
theorem GOk.ascA{xs:List VN}{q:Nat}(h:GOk xs q)(n:Int):Asc (YC xs n):=by
 cases hf:Z0 xs n with
 |none=>rw[(Q7 hf).2.2];exact List.Pairwise.nil
 |some x=>rw[(H8 hf).2.2];exact h.asc x (Z7 hf).1
theorem GOk.nil:GOk [] 0:=⟨⟨List.Pairwise.nil,fun _ h=>(by cases h),List.nodup_nil,fun _ h=>(by cases h),by simp⟩,fun _ h=>(by cases h),fun _ h=>(by cases h),fun _ h=>(by cases h),fun _ h=>(by cases h),fun _ h=>(by cases h)⟩
end Go.V
namespace Go.V
open Go Go.RowKit
def Qm(l:List Int):List Int:=l.mergeSort fun x y=>decide (x≤y)
theorem Xd(l:List Int):(Qm l).Perm l:=List.mergeSort_perm _ _
theorem UX(l:List Int):(Qm l).Pairwise (·≤·):=by
 have h:=List.pairwise_mergeSort (le:=fun x y:Int=>decide (x≤y)) (fun a b c h1 h2=>by
  simp only[decide_eq_true_eq] at h1 h2 ⊢;omega) (fun a b=>by
  simp only[Bool.or_eq_true,decide_eq_true_eq];omega) l
 exact h.imp fun h=>of_decide_eq_true h
theorem U9{d:Array Int}(hs:d.toList.Pairwise (·≤·)):∀m,m≤d.size→Asc (Go.Lib.compactUpTo d m)∧(∀z,z∈Go.Lib.compactUpTo d m↔∃j,j<m∧d[j]! = z)
 |0,_=>⟨List.Pairwise.nil,fun z=>⟨fun h=>by simp[Go.Lib.compactUpTo] at h,fun⟨j,hj,_⟩=>by omega⟩⟩
 |m+1,hm=>by
  obtain⟨h1,h2⟩:=U9 hs m (by omega)
  rw[Go.Lib.compactUpTo_succ]
  have hle:∀i j,i<j→j<d.size→d[i]!≤d[j]!:=fun i j hij hj=>by
   have:=List.pairwise_iff_getElem.1 hs i j (by simpa using(by omega:i<d.size)) (by simpa using hj) hij
   rw[getElem!_pos d i (by omega),getElem!_pos d j hj]
   simpa using this
  by_cases hk:Go.Lib.keeps d m=true
  ·rw[if_pos hk]
   refine⟨List.pairwise_append.2 ⟨h1,List.pairwise_singleton _ _,fun a ha b hb=>?_⟩,fun z=>?_⟩
   ·simp only[List.mem_singleton] at hb;subst hb
    obtain⟨j,hj,rfl⟩:=(h2 a).1 ha
    have hm0:m≠0:=by omega
    have hne:d[m]!≠d[m-1]!:=by
     have:=of_decide_eq_true hk
     exact this.resolve_left hm0
    have e1:=hle (m-1) m (by omega) (by omega)
    have e2:d[j]!≤d[m-1]!:=by
     by_cases hj2:j=m-1
     ·rw[hj2];exact Int.le_refl _
     exact hle j (m-1) (by omega) (by omega)
    omega
   rw[List.mem_append,List.mem_singleton,h2]
   constructor
   ·rintro(⟨j,hj,he⟩|rfl)
    ·exact⟨j,by omega,he⟩
    exact⟨m,by omega,rfl⟩
   rintro⟨j,hj,he⟩
   by_cases hjm:j=m
   ·subst hjm;exact .inr he.symm
   exact .inl ⟨j,by omega,he⟩
  rw[if_neg hk,List.append_nil]
  refine⟨h1,fun z=>?_⟩
  rw[h2]
  constructor
  ·rintro⟨j,hj,he⟩;exact⟨j,by omega,he⟩
  rintro⟨j,hj,he⟩
  by_cases hjm:j=m
  ·subst hjm
   have hk2:¬(j=0∨d[j]!≠d[j-1]!):=fun h=>hk (decide_eq_true h)
   have hj0:j≠0:=fun h=>hk2 (.inl h)
   have hj1:d[j]! = d[j-1]!:=Classical.not_not.1 fun h=>hk2 (.inr h)
   exact⟨j-1,by omega,by rw[←hj1];exact he⟩
  exact⟨j,by omega,he⟩
theorem Zg5{l:List Int}(hs:l.Pairwise (·≤·)):Asc (Go.Lib.compact l):=(U9 (d:=l.toArray) (by simpa using hs) l.length (by simp)).1
theorem Ziw{l:List Int}(hs:l.Pairwise (·≤·))(z:Int):z∈Go.Lib.compact l↔z∈l:=by
 rw[show(z∈Go.Lib.compact l)=(z∈Go.Lib.compactUpTo l.toArray l.length) from rfl,(U9 (d:=l.toArray) (by simpa using hs) l.length (by simp)).2 z,List.mem_iff_getElem]
 constructor
 ·rintro⟨j,hj,he⟩
  exact⟨j,hj,by rw[←he,getElem!_pos l.toArray j (by simpa using hj)];simp⟩
 rintro⟨j,hj,he⟩
 exact⟨j,hj,by rw[getElem!_pos l.toArray j (by simpa using hj)];simpa using he⟩
def Zq5(l:List Int):List Int:=Go.Lib.compact (Qm l)
theorem Zho(l:List Int):Asc (Zq5 l):=Zg5 (UX l)
theorem Zgt(l:List Int)(z:Int):z∈Zq5 l↔z∈l:=by
 unfold Zq5
 rw[Ziw (UX l),(Xd l).mem_iff]
theorem St.shsSub{α:Type}{f:α→List HP}{zs zs':List α}{g w:World}{L:List HP}(h:St g (ZE f zs::L) w)(hs:∀z∈zs',z∈zs):St g (ZE f zs'::L) w:=h.impl fun _ _ hh z hz=>hh z (hs z hz)
theorem VK{α:Type}{xs:List α}{v z:α}(h:z∈xs++[v]):z∈v::xs:=by
 rcases List.mem_append.1 h with h|h
 ·exact List.mem_cons_of_mem _ h
 rw[List.mem_singleton.1 h];exact List.mem_cons_self ..
def Je(xs:List VN)(n:Int)(ps:List Int):List Int:=[n]++ps.flatMap (YC xs)
theorem Za5{xs:List VN}{n p:Int}{ps:List Int}{k:Nat}(h:ps[k]?=some p):Je xs n (ps.take k)++YC xs p=Je xs n (ps.take (k+1)):=by
 unfold Je
 rw[List.take_add_one,h,List.flatMap_append,List.append_assoc]
 simp
theorem Zec{xs:List VN}{n:Int}(h:Zi xs n=true):∃(k:Nat)(x:VN),xs[k]?=some x∧x.n=n∧x.live=true∧YC xs n=x.ab:=by
 cases hf:Z0 xs n with
 |none=>rw[(Q7 hf).1] at h;cases h
 |some x =>
  obtain⟨h1,h2⟩:=Z7 hf
  obtain⟨k,hk⟩:=List.mem_iff_getElem?.1 h1
  obtain⟨h3,_,h4⟩:=H8 hf
  exact⟨k,x,hk,h2,h3▸h,h4⟩
theorem Dn{xs:List VN}{v:VN}(hn:∀x∈xs,x.n≠v.n)(n:Int):Z0 (xs++[v]) n=if n=v.n then some v else Z0 xs n:=by
 unfold Z0
 rw[List.find?_append]
 by_cases h:n=v.n
 ·subst h
  rw[if_pos rfl,show xs.find? (fun x=>decide (x.n=v.n))=none from Ja hn]
  simp
 rw[if_neg h]
 cases hf:xs.find? (fun x=>decide (x.n=n)) with
 |some x=>rfl
 |none =>
  simp only[Option.none_or,List.find?_cons,List.find?_nil]
  rw[decide_eq_false (fun e=>h e.symm)]
theorem GOk.add{xs:List VN}{q:Nat}(h:GOk xs q){v:VN}{ps:List Int}(hn:∀x∈xs,x.n<v.n)(hr:1≤v.n∧v.n≤1000000000)(hb:v.born=q)(hl:xs.length<4096)(ha:Asc v.ab)(hm:∀z,z∈v.ab↔z∈Je xs v.n ps):GOk (xs++[v]) (q+1):=by
 have hne:∀x∈xs,x.n≠v.n:=fun x hx e=>by have:=hn x hx;omega
 have hf:=Dn hne
 have hold:∀z∈ps.flatMap (YC xs),∃x∈xs,z∈x.ab:=fun z hz=>by
  obtain⟨p,_,hz⟩:=List.mem_flatMap.1 hz
  cases hp:Z0 xs p with
  |none=>rw[(Q7 hp).2.2] at hz;cases hz
  |some x=>rw[(H8 hp).2.2] at hz;exact⟨x,(Z7 hp).1,hz⟩
 have hm2:∀z,z∈v.ab↔z=v.n∨z∈ps.flatMap (YC xs):=fun z=>by rw[hm];simp[Je]
 have hpre:∀z,ZF xs z=true→ZF (xs++[v]) z=true:=fun z hz=>by
  obtain⟨x,hx,e⟩:=ZO.1 hz
  exact ZO.2 ⟨x,List.mem_append_left _ hx,e⟩
 have hlt:∀z,ZF xs z=true→z<v.n:=fun z hz=>by
  obtain⟨x,hx,e⟩:=ZO.1 hz
  have:=hn x hx;omega
 have hab:∀z,z≠v.n→YC (xs++[v]) z=YC xs z:=fun z hz=>by unfold YC;rw[hf,if_neg hz]
 refine⟨⟨?_,fun x hx=>?_,?_,fun x hx=>?_,by simp;omega⟩,fun x hx=>?_,fun x hx=>?_,fun x hx z hz=>?_,fun x hx z hz=>?_,fun x hx z hz u hu=>?_⟩
 ·refine List.pairwise_append.2 ⟨h.uniq,List.pairwise_singleton _ _,fun a hax b hbx=>?_⟩
  simp only[List.mem_singleton] at hbx;subst hbx;exact hne a hax
 ·rcases List.mem_append.1 hx with hx|hx
  ·have:=h.born x hx;omega
  simp only[List.mem_singleton] at hx;subst hx;omega
 ·rw[List.map_append,List.nodup_append]
  refine⟨h.bnd,by simp,fun a ha b hb2=>?_⟩
  obtain⟨x,hx,rfl⟩:=List.mem_map.1 ha
  simp only[List.map_cons,List.map_nil,List.mem_singleton] at hb2
  have:=h.born x hx;omega
 ·rcases List.mem_append.1 hx with hx|hx
  ·exact h.rng x hx
  simp only[List.mem_singleton] at hx;subst hx;exact hr
 ·rcases List.mem_append.1 hx with hx|hx
  ·exact h.asc x hx
  simp only[List.mem_singleton] at hx;subst hx;exact ha
 ·rcases List.mem_append.1 hx with hx|hx
  ·exact h.self x hx
  simp only[List.mem_singleton] at hx;subst hx;exact(hm2 _).2 (.inl rfl)
 ·rcases List.mem_append.1 hx with hx|hx
  ·exact h.le x hx z hz
  simp only[List.mem_singleton] at hx;subst hx
  rcases(hm2 z).1 hz with rfl|hz
  ·exact Int.le_refl _
  obtain⟨y,hy,hzy⟩:=hold z hz
  have:=h.le y hy z hzy
  have:=hn y hy
  omega
 ·rcases List.mem_append.1 hx with hx|hx
  ·exact hpre z (h.pre x hx z hz)
  simp only[List.mem_singleton] at hx;subst hx
  rcases(hm2 z).1 hz with rfl|hz
  ·exact ZO.2 ⟨x,List.mem_append_right _ (List.mem_singleton.2 rfl),rfl⟩
  obtain⟨y,hy,hzy⟩:=hold z hz
  exact hpre z (h.pre y hy z hzy)
 rcases List.mem_append.1 hx with hx|hx
 ·have h1:=hlt z (h.pre x hx z hz)
  rw[hab z (by omega)] at hu
  exact h.tr x hx z hz u hu
 simp only[List.mem_singleton] at hx;subst hx
 rcases(hm2 z).1 hz with rfl|hz
 ·unfold YC at hu;rw[hf,if_pos rfl] at hu;exact hu
 obtain⟨p,hp,hzp⟩:=List.mem_flatMap.1 hz
 cases hfp:Z0 xs p with
 |none=>rw[(Q7 hfp).2.2] at hzp;cases hzp
 |some y =>
  rw[(H8 hfp).2.2] at hzp
  have hy:=(Z7 hfp).1
  have h1:=hlt z (h.pre y hy z hzp)
  rw[hab z (by omega)] at hu
  refine(hm2 u).2 (.inr (List.mem_flatMap.2 ⟨p,hp,?_⟩))
  rw[(H8 hfp).2.2]
  exact h.tr y hy z hzp u hu
end Go.V
namespace Go.V
open Go Go.RowKit
def vw(xs:List VN)(z:Int):Option (Bool×List Int):=(Z0 xs z).map fun x=>(x.live,x.ab)
theorem ZT(xs:List VN)(z:Int):Zi xs z=((vw xs z).map (·.1)).getD false:=by
 unfold Zi vw;cases Z0 xs z<;>rfl
theorem Z'(xs:List VN)(z:Int):ZF xs z=(vw xs z).isSome:=by
 unfold ZF vw;cases Z0 xs z<;>rfl
theorem XK(xs:List VN)(z:Int):YC xs z=((vw xs z).map (·.2)).getD []:=by
 unfold YC vw;cases Z0 xs z<;>rfl
theorem VUq.set{xs:List VN}{j:Nat}{u u':VN}(hu:VUq xs)(hj:xs[j]?=some u)(hn:u'.n=u.n):VUq (xs.set j u'):=by
 unfold VUq at hu ⊢
 rw[←List.pairwise_map (f:=VN.n) (R:=fun a b=>a≠b)] at hu ⊢
 have hl:=(List.getElem?_eq_some_iff.1 hj).1
 have he:=(List.getElem?_eq_some_iff.1 hj).2
 have:(xs.set j u').map VN.n=xs.map VN.n:=by
  rw[List.map_set,hn]
  have h5:(xs.map VN.n)[j]'(by simpa using hl)=u.n:=by simp[he]
  rw[←h5];exact List.set_getElem_self _
 rw[this];exact hu
theorem VOk.rem{xs:List VN}{q:Nat}(h:VOk xs q)(j:Nat):VOk (xs.eraseIdx j) q:=by
 have hs:=List.eraseIdx_sublist xs j
 exact⟨h.uniq.sublist hs,fun x hx=>h.born x (hs.subset hx),h.bnd.sublist (hs.map _),fun x hx=>h.rng x (hs.subset hx),Nat.le_trans hs.length_le h.num⟩
theorem VOk.set{xs:List VN}{q j:Nat}{u u':VN}(h:VOk xs q)(hj:xs[j]?=some u)(hn:u'.n=u.n)(hb:u'.born=u.born):VOk (xs.set j u') q:=by
 have hm:=List.mem_of_getElem? hj
 have hl:=(List.getElem?_eq_some_iff.1 hj).1
 have he:=(List.getElem?_eq_some_iff.1 hj).2
 have hmem:∀x∈xs.set j u',x=u'∨x∈xs:=fun x hx=>(List.mem_or_eq_of_mem_set hx).symm
 refine⟨h.uniq.set hj hn,fun x hx=>?_,?_,fun x hx=>?_,by rw[List.length_set];exact h.num⟩
 ·rcases hmem x hx with rfl|hx
  ·rw[hb];exact h.born u hm
  exact h.born x hx
 ·have:(xs.set j u').map VN.born=xs.map VN.born:=by
   rw[List.map_set,hb]
   have h5:(xs.map VN.born)[j]'(by simpa using hl)=u.born:=by simp[he]
   rw[←h5];exact List.set_getElem_self _
  rw[this];exact h.bnd
 rcases hmem x hx with rfl|hx
 ·rw[hn];exact h.rng u hm
 exact h.rng x hx
end Go.V
namespace Go.V
open Go Go.RowKit
def Zcu(xs:List VN)(z:Int):Prop:=Zi xs z=true∨(0<z∧∃x y,Zi xs x=true∧Zi xs y=true∧x<y∧Z9 xs x y=z)
structure Keys(xs:List VN)(ss:List Int):Prop where
 perm:ss.Perm (xs.map VN.n)
 asc:Asc ss
theorem Keys.le{xs:List VN}{ss:List Int}(h:Keys xs ss):ss.Pairwise (·≤·):=h.asc.imp fun h=>by omega
theorem Keys.mem{xs:List VN}{ss:List Int}(h:Keys xs ss)(z:Int):z∈ss↔ZF xs z=true:=by
 rw[h.perm.mem_iff,ZO,List.mem_map]
theorem XT{xs:List VN}(hu:VUq xs):∃ss,Keys xs ss:=by
 refine⟨Qm (xs.map VN.n),Xd _,?_⟩
 have h1:(Qm (xs.map VN.n)).Nodup:=(Xd _).nodup_iff.2 (List.pairwise_map.2 hu)
 exact(List.pairwise_and_iff.2 ⟨UX (xs.map VN.n),h1⟩).imp fun⟨h,k⟩=>by omega
theorem Zkr{ss:List Int}(h:Asc ss){k:Nat}{n:Int}(hn:ss[k]?=some n):∀x∈ss.take k,x<n:=fun x hx=>by
 obtain⟨i,hi⟩:=List.mem_iff_getElem?.1 hx
 rw[List.getElem?_take] at hi
 split at hi
 ·rename_i hlt
  have h1:=(List.getElem?_eq_some_iff.1 hi).1
  have h2:=(List.getElem?_eq_some_iff.1 hn).1
  have h3:=List.pairwise_iff_getElem.1 h i k h1 h2 hlt
  rw[(List.getElem?_eq_some_iff.1 hi).2,(List.getElem?_eq_some_iff.1 hn).2] at h3
  exact h3
 cases hi
end Go.V
namespace Go.V
open Go Go.RowKit
structure GF(f:Int→Option (Bool×List Int)):Prop where
 asc:∀z l a,f z=some (l,a)→Asc a
 self:∀z l a,f z=some (l,a)→z∈a
 le:∀z l a,f z=some (l,a)→∀u∈a,u≤z
 pre:∀z l a,f z=some (l,a)→∀u∈a,(f u).isSome=true
 tr:∀z l a,f z=some (l,a)→∀u∈a,∀l' a',f u=some (l',a')→∀t∈a',t∈a
theorem Zdj{xs:List VN}{z:Int}{l:Bool}{a:List Int}(h:vw xs z=some (l,a)):∃x,Z0 xs z=some x∧x.live=l∧x.ab=a:=by
 unfold vw at h
 cases hf:Z0 xs z with
 |none=>rw[hf] at h;cases h
 |some x=>rw[hf] at h;simp at h;exact⟨x,rfl,h.1,h.2⟩
theorem Zg1{xs:List VN}(hu:VUq xs){x:VN}(hx:x∈xs):vw xs x.n=some (x.live,x.ab):=by unfold vw;rw[Zeu hx hu];rfl
theorem GOk.gf{xs:List VN}{q:Nat}(h:GOk xs q):GF (vw xs):=by
 refine⟨fun z l a hz=>?_,fun z l a hz=>?_,fun z l a hz=>?_,fun z l a hz u hu=>?_,fun z l a hz u hu l' a' hu' t ht=>?_⟩
 all_goals obtain⟨x,hx,rfl,rfl⟩:=Zdj hz
 all_goals obtain⟨h1,h2⟩:=Z7 hx
 ·exact h.asc x h1
 ·subst h2;exact h.self x h1
 ·subst h2;exact h.le x h1
 ·rw[←Z'];exact h.pre x h1 u hu
 refine h.tr x h1 u hu t ?_
 rw[XK,hu'];exact ht
def keep(N:Int→Bool)(f:Int→Option (Bool×List Int))(z:Int):Option (Bool×List Int):=if N z=true then(f z).map fun p=>(p.1,p.2.filter N) else none
theorem Uv{N:Int→Bool}{f:Int→Option (Bool×List Int)}{z:Int}{l:Bool}{a:List Int}(h:keep N f z=some (l,a)):N z=true∧∃a0,f z=some (l,a0)∧a=a0.filter N:=by
 unfold keep at h
 split at h
 ·rename_i hN
  cases hf:f z with
  |none=>rw[hf] at h;cases h
  |some p=>rw[hf] at h;simp at h;exact⟨hN,p.2,by rw[←h.1],h.2.symm⟩
 cases h
theorem GF.keep{f:Int→Option (Bool×List Int)}(h:GF f)(N:Int→Bool):GF (keep N f):=by
 refine⟨fun z l a hz=>?_,fun z l a hz=>?_,fun z l a hz=>?_,fun z l a hz u hu=>?_,fun z l a hz u hu l' a' hu' t ht=>?_⟩
 all_goals obtain⟨hN,a0,h0,rfl⟩:=Uv hz
 ·exact(h.asc z l a0 h0).sublist List.filter_sublist
 ·exact List.mem_filter.2 ⟨h.self z l a0 h0,hN⟩
 ·exact fun u hu=>h.le z l a0 h0 u (List.mem_filter.1 hu).1
 ·obtain⟨h1,h2⟩:=List.mem_filter.1 hu
  have h3:=h.pre z l a0 h0 u h1
  unfold Go.V.keep
  rw[if_pos h2]
  cases hf:f u with
  |none=>rw[hf] at h3;cases h3
  |some p=>rfl
 obtain⟨_,a1,h1,rfl⟩:=Uv hu'
 obtain⟨h2,h3⟩:=List.mem_filter.1 ht
 exact List.mem_filter.2 ⟨h.tr z l a0 h0 u (List.mem_filter.1 hu).1 l' a1 h1 t h2,h3⟩
def dead(f:Int→Option (Bool×List Int))(n:Int)(z:Int):Option (Bool×List Int):=if z=n then(f z).map fun p=>(false,p.2) else f z
theorem Ui{f:Int→Option (Bool×List Int)}{n z:Int}{l:Bool}{a:List Int}(h:dead f n z=some (l,a)):∃l0,f z=some (l0,a):=by
 unfold dead at h
 split at h
 ·cases hf:f z with
  |none=>rw[hf] at h;cases h
  |some p=>rw[hf] at h;simp at h;exact⟨p.1,by rw[←h.2]⟩
 exact⟨l,h⟩
theorem Jf(f:Int→Option (Bool×List Int))(n z:Int):(dead f n z).isSome=(f z).isSome:=by
 unfold dead;split
 ·cases f z<;>rfl
 rfl
theorem GF.dead{f:Int→Option (Bool×List Int)}(h:GF f)(n:Int):GF (dead f n):=by
 refine⟨fun z l a hz=>?_,fun z l a hz=>?_,fun z l a hz=>?_,fun z l a hz u hu=>?_,fun z l a hz u hu l' a' hu' t ht=>?_⟩
 all_goals obtain⟨l0,h0⟩:=Ui hz
 ·exact h.asc z l0 a h0
 ·exact h.self z l0 a h0
 ·exact h.le z l0 a h0
 ·rw[Jf];exact h.pre z l0 a h0 u hu
 obtain⟨l1,h1⟩:=Ui hu'
 exact h.tr z l0 a h0 u hu l1 a' h1 t ht
def RelP(xs:List VN)(n:Int)(xs2:List VN):Prop:=∃(xs1:List VN)(N:Int→Bool),(∀z,vw xs1 z=dead (vw xs) n z)∧(∀z,N z=true↔Zcu xs1 z)∧∀z,vw xs2 z=keep N (vw xs1) z
end Go.V
namespace Go.V
open Go Go.RowKit
def ZY(ps:List Int):Prop:=ps.length≤2∧∀x y,ps=[x,y]→x≠y
instance(ps:List Int):Decidable (ZY ps):=match ps with
 |[]=>isTrue ⟨by simp,fun _ _ h=>by cases h⟩
 |[_]=>isTrue ⟨by simp,fun _ _ h=>by cases h⟩
 |[x,y]=>if h:x=y then isFalse (fun k=>k.2 x y rfl h) else isTrue ⟨by simp,fun _ _ e=>by cases e;exact h⟩
 |_::_::_::_=>isFalse (fun k=>by have:=k.1;simp at this)
theorem Jv{ps:List Int}(h:ZY ps){x y:Int}(h0:ps[0]?=some x)(h1:ps[1]?=some y):x≠y:=by
 have hl:=h.1
 match ps,hl,h0,h1 with
 |[],_,h0,_=>cases h0
 |[_],_,_,h1=>cases h1
 |[u,v],_,h0,h1=>simp at h0 h1;subst h0;subst h1;exact h.2 _ _ rfl
theorem Zdg{ps:List Int}(h:¬ZY ps):2<ps.length∨∃x,ps=[x,x]:=by
 match ps,h with
 |[],h=>exact absurd ⟨by simp,fun _ _ h=>by cases h⟩ h
 |[_],h=>exact absurd ⟨by simp,fun _ _ h=>by cases h⟩ h
 |[x,y],h =>
  by_cases he:x=y
  ·subst he;exact .inr ⟨x,rfl⟩
  exact absurd ⟨by simp,fun _ _ e=>by cases e;exact he⟩ h
 |_::_::_::_,_=>exact .inl (by simp)
structure GI(xs:List VN)(q:Nat)(cap last:Int):Prop where
 ok:GOk xs q
 le:∀x∈xs,x.n≤last
 la:0≤last
 cp:1≤cap∧cap≤4096
def Xj(xs:List VN)(cap:Int)(ps:List Int):Int :=
 if ¬ZY ps then 1 else if ¬(∀z∈ps,Zi xs z=true) then 4 else if cap≤xs.length then 2 else 0
def Za1(xs:List VN)(cap last:Int)(ps:List Int):Int:=if Xj xs cap ps=0 then last+1 else 0
def AddP(xs:List VN)(cap last:Int)(ps:List Int)(xs2:List VN)(last2:Int):Prop :=
 (Xj xs cap ps≠0∧xs2=xs∧last2=last)∨(Xj xs cap ps=0∧last2=last+1∧∃vn:VN,xs2=xs++[vn]∧vn.n=last+1∧vn.live=true∧Asc vn.ab∧∀z,z∈vn.ab↔z∈Je xs (last+1) ps)
def Zq1(xs:List VN)(n:Int):Int:=if Zi xs n=true then 0 else 4
def RelQ(xs:List VN)(n:Int)(xs2:List VN):Prop:=(Zi xs n=true∧RelP xs n xs2)∨(Zi xs n=false∧xs2=xs)
theorem Hz{xs:List VN}:∀{ps:List Int},¬(∀z∈ps,Zi xs z=true)→∃(i:Nat)(b:Int),ps[i]?=some b∧Zi xs b=false∧∀j,j<i→∀y,ps[j]?=some y→Zi xs y=true
 |[],h=>absurd (fun _ hz=>by cases hz) h
 |p::ps,h=>by
  cases hp:Zi xs p with
  |false=>exact⟨0,p,rfl,hp,fun j hj=>by omega⟩
  |true =>
   obtain⟨i,b,hi,hb,hlt⟩:=Hz (ps:=ps) fun h2=>h fun z hz=>by
    rcases List.mem_cons.1 hz with rfl|hz
    ·exact hp
    exact h2 z hz
   refine⟨i+1,b,by simpa using hi,hb,fun j hj y hy=>?_⟩
   cases j with
   |zero=>simp at hy;subst hy;exact hp
   |succ j=>exact hlt j (by omega) y (by simpa using hy)
theorem Zdl{xs:List VN}{cap:Int}{ps:List Int}(h1:ZY ps)(h2:∀z∈ps,Zi xs z=true)(h3:¬cap≤xs.length):Xj xs cap ps=0:=by
 unfold Xj
 rw[if_neg (fun h=>h h1),if_neg (fun h=>h h2),if_neg h3]
theorem Zhb{xs:List VN}{ss:List Int}(h:ss.Perm (xs.map VN.n)):ss.length=xs.length:=by simpa using h.length_eq
theorem VO{xs:List VN}{cap:Int}{ps:List Int}(h:Xj xs cap ps=0):ZY ps∧(∀z∈ps,Zi xs z=true)∧(xs.length:Int)<cap:=by
 unfold Xj at h
 split at h
 ·omega
 rename_i h1
 split at h
 ·omega
 rename_i h2
 split at h
 ·omega
 rename_i h3
 exact⟨Classical.not_not.1 h1,Classical.not_not.1 h2,by omega⟩
theorem Zp8{xs:List VN}{v:VN}(hn:∀x∈xs,x.n≠v.n)(z:Int):vw (xs++[v]) z=if z=v.n then some (v.live,v.ab) else vw xs z:=by
 unfold vw
 rw[Dn hn]
 split<;>rfl
theorem RelP.le{xs xs2:List VN}{n last:Int}(hu:VUq xs2)(h:RelP xs n xs2)(hl:∀x∈xs,x.n≤last):∀x∈xs2,x.n≤last:=fun x hx=>by
 obtain⟨xs1,N,h1,_,h3⟩:=h
 have h4:=Zg1 hu hx
 rw[h3] at h4
 obtain⟨_,a0,h5,_⟩:=Uv h4
 rw[h1] at h5
 obtain⟨l0,h6⟩:=Ui h5
 obtain⟨y,hy,_,_⟩:=Zdj h6
 obtain⟨h7,h8⟩:=Z7 hy
 rw[←h8];exact hl y h7
theorem Zc9{l m:List Int}(hl:Asc l)(hm:Asc m)(h:∀z,z∈l↔z∈m):l=m :=
 List.Perm.eq_of_pairwise (le:=fun a b:Int=>a≤b) (fun a b _ _ h1 h2=>by omega) (hl.imp fun h=>by omega) (hm.imp fun h=>by omega) ((List.perm_ext_iff_of_nodup hl.nodup hm.nodup).2 h)
theorem AddP.vw{xs xs2:List VN}{cap last last2:Int}{ps:List Int}(h:AddP xs cap last ps xs2 last2)(hl:∀x∈xs,x.n≤last)(h0:Xj xs cap ps=0):last2=last+1∧xs2.length=xs.length+1∧∃ab,Asc ab∧(∀z,z∈ab↔z∈Je xs (last+1) ps)∧∀z,Go.V.vw xs2 z=if z=last+1 then some (true,ab) else Go.V.vw xs z:=by
 rcases h with⟨h,_⟩|⟨_,h2,v,rfl,h4,h5,h6,h7⟩
 ·exact absurd h0 h
 refine⟨h2,by simp,v.ab,h6,h7,fun z=>?_⟩
 rw[Zp8 (fun x hx e=>by have:=hl x hx;omega),h4,h5]
theorem AddP.bnd{xs xs2:List VN}{cap last last2:Int}{ps:List Int}(h:AddP xs cap last ps xs2 last2):last≤last2∧last2≤last+1:=by
 rcases h with⟨_,_,h⟩|⟨_,h,_⟩<;>omega
end Go.V
namespace Go.V
open Go Go.RowKit
def KO(xs:List VN):Prop:=∀z,ZF xs z=true→Zcu xs z
theorem KO.nil:KO []:=fun z h=>by cases h
theorem Yu{xs:List VN}{x y:Int}(hx:Zi xs x=true)(hy:Zi xs y=true):Z9 xs x y=D1 (YC xs x) (YC xs y):=by rw[Z9,if_pos ⟨hx,hy⟩]
theorem KO.add{xs xs2:List VN}{cap last last2:Int}{ps:List Int}(h:KO xs)(hl:∀x∈xs,x.n≤last)(ha:AddP xs cap last ps xs2 last2):KO xs2:=by
 by_cases h0:Xj xs cap ps=0
 ·obtain⟨_,_,ab,_,_,hv⟩:=ha.vw hl h0
  have hlt:∀z,ZF xs z=true→z≤last:=fun z hz=>by
   obtain⟨x,hx,e⟩:=ZO.1 hz
   rw[←e];exact hl x hx
  have hlv:∀z,z≠last+1→Zi xs2 z=Zi xs z∧YC xs2 z=YC xs z:=fun z hz=>by rw[ZT,ZT,XK,XK,hv,if_neg hz];exact⟨rfl,rfl⟩
  intro z hz
  by_cases hn:z=last+1
  ·subst hn;exact .inl (by rw[ZT,hv,if_pos rfl];rfl)
  have hz1:ZF xs z=true:=by rw[Z',hv,if_neg hn,←Z'] at hz;exact hz
  rcases h z hz1 with h1|⟨h1,x,y,hx,hy,hxy,he⟩
  ·exact .inl (by rw[(hlv z hn).1];exact h1)
  have nx:x≠last+1:=by have:=hlt x (Ya hx);omega
  have ny:y≠last+1:=by have:=hlt y (Ya hy);omega
  have lx:Zi xs2 x=true:=by rw[(hlv x nx).1];exact hx
  have ly:Zi xs2 y=true:=by rw[(hlv y ny).1];exact hy
  refine .inr ⟨h1,x,y,lx,ly,hxy,?_⟩
  rw[Yu lx ly,(hlv x nx).2,(hlv y ny).2,←Yu hx hy];exact he
 rcases ha with⟨_,rfl,_⟩|⟨h2,_⟩
 ·exact h
 exact absurd h2 h0
theorem H'{xs1 xs2:List VN}{N:Int→Bool}(hG:GF (vw xs1))(hpos:∀z,(vw xs1 z).isSome=true→1≤z)(hN:∀z,N z=true↔Zcu xs1 z)(hv:∀z,vw xs2 z=keep N (vw xs1) z) :
  (∀z,Zi xs2 z=Zi xs1 z)∧(∀z,N z=true→YC xs2 z=(YC xs1 z).filter N)∧∀x y,x<y→Zi xs1 x=true→Zi xs1 y=true→Z9 xs2 x y=Z9 xs1 x y:=by
 have hlv:∀z,Zi xs2 z=Zi xs1 z:=fun z=>by
  cases hN1:N z with
  |true=>rw[ZT,ZT,hv,keep,if_pos hN1];cases vw xs1 z<;>rfl
  |false =>
   have h1:Zi xs1 z=false:=by
    cases hl:Zi xs1 z with
    |false=>rfl
    |true=>rw[(hN z).2 (.inl hl)] at hN1;cases hN1
   rw[h1,ZT,hv,keep,if_neg (by rw[hN1];decide)];rfl
 have hab:∀z,N z=true→YC xs2 z=(YC xs1 z).filter N:=fun z h=>by
  rw[XK,XK,hv,keep,if_pos h]
  cases vw xs1 z<;>rfl
 refine⟨hlv,hab,fun x y hxy hx hy=>?_⟩
 have nx:=(hN x).2 (.inl hx)
 have ny:=(hN y).2 (.inl hy)
 have ax:Asc (YC xs1 x):=by
  rw[XK]
  cases hf:vw xs1 x with
  |none=>exact List.Pairwise.nil
  |some p=>exact hG.asc x p.1 p.2 hf
 rw[Yu (by rw[hlv];exact hx) (by rw[hlv];exact hy),Yu hx hy,hab x nx,hab y ny]
 rcases JP (l:=YC xs1 x) (m:=YC xs1 y) ax with⟨h1,h2⟩|⟨h1,h2,h3⟩
 ·rw[h1]
  exact Us fun z hz hz2=>h2 z (List.mem_filter.1 hz).1 (List.mem_filter.1 hz2).1
 have hp:0<D1 (YC xs1 x) (YC xs1 y)∨¬0<D1 (YC xs1 x) (YC xs1 y):=by omega
 have hNb:N (D1 (YC xs1 x) (YC xs1 y))=true∨D1 (YC xs1 x) (YC xs1 y)≤0:=by
  rcases hp with hp|hp
  ·exact .inl ((hN _).2 (.inr ⟨hp,x,y,hx,hy,hxy,by rw[Yu hx hy]⟩))
  exact .inr (by omega)
 rcases hNb with hNb|hNb
 ·exact JN (ax.sublist List.filter_sublist) (List.mem_filter.2 ⟨h1,hNb⟩) (List.mem_filter.2 ⟨h2,hNb⟩) fun z hz hz2=>h3 z (List.mem_filter.1 hz).1 (List.mem_filter.1 hz2).1
 exfalso
 generalize D1 (YC xs1 x) (YC xs1 y)=b at *
 rw[XK] at h1
 cases hf:vw xs1 x with
 |none=>rw[hf] at h1;cases h1
 |some p =>
  rw[hf] at h1
  have h5:=hpos _ (hG.pre x p.1 p.2 hf _ h1)
  omega
theorem GOk.pos{xs:List VN}{q:Nat}(h:GOk xs q)(z:Int)(hz:(vw xs z).isSome=true):1≤z:=by
 rw[←Z'] at hz
 obtain⟨x,hx,e⟩:=ZO.1 hz
 rw[←e];exact(h.rng x hx).1
theorem RelP.facts{xs xs2:List VN}{q:Nat}{n:Int}(hG:GOk xs q)(h:RelP xs n xs2):(∀z,Zi xs2 z=(Zi xs z&&decide (z≠n)))∧(∀z,ZF xs2 z=true→ZF xs z=true)∧KO xs2:=by
 obtain⟨xs1,N,h1,h2,h3⟩:=h
 have hG1:GF (vw xs1):=by rw[show vw xs1=dead (vw xs) n from funext h1];exact hG.gf.dead n
 have hpos:∀z,(vw xs1 z).isSome=true→1≤z:=fun z hz=>by rw[h1,Jf] at hz;exact hG.pos z hz
 obtain⟨k1,k2,k3⟩:=H' hG1 hpos h2 h3
 have hlive:∀z,Zi xs1 z=(Zi xs z&&decide (z≠n)):=fun z=>by
  rw[ZT,ZT,h1,dead]
  by_cases hz:z=n
  ·rw[if_pos hz,decide_eq_false (fun h=>h hz),Bool.and_false]
   cases vw xs z<;>rfl
  rw[if_neg hz,decide_eq_true hz,Bool.and_true]
 refine⟨fun z=>by rw[k1,hlive],fun z hz=>?_,fun z hz=>?_⟩
 ·rw[Z',h3] at hz
  rw[Z']
  unfold keep at hz
  split at hz
  ·cases hf:vw xs1 z with
   |none=>rw[hf] at hz;cases hz
   |some p =>
    rw[←Jf (vw xs) n,←h1,hf];rfl
  cases hz
 rw[Z',h3] at hz
 unfold keep at hz
 split at hz
 ·rename_i hN
  rcases(h2 z).1 hN with h|⟨h,x,y,hx,hy,hxy,he⟩
  ·exact .inl (by rw[k1];exact h)
  exact .inr ⟨h,x,y,by rw[k1];exact hx,by rw[k1];exact hy,hxy,by rw[k3 x y hxy hx hy];exact he⟩
 cases hz
theorem KO.rel{xs xs2:List VN}{q:Nat}{n:Int}(h:KO xs)(hG:GOk xs q)(hR:RelQ xs n xs2):KO xs2:=by
 rcases hR with⟨_,hR⟩|⟨_,rfl⟩
 ·exact(hR.facts hG).2.2
 exact h
theorem AddP.facts{xs xs2:List VN}{cap last last2:Int}{ps:List Int}(hl:∀x∈xs,x.n≤last)(ha:AddP xs cap last ps xs2 last2):(Xj xs cap ps≠0∧xs2=xs∧last2=last)∨(Xj xs cap ps=0∧last2=last+1∧ZF xs (last+1)=false∧(∀z,Zi xs2 z=(Zi xs z || decide (z=last+1)))∧(∀z,ZF xs2 z=(ZF xs z || decide (z=last+1)))∧xs2.length=xs.length+1):=by
 by_cases h0:Xj xs cap ps=0
 ·obtain⟨h1,h2,ab,_,_,hv⟩:=ha.vw hl h0
  have hn:ZF xs (last+1)=false:=by
   cases hp:ZF xs (last+1) with
   |false=>rfl
   |true =>
    obtain⟨x,hx,e⟩:=ZO.1 hp
    have:=hl x hx;omega
  refine .inr ⟨h0,h1,hn,fun z=>?_,fun z=>?_,h2⟩
  ·rw[ZT,ZT,hv]
   by_cases hz:z=last+1
   ·rw[if_pos hz,decide_eq_true hz,Bool.or_true];rfl
   rw[if_neg hz,decide_eq_false hz,Bool.or_false]
  rw[Z',Z',hv]
  by_cases hz:z=last+1
  ·rw[if_pos hz,decide_eq_true hz,Bool.or_true];rfl
  rw[if_neg hz,decide_eq_false hz,Bool.or_false]
 rcases ha with h|⟨h2,_⟩
 ·exact .inl h
 exact absurd h2 h0
theorem RelQ.live{xs xs2:List VN}{q:Nat}{n:Int}(hG:GOk xs q)(h:RelQ xs n xs2){z:Int}(hz:Zi xs2 z=true):Zi xs z=true∧z≠n:=by
 rcases h with⟨_,h⟩|⟨h,rfl⟩
 ·rw[(h.facts hG).1 z] at hz
  simp only[Bool.and_eq_true,decide_eq_true_eq] at hz
  exact hz
 exact⟨hz,fun e=>by rw[e,h] at hz;cases hz⟩
theorem RelQ.same{xs xs2:List VN}{n:Int}(h:RelQ xs n xs2)(hl:Zi xs n=false):xs2=xs:=by
 rcases h with⟨h,_⟩|⟨_,h⟩
 ·rw[hl] at h;cases h
 exact h
theorem Zid{xs:List VN}{n:Int}(h:Zq1 xs n=0):Zi xs n=true:=by
 unfold Zq1 at h
 split at h
 ·assumption
 omega
def Gon(xs:List VN)(la:Int)(gn:List Int):Prop:=∀v∈gn,Zi xs v=false∧v≤la
theorem Gon.rel{xs xs2:List VN}{q:Nat}{n la:Int}{gn:List Int}(h:Gon xs la gn)(hG:GOk xs q)(hR:RelQ xs n xs2):Gon xs2 la gn:=fun v hv=>by
 refine⟨?_,(h v hv).2⟩
 cases hl:Zi xs2 v with
 |false=>rfl
 |true=>have:=(hR.live hG hl).1;rw[(h v hv).1] at this;cases this
theorem Gon.snoc{xs xs2:List VN}{q:Nat}{n cap la:Int}{gn:List Int}(h:Gon xs la gn)(hI:GI xs q cap la)(hR:RelQ xs n xs2)(h0:Zq1 xs n=0):Gon xs2 la (gn++[n]):=fun v hv=>by
 rcases List.mem_append.1 hv with hv|hv
 ·exact h.rel hI.ok hR v hv
 rw[List.mem_singleton.1 hv]
 refine⟨?_,?_⟩
 ·cases hl:Zi xs2 n with
  |false=>rfl
  |true=>exact absurd rfl (hR.live hI.ok hl).2
 obtain⟨x,hx,e⟩:=ZO.1 (Ya (Zid h0))
 rw[←e];exact hI.le x hx
theorem Gon.add{xs xs2:List VN}{q:Nat}{cap la la2:Int}{ps gn:List Int}(h:Gon xs la gn)(hI:GI xs q cap la)(hA:AddP xs cap la ps xs2 la2):Gon xs2 la2 gn:=by
 rcases hA.facts hI.le with⟨_,rfl,rfl⟩|⟨_,rfl,_,h4,_⟩
 ·exact h
 intro v hv
 obtain⟨h5,h6⟩:=h v hv
 refine⟨?_,by omega⟩
 rw[h4,h5,decide_eq_false (by omega)];rfl
structure Cg where
 rel:Bool
 ver:Int
 ps:List Int
 a:Option Addr
 c:Nat
def cgC(z:Cg):List Value:=[.bool z.rel,.int .i64 z.ver,.slice z.a (Ze z.ps).length z.c]
def enG(l:List Cg):List (List Value):=l.map cgC
@[simp] theorem enG_len(l:List Cg):(enG l).length=l.length:=by simp[enG]
abbrev Ir(n:Int):Prop:=-9223372036854775808≤n∧n≤9223372036854775807
structure CgOk(z:Cg):Prop where
 ver:Ir z.ver
 ps:∀x∈z.ps,Ir x
end Go.V
namespace Go.V
open Go Go.RowKit
theorem Zm0{xs:List VN}{q:Nat}(hG:GOk xs q)(n:Int):∀z∈YC xs n,1≤z∧ZF xs z=true:=fun z hz=>by
 cases hf:Z0 xs n with
 |none=>rw[(Q7 hf).2.2] at hz;cases hz
 |some x =>
  rw[(H8 hf).2.2] at hz
  have h1:=hG.pre x (Z7 hf).1 z hz
  obtain⟨y,hy,e⟩:=ZO.1 h1
  exact⟨by rw[←e];exact(hG.rng y hy).1,h1⟩
theorem H9{xs:List VN}{q:Nat}(hG:GOk xs q){n:Int}(hl:Zi xs n=true):Z9 xs n n=n:=by
 rw[Yu hl hl]
 obtain⟨k,x,hx,hn,_,ha⟩:=Zec hl
 have hm:=List.mem_of_getElem? hx
 rw[ha]
 subst hn
 exact JN (hG.asc x hm) (hG.self x hm) (hG.self x hm) fun z hz _=>hG.le x hm z hz
theorem Ze0{xs:List VN}{q:Nat}(hG:GOk xs q)(x y:Int):Z9 xs y x=Z9 xs x y:=by
 unfold Z9
 by_cases h:Zi xs x=true∧Zi xs y=true
 ·rw[if_pos h,if_pos ⟨h.2,h.1⟩];exact Zjv (hG.ascA y) (hG.ascA x)
 rw[if_neg h,if_neg (fun k=>h ⟨k.2,k.1⟩)]
theorem HL{xs:List VN}{q:Nat}(hG:GOk xs q){x y:Int}(h:Z9 xs x y≠0):ZF xs (Z9 xs x y)=true:=by
 unfold Z9 at h ⊢
 split at h
 ·rename_i hl
  rw[if_pos hl]
  rcases JP (l:=YC xs x) (m:=YC xs y) (hG.ascA x) with⟨h2,_⟩|⟨h2,_,_⟩
  ·exact absurd h2 h
  exact(Zm0 hG x _ h2).2
 exact absurd rfl h
end Go.V
namespace Go.V
open Go Go.RowKit Go.Maps Go.Sort
structure KOk{α:Type}(f:α→Value×Value×Nat)(n:α→Int)(xs:List α)(q:Nat):Prop where
 key:∀x∈xs,(f x).1=.int .i64 (n x)
 uniq:xs.Pairwise fun x y=>n x≠n y
 born:∀x∈xs,(f x).2.2<q
 bnd:(xs.map fun x=>(f x).2.2).Nodup
 rng:∀x∈xs,-9223372036854775808≤n x∧n x≤9223372036854775807
 num:xs.length≤4096
section
variable{P:Program}{k:TypeId}{α:Type}{f:α→Value×Value×Nat}{n:α→Int}
theorem Zll(xs:List α)(q:Nat)(h:KOk f n xs q)(hk:P.underlying k=some (.int .i64)){w:World}{b:Nat}(hb:w.heap[b]?=some (.map (mE (xs.map f)) q)) :
  ∃D:DataW Unit,w.ownsMap P k UM b 4096 D∧Maps.size D=xs.length∧(intKeys D).Perm (xs.map n):=by
 have hrd:∀x:α,x∈xs→Go.WideElems.rd P k UM ⟨(f x).1,(f x).2.1,(f x).2.2⟩=some (.int .i64 (n x),.nil):=fun x hx=>by
  have h1:=h.rng x hx
  have h2:(Lit.int .i64 (n x)).wf=true:=by
   have e1:IntKind.i64.min=-9223372036854775808:=by decide
   have e2:IntKind.i64.max=9223372036854775807:=by decide
   simp only[Lit.wf,e1,e2,Bool.and_eq_true,decide_eq_true_eq]
   omega
  have h3:keyOf P k (.int .i64 (n x))=some (.int .i64 (n x)):=by simp[keyOf,hk,mapKey,h2]
  simp[Go.WideElems.rd,h.key x hx,h3,UM]
 have hF:Go.WideElems.Fit P k UM (mE (xs.map f)) q:=by
  refine⟨by rw[Qb,List.length_map];exact Nat.le_trans h.num (by decide),⟨?_,?_,?_⟩,?_⟩
  ·intro x hx
   simp only[ZJ,List.map_map,List.mem_map] at hx
   obtain⟨y,hy,rfl⟩:=hx
   exact h.born y hy
  ·rw[ZJ,List.map_map,List.map_map]
   exact h.bnd
  ·rw[ZJ,List.map_map,List.map_map]
   refine List.pairwise_map.2 (List.Pairwise.imp_of_mem (R:=fun x y=>n x≠n y) (fun {a b} ha hb' hne he=>hne ?_) h.uniq)
   simp only[Function.comp_def,h.key a ha,h.key b hb'] at he
   exact(Value.int.inj he).2
  intro x hx
  simp only[ZJ,List.map_map,List.mem_map] at hx
  obtain⟨y,hy,rfl⟩:=hx
  exact⟨_,hrd y hy⟩
 refine⟨_,⟨_,_,hb,hF,by rw[Qb,List.length_map];exact h.num,rfl⟩,?_,?_⟩
 ·rw[Maps.size_eq,(WideShapes.sorted_perm _).length_eq];simp
 refine((WideShapes.sorted_perm _).map _).trans ?_
 rw[ZJ,List.map_map,List.map_map,List.map_map]
 refine List.Perm.of_eq (List.map_congr_left fun x hx=>?_)
 simp only[Function.comp_def,Go.WideElems.rg,hrd x hx,Option.getD_some,intOf]
theorem Zjs{xs:List α}(h:∀x∈xs,(f x).1=.int .i64 (n x)):∀x∈xs.map f,MapKept.IsKey (.int .i64) x.1:=fun x hx=>by
 obtain⟨y,hy,rfl⟩:=List.mem_map.1 hx
 rw[h y hy];rfl
theorem Zh7{xs:List α}(h1:∀x∈xs,(f x).1=.int .i64 (n x))(hu:xs.Pairwise fun x y=>n x≠n y){k:Nat}{x:α}(hx:xs[k]?=some x):Q0 (.int .i64) (.int .i64 (n x)) (xs.map f)=some (some (k,(f x).2.1)):=by
 refine U6 (d:=.int .i64) (k:=.int .i64 (n x)) (b:=(f x).2.2) rfl (Zjs h1) (by rw[List.getElem?_map,hx];show some (f x)=_;rw[←h1 x (List.mem_of_getElem? hx)]) fun j hj y hy=>?_
 rw[List.getElem?_map] at hy
 cases hz:xs[j]? with
 |none=>rw[hz] at hy;cases hy
 |some u =>
  rw[hz] at hy
  simp only[Option.map_some,Option.some.injEq] at hy
  subst hy
  intro he
  rw[h1 u (List.mem_of_getElem? hz)] at he
  have he2:n u=n x:=(Value.int.inj he).2
  have hl:=(List.getElem?_eq_some_iff.1 hz).1
  have hl2:=(List.getElem?_eq_some_iff.1 hx).1
  refine List.pairwise_iff_getElem.1 hu j k hl hl2 hj ?_
  rw[(List.getElem?_eq_some_iff.1 hz).2,(List.getElem?_eq_some_iff.1 hx).2,he2]
theorem Zjh{xs:List α}(h1:∀x∈xs,(f x).1=.int .i64 (n x)){m:Int}(h:∀x∈xs,n x≠m):Q0 (.int .i64) (.int .i64 m) (xs.map f)=some none:=by
 refine Hx (d:=.int .i64) (k:=.int .i64 m) rfl (Zjs h1) fun x hx=>?_
 obtain⟨y,hy,rfl⟩:=List.mem_map.1 hx
 rw[h1 y hy]
 intro he
 exact h y hy (Value.int.inj he).2
theorem Zgb(n:α→Int)(xs:List α)(m:Int):(∃(k:Nat)(x:α),xs[k]?=some x∧n x=m)∨∀x∈xs,n x≠m:=by
 by_cases h:∃x∈xs,n x=m
 ·obtain⟨x,hx,hn⟩:=h
  obtain⟨k,hk⟩:=List.mem_iff_getElem?.1 hx
  exact .inl ⟨k,x,hk,hn⟩
 exact .inr fun x hx hn=>h ⟨x,hx,hn⟩
theorem KOk.nil:KOk f n [] 0:=⟨fun _ h=>(by cases h),List.Pairwise.nil,fun _ h=>(by cases h),List.nodup_nil,fun _ h=>(by cases h),by simp⟩
theorem KOk.snoc{xs:List α}{q:Nat}(h:KOk f n xs q){x:α}(hk:(f x).1=.int .i64 (n x))(hn:∀y∈xs,n y≠n x)(hb:(f x).2.2=q)(hr:-9223372036854775808≤n x∧n x≤9223372036854775807)(hl:xs.length<4096):KOk f n (xs++[x]) (q+1):=by
 refine⟨fun y hy=>?_,?_,fun y hy=>?_,?_,fun y hy=>?_,by simp;omega⟩
 ·rcases List.mem_append.1 hy with hy|hy
  ·exact h.key y hy
  rw[List.mem_singleton.1 hy];exact hk
 ·refine List.pairwise_append.2 ⟨h.uniq,List.pairwise_singleton _ _,fun a ha b hb'=>?_⟩
  rw[List.mem_singleton.1 hb'];exact hn a ha
 ·rcases List.mem_append.1 hy with hy|hy
  ·exact Nat.lt_succ_of_lt (h.born y hy)
  rw[List.mem_singleton.1 hy,hb];exact Nat.lt_succ_self _
 ·rw[List.map_append]
  refine List.nodup_append.2 ⟨h.bnd,List.pairwise_singleton _ _,fun a ha b hb' e=>?_⟩
  rw[List.map_singleton,List.mem_singleton] at hb'
  obtain⟨y,hy,rfl⟩:=List.mem_map.1 ha
  have:=h.born y hy
  rw[e,hb',hb] at this;omega
 rcases List.mem_append.1 hy with hy|hy
 ·exact h.rng y hy
 rw[List.mem_singleton.1 hy];exact hr
theorem KOk.erase{xs:List α}{q:Nat}(h:KOk f n xs q)(j:Nat):KOk f n (xs.eraseIdx j) q:=by
 have hs:=List.eraseIdx_sublist xs j
 exact⟨fun y hy=>h.key y (hs.subset hy),h.uniq.sublist hs,fun y hy=>h.born y (hs.subset hy),h.bnd.sublist (hs.map _),fun y hy=>h.rng y (hs.subset hy),Nat.le_trans hs.length_le h.num⟩
theorem Qr{xs:List α}(hu:xs.Pairwise fun x y=>n x≠n y){j:Nat}{u:α}(hj:xs[j]?=some u)(x:α):x∈xs.eraseIdx j↔x∈xs∧n x≠n u:=by
 induction xs generalizing j with
 |nil=>simp at hj
 |cons y ys ih =>
  obtain⟨h1,h2⟩:=List.pairwise_cons.1 hu
  cases j with
  |zero =>
   simp only[List.getElem?_cons_zero,Option.some.injEq] at hj
   subst hj
   rw[List.eraseIdx_cons_zero,List.mem_cons]
   constructor
   ·intro hx;exact⟨.inr hx,fun e=>h1 x hx e.symm⟩
   rintro⟨rfl|hx,hn⟩
   ·exact absurd rfl hn
   exact hx
  |succ j =>
   rw[List.getElem?_cons_succ] at hj
   rw[List.eraseIdx_cons_succ,List.mem_cons,List.mem_cons,ih h2 hj]
   constructor
   ·rintro(rfl|⟨hx,hn⟩)
    ·exact⟨.inl rfl,h1 u (List.mem_of_getElem? hj)⟩
    exact⟨.inr hx,hn⟩
   rintro⟨rfl|hx,hn⟩
   ·exact .inl rfl
   exact .inr ⟨hx,hn⟩
end
end Go.V
namespace Go.Proofs
open Go.Shelf
def Tryz.keysA_ren:Go.Shelf.Ren:=⟨fun|7=>213|10=>332|n=>n,fun|23=>319|26=>3|3=>332|28=>329|0=>0|27=>328|33=>117|4=>4|n=>n,fun|n=>n⟩
theorem Tryz.keysA:Go.Proofs.SlLaysZI.n7 Tryz.prog Tryz.keysA_ren:={
 mixed:=by kernel_rfl
 f7:=⟨Tryz.f213.name,by decide,Tryz.func213.trans (congrArg some (by kernel_rfl))⟩
 f10:=⟨Tryz.f332.name,by decide,Tryz.func332.trans (congrArg some (by kernel_rfl))⟩
 t0:=Tryz.underlying0
 a0:=Tryz.isAgg0
 z0:=Tryz.sizeOf0
 v0:=Tryz.zeroValue0
 t4:=Tryz.underlying4
 a4:=Tryz.isAgg4
 z4:=Tryz.sizeOf4
 v4:=Tryz.zeroValue4
 t23:=Tryz.underlying319
 a23:=Tryz.isAgg319
 z23:=Tryz.sizeOf319
 v23:=Tryz.zeroValue319
 t26:=Tryz.underlying3
 a26:=Tryz.isAgg3
 z26:=Tryz.sizeOf3
 v26:=Tryz.zeroValue3
 t27:=Tryz.underlying328
 a27:=Tryz.isAgg328
 z27:=Tryz.sizeOf328
 v27:=Tryz.zeroValue328
 t28:=Tryz.underlying329
 a28:=Tryz.isAgg329
 z28:=Tryz.sizeOf329
 v28:=Tryz.zeroValue329
 t33:=Tryz.underlying117
 a33:=Tryz.isAgg117
 z33:=Tryz.sizeOf117
 v33:=Tryz.zeroValue117 }
def Tryz.keysB_ren:Go.Shelf.Ren:=⟨fun|7=>248|10=>373|n=>n,fun|23=>161|26=>3|3=>93|28=>329|0=>0|27=>328|33=>117|4=>4|n=>n,fun|n=>n⟩
theorem Tryz.keysB:Go.Proofs.SlLaysZI.n7 Tryz.prog Tryz.keysB_ren:={
 mixed:=by kernel_rfl
 f7:=⟨Tryz.f248.name,by decide,Tryz.func248.trans (congrArg some (by kernel_rfl))⟩
 f10:=⟨Tryz.f373.name,by decide,Tryz.func373.trans (congrArg some (by kernel_rfl))⟩
 t0:=Tryz.underlying0
 a0:=Tryz.isAgg0
 z0:=Tryz.sizeOf0
 v0:=Tryz.zeroValue0
 t4:=Tryz.underlying4
 a4:=Tryz.isAgg4
 z4:=Tryz.sizeOf4
 v4:=Tryz.zeroValue4
 t23:=Tryz.underlying161
 a23:=Tryz.isAgg161
 z23:=Tryz.sizeOf161
 v23:=Tryz.zeroValue161
 t26:=Tryz.underlying3
 a26:=Tryz.isAgg3
 z26:=Tryz.sizeOf3
 v26:=Tryz.zeroValue3
 t27:=Tryz.underlying328
 a27:=Tryz.isAgg328
 z27:=Tryz.sizeOf328
 v27:=Tryz.zeroValue328
 t28:=Tryz.underlying329
 a28:=Tryz.isAgg329
 z28:=Tryz.sizeOf329
 v28:=Tryz.zeroValue329
 t33:=Tryz.underlying117
 a33:=Tryz.isAgg117
 z33:=Tryz.sizeOf117
 v33:=Tryz.zeroValue117 }
def Tryz.sortedA_ren:Go.Shelf.Ren:=⟨fun|6=>212|8=>330|9=>331|11=>427|13=>195|12=>428|23=>325|24=>326|14=>472|15=>473|16=>474|17=>475|18=>476|19=>477|20=>478|21=>479|22=>480|25=>498|26=>419|27=>420|28=>499|29=>500|30=>501|31=>524|n=>n,fun|26=>3|28=>329|24=>72|0=>0|3=>3|37=>307|48=>93|50=>23|4=>4|40=>437|39=>436|45=>442|5=>5|9=>9|51=>541|55=>545|57=>579|58=>458|33=>117|n=>n,fun|n=>n⟩
theorem Tryz.sortedA:Go.Proofs.SlLaysZI.n6 Tryz.prog Tryz.sortedA_ren:={
 mixed:=by kernel_rfl
 f6:=⟨Tryz.f212.name,by decide,Tryz.func212.trans (congrArg some (by kernel_rfl))⟩
 f8:=⟨Tryz.f330.name,by decide,Tryz.func330.trans (congrArg some (by kernel_rfl))⟩
 f11:=⟨Tryz.f427.name,by decide,Tryz.func427.trans (congrArg some (by kernel_rfl))⟩
 t0:=Tryz.underlying0
 a0:=Tryz.isAgg0
 z0:=Tryz.sizeOf0
 v0:=Tryz.zeroValue0
 t24:=Tryz.underlying72
 a24:=Tryz.isAgg72
 z24:=Tryz.sizeOf72
 v24:=Tryz.zeroValue72
 t26:=Tryz.underlying3
 a26:=Tryz.isAgg3
 z26:=Tryz.sizeOf3
 v26:=Tryz.zeroValue3
 t28:=Tryz.underlying329
 a28:=Tryz.isAgg329
 z28:=Tryz.sizeOf329
 v28:=Tryz.zeroValue329
 i26:=by kernel_rfl }
def Tryz.sortA_ren:Go.Shelf.Ren:=⟨fun|5=>331|8=>195|7=>428|19=>325|20=>326|10=>472|11=>473|12=>474|13=>475|14=>476|15=>477|16=>478|17=>479|18=>480|30=>498|31=>419|32=>420|33=>499|34=>500|35=>501|40=>524|n=>n,fun|23=>72|25=>3|3=>3|32=>307|22=>72|0=>0|44=>93|46=>23|4=>4|36=>437|35=>436|41=>442|5=>5|9=>9|53=>541|57=>545|63=>579|64=>458|n=>n,fun|n=>n⟩
theorem Tryz.sortA:Go.Proofs.SlLaysM.n5 Tryz.prog Tryz.sortA_ren:={
 mixed:=by kernel_rfl
 f5:=⟨Tryz.f331.name,by decide,Tryz.func331.trans (congrArg some (by kernel_rfl))⟩
 f7:=⟨Tryz.f428.name,by decide,Tryz.func428.trans (congrArg some (by kernel_rfl))⟩
 f8:=Tryz.func195.trans (congrArg some (by kernel_rfl))
 f10:=⟨Tryz.f472.name,by decide,Tryz.func472.trans (congrArg some (by kernel_rfl))⟩
 f11:=⟨Tryz.f473.name,by decide,Tryz.func473.trans (congrArg some (by kernel_rfl))⟩
 f12:=⟨Tryz.f474.name,by decide,Tryz.func474.trans (congrArg some (by kernel_rfl))⟩
 f13:=⟨Tryz.f475.name,by decide,Tryz.func475.trans (congrArg some (by kernel_rfl))⟩
 f14:=⟨Tryz.f476.name,by decide,Tryz.func476.trans (congrArg some (by kernel_rfl))⟩
 f15:=⟨Tryz.f477.name,by decide,Tryz.func477.trans (congrArg some (by kernel_rfl))⟩
 f16:=⟨Tryz.f478.name,by decide,Tryz.func478.trans (congrArg some (by kernel_rfl))⟩
 f17:=⟨Tryz.f479.name,by decide,Tryz.func479.trans (congrArg some (by kernel_rfl))⟩
 f18:=⟨Tryz.f480.name,by decide,Tryz.func480.trans (congrArg some (by kernel_rfl))⟩
 f19:=Tryz.func325.trans (congrArg some (by kernel_rfl))
 f20:=Tryz.func326.trans (congrArg some (by kernel_rfl))
 f30:=⟨Tryz.f498.name,by decide,Tryz.func498.trans (congrArg some (by kernel_rfl))⟩
 f31:=Tryz.func419.trans (congrArg some (by kernel_rfl))
 f32:=Tryz.func420.trans (congrArg some (by kernel_rfl))
 f33:=⟨Tryz.f499.name,by decide,Tryz.func499.trans (congrArg some (by kernel_rfl))⟩
 f34:=⟨Tryz.f500.name,by decide,Tryz.func500.trans (congrArg some (by kernel_rfl))⟩
 f35:=⟨Tryz.f501.name,by decide,Tryz.func501.trans (congrArg some (by kernel_rfl))⟩
 f40:=⟨Tryz.f524.name,by decide,Tryz.func524.trans (congrArg some (by kernel_rfl))⟩
 t0:=Tryz.underlying0
 a0:=Tryz.isAgg0
 z0:=Tryz.sizeOf0
 v0:=Tryz.zeroValue0
 t3:=Tryz.underlying3
 a3:=Tryz.isAgg3
 z3:=Tryz.sizeOf3
 v3:=Tryz.zeroValue3
 t4:=Tryz.underlying4
 a4:=Tryz.isAgg4
 z4:=Tryz.sizeOf4
 v4:=Tryz.zeroValue4
 t5:=Tryz.underlying5
 a5:=Tryz.isAgg5
 z5:=Tryz.sizeOf5
 v5:=Tryz.zeroValue5
 t9:=Tryz.underlying9
 a9:=Tryz.isAgg9
 z9:=Tryz.sizeOf9
 v9:=Tryz.zeroValue9
 t22:=Tryz.underlying72
 a22:=Tryz.isAgg72
 z22:=Tryz.sizeOf72
 v22:=Tryz.zeroValue72
 t23:=Tryz.underlying72
 a23:=Tryz.isAgg72
 z23:=Tryz.sizeOf72
 v23:=Tryz.zeroValue72
 t25:=Tryz.underlying3
 a25:=Tryz.isAgg3
 z25:=Tryz.sizeOf3
 v25:=Tryz.zeroValue3
 t32:=Tryz.underlying307
 a32:=Tryz.isAgg307
 z32:=Tryz.sizeOf307
 v32:=Tryz.zeroValue307
 t35:=Tryz.underlying436
 a35:=Tryz.isAgg436
 z35:=Tryz.sizeOf436
 v35:=Tryz.zeroValue436
 t36:=Tryz.underlying437
 a36:=Tryz.isAgg437
 z36:=Tryz.sizeOf437
 v36:=Tryz.zeroValue437
 t41:=Tryz.underlying442
 a41:=Tryz.isAgg442
 z41:=Tryz.sizeOf442
 v41:=Tryz.zeroValue442
 t44:=Tryz.underlying93
 a44:=Tryz.isAgg93
 z44:=Tryz.sizeOf93
 v44:=Tryz.zeroValue93
 t46:=Tryz.underlying23
 a46:=Tryz.isAgg23
 z46:=Tryz.sizeOf23
 v46:=Tryz.zeroValue23
 t53:=Tryz.underlying541
 a53:=Tryz.isAgg541
 z53:=Tryz.sizeOf541
 v53:=Tryz.zeroValue541
 t57:=Tryz.underlying545
 a57:=Tryz.isAgg545
 z57:=Tryz.sizeOf545
 v57:=Tryz.zeroValue545
 t63:=Tryz.underlying579
 a63:=Tryz.isAgg579
 z63:=Tryz.sizeOf579
 v63:=Tryz.zeroValue579
 t64:=Tryz.underlying458
 a64:=Tryz.isAgg458
 z64:=Tryz.sizeOf458
 v64:=Tryz.zeroValue458 }
def Tryz.compactA_ren:Go.Shelf.Ren:=⟨fun|43=>370|n=>n,fun|22=>72|23=>3|3=>3|4=>4|0=>0|n=>n,fun|n=>n⟩
theorem Tryz.compactA:Go.Proofs.SlLaysN.n43 Tryz.prog Tryz.compactA_ren:={
 mixed:=by kernel_rfl
 f43:=⟨Tryz.f370.name,by decide,Tryz.func370.trans (congrArg some (by kernel_rfl))⟩
 t0:=Tryz.underlying0
 a0:=Tryz.isAgg0
 z0:=Tryz.sizeOf0
 v0:=Tryz.zeroValue0
 t3:=Tryz.underlying3
 a3:=Tryz.isAgg3
 z3:=Tryz.sizeOf3
 v3:=Tryz.zeroValue3
 t4:=Tryz.underlying4
 a4:=Tryz.isAgg4
 z4:=Tryz.sizeOf4
 v4:=Tryz.zeroValue4
 t22:=Tryz.underlying72
 a22:=Tryz.isAgg72
 z22:=Tryz.sizeOf72
 v22:=Tryz.zeroValue72
 t23:=Tryz.underlying3
 a23:=Tryz.isAgg3
 z23:=Tryz.sizeOf3
 v23:=Tryz.zeroValue3
 i23:=by kernel_rfl }
end Go.Proofs
namespace Go.Proofs
open Go.RowKit Go.Maps Go.Sort Go.Shelf
theorem Tryz.sortsA(m:Nat):AnyZI.SortsIn Tryz.prog Tryz.sortedA_ren Fence.wide m :=
 ⟨fun Yy off cap ss W hH hblk hsz=>callsIn_wide.2 (AnyM.slices_Sort_int Tryz.sortA Yy off cap ss W hH hblk hsz),
 fun p cap W=>callsIn_wide.2 (AnyM.slices_Sort_int_none Tryz.sortA p cap W)⟩
end Go.Proofs
namespace Go.Proofs.YtpebgkkmgffmaaaGreatDoor
open Go Go.V Go.RowKit Go.Maps Go.Sort Go.Shelf
set_option maxHeartbeats 8000000
set_option maxRecDepth 8192
variable{g w:World}{L:List HP}
theorem DO(p m:Nat)(cap last:Int)(xs:List VN)(q:Nat)(k:Nat)(x:VN)(hx:xs[k]?=some x)(hu:VUq xs)(Z:St g (Zq p #[.I cap,.I last,.map (some m)] 321::Yy m (.map (mE (List.map vK xs)) q)::ZE vF xs::L) w) :
  Zr g L 243 [.P p,.I x.n] w fun rV=>rV (.bool x.live) [Zq p #[.I cap,.I last,.map (some m)] 321,Yy m (.map (mE (List.map vK xs)) q),ZE vF xs]:=by
 refine Sp.en Tryz.func243 ?_
 refine Zuc rfl rfl JE 1 Z rfl rfl rfl (by first|trivial|rfl) (r:=some (k,.agg #[.bool x.live,.slice x.a (Ze x.ab).length x.c])) (Zmt hx hu) rfl ?_
 refine Sz ?_
 exact⟨rfl,Z⟩
theorem Zih(p m:Nat)(cap last:Int)(xs:List VN)(q:Nat)(n:Int)(hn:∀x∈xs,x.n≠n)(Z:St g (Zq p #[.I cap,.I last,.map (some m)] 321::Yy m (.map (mE (List.map vK xs)) q)::ZE vF xs::L) w) :
  Zr g L 243 [.P p,.I n] w fun rV=>rV (.bool false) [Zq p #[.I cap,.I last,.map (some m)] 321,Yy m (.map (mE (List.map vK xs)) q),ZE vF xs]:=by
 refine Sp.en Tryz.func243 ?_
 refine Zuc rfl rfl JE 1 Z rfl rfl rfl (by first|trivial|rfl) (r:=none) (Zoc hn) rfl ?_
 refine Sz ?_
 exact⟨rfl,Z⟩
theorem XD(p m:Nat)(cap last:Int)(xs:List VN)(q:Nat)(n:Int)(hu:VUq xs)(Z:St g (Zq p #[.I cap,.I last,.map (some m)] 321::Yy m (.map (mE (List.map vK xs)) q)::ZE vF xs::L) w) :
  Zr g L 243 [.P p,.I n] w fun rV=>rV (.bool (Zi xs n)) [Zq p #[.I cap,.I last,.map (some m)] 321,Yy m (.map (mE (List.map vK xs)) q),ZE vF xs]:=by
 rcases DN xs n with⟨k,x,hx,rfl⟩|hn
 ·rw[(H8 (Q9 hx hu)).1];exact DO p m cap last xs q k x hx hu Z
 rw[(Q7 (Ja hn)).1];exact Zih p m cap last xs q n hn Z
theorem Zek(m:Nat)(Z:St g (L) w) :
  Zr g L 213 [.map (some m)] w fun rV=>∃(c:Nat),rV (.func (.func 332) #[] #[.P c]) [Zq c #[.map (some m)] 319]:=by
 have h:=callsIn_wide.1 (AnyZI.keys_in Tryz.keysA Fence.wide 5 trivial rfl (some m) w)
 refine⟨⟨_,_,Tryz.func213,by kernel_rfl,rfl⟩,h.mono fun e w' ⟨he,hw⟩=>⟨_,he,?_⟩⟩
 subst hw
 exact⟨_,rfl,Z.new _⟩
theorem Vf(m c q:Nat)(xs:List VN)(ss:List Int)(ht:VOk xs q)(hp:ss.Perm (xs.map VN.n))(hs:ss.Pairwise (·≤·))(Z:St g (Zq c #[.map (some m)] 319::Yy m (.map (mE (List.map vK xs)) q)::L) w) :
  Zr g L 212 [.func (.func 332) #[] #[.P c]] w fun rV=>∃(a2:Option Addr)(c2:Nat),rV (.slice a2 (Ze ss).length c2) [Zp 3 1 (Ze ss) a2 c2,Zq c #[.map (some m)] 319,Yy m (.map (mE (List.map vK xs)) q)]:=by
 have hc:w.cell? ⟨c,0,none⟩=some (.map (some m)):=Z.ld 0 rfl rfl
 have hcl:c<w.heap.size:=by
  have h1:=Z.heap 0 rfl
  exact(Array.getElem?_eq_some_iff.1 h1).1
 have hm:=Z.heap 1 rfl
 obtain⟨D,hD,hsz,hk⟩:=Zf7 (P:=Tryz.prog) (k:=3) xs q ht Tryz.underlying3 hm
 have hseq:=AnyZI.keys_gives (ρ:=Tryz.keysA_ren) { Tryz.keysA with } Fence.wide 2 trivial rfl (by omega) c m 4096 D w hcl hc hD
 have h:=callsIn_wide.1 (AnyZI.sorted_in Tryz.sortedA Fence.wide 5 trivial trivial trivial trivial rfl (by omega) (Tryz.sortsA _) (enters_of Tryz.func331 (by kernel_rfl) rfl) 332 #[.P c] trivial (enters_of Tryz.func332 (by kernel_rfl) rfl) _ _ (by rw[hsz];exact Nat.le_trans ht.num (by decide)) (by rw[hsz];have:=ht.num;omega) w hseq)
 refine⟨⟨_,_,Tryz.func212,by kernel_rfl,rfl⟩,h.mono fun e w' ⟨v,ys,he,hys,hrow,_,hb⟩=>⟨v,he,?_⟩⟩
 have hpp:ss.Perm ys:=hp.trans (hys.trans hk).symm
 obtain⟨a,c2,rfl,hS2⟩:=St.of_row (Ze ss) Z hb hrow (by rw[HK hpp hs,JZ]) (by simpa using hpp.length_eq) (YR ss)
 exact⟨a,c2,rfl,hS2⟩
theorem Zfe(p m:Nat)(cap last:Int)(xs:List VN)(q:Nat)(ss:List Int)(ht:VOk xs q)(hp:ss.Perm (xs.map VN.n))(hs:ss.Pairwise (·≤·))(Z:St g (Zq p #[.I cap,.I last,.map (some m)] 321::Yy m (.map (mE (List.map vK xs)) q)::ZE vF xs::L) w) :
  Zr g L 85 [.P p] w fun rV=>∃(a2:Option Addr)(c2:Nat),rV (.slice a2 (Ze ss).length c2) [Zp 3 1 (Ze ss) a2 c2,Zq p #[.I cap,.I last,.map (some m)] 321,Yy m (.map (mE (List.map vK xs)) q),ZE vF xs]:=by
 refine Sp.en Tryz.func85 ?_
 refine Zve (Zek m Z) fun w c1 Z=>?_
 refine Zsz (Vf _ _ q xs ss ht hp hs (Z.sel 3 [0,1,0] rfl)) fun w a1 c2 Z=>?_
 replace Z:=(Z.sel 4 [0,2,1] rfl)
 exact⟨_,_,rfl,Z⟩
theorem Zeo(ls ss:List Int)(a:Option Addr)(c:Nat)(hne:ls≠[])(hl:ls.length≤1000000)(hp:ss.Perm ls)(hs:ss.Pairwise (·≤·))(Z:St g (Zp 3 1 (Ze ls) a c::L) w) :
  Zr g L 331 [.slice a (Ze ls).length c] w fun rV=>rV (.tuple #[]) [Zp 3 1 (Ze ss) a c]:=by
 obtain⟨b,rfl⟩:=Z.addrI 0 rfl hne
 obtain⟨hH,hb,hcap⟩:=Z.holdsI 0 rfl
 have h:=AnyM.slices_Sort_int Tryz.sortA b 0 c ls w hH hb (by omega)
 rw[←Zf ls] at h
 refine⟨⟨_,_,Tryz.func331,by kernel_rfl,rfl⟩,h.mono fun e w' ⟨he,n,os,hw⟩=>⟨_,he,rfl,?_⟩⟩
 subst hw
 rw[HK hp hs]
 exact Z.putI ss hp.length_eq n os
theorem DX(ls:List Int)(a:Option Addr)(c:Nat)(hne:ls≠[])(hl:ls.length≤1000000)(Z:St g (Zp 3 1 (Ze ls) a c::L) w) :
  Zr g L 370 [.slice a (Ze ls).length c] w fun rV=>rV (.slice a (Ze (Lib.compact ls)).length c) [Zp 3 1 (Ze (Lib.compact ls)) a c]:=by
 obtain⟨b,rfl⟩:=Z.addrI 0 rfl hne
 obtain⟨hH,hb,hcap⟩:=Z.holdsI 0 rfl
 have h:=AnyG.slices_Compact_int Tryz.compactA b 0 c ls w hH (by omega) hcap
 rw[←Zf ls] at h
 refine⟨⟨_,_,Tryz.func370,by kernel_rfl,rfl⟩,h.mono fun e w' ⟨he,n,hw⟩=>⟨_,he,by rw[Zf],?_⟩⟩
 subst hw
 have hcl:=C0 ls
 have h2:=Z.putI (Lib.compact ls++List.replicate (ls.length-(Lib.compact ls).length) 0) (by simp;omega) n #[]
 rw[Zf]
 have h3:=h2.ownTake (Lib.compact ls).length
 rw[Ze3,List.take_left] at h3
 simpa using h3
end Go.Proofs.YtpebgkkmgffmaaaGreatDoor
namespace Go.Proofs.YtpebgkkmgffmaaaGreatDoor
open Go Go.V
set_option maxHeartbeats 8000000
set_option maxRecDepth 8192
variable{g w:World}{L:List HP}
theorem Zn6(p m:Nat)(cap last:Int)(xs:List VN)(q:Nat)(k1 k2:Nat)(x y:VN)(hx:xs[k1]?=some x)(hy:xs[k2]?=some y)(hu:VUq xs)(hlx:x.live=true)(hly:y.live=true)(hax:Asc x.ab)(hay:Asc y.ab)(hbx:x.ab.length≤1000000)(hby:y.ab.length≤1000000)(Z:St g (Zq p #[.I cap,.I last,.map (some m)] 321::Yy m (.map (mE (List.map vK xs)) q)::ZE vF xs::L) w) :
  Zr g L 346 [.P p,.I x.n,.I y.n] w fun rV=>rV (.I (D1 x.ab y.ab)) [Zq p #[.I cap,.I last,.map (some m)] 321,Yy m (.map (mE (List.map vK xs)) q),ZE vF xs]:=by
 refine Sp.en Tryz.func346 ?_
 have _:=hby
 have _:=hbx
 refine Ztg (DO _ _ cap last _ q k1 x hx hu Z) fun w Z=>?_
 refine Zso 1 rfl<|Zso 1 rfl<|Zsf 15 (.bool false) (congrArg Value.bool (Bool.eq_false_iff.2 ((by rw[hlx];decide)))) ?_
 refine Sz ?_
 refine Zse (DO _ _ cap last _ q k2 y hy hu Z) fun w Z=>?_
 refine Zsm rfl (by rw[hly];rfl) ?_
 refine Zsg [([0,4,7,11,1,8,2,9,3,10,5,12,6,13,14,15],none)] ?_
 replace Z:St g (Sh 3 1 (Ze x.ab) x.a x.c::Zq p #[.I cap,.I last,.map (some m)] 321::Yy m (.map (mE (List.map vK xs)) q)::ZE vF xs::L) w:=Z.shsGet 2 rfl (List.mem_of_getElem? hx)
 replace Z:St g (Sh 3 1 (Ze y.ab) y.a y.c::Sh 3 1 (Ze x.ab) x.a x.c::Zq p #[.I cap,.I last,.map (some m)] 321::Yy m (.map (mE (List.map vK xs)) q)::ZE vF xs::L) w:=Z.shsGet 3 rfl (List.mem_of_getElem? hy)
 refine Qz ?_
 refine Zvr rfl rfl JE 3 Z rfl rfl rfl (by first|trivial|rfl) (r:=some (k1,.agg #[.bool x.live,.slice x.a (Ze x.ab).length x.c])) (Zmt hx hu) rfl ?_
 refine Zvr rfl rfl JE 3 Z rfl rfl rfl (by first|trivial|rfl) (r:=some (k2,.agg #[.bool y.live,.slice y.a (Ze y.ab).length y.c])) (Zmt hy hu) rfl ?_
 refine Qd fun w Z=>?_
 have h1l:=Zf x.ab;have h2l:=Zf y.ab
 refine Sz ?_
 refine Zst [7,8] [9,10] (fun kM vs jS=>∃(ni nj:Nat),vs=[.I ((ni:Int)-1),.I ((nj:Int)-1)]∧jS []∧(ni≤x.ab.length)∧(nj≤y.ab.length)∧(∀z∈x.ab,z∈y.ab→z∈List.take ni x.ab∧z∈List.take nj y.ab)∧(ni+nj)=kM) rfl ⟨(Ze x.ab).length,(Ze y.ab).length,rfl,Z,(Nat.le_of_eq h1l),(Nat.le_of_eq h2l),(fun z h1 h2=>⟨by rw[h1l,List.take_length];exact h1,by rw[h2l,List.take_length];exact h2⟩),rfl⟩ ?_
 rintro _ _ w j ⟨ni,nj,rfl,Z,hi,hj,hc,rfl⟩
 replace Z:=Z.z
 have h1l:=Zf x.ab;have h2l:=Zf y.ab
 refine Sz ?_
 refine Ztd 3 rfl (fun j=>?_)
 refine Zsx 46 rfl (Zy (dd _) (dd _)) ?_
 as_aux_lemma =>
 refine Sz ?_
 refine Zsi (fun cd1=>?_) fun cd1=>?_
 ·refine Zsg [([0,1,4,5,2,6,3,7,8,9],none)] ?_
  obtain⟨u,hu1⟩:∃u,x.ab[ni-1]?=some u:=⟨_,List.getElem?_eq_getElem (by omega)⟩;obtain⟨v,hv1⟩:∃v,y.ab[nj-1]?=some v:=⟨_,List.getElem?_eq_getElem (by omega)⟩
  have ei:ni-1+1=ni:=by omega
  have ej:nj-1+1=nj:=by omega
  refine Qz ?_
  refine Zsj rfl rfl (i:=(ni:Int)-1) (ni-1) el_72 rfl rfl (by omega) (by omega) (Z.rdS 1 rfl (Zc hu1)).1 ?_
  refine Zsj rfl rfl (i:=(nj:Int)-1) (nj-1) el_72 rfl rfl (by omega) (by omega) (Z.rdS 0 rfl (Zc hv1)).1 ?_
  refine Zsn 1 [.I u] rfl (by exact(Z.rdS 1 rfl (Zc hu1)).2 0 _ rfl) ?_
  refine Zsn 1 [.I v] rfl (by exact(Z.rdS 0 rfl (Zc hv1)).2 0 _ rfl) ?_
  refine Qd fun w Z=>?_
  refine Zsi (fun cd2=>?_) fun cd2=>?_
  ·refine Zsq rfl rfl (i:=(ni:Int)-1) (ni-1) el_72 rfl rfl (by omega) (by omega) (Z.rdS 1 rfl (Zc hu1)).1 ?_
   refine Zsv 1 [.I u] rfl (by exact(Z.rdS 1 rfl (Zc hu1)).2 0 _ rfl) ?_
   refine Sz ?_
   replace Z:=(Z.sel 2 [] rfl)
   exact⟨congrArg (Value.int .i64) (JN hax (List.mem_of_getElem? hu1) (by rw[cd2];exact List.mem_of_getElem? hv1) (fun z h1 h2=>Cf hax hu1 (by rw[ei];exact(hc z h1 h2).1))).symm,Z⟩
  refine Zsg [([0,1,4,5,2,6,3,7,8,9],none)] ?_
  refine Qz ?_
  refine Zsj rfl rfl (i:=(ni:Int)-1) (ni-1) el_72 rfl rfl (by omega) (by omega) (Z.rdS 1 rfl (Zc hu1)).1 ?_
  refine Zsj rfl rfl (i:=(nj:Int)-1) (nj-1) el_72 rfl rfl (by omega) (by omega) (Z.rdS 0 rfl (Zc hv1)).1 ?_
  refine Zsn 1 [.I u] rfl (by exact(Z.rdS 1 rfl (Zc hu1)).2 0 _ rfl) ?_
  refine Zsn 1 [.I v] rfl (by exact(Z.rdS 0 rfl (Zc hv1)).2 0 _ rfl) ?_
  refine Qd fun w Z=>?_
  refine Zsr rfl (fun cd3=>?_) (fun cd3=>?_)
  ·refine Sy ?_
   refine Zso 1 rfl<|Zsf 74 (.I (((ni-1:Nat):Int)-1)) (congrArg (Value.int .i64) (by rw[Yf (by omega)];omega)) ?_
   refine Sz ?_
   exact⟨_,by omega,rfl,ni-1,nj,rfl,Z,(by omega),(by omega),(fun z h1 h2=>⟨Hj hu1 (by rw[ei];exact(hc z h1 h2).1) (fun e=>by have:=Cf hay hv1 (by rw[ej];exact(hc z h1 h2).2);omega),(hc z h1 h2).2⟩),rfl⟩
  refine Sy ?_
  refine Zso 1 rfl<|Zsf 48 (.I (((nj-1:Nat):Int)-1)) (congrArg (Value.int .i64) (by rw[Yf (by omega)];omega)) ?_
  refine Sz ?_
  exact⟨_,by omega,rfl,ni,nj-1,rfl,Z,(by omega),(by omega),(fun z h1 h2=>⟨(hc z h1 h2).1,Hj hv1 (by rw[ej];exact(hc z h1 h2).2) (fun e=>by have:=Cf hax hu1 (by rw[ei];exact(hc z h1 h2).1);omega)⟩),rfl⟩
 replace Z:=(Z.sel 2 [] rfl)
 exact⟨congrArg (Value.int .i64) (Us (fun z h1 h2=>by
 have h3:=hc z h1 h2
 rcases Nat.eq_zero_or_pos ni with h4|h4
 ·rw[h4,List.take_zero] at h3;cases h3.1
 rcases Nat.eq_zero_or_pos nj with h5|h5
 ·rw[h5,List.take_zero] at h3;cases h3.2
 omega)).symm,Z⟩
theorem Ziy(p m:Nat)(cap last:Int)(xs:List VN)(q:Nat)(n1 n2:Int)(hu:VUq xs)(hl:Zi xs n1=false)(Z:St g (Zq p #[.I cap,.I last,.map (some m)] 321::Yy m (.map (mE (List.map vK xs)) q)::ZE vF xs::L) w) :
  Zr g L 346 [.P p,.I n1,.I n2] w fun rV=>rV (.I 0) [Zq p #[.I cap,.I last,.map (some m)] 321,Yy m (.map (mE (List.map vK xs)) q),ZE vF xs]:=by
 refine Sp.en Tryz.func346 ?_
 have _:=hu
 refine Ztg (XD _ _ cap last _ q n1 (by first|assumption|exact(GI.ok (by assumption)).uniq) Z) fun w Z=>?_
 refine Zso 1 rfl<|Zso 1 rfl<|Zsf 15 (.bool true) (congrArg Value.bool ((by rw[hl];rfl))) ?_
 refine Sz ?_
 exact⟨rfl,Z⟩
theorem Zgc(p m:Nat)(cap last:Int)(xs:List VN)(q:Nat)(n1 n2:Int)(hu:VUq xs)(hl1:Zi xs n1=true)(hl:Zi xs n2=false)(Z:St g (Zq p #[.I cap,.I last,.map (some m)] 321::Yy m (.map (mE (List.map vK xs)) q)::ZE vF xs::L) w) :
  Zr g L 346 [.P p,.I n1,.I n2] w fun rV=>rV (.I 0) [Zq p #[.I cap,.I last,.map (some m)] 321,Yy m (.map (mE (List.map vK xs)) q),ZE vF xs]:=by
 refine Sp.en Tryz.func346 ?_
 have _:=hu
 refine Ztg (XD _ _ cap last _ q n1 (by first|assumption|exact(GI.ok (by assumption)).uniq) Z) fun w Z=>?_
 refine Zso 1 rfl<|Zso 1 rfl<|Zsf 15 (.bool false) (congrArg Value.bool (Bool.eq_false_iff.2 ((by rw[hl1];decide)))) ?_
 refine Sz ?_
 refine Zse (XD _ _ cap last _ q n2 (by first|assumption|exact(GI.ok (by assumption)).uniq) Z) fun w Z=>?_
 refine Zs0 rfl (by rw[hl];rfl) ?_
 exact⟨rfl,Z⟩
theorem Dd(p m:Nat)(cap last:Int)(xs:List VN)(q:Nat)(n1 n2:Int)(hG:GOk xs q)(Z:St g (Zq p #[.I cap,.I last,.map (some m)] 321::Yy m (.map (mE (List.map vK xs)) q)::ZE vF xs::L) w) :
  Zr g L 346 [.P p,.I n1,.I n2] w fun rV=>rV (.I (Z9 xs n1 n2)) [Zq p #[.I cap,.I last,.map (some m)] 321,Yy m (.map (mE (List.map vK xs)) q),ZE vF xs]:=by
 cases h1:Zi xs n1 with
 |false =>
  rw[Z9,if_neg (fun h=>by rw[h1] at h;cases h.1)]
  exact Ziy p m cap last xs q n1 n2 hG.uniq h1 Z
 |true =>
  cases h2:Zi xs n2 with
  |false =>
   rw[Z9,if_neg (fun h=>by rw[h2] at h;cases h.2)]
   exact Zgc p m cap last xs q n1 n2 hG.uniq h1 h2 Z
  |true =>
   rw[Z9,if_pos ⟨h1,h2⟩]
   rcases DN xs n1 with⟨k1,x,hx,rfl⟩|hn
   ·rcases DN xs n2 with⟨k2,y,hy,rfl⟩|hn
    ·obtain⟨a1,_,a3⟩:=H8 (Q9 hx hG.uniq)
     obtain⟨b1,_,b3⟩:=H8 (Q9 hy hG.uniq)
     rw[a3,b3]
     have l1:=hG.len (List.mem_of_getElem? hx)
     have l2:=hG.len (List.mem_of_getElem? hy)
     have l3:=hG.num
     exact Zn6 p m cap last xs q k1 k2 x y hx hy hG.uniq (a1▸h1) (b1▸h2) (hG.asc x (List.mem_of_getElem? hx)) (hG.asc y (List.mem_of_getElem? hy)) (by omega) (by omega) Z
    rw[(Q7 (Ja hn)).1] at h2;cases h2
   rw[(Q7 (Ja hn)).1] at h1;cases h1
end Go.Proofs.YtpebgkkmgffmaaaGreatDoor
namespace Go.Proofs.YtpebgkkmgffmaaaGreatDoor
open Go Go.V
set_option maxHeartbeats 8000000
set_option maxRecDepth 8192
variable{g w:World}{L:List HP}
theorem new_ok(cap:Int)(hc:1≤cap∧cap≤4096)(Z:St g (L) w) :
  Zr g L 74 [.I cap] w fun rV=>∃(p m:Nat),rV (.tuple #[.P p,.I 0]) [Zq p #[.I cap,.I 0,.map (some m)] 321,Yy m (.map (mE (List.map vK [])) 0),ZE vF []]:=by
 refine Sp.en Tryz.func74 ?_
 have _:=hc
 refine Ztd 3 rfl (fun j=>?_)
 refine Zsx 9 rfl (X2 (dd _) (dd _)) ?_
 refine Sz ?_
 refine Zsm rfl (decide_eq_false ((by omega))) ?_
 refine Zuq rfl rfl Z (fun b1 w Z=>?_)
 refine Zs4 rfl rfl (cs:=[.I cap,.I 0,.map (some b1)]) zv_321.h rfl rfl<|Zub rfl rfl #[.I cap,.I 0,.map (some b1)] Z rfl rfl (fun b2 w Z=>?_)
 refine Sz ?_
 replace Z:=(Z.shsNil vF).sel 3 [1,1,0] rfl
 replace Z:St g (Zq b2 #[.I cap,.I 0,.map (some b1)] 321::Yy b1 (.map (mE (List.map vK [])) 0)::ZE vF []::L) w:=Z
 refine Sz ?_
 exact⟨_,_,rfl,Z⟩
theorem Zj8(p m:Nat)(cap last:Int)(xs:List VN)(q:Nat)(ps:List Int)(a:Option Addr)(c:Nat)(hl:2<ps.length)(Z:St g (Sh 3 1 (Ze ps) a c::Zq p #[.I cap,.I last,.map (some m)] 321::Yy m (.map (mE (List.map vK xs)) q)::ZE vF xs::L) w) :
  Zr g L 240 [.P p,.slice a (Ze ps).length c] w fun rV=>rV (.tuple #[.I 0,.I 1]) [Sh 3 1 (Ze ps) a c,Zq p #[.I cap,.I last,.map (some m)] 321,Yy m (.map (mE (List.map vK xs)) q),ZE vF xs]:=by
 refine Sp.en Tryz.func240 ?_
 have _:=hl
 refine Zsg [([0,1,2,3,4,5,6,7,8,11,9,12,10,13,14,15,16],none)] ?_
 have hpl:=Zf ps
 refine Qz ?_
 refine Zsu 14 (.bool true) (congrArg Value.bool (decide_eq_true ((by omega)))) ?_
 refine Qz ?_
 refine Ztv rfl rfl rfl<|Ztv rfl rfl rfl<|Ztv rfl rfl rfl<|Ztv rfl rfl rfl<|Ztv rfl rfl rfl<|Ztv rfl rfl rfl<|Ztv rfl rfl rfl ?_
 refine Qd fun w Z=>?_
 exact⟨rfl,Z⟩
theorem Zjx(p m:Nat)(cap last:Int)(xs:List VN)(q:Nat)(x:Int)(a:Option Addr)(c:Nat)(Z:St g (Sh 3 1 (Ze [x,x]) a c::Zq p #[.I cap,.I last,.map (some m)] 321::Yy m (.map (mE (List.map vK xs)) q)::ZE vF xs::L) w) :
  Zr g L 240 [.P p,.slice a (Ze [x,x]).length c] w fun rV=>rV (.tuple #[.I 0,.I 1]) [Sh 3 1 (Ze [x,x]) a c,Zq p #[.I cap,.I last,.map (some m)] 321,Yy m (.map (mE (List.map vK xs)) q),ZE vF xs]:=by
 refine Sp.en Tryz.func240 ?_
 refine Zsg [([0,1,2,3,4,5,6,7,8,11,9,12,10,13,14,15,16],none)] ?_
 have hpl:(Ze [x,x]).length=2:=rfl
 refine Qz ?_
 refine Zsu 14 (.bool false) (congrArg Value.bool (decide_eq_false ((by omega)))) ?_
 refine Qz ?_
 refine Zsu 18 (.bool true) (congrArg Value.bool (decide_eq_true ((by omega)))) ?_
 refine Qz ?_
 refine Zsj rfl rfl (i:=0) (0) el_72 rfl rfl (by omega) (by omega) (Z.rdS 0 rfl (Zc (k:=0) (x:=x) rfl)).1 ?_
 refine Qz ?_
 refine Zsj rfl rfl (i:=1) (1) el_72 rfl rfl (by omega) (by omega) (Z.rdS 0 rfl (Zc (k:=1) (x:=x) rfl)).1 ?_
 refine Qz ?_
 refine Zsn 1 [.I x] rfl (by exact(Z.rdS 0 rfl (Zc (k:=0) (x:=x) rfl)).2 0 _ rfl) ?_
 refine Qz ?_
 refine Zsn 1 [.I x] rfl (by exact(Z.rdS 0 rfl (Zc (k:=1) (x:=x) rfl)).2 0 _ rfl) ?_
 refine Qd fun w Z=>?_
 as_aux_lemma =>
 refine Zs0 rfl (decide_eq_true (rfl)) ?_
 exact⟨rfl,Z⟩
theorem Zpa(p m:Nat)(cap last:Int)(xs:List VN)(q:Nat)(ps:List Int)(a:Option Addr)(c:Nat)(i:Nat)(b:Int)(hu:VUq xs)(hps:ZY ps)(hi:ps[i]?=some b)(hb:Zi xs b=false)(hlt:∀j,j<i→∀y,ps[j]?=some y→Zi xs y=true)(Z:St g (Sh 3 1 (Ze ps) a c::Zq p #[.I cap,.I last,.map (some m)] 321::Yy m (.map (mE (List.map vK xs)) q)::ZE vF xs::L) w) :
  Zr g L 240 [.P p,.slice a (Ze ps).length c] w fun rV=>rV (.tuple #[.I 0,.I 4]) [Sh 3 1 (Ze ps) a c,Zq p #[.I cap,.I last,.map (some m)] 321,Yy m (.map (mE (List.map vK xs)) q),ZE vF xs]:=by
 refine Sp.enter Tryz.func240 rfl (by kernel_rfl) (by kernel_rfl) ?_
 have _:=hlt
 have _:=hu
 refine Zsw<|WC.region ?_
 have hpl:=Zf ps
 have hp2:=hps.1
 refine Sx ?_
 refine Zs9<|Zsw<|Zsw<|Ztc [0,1,4,5] [27] [] Z (fun vs jS=>∃(t27:Bool),vs=[.bool t27]∧jS []∧(t27=false)) rfl ?_ ?_
 ·refine Zsg [([0,1,2,3,4,5,6,7,8,11,9,12,10,13,14,15,16],none)] ?_
  refine Qz ?_
  refine Zsu 14 (.bool false) (congrArg Value.bool (decide_eq_false ((by omega)))) ?_
  refine Qz ?_
  by_cases cg1:(List.length (Ze ps):Int)=2
  ·refine Zsu 18 (.bool true) (congrArg Value.bool (decide_eq_true cg1)) ?_
   obtain⟨p0,h0⟩:∃u,ps[0]?=some u:=⟨_,List.getElem?_eq_getElem (by omega)⟩;obtain⟨p1,h1⟩:∃u,ps[1]?=some u:=⟨_,List.getElem?_eq_getElem (by omega)⟩
   refine Qz ?_
   refine Zsj rfl rfl (i:=0) (0) el_72 rfl rfl (by omega) (by omega) (Z.rdS 0 rfl (Zc h0)).1 ?_
   refine Qz ?_
   refine Zsj rfl rfl (i:=1) (1) el_72 rfl rfl (by omega) (by omega) (Z.rdS 0 rfl (Zc h1)).1 ?_
   refine Qz ?_
   refine Zsn 1 [.I p0] rfl (by exact(Z.rdS 0 rfl (Zc h0)).2 0 _ rfl) ?_
   refine Qz ?_
   refine Zsn 1 [.I p1] rfl (by exact(Z.rdS 0 rfl (Zc h1)).2 0 _ rfl) ?_
   refine Qd fun w Z=>?_
   exact⟨rfl,decide (p0=p1),rfl,Z,(decide_eq_false (Jv hps h0 h1))⟩
  refine Zsu 18 (.bool false) (congrArg Value.bool (decide_eq_false cg1)) ?_
  refine Qd fun w Z=>?_
  exact⟨rfl,false,rfl,Z,rfl⟩
 rintro _ w j ⟨t27,rfl,Z,h27⟩
 replace Z:=Z.z
 refine Zs8 rfl h27 ?_
 have hpl:=Zf ps;have hil:=(List.getElem?_eq_some_iff.1 hi).1
 refine Sz ?_
 refine Zst [0,1,28,29] [30] (fun kM vs jS=>∃(k:Nat),vs=[.I (k:Int)]∧jS []∧(k≤i)∧(ps.length-k)=kM) rfl ⟨0,rfl,Z,(Nat.zero_le _),rfl⟩ ?_
 rintro _ _ w j ⟨k,rfl,Z,hk,rfl⟩
 replace Z:=Z.z
 have hpl:=Zf ps;have hil:=(List.getElem?_eq_some_iff.1 hi).1
 refine Sz ?_
 refine Zud rfl (decide_eq_true ((by omega))) ?_
 obtain⟨z,hz⟩:∃u,ps[k]?=some u:=⟨_,List.getElem?_eq_getElem (by omega)⟩
 refine Sz ?_
 refine Zsq rfl rfl (i:=(k:Int)) (k) el_72 rfl rfl (by omega) (by omega) (Z.rdS 0 rfl (Zc hz)).1 ?_
 refine Zsv 1 [.I z] rfl (by exact(Z.rdS 0 rfl (Zc hz)).2 0 _ rfl) ?_
 refine Sz ?_
 refine Zse (XD _ _ cap last _ q z (by first|assumption|exact(GI.ok (by assumption)).uniq) (Z.sel 4 [1,1,1,0] rfl)) fun w Z=>?_
 refine Ztl (fun cd1=>?_) fun cd1=>?_
 ·replace Z:=(Z.sel 4 [3,0,0,0] rfl)
  exact⟨rfl,Z⟩
 exact⟨_,by omega,rfl,k+1,rfl,(Z.sel 4 [3,0,0,0] rfl),(Nat.lt_of_le_of_ne hk (fun e=>by subst e;rw[hi] at hz;cases hz;rw[hb] at cd1;cases cd1)),rfl⟩
theorem Zj5(p m:Nat)(cap last:Int)(xs:List VN)(q:Nat)(ps:List Int)(a:Option Addr)(c:Nat)(hu:VUq xs)(hps:ZY ps)(hlv:∀z∈ps,Zi xs z=true)(hc:cap≤xs.length)(Z:St g (Sh 3 1 (Ze ps) a c::Zq p #[.I cap,.I last,.map (some m)] 321::Yy m (.map (mE (List.map vK xs)) q)::ZE vF xs::L) w) :
  Zr g L 240 [.P p,.slice a (Ze ps).length c] w fun rV=>rV (.tuple #[.I 0,.I 2]) [Sh 3 1 (Ze ps) a c,Zq p #[.I cap,.I last,.map (some m)] 321,Yy m (.map (mE (List.map vK xs)) q),ZE vF xs]:=by
 refine Sp.enter Tryz.func240 rfl (by kernel_rfl) (by kernel_rfl) ?_
 have _:=hc
 have _:=hu
 refine Zsw<|WC.region ?_
 have hpl:=Zf ps
 have hp2:=hps.1
 refine Sx ?_
 refine Zs9<|Zsw<|Zsw<|Ztc [0,1,4,5] [27] [] Z (fun vs jS=>∃(t27:Bool),vs=[.bool t27]∧jS []∧(t27=false)) rfl ?_ ?_
 ·refine Zsg [([0,1,2,3,4,5,6,7,8,11,9,12,10,13,14,15,16],none)] ?_
  refine Qz ?_
  refine Zsu 14 (.bool false) (congrArg Value.bool (decide_eq_false ((by omega)))) ?_
  refine Qz ?_
  by_cases cg1:(List.length (Ze ps):Int)=2
  ·refine Zsu 18 (.bool true) (congrArg Value.bool (decide_eq_true cg1)) ?_
   obtain⟨p0,h0⟩:∃u,ps[0]?=some u:=⟨_,List.getElem?_eq_getElem (by omega)⟩;obtain⟨p1,h1⟩:∃u,ps[1]?=some u:=⟨_,List.getElem?_eq_getElem (by omega)⟩
   refine Qz ?_
   refine Zsj rfl rfl (i:=0) (0) el_72 rfl rfl (by omega) (by omega) (Z.rdS 0 rfl (Zc h0)).1 ?_
   refine Qz ?_
   refine Zsj rfl rfl (i:=1) (1) el_72 rfl rfl (by omega) (by omega) (Z.rdS 0 rfl (Zc h1)).1 ?_
   refine Qz ?_
   refine Zsn 1 [.I p0] rfl (by exact(Z.rdS 0 rfl (Zc h0)).2 0 _ rfl) ?_
   refine Qz ?_
   refine Zsn 1 [.I p1] rfl (by exact(Z.rdS 0 rfl (Zc h1)).2 0 _ rfl) ?_
   refine Qd fun w Z=>?_
   exact⟨rfl,decide (p0=p1),rfl,Z,(decide_eq_false (Jv hps h0 h1))⟩
  refine Zsu 18 (.bool false) (congrArg Value.bool (decide_eq_false cg1)) ?_
  refine Qd fun w Z=>?_
  exact⟨rfl,false,rfl,Z,rfl⟩
 rintro _ w j ⟨t27,rfl,Z,h27⟩
 replace Z:=Z.z
 refine Zs8 rfl h27 ?_
 have hpl:=Zf ps
 refine Sz ?_
 refine Zst [0,1,28,29] [30] (fun kM vs jS=>∃(k:Nat),vs=[.I (k:Int)]∧jS []∧(k≤ps.length)∧(ps.length-k)=kM) rfl ⟨0,rfl,Z,(Nat.zero_le _),rfl⟩ ?_
 rintro _ _ w j ⟨k,rfl,Z,hk,rfl⟩
 replace Z:=Z.z
 have hpl:=Zf ps
 refine Sz ?_
 refine Zsr rfl (fun cd1=>?_) (fun cd1=>?_)
 ·obtain⟨z,hz⟩:∃u,ps[k]?=some u:=⟨_,List.getElem?_eq_getElem (by omega)⟩
  refine Sz ?_
  refine Zsq rfl rfl (i:=(k:Int)) (k) el_72 rfl rfl (by omega) (by omega) (Z.rdS 0 rfl (Zc hz)).1 ?_
  refine Zsv 1 [.I z] rfl (by exact(Z.rdS 0 rfl (Zc hz)).2 0 _ rfl) ?_
  refine Sz ?_
  refine Zse (XD _ _ cap last _ q z (by first|assumption|exact(GI.ok (by assumption)).uniq) (Z.sel 4 [1,1,1,0] rfl)) fun w Z=>?_
  refine Zsm rfl (by rw[hlv z (List.mem_of_getElem? hz)];rfl) ?_
  exact⟨_,by omega,rfl,k+1,rfl,(Z.sel 4 [3,0,0,0] rfl),(by omega),rfl⟩
 refine Sz ?_
 refine Zsg [([0,5,1,6,2,7,3,8,4,9],none)] ?_
 have hms:=Qb (List.map vK xs);have hms2:(List.map vK xs).length=xs.length:=List.length_map _
 refine Qz ?_
 refine Zvs rfl rfl JE 2 Z rfl rfl ?_
 refine Qd fun w Z=>?_
 refine Zs0 rfl (decide_eq_true ((by omega))) ?_
 exact⟨rfl,Z⟩
theorem Zrj(p m:Nat)(cap last:Int)(xs:List VN)(q:Nat)(ps:List Int)(a:Option Addr)(c:Nat)(hG:GOk xs q)(hps:ZY ps)(hlv:∀z∈ps,Zi xs z=true)(hc:(xs.length:Int)<cap)(hc2:cap≤4096)(hla:0≤last∧last<1000000000)(hlt:∀x∈xs,x.n≤last)(Z:St g (Sh 3 1 (Ze ps) a c::Zq p #[.I cap,.I last,.map (some m)] 321::Yy m (.map (mE (List.map vK xs)) q)::ZE vF xs::L) w) :
  Cp g L 240 [.P p,.slice a (Ze ps).length c] w fun rV=>∃(vn:VN),rV (.tuple #[.I (last+1),.I 0]) [Sh 3 1 (Ze ps) a c,Zq p #[.I cap,.I (last+1),.map (some m)] 321,Yy m (.map (mE (List.map vK (xs++[vn]))) (q+1)),ZE vF (xs++[vn])] ((vn.n=last+1∧vn.live=true∧vn.born=q)∧(Asc vn.ab∧∀z,z∈vn.ab↔z∈Je xs (last+1) ps)):=by
 refine Sp.enter Tryz.func240 rfl (by kernel_rfl) (by kernel_rfl) ?_
 have _:=hla
 have _:=hc2
 have _:=hc
 refine Zsw<|WC.region ?_
 have hpl:=Zf ps
 have hp2:=hps.1
 refine Sx ?_
 refine Zs9<|Zsw<|Zsw<|Ztc [0,1,4,5] [27] [] Z (fun vs jS=>∃(t27:Bool),vs=[.bool t27]∧jS []∧(t27=false)) rfl ?_ ?_
 ·refine Zsg [([0,1,2,3,4,5,6,7,8,11,9,12,10,13,14,15,16],none)] ?_
  refine Qz ?_
  refine Zsu 14 (.bool false) (congrArg Value.bool (decide_eq_false ((by omega)))) ?_
  refine Qz ?_
  by_cases cg1:(List.length (Ze ps):Int)=2
  ·refine Zsu 18 (.bool true) (congrArg Value.bool (decide_eq_true cg1)) ?_
   obtain⟨p0,h0⟩:∃u,ps[0]?=some u:=⟨_,List.getElem?_eq_getElem (by omega)⟩;obtain⟨p1,h1⟩:∃u,ps[1]?=some u:=⟨_,List.getElem?_eq_getElem (by omega)⟩
   refine Qz ?_
   refine Zsj rfl rfl (i:=0) (0) el_72 rfl rfl (by omega) (by omega) (Z.rdS 0 rfl (Zc h0)).1 ?_
   refine Qz ?_
   refine Zsj rfl rfl (i:=1) (1) el_72 rfl rfl (by omega) (by omega) (Z.rdS 0 rfl (Zc h1)).1 ?_
   refine Qz ?_
   refine Zsn 1 [.I p0] rfl (by exact(Z.rdS 0 rfl (Zc h0)).2 0 _ rfl) ?_
   refine Qz ?_
   refine Zsn 1 [.I p1] rfl (by exact(Z.rdS 0 rfl (Zc h1)).2 0 _ rfl) ?_
   refine Qd fun w Z=>?_
   exact⟨rfl,decide (p0=p1),rfl,Z,(decide_eq_false (Jv hps h0 h1))⟩
  refine Zsu 18 (.bool false) (congrArg Value.bool (decide_eq_false cg1)) ?_
  refine Qd fun w Z=>?_
  exact⟨rfl,false,rfl,Z,rfl⟩
 rintro _ w j ⟨t27,rfl,Z,h27⟩
 replace Z:=Z.z
 refine Zs8 rfl h27 ?_
 have hu:=hG.uniq
 have hpl:=Zf ps
 refine Sz ?_
 refine Zst [0,1,28,29] [30] (fun kM vs jS=>∃(k:Nat),vs=[.I (k:Int)]∧jS []∧(k≤ps.length)∧(ps.length-k)=kM) rfl ⟨0,rfl,Z,(Nat.zero_le _),rfl⟩ ?_
 rintro _ _ w j ⟨k,rfl,Z,hk,rfl⟩
 replace Z:=Z.z
 have hu:=hG.uniq
 have hpl:=Zf ps
 refine Sz ?_
 refine Zsr rfl (fun cd1=>?_) (fun cd1=>?_)
 ·obtain⟨z,hz⟩:∃u,ps[k]?=some u:=⟨_,List.getElem?_eq_getElem (by omega)⟩
  refine Sz ?_
  refine Zsq rfl rfl (i:=(k:Int)) (k) el_72 rfl rfl (by omega) (by omega) (Z.rdS 0 rfl (Zc hz)).1 ?_
  refine Zsv 1 [.I z] rfl (by exact(Z.rdS 0 rfl (Zc hz)).2 0 _ rfl) ?_
  refine Sz ?_
  refine Zse (XD _ _ cap last _ q z (by first|assumption|exact(GI.ok (by assumption)).uniq) (Z.sel 4 [1,1,1,0] rfl)) fun w Z=>?_
  refine Zsm rfl (by rw[hlv z (List.mem_of_getElem? hz)];rfl) ?_
  exact⟨_,by omega,rfl,k+1,rfl,(Z.sel 4 [3,0,0,0] rfl),(by omega),rfl⟩
 refine Sz ?_
 refine Zsg [([0,5,1,6,2,7,3,8,4,9],none)] ?_
 have hms:=Qb (List.map vK xs);have hms2:(List.map vK xs).length=xs.length:=List.length_map _
 refine Qz ?_
 refine Zvs rfl rfl JE 2 Z rfl rfl ?_
 refine Qd fun w Z=>?_
 as_aux_lemma =>
 refine Zsm rfl (decide_eq_false ((by omega))) ?_
 refine Zss fun w Z=>?_
 refine Zs1 rfl rfl (Ze [last+1]) el_72 Z (by exact⟨rfl,rfl⟩) (YR _) rfl (Nat.le_of_ble_eq_true rfl) (fun b1 w Z=>?_)
 refine Sz ?_
 refine Zst [0,61,62] [8,63] (fun kM vs jS=>∃(k:Nat)(acc:List Int)(u:Option Addr)(d:Nat),vs=[.slice u (Ze acc).length d,.I (k:Int)]∧jS [Zp 3 1 (Ze acc) u d]∧(k≤ps.length)∧(acc=Je xs (last+1) (List.take k ps))∧(acc.length≤1+4096*k)∧(ps.length-k)=kM) rfl ⟨0,[last+1],some ⟨b1,0,none⟩,1,rfl,Z,(Nat.zero_le _),rfl,(Nat.le_refl _),rfl⟩ ?_
 rintro _ _ w j ⟨k,acc,u,d,rfl,Z,hk,ha,hal,rfl⟩
 replace Z:=Z.z
 refine Sz ?_
 refine Zsr rfl (fun cd2=>?_) (fun cd2=>?_)
 ·obtain⟨z,hz⟩:∃u,ps[k]?=some u:=⟨_,List.getElem?_eq_getElem (by omega)⟩;obtain⟨j,x,hx,hn,_,habx⟩:=Zec (hlv z (List.mem_of_getElem? hz));have hxl:=hG.len (List.mem_of_getElem? hx);have hnum:=hG.num;have hacl:=Zf acc;have hxal:=Zf x.ab
  refine Sz ?_
  refine Zsq rfl rfl (i:=(k:Int)) (k) el_72 rfl rfl (by omega) (by omega) (Z.rdS 1 rfl (Zc hz)).1 ?_
  refine Zsv 1 [.I z] rfl (by exact(Z.rdS 1 rfl (Zc hz)).2 0 _ rfl) ?_
  replace Z:St g (Sh 3 1 (Ze x.ab) x.a x.c::Zp 3 1 (Ze acc) u d::Sh 3 1 (Ze ps) a c::Zq p #[.I cap,.I (last+1),.map (some m)] 321::Yy m (.map (mE (List.map vK xs)) q)::ZE vF xs::L) w:=Z.shsGet 4 rfl (List.mem_of_getElem? hx)
  refine Sz ?_
  refine Zuc rfl rfl JE 4 Z rfl rfl rfl (by first|trivial|rfl) (r:=some (j,.agg #[.bool x.live,.slice x.a (Ze x.ab).length x.c])) (hn▸Zmt hx hG.uniq) rfl ?_
  refine Sz ?_
  refine Zs3 rfl rfl 1 (Ze (acc++x.ab)) el_72 Z rfl (Z.srcS 0 rfl) (XO _ _).symm (Rm.of (by first|omega|(simp<;>omega)) (by decide)) rfl rfl (fun a1 c1 w Z=>?_)
  replace Z:=Z.z
  refine Sz ?_
  exact⟨_,by omega,rfl,k+1,acc++x.ab,a1,c1,rfl,(Z.sel 1 [] rfl),(by omega),(by rw[ha,←habx];exact Za5 hz),(by rw[List.length_append];omega),rfl⟩
 refine Sz ?_
 refine Zse (Zeo _ (Qm acc) _ _ (by rw[ha];simp[Je]) (by omega) (Xd acc) (UX acc) Z) fun w Z=>?_
 refine Zsg [([0,4,8,1,5,2,6,3,7],some (9,[0,1,2,3,4,5,6,7])),([],some (10,[0,1,2,3,4,5,6,7])),([],some (11,[]))]<|Zsu 8 (.slice u (Ze (Qm acc)).length d) (congrArg (fun m=>Value.slice u m d) (by rw[Zf,Zf];exact(Xd acc).length_eq.symm)) ?_
 refine Qd fun w Z=>?_
 refine Zse (DX (Qm acc) _ _ (fun e=>by have h9:=(Xd acc).length_eq;rw[e,ha] at h9;simp[Je] at h9) (by rw[(Xd acc).length_eq];omega) Z) fun w Z=>?_
 refine Qd fun w Z=>?_
 refine Zs4 rfl rfl (cs:=[.bool true,.slice u (List.length (Ze (Lib.compact (Qm acc)))) d]) zv_332.h rfl rfl ?_
 refine Sz ?_
 refine Qd fun w Z=>?_
 refine Zvp rfl rfl rfl JE 3 Z rfl rfl rfl rfl (by first|trivial|rfl) (Zoc (fun x hx e=>by have h9:=hlt x hx;omega)) (fun w Z=>?_)
 replace Z:=Z.n5 L (a3:=Yy m (.map (mE ((List.map vK xs)++[⟨.I (last+1),.agg #[.bool true,.slice u (List.length (Ze (Lib.compact (Qm acc)))) d],q⟩])) (q+1))) rfl
 refine Sz ?_
 refine Qe fun w Z=>?_
 as_aux_lemma =>
 have hm:List.map vK xs++[(.I (last+1),.agg #[.bool true,.slice u (Ze (Lib.compact (Qm acc))).length d],q)]=List.map vK (xs++[(VN.mk (last+1) true (Lib.compact (Qm acc)) u d q)]):=by simp[vK,vV]
 rw[hm] at Z
 refine Sz ?_
 replace Z:=(St.shsSub (zs':=xs++[(VN.mk (last+1) true (Lib.compact (Qm acc)) u d q)]) (St.shsCons (Z.share.sel 5 [4,0,0,0,0] rfl) (z:=(VN.mk (last+1) true (Lib.compact (Qm acc)) u d q)) (vF_sh _) [0] rfl) (fun z hz=>VK hz)).sel 5 [2,2,2,0] rfl
 replace Z:St g (Sh 3 1 (Ze ps) a c::Zq p #[.I cap,.I (last+1),.map (some m)] 321::Yy m (.map (mE (List.map vK (xs++[VN.mk (last+1) true (Lib.compact (Qm acc)) u d q]))) (q+1))::ZE vF (xs++[VN.mk (last+1) true (Lib.compact (Qm acc)) u d q])::L) w:=Z
 refine Sz ?_
 exact⟨_,rfl,Z,⟨rfl,rfl,rfl⟩,Zho acc,fun z=>by
 have h9:=Zgt acc z
 rw[ha,List.take_of_length_le (by omega)] at h9
 rw[ha,List.take_of_length_le (by omega)];exact h9⟩
end Go.Proofs.YtpebgkkmgffmaaaGreatDoor
namespace Go.Proofs.YtpebgkkmgffmaaaGreatDoor
open Go Go.V Go.RowKit
set_option maxHeartbeats 8000000
set_option maxRecDepth 8192
variable{g w:World}{L:List HP}
theorem Zhh(p m:Nat)(cap last:Int)(xs:List VN)(q:Nat)(ps:List Int)(a:Option Addr)(c:Nat)(hI:GI xs q cap last)(hla:last<1000000000)(Z:St g (Sh 3 1 (Ze ps) a c::Zq p #[.I cap,.I last,.map (some m)] 321::Yy m (.map (mE (List.map vK xs)) q)::ZE vF xs::L) w) :
  Cp g L 240 [.P p,.slice a (Ze ps).length c] w fun rV=>∃(xs2:List VN)(q2:Nat)(last2:Int),rV (.tuple #[.I (Za1 xs cap last ps),.I (Xj xs cap ps)]) [Sh 3 1 (Ze ps) a c,Zq p #[.I cap,.I last2,.map (some m)] 321,Yy m (.map (mE (List.map vK xs2)) q2),ZE vF xs2] ((GI xs2 q2 cap last2)∧(AddP xs cap last ps xs2 last2)):=by
 by_cases h1:ZY ps
 ·by_cases h2:∀z∈ps,Zi xs z=true
  ·by_cases h3:cap≤xs.length
   ·have he:Xj xs cap ps=2:=by unfold Xj;rw[if_neg (fun h=>h h1),if_neg (fun h=>h h2),if_pos h3]
    rw[Za1,he,if_neg (by decide)]
    exact(Zj5 p m cap last xs q ps a c hI.ok.uniq h1 h2 h3 Z).mono fun v w' ⟨hv,hS'⟩=>⟨xs,q,last,hv,hS',hI,.inl ⟨by rw[he];decide,rfl,rfl⟩⟩
   have he:Xj xs cap ps=0:=Zdl h1 h2 h3
   rw[Za1,he,if_pos rfl]
   have hcp:=hI.cp
   refine(Zrj p m cap last xs q ps a c hI.ok h1 h2 (by omega) (by omega) ⟨hI.la,hla⟩ hI.le Z).mono fun v w' ⟨vn,hv,hS',⟨e1,e2,e3⟩,e4,e5⟩=>⟨xs++[vn],q+1,last+1,hv,hS',⟨?_,fun x hx=>?_,by have:=hI.la;omega,hcp⟩,.inr ⟨he,rfl,vn,rfl,e1,e2,e4,e5⟩⟩
   ·have hla0:=hI.la
    exact hI.ok.add (ps:=ps) (fun x hx=>by have:=hI.le x hx;omega) (by omega) e3 (by omega) e4 (by rw[e1];exact e5)
   rcases List.mem_append.1 hx with hx|hx
   ·have:=hI.le x hx;omega
   rw[List.mem_singleton.1 hx,e1];exact Int.le_refl _
  have he:Xj xs cap ps=4:=by unfold Xj;rw[if_neg (fun h=>h h1),if_pos h2]
  rw[Za1,he,if_neg (by decide)]
  obtain⟨i,b,hi,hb,hlt⟩:=Hz h2
  exact(Zpa p m cap last xs q ps a c i b hI.ok.uniq h1 hi hb hlt Z).mono fun v w' ⟨hv,hS'⟩=>⟨xs,q,last,hv,hS',hI,.inl ⟨by rw[he];decide,rfl,rfl⟩⟩
 have he:Xj xs cap ps=1:=by unfold Xj;rw[if_pos h1]
 rw[Za1,he,if_neg (by decide)]
 rcases Zdg h1 with h2|⟨x,rfl⟩
 ·exact(Zj8 p m cap last xs q ps a c h2 Z).mono fun v w' ⟨hv,hS'⟩=>⟨xs,q,last,hv,hS',hI,.inl ⟨by rw[he];decide,rfl,rfl⟩⟩
 exact(Zjx p m cap last xs q x a c Z).mono fun v w' ⟨hv,hS'⟩=>⟨xs,q,last,hv,hS',hI,.inl ⟨by rw[he];decide,rfl,rfl⟩⟩
end Go.Proofs.YtpebgkkmgffmaaaGreatDoor
namespace Go.V
open Go Go.RowKit
def ExB{α:Type}(f:α→List HP):HP:=⟨fun o r=>∃x,All (f x) o r,fun _ _ _ _ ho hr ⟨x,h⟩=>⟨x,All.mono (f x) ho hr h⟩⟩
section
variable{α:Type}{g w:World}{L:List HP}
theorem St.exOpen{f:α→List HP}(h:St g (ExB f::L) w):∃x,St g (f x++L) w:=by
 obtain⟨o,r,a,b,c,d,o1,o2,h1,h2,hd,⟨x,hh⟩,hL⟩:=h.own
 exact⟨x,h.os,h.tape,h.output,h.size,o,r,a,b,c,d,All.cat (f x) L h1 h2 hd hh hL⟩
theorem St.exClose{f:α→List HP}(x:α)(h:St g (f x++L) w):St g (ExB f::L) w:=by
 obtain⟨o,r,a,b,c,d,e⟩:=h.own
 obtain⟨o1,o2,h1,h2,hd,hM,hL⟩:=All.app (f x) L e
 exact⟨h.os,h.tape,h.output,h.size,o,r,a,b,c,d,o1,o2,h1,h2,hd,⟨x,hM⟩,hL⟩
theorem St.cl{f:α→List HP}{N:List HP}(x:α)(h:St g N w)(e:N=f x++L:=by exact rfl):St g (ExB f::L) w:=St.exClose x (e▸h)
end
def Za(l:List Int):List (List Value):=l.map fun x=>[.int .u32 x]
@[simp] theorem Zh(l:List Int):(Za l).length=l.length:=by simp[Za]
theorem Zn{l:List Int}{k:Nat}{x:Int}(h:l[k]?=some x):(Za l)[k]?=some [.int .u32 x]:=by simp[Za,h]
theorem YM(l m:List Int):Za (l++m)=Za l++Za m:=by simp[Za]
theorem JS(l:List Int)(k:Nat):(Za l).take k=Za (l.take k):=by simp[Za]
theorem Zx(l:List Int)(k:Nat)(x:Int):(Za l).set k [.int .u32 x]=Za (l.set k x):=by simp[Za,List.map_set]
theorem XI(n:Nat):List.replicate n [.int .u32 0]=Za (List.replicate n 0):=by simp[Za]
theorem YY(l:List Int):OkE 1 (Za l):=fun x hx=>by
 obtain⟨y,_,rfl⟩:=List.mem_map.1 hx
 exact⟨rfl,fun u hu=>by simp at hu;rcases hu with rfl<;>rfl⟩
def Zk(l:List Bool):List (List Value):=l.map fun x=>[.bool x]
@[simp] theorem ZC(l:List Bool):(Zk l).length=l.length:=by simp[Zk]
theorem Zz{l:List Bool}{k:Nat}{x:Bool}(h:l[k]?=some x):(Zk l)[k]?=some [.bool x]:=by simp[Zk,h]
theorem Zlm(l m:List Bool):Zk (l++m)=Zk l++Zk m:=by simp[Zk]
theorem XS(l:List Bool)(k:Nat)(x:Bool):(Zk l).set k [.bool x]=Zk (l.set k x):=by simp[Zk,List.map_set]
theorem Zr5(l:List Bool):OkE 1 (Zk l):=fun x hx=>by
 obtain⟨y,_,rfl⟩:=List.mem_map.1 hx
 exact⟨rfl,fun u hu=>by simp at hu;subst hu;rfl⟩
theorem Qh(n:Nat):List.replicate n [.bool false]=Zk (List.replicate n false):=by simp[Zk]
theorem VP(n:Nat):List.replicate n [.int .i64 0]=Ze (List.replicate n 0):=by simp[Ze]
structure Nd where
 key:Int
 val:Int
 lf:Int
 rg:Int
 size:Int
 sum:Int
 mn:Int
 mx:Int
def Nd.zero:Nd:=⟨0,0,0,0,0,0,0,0⟩
def ndC(n:Nd):List Value:=[.int .i64 n.key,.int .i64 n.val,.int .u32 n.lf,.int .u32 n.rg,.int .i64 n.size,.int .i64 n.sum,.int .i64 n.mn,.int .i64 n.mx]
def XW(l:List Nd):List (List Value):=l.map ndC
@[simp] theorem Xf(l:List Nd):(XW l).length=l.length:=by simp[XW]
theorem ZZ{l:List Nd}{k:Nat}{n:Nd}(h:l[k]?=some n):(XW l)[k]?=some [.int .i64 n.key,.int .i64 n.val,.int .u32 n.lf,.int .u32 n.rg,.int .i64 n.size,.int .i64 n.sum,.int .i64 n.mn,.int .i64 n.mx]:=by simp[XW,h,ndC]
theorem Zcp(l:List Nd)(k:Nat)(n:Nd):(XW l).set k [.int .i64 n.key,.int .i64 n.val,.int .u32 n.lf,.int .u32 n.rg,.int .i64 n.size,.int .i64 n.sum,.int .i64 n.mn,.int .i64 n.mx]=XW (l.set k n):=by simp[XW,ndC,List.map_set]
theorem Zdu(n:Nat):List.replicate n [.int .i64 0,.int .i64 0,.int .u32 0,.int .u32 0,.int .i64 0,.int .i64 0,.int .i64 0,.int .i64 0]=XW (List.replicate n Nd.zero):=by simp[XW,ndC,Nd.zero]
end Go.V
namespace Go.V
open Go Go.RowKit
theorem Hl:∀(ls:List (List Value))(size:Nat),(∀x∈ls,x.length=size)→∀(k:Nat)(vs:List Value),k<ls.length→vs.length=size→(ls.set k vs).flatten=ls.flatten.take (k*size)++vs++ls.flatten.drop (k*size+size)
 |[],_,_,k,_,h,_=>by simp at h
 |x::r,size,hs,0,vs,_,hv=>by
  have hx:=hs x (List.mem_cons_self ..)
  subst hx
  simp
 |x::r,size,hs,k+1,vs,h,hv=>by
  have hx:=hs x (List.mem_cons_self ..)
  have ih:=Hl r size (fun y hy=>hs y (List.mem_cons_of_mem _ hy)) k vs (by simpa using h) hv
  rw[List.set_cons_succ,List.flatten_cons,ih,List.flatten_cons,Nat.succ_mul]
  rw[List.take_append,List.drop_append,hx]
  rw[show k*size+size-size=k*size by omega,show k*size+size+size-size=k*size+size by omega]
  rw[List.take_of_length_le (l:=x) (by omega),List.drop_of_length_le (l:=x) (by omega)]
  simp
theorem Zis{cur vs:List Value}{off n:Nat}(h1:off+vs.length≤n)(h2:n≤cur.length):(cur.take off++vs++cur.drop (off+vs.length)).take n=(cur.take n).take off++vs++(cur.take n).drop (off+vs.length):=by
 rw[List.take_append,List.take_append,List.length_append,List.length_take,List.take_take,List.take_take,List.drop_take]
 rw[show min off cur.length=off by omega,show min n off=off by omega,show min off n=off by omega]
 rw[List.take_of_length_le (l:=vs) (by omega)]
section
variable{P:Program}{T:Tab}[hT:TabOk P T]{n:Nat}{os l:List Oper}{K:Kt}{F:Fm}{w g:World}{L:List HP}{e size c:Nat}{ls:List (List Value)}{a:Option Addr}
theorem St.setS{k b:Nat}{cs vs:List Value}{cur:Array Value}(h:St g (Zp e size ls (some ⟨b,0,none⟩) c::L) w)(hk:ls[k]?=some cs)(hh:w.heap[b]?=some (.cells cur e (0,0)))(hl:vs.length=size)(hv:∀u∈vs,u.oneCell'=true) :
  k*size+size≤cur.size∧St g (Zp e size (ls.set k vs) (some ⟨b,0,none⟩) c::L) (w.setRow b (spl cur (k*size) vs)):=by
 have hkl:k<ls.length:=(List.getElem?_eq_some_iff.1 hk).1
 have hsz:k*size+size≤cur.size:=by
  obtain⟨o1,r,hA,ho,hr⟩:=h.get 0 rfl
  obtain⟨hok,hA⟩:=hA
  rcases hA with⟨_,_,h3⟩|⟨b',cur',hb,h2,h3,h4,h5,h6⟩
  ·subst h3;simp at hkl
  cases hb
  have:=ho _ _ h2
  rw[hh] at this;cases this
  rw[h5]
  calc k*size+size=(k+1)*size:=by rw[Nat.succ_mul]
   _≤c*size:=Nat.mul_le_mul_right _ (by omega)
 refine⟨hsz,h.upd rfl rfl rfl (by simp[World.setRow]) fun o1 r hA hw _ _=>?_⟩
 obtain⟨hok,hA⟩:=hA
 rcases hA with⟨_,_,h3⟩|⟨b',cur',hb,h2,h3,h4,h5,h6⟩
 ·subst h3;simp at hkl
 cases hb
 have:=hw _ _ h2
 rw[hh] at this;cases this
 have hok':OkE size (ls.set k vs):=fun x hx=>by
  rcases List.mem_or_eq_of_mem_set hx with hx|rfl
  ·exact hok x hx
  exact⟨hl,hv⟩
 have hlt:ls.length*size≤cur.size:=by rw[h5];exact Nat.mul_le_mul_right _ h3
 have hkn:k*size+size≤ls.length*size:=by
  calc k*size+size=(k+1)*size:=by rw[Nat.succ_mul]
   _≤ls.length*size:=Nat.mul_le_mul_right _ (by omega)
 refine⟨fun q=>if q=b then some (.cells (spl cur (k*size) vs) e (0,0)) else none,⟨hok',.inr ⟨b,spl cur (k*size) vs,rfl,by simp,by simpa using h3,h4,?_,?_⟩⟩,fun q x hx=>?_,fun q hq=>?_,fun q hq hn=>?_⟩
 ·rw[←h5];unfold spl;simp;omega
 ·rw[List.length_set]
  show(cur.toList.take (k*size)++vs++cur.toList.drop (k*size+vs.length)).take (ls.length*size)=_
  rw[Zis (by omega) (by simpa using hlt),h6,Hl ls size hok.len k vs hkl hl,hl]
 ·simp only at hx
  split at hx
  ·rename_i hq;subst hq;simp only[Option.some.injEq] at hx;subst hx
   exact setRow_heap w _ cur _ e _ (hw _ _ h2)
  cases hx
 ·simp only[ne_eq,ite_eq_right_iff,reduceCtorEq,imp_false,Classical.not_not] at hq
  subst hq
  exact .inl (by rw[h2];simp)
 refine setRow_other w b q _ fun eq=>?_
 have:o1 q=some (.cells cur e (0,0)):=by rw[eq];exact h2
 rw[hn] at this;cases this
theorem Zvi{o:Oper}{t:TypeId}{x y:Operand}{vs:Array Value}(hg:o.guard=none)(hd:o.dst=none)(ho:o.op=.store t x y)(i k:Nat)(cs:List Value)(ls':List (List Value))(Z:St g L w)(hi:L[i]?=some (Zp e size ls a c))(hks:ls[k]?=some cs)(hx:ev F x=.pointer (some ⟨bo a,oo a+k*size,none⟩))(hv:ev F y=.agg vs)(h1:vs.toList.all (·.oneCell')=true)(hl:vs.size=size)(ht:QV P t vs.size)(hls:ls.set k vs.toList=ls')(hk:∀w',St g (L.set i (Zp e size ls' a c)) w'→WL P n os l K F w'):WL P n os (o::l) K F w:=by
 subst hls
 obtain⟨b,cur,rfl,hh,_⟩:=Z.ownRow i hi hks
 have hall:∀u∈vs.toList,u.oneCell'=true:=fun u hu=>List.all_eq_true.1 h1 u hu
 obtain⟨hsz,hS1⟩:=(Z.at_ i hi).setS hks hh (by simpa using hl) hall
 have hS':=hS1.back i hi
 refine Zue hg hd (fun hok=>?_) (hk _ hS')
 have e1:=Zg (F:=F) hok (x:=x) (by simp[ho,Op.operands])
 have e2:=Zg (F:=F) hok (x:=y) (by simp[ho,Op.operands])
 simp only[bo,oo,Nat.zero_add] at hx
 have hst:=Js (P:=P) (t:=t) (off:=k*size) (v:=.agg vs) ht.2.2 hh hall (by show k*size+vs.size≤_;omega)
 rw[show(Value.agg vs).cells.toList=vs.toList from rfl] at hst
 simp only[execOp,ho,e1,e2,hx,hv,Instr.storeAt,Instr.sureAddr,Sem.run_bind,Sem.run_pure,Result.andThen_ok,hst]
end
end Go.V
namespace Go.V
open Go Go.RowKit
structure SM where
 used:List Bool
 gen:List Int
 rel:List Int
 fresh:Int
def SM.cap(S:SM):Int:=(S.used.length:Int)-1
def SM.free(S:SM):Int:=(S.rel.length:Int)+S.cap-S.fresh
def SM.next(S:SM):Int:=match S.rel.getLast? with
 |some i=>i
 |none=>S.fresh+1
def SM.genOf(S:SM)(i:Int):Int:=(S.gen[i.toNat]?).getD 0
def SM.alloc(S:SM):SM:=⟨S.used.set S.next.toNat true,S.gen.set S.next.toNat ((S.genOf S.next+1)%4294967296),S.rel.dropLast,if S.rel=[] then S.fresh+1 else S.fresh⟩
def SM.ok(S:SM)(i:Int):Bool:=(S.used[i.toNat]?).getD false
def SM.release(S:SM)(i:Int):SM:=⟨S.used.set i.toNat false,S.gen,S.rel++[i],S.fresh⟩
def SM.new(cap:Nat):SM:=⟨List.replicate (cap+1) false,List.replicate (cap+1) 0,[],0⟩
structure SOk(S:SM):Prop where
 cap:2≤S.used.length∧S.used.length≤65537
 gl:S.gen.length=S.used.length
 fr:0≤S.fresh∧S.fresh≤S.cap
 rm:∀i∈S.rel,1≤i∧i≤S.fresh∧S.ok i=false
 nd:S.rel.Nodup
 u0:S.ok 0=false
 hi:∀i:Int,S.fresh<i→S.ok i=false
 cov:∀i:Int,1≤i→i≤S.fresh→S.ok i=false→i∈S.rel
 gr:∀x∈S.gen,0≤x∧x<4294967296
theorem SOk.le{S:SM}(h:SOk S):S.used.length≤65537:=h.cap.2
theorem SOk.gle{S:SM}(h:SOk S):S.gen.length≤65537:=by rw[h.gl];exact h.cap.2
theorem Ul:∀(n:Nat)(l:List Int),l.Nodup→(∀i∈l,1≤i∧i≤(n:Int))→l.length≤n
 |0,l,_,h=>by
  cases l with
  |nil=>exact Nat.le_refl _
  |cons x t=>have:=h x (List.mem_cons_self ..);omega
 |n+1,l,hd,h=>by
  have h1:(l.erase ((n:Int)+1)).length≤n:=Ul n _ (hd.erase _) fun i hi=>by
   have h2:=(hd.mem_erase_iff).1 hi
   have h3:=h i h2.2
   have h4:=h2.1
   omega
  have h2:=List.length_erase (a:=(n:Int)+1) (l:=l)
  split at h2<;>omega
theorem SOk.rle{S:SM}(h:SOk S):S.rel.length≤65536:=by
 have h1:S.rel.length≤S.used.length-1:=Ul _ _ h.nd fun i hi=>by
  have h2:=h.rm i hi
  have h3:=h.fr
  have h4:S.cap=(S.used.length:Int)-1:=rfl
  have h5:=h.cap
  omega
 have h5:=h.cap
 omega
theorem SM.ok_rng{S:SM}(h:SOk S){i:Int}(h0:0≤i)(hi:S.ok i=true):1≤i∧i≤S.fresh∧i≤S.cap∧i.toNat<S.used.length:=by
 have h1:i≠0:=fun e=>by subst e;rw[h.u0] at hi;cases hi
 have h2:¬S.fresh<i:=fun e=>by rw[h.hi i e] at hi;cases hi
 have h3:=h.fr
 have h4:S.cap=(S.used.length:Int)-1:=rfl
 omega
theorem SM.ok_set{S:SM}{i j:Int}{b:Bool}(hi:0≤i)(hj:0≤j)(hl:i.toNat<S.used.length):((S.used.set i.toNat b)[j.toNat]?).getD false=if j=i then b else S.ok j:=by
 rw[List.getElem?_set]
 by_cases h:j=i
 ·subst h;rw[if_pos rfl,if_pos hl,if_pos rfl];rfl
 rw[if_neg (by omega),if_neg h];rfl
theorem Znu{l:List Bool}{i:Int}:(l[i.toNat]?).getD false=true→i.toNat<l.length:=fun h=>by
 rcases Nat.lt_or_ge i.toNat l.length with h1|h1
 ·exact h1
 rw[List.getElem?_eq_none h1] at h;cases h
theorem SM.new_ok{cap:Nat}(h:1≤cap∧cap≤65536):SOk (SM.new cap):=by
 have hno:∀i:Int,(SM.new cap).ok i=false:=fun i=>by
  unfold SM.ok SM.new
  simp only
  cases hx:(List.replicate (cap+1) false)[i.toNat]? with
  |none=>rfl
  |some b=>rw[List.eq_of_mem_replicate (List.mem_of_getElem? hx)];rfl
 refine⟨by simp[SM.new];omega,by simp[SM.new],by simp[SM.new,SM.cap],fun i hi=>(by cases hi),List.nodup_nil,hno 0,fun i _=>hno i,fun i h1 h2=>?_,fun x hx=>?_⟩
 ·simp only[SM.new] at h2;omega
 rw[List.eq_of_mem_replicate hx];omega
theorem SM.next_some{S:SM}{i:Int}(h:S.rel.getLast?=some i):S.next=i:=by unfold SM.next;rw[h]
theorem SM.next_nil{S:SM}(h:S.rel=[]):S.next=S.fresh+1:=by unfold SM.next;rw[h];rfl
theorem SM.next_rng{S:SM}(h:SOk S)(hf:0<S.free):1≤S.next∧S.next≤S.cap∧S.next.toNat<S.used.length∧S.ok S.next=false:=by
 have hc:S.cap=(S.used.length:Int)-1:=rfl
 have hfr:=h.fr
 cases hg:S.rel.getLast? with
 |some i =>
  have hm:=h.rm i (List.mem_of_getLast? hg)
  rw[SM.next_some hg]
  exact⟨hm.1,by omega,by omega,hm.2.2⟩
 |none =>
  have hr:S.rel=[]:=List.getLast?_eq_none_iff.1 hg
  unfold SM.free at hf
  rw[hr] at hf
  simp only[List.length_nil] at hf
  rw[SM.next_nil hr]
  exact⟨by omega,by omega,by omega,h.hi _ (by omega)⟩
theorem Ji{S:SM}(hne:S.rel≠[]):S.rel=S.rel.dropLast++[S.next]:=by
 have h2:S.next=S.rel.getLast hne:=SM.next_some (List.getLast?_eq_some_getLast hne)
 rw[h2];exact(List.dropLast_concat_getLast hne).symm
theorem SM.alloc_ok'{S:SM}(h:SOk S)(hf:0<S.free){j:Int}(hj:0≤j):S.alloc.ok j=if j=S.next then true else S.ok j:=by
 have hn:=S.next_rng h hf
 exact SM.ok_set (by omega) hj hn.2.2.1
theorem SM.alloc_free(S:SM):S.alloc.free=S.free-1:=by
 unfold SM.free SM.cap SM.alloc
 simp only[List.length_set,List.length_dropLast]
 by_cases hr:S.rel=[]
 ·rw[if_pos hr,hr];simp;omega
 rw[if_neg hr]
 have:0<S.rel.length:=List.length_pos_iff.2 hr
 omega
theorem SM.alloc_sok{S:SM}(h:SOk S)(hf:0<S.free):SOk S.alloc:=by
 have hn:=S.next_rng h hf
 have hc:S.cap=(S.used.length:Int)-1:=rfl
 have hfr:=h.fr
 have hcap:S.alloc.cap=S.cap:=by unfold SM.cap SM.alloc;simp
 have hal:=fun(j:Int) (hj:0≤j)=>S.alloc_ok' h hf hj
 have hneg:∀j:Int,j<0→S.alloc.ok j=false:=fun j hj=>by
  have e:S.alloc.ok j=S.alloc.ok 0:=by unfold SM.ok;rw[show j.toNat=(0:Int).toNat by omega]
  rw[e,hal 0 (Int.le_refl _),if_neg (by omega),h.u0]
 have hmem:∀i,i∈S.alloc.rel→i∈S.rel∧i≠S.next:=fun i hi=>by
  have hi2:i∈S.rel.dropLast:=hi
  have hne:S.rel≠[]:=fun e=>by rw[e] at hi2;cases hi2
  have hs:=Ji hne
  refine⟨by rw[hs];exact List.mem_append_left _ hi2,fun e=>?_⟩
  have hnd:=h.nd
  rw[hs] at hnd
  exact(List.nodup_append.1 hnd).2.2 i hi2 S.next (List.mem_singleton.2 rfl) e
 have hfresh:S.fresh≤S.alloc.fresh∧S.alloc.fresh≤S.cap:=by
  unfold SM.alloc
  simp only
  by_cases hr:S.rel=[]
  ·rw[if_pos hr]
   unfold SM.free at hf
   rw[hr] at hf;simp at hf;omega
  rw[if_neg hr];omega
 refine⟨?_,?_,by rw[hcap];omega,fun i hi=>?_,?_,?_,fun i hi=>?_,fun i h1 h2 h3=>?_,fun x hx=>?_⟩
 ·unfold SM.alloc;simpa using h.cap
 ·unfold SM.alloc;simpa using h.gl
 ·obtain⟨h1,h2⟩:=hmem i hi
  have h3:=h.rm i h1
  exact⟨h3.1,by omega,by rw[hal i (by omega),if_neg h2];exact h3.2.2⟩
 ·have h1:S.alloc.rel=S.rel.dropLast:=rfl
  rw[h1];exact h.nd.sublist (List.dropLast_sublist _)
 ·rw[hal 0 (Int.le_refl _),if_neg (by omega)];exact h.u0
 ·rcases Int.lt_or_le i 0 with h0|h0
  ·exact hneg i h0
  rw[hal i h0]
  have hne:i≠S.next:=fun e=>by
   by_cases hr:S.rel=[]
   ·have e2:S.alloc.fresh=S.fresh+1:=by unfold SM.alloc;simp only;rw[if_pos hr]
    have e3:=SM.next_nil hr
    omega
   have:=h.rm S.next (by rw[Ji hr];simp)
   omega
  rw[if_neg hne]
  exact h.hi i (by omega)
 ·rw[hal i (by omega)] at h3
  split at h3
  ·cases h3
  rename_i hne
  have h1r:S.alloc.rel=S.rel.dropLast:=rfl
  rw[h1r]
  by_cases hr:S.rel=[]
  ·have e2:S.alloc.fresh=S.fresh+1:=by unfold SM.alloc;simp only;rw[if_pos hr]
   have e3:=SM.next_nil hr
   have:=h.cov i h1 (by omega) h3
   rw[hr] at this;cases this
  have e2:S.alloc.fresh=S.fresh:=by unfold SM.alloc;simp only;rw[if_neg hr]
  have:=h.cov i h1 (by omega) h3
  rw[Ji hr] at this
  rcases List.mem_append.1 this with h4|h4
  ·exact h4
  exact absurd (List.mem_singleton.1 h4) hne
 have hx2:x∈S.gen.set S.next.toNat ((S.genOf S.next+1)%4294967296):=hx
 rcases List.mem_or_eq_of_mem_set hx2 with h1|rfl
 ·exact h.gr x h1
 omega
theorem SM.release_ok'{S:SM}(h:SOk S){i:Int}(h0:0≤i)(hi:S.ok i=true){j:Int}(hj:0≤j):(S.release i).ok j=if j=i then false else S.ok j :=
 SM.ok_set h0 hj (SM.ok_rng h h0 hi).2.2.2
theorem SM.release_free{S:SM}(i:Int):(S.release i).free=S.free+1:=by
 unfold SM.free SM.cap SM.release
 simp only[List.length_set,List.length_append,List.length_singleton]
 omega
theorem SM.release_sok{S:SM}(h:SOk S){i:Int}(h0:0≤i)(hi:S.ok i=true):SOk (S.release i):=by
 have hr:=SM.ok_rng h h0 hi
 have hcap:(S.release i).cap=S.cap:=by unfold SM.cap SM.release;simp
 have hal:=fun(j:Int) (hj:0≤j)=>SM.release_ok' h h0 hi hj
 have hneg:∀j:Int,j<0→(S.release i).ok j=false:=fun j hj=>by
  have e:(S.release i).ok j=(S.release i).ok 0:=by unfold SM.ok;rw[show j.toNat=(0:Int).toNat by omega]
  rw[e,hal 0 (Int.le_refl _),if_neg (by omega),h.u0]
 have hfr:=h.fr
 refine⟨?_,?_,by rw[hcap];exact h.fr,fun j hj=>?_,?_,?_,fun j hj=>?_,fun j h1 h2 h3=>?_,h.gr⟩
 ·unfold SM.release;simpa using h.cap
 ·unfold SM.release;simpa using h.gl
 ·have hj2:j∈S.rel++[i]:=hj
  rcases List.mem_append.1 hj2 with h1|h1
  ·have h2:=h.rm j h1
   refine⟨h2.1,h2.2.1,?_⟩
   rw[hal j (by omega)]
   split
   ·rfl
   exact h2.2.2
  rw[List.mem_singleton.1 h1]
  exact⟨hr.1,hr.2.1,by rw[hal i h0,if_pos rfl]⟩
 ·show(S.rel++[i]).Nodup
  refine List.nodup_append.2 ⟨h.nd,List.pairwise_singleton _ _,fun a ha b hb e=>?_⟩
  rw[List.mem_singleton.1 hb] at e
  have:=(h.rm a ha).2.2
  rw[e,hi] at this;cases this
 ·rw[hal 0 (Int.le_refl _),if_neg (by omega)];exact h.u0
 ·have hj2:S.fresh<j:=hj
  rcases Int.lt_or_le j 0 with h1|h1
  ·exact hneg j h1
  rw[hal j h1]
  split
  ·rfl
  exact h.hi j hj2
 have h2':j≤S.fresh:=h2
 show j∈S.rel++[i]
 rw[hal j (by omega)] at h3
 split at h3
 ·rename_i e;subst e;simp
 exact List.mem_append_left _ (h.cov j h1 h2' h3)
end Go.V
namespace Go.V
open Go Go.RowKit
structure SlA where
 ua:Option Addr
 uc:Nat
 ga:Option Addr
 gc:Nat
 ra:Option Addr
 rc:Nat
def Xu(s:Nat)(S:SM)(x:SlA):List HP:=[Zq s #[.slice x.ua (Zk S.used).length x.uc,.slice x.ga (Za S.gen).length x.gc,.slice x.ra (Za S.rel).length x.rc,.int .u32 S.fresh] 323,Zp 4 1 (Zk S.used) x.ua x.uc,Zp 93 1 (Za S.gen) x.ga x.gc,Zp 93 1 (Za S.rel) x.ra x.rc]
def XE(s:Nat)(S:SM):HP:=ExB (Xu s S)
structure AM where
 s:SM
 nodes:List Nd
 cnt:List Int
structure ArA where
 p:Nat
 na:Option Addr
 nc:Nat
 ca:Option Addr
 cc:Nat
 rd:Int
def Y9(a:Nat)(A:AM)(x:ArA):List HP:=[Zq a #[.pointer (some ⟨x.p,0,none⟩),.slice x.na (XW A.nodes).length x.nc,.slice x.ca (Ze A.cnt).length x.cc,.int .u64 x.rd] 177,XE x.p A.s,Zp 141 8 (XW A.nodes) x.na x.nc,Zp 3 1 (Ze A.cnt) x.ca x.cc]
def Zt(a:Nat)(A:AM):HP:=ExB (Y9 a A)
structure TM where
 s:SM
 vals:List Int
structure TbA where
 p:Nat
 va:Option Addr
 vc:Nat
def UO(t:Nat)(T:TM)(x:TbA):List HP:=[Zq t #[.pointer (some ⟨x.p,0,none⟩),.slice x.va (Za T.vals).length x.vc] 170,XE x.p T.s,Zp 93 1 (Za T.vals) x.va x.vc]
def Tbl(t:Nat)(T:TM):HP:=ExB (UO t T)
end Go.V
namespace Go.V
open Go Go.RowKit
def AM.new(cap:Nat):AM:=⟨SM.new cap,List.replicate (cap+1) Nd.zero,List.replicate (cap+1) 0⟩
def AM.cntOf(A:AM)(i:Int):Int:=(A.cnt[i.toNat]?).getD 0
def AM.inc(A:AM)(i:Int):AM:=⟨A.s,A.nodes,A.cnt.set i.toNat (IntKind.i64.wrap (A.cntOf i+1))⟩
def AM.dec(A:AM)(i:Int):AM:=⟨A.s,A.nodes,A.cnt.set i.toNat (IntKind.i64.wrap (A.cntOf i-1))⟩
structure AWf(A:AM):Prop where
 s:SOk A.s
 nl:A.nodes.length=A.s.used.length
 cl:A.cnt.length=A.s.used.length
theorem AM.new_wf{cap:Nat}(h:1≤cap∧cap≤65536):AWf (AM.new cap):=⟨SM.new_ok h,by simp[AM.new,SM.new],by simp[AM.new,SM.new]⟩
theorem AWf.inc{A:AM}(h:AWf A)(i:Int):AWf (A.inc i):=⟨h.s,h.nl,by simpa[AM.inc] using h.cl⟩
def AM.retE(A:AM)(i:Int):Int:=if i=0∨A.s.ok i=true then 0 else 3
def AM.ret(A:AM)(i:Int):AM:=if i≠0∧A.s.ok i=true then A.inc i else A
theorem SM.new_free(cap:Nat):(SM.new cap).free=cap:=by
 simp[SM.free,SM.cap,SM.new]
end Go.V
namespace Go.V
open Go Go.RowKit
theorem Zen{u x:Int}{m:Nat}(hu0:0≤u)(hu:u<2^m)(hx:0≤x)(hs:u+x*2^m<2^64):UI .or .u64 (x*2^m) u=x*2^m+u:=by
 have h1:=Zhd hu0 hu hx hs
 have hb:(IntKind.u64).bits=64:=rfl
 have hp:(0:Int)≤x*2^m:=Int.mul_nonneg hx (Int.le_of_lt (Int.pow_pos (by decide)))
 rw[Zjy hp (by rw[hb];omega) hu0 (by rw[hb];omega),Nat.or_comm,←Zjy hu0 (by rw[hb];omega) hp (by rw[hb];omega),h1]
 omega
theorem Zmh{i n:Int}(hi:0≤i∧i<4294967296)(hn:0≤n∧n<4294967296):UI .or .u64 (IntKind.u64.wrap (n*p2 .u64 32)) i=n*4294967296+i:=by
 have e:IntKind.u64.wrap (n*p2 .u64 32)=n*2^32:=by
  have:p2 .u64 32=4294967296:=rfl
  rw[this,V' (by omega)];rfl
 rw[e,Zen hi.1 hi.2 hn.1 (by have:(2:Int)^64=18446744073709551616:=rfl;have:(2:Int)^32=4294967296:=rfl;omega)]
 have:(2:Int)^32=4294967296:=rfl
 omega
def SM.hd(S:SM)(i:Int):Int:=S.genOf i*4294967296+i
def SM.opn(S:SM)(h:Int):Bool:=S.ok (h%4294967296)&&decide (S.hd (h%4294967296)=h)
structure TOk(T:TM):Prop where
 s:SOk T.s
 vl:T.vals.length=T.s.used.length
 vr:∀x∈T.vals,0≤x∧x<4294967296
def TM.val(T:TM)(h:Int):Int:=(T.vals[(h%4294967296).toNat]?).getD 0
def TM.open(T:TM)(v:Int):TM:=⟨T.s.alloc,T.vals.set T.s.next.toNat v⟩
def TM.newH(T:TM):Int:=T.s.alloc.hd T.s.next
def TM.close(T:TM)(h:Int):TM:=⟨T.s.release (h%4294967296),T.vals⟩
def TM.new(cap:Nat):TM:=⟨SM.new cap,List.replicate (cap+1) 0⟩
def TM.handles(T:TM):List Int:=((List.range T.s.used.length).filter fun i:Nat=>T.s.ok (i:Int)).map fun i:Nat=>T.s.hd (i:Int)
theorem TM.new_ok{cap:Nat}(h:1≤cap∧cap≤65536):TOk (TM.new cap):=⟨SM.new_ok h,by simp[TM.new,SM.new],fun x hx=>by rw[List.eq_of_mem_replicate hx];omega⟩
theorem SOk.gen_rng{S:SM}(h:SOk S)(i:Int):0≤S.genOf i∧S.genOf i<4294967296:=by
 unfold SM.genOf
 cases hx:S.gen[i.toNat]? with
 |none=>simp
 |some x=>exact h.gr x (List.mem_of_getElem? hx)
theorem TOk.val_rng{T:TM}(h:TOk T)(x:Int):0≤T.val x∧T.val x<4294967296:=by
 unfold TM.val
 cases hx:T.vals[(x%4294967296).toNat]? with
 |none=>simp
 |some y=>exact h.vr y (List.mem_of_getElem? hx)
theorem TOk.open{T:TM}(h:TOk T)(hf:0<T.s.free){v:Int}(hv:0≤v∧v<4294967296):TOk (T.open v):=by
 refine⟨SM.alloc_sok h.s hf,?_,fun x hx=>?_⟩
 ·show(T.vals.set _ _).length=(T.s.used.set _ _).length
  rw[List.length_set,List.length_set];exact h.vl
 rcases List.mem_or_eq_of_mem_set (show x∈T.vals.set _ _ from hx) with h1|rfl
 ·exact h.vr x h1
 exact hv
theorem SM.opn_ok{S:SM}{h:Int}(ho:S.opn h=true):S.ok (h%4294967296)=true∧S.hd (h%4294967296)=h:=by
 unfold SM.opn at ho
 simpa using ho
theorem TOk.close{T:TM}(h:TOk T){x:Int}(ho:T.s.opn x=true):TOk (T.close x) :=
 ⟨SM.release_sok h.s (by omega) (SM.opn_ok ho).1,by
  show T.vals.length=(T.s.used.set _ _).length
  rw[List.length_set];exact h.vl,h.vr⟩
end Go.V
namespace Go.V
open Go
inductive Tr where
 |nil
 |node (l:Tr) (k v:Int) (r:Tr)
namespace Tr
def n:Tr→Nat
 |nil=>0
 |node l _ _ r=>l.n+r.n+1
def ls:Tr→List (Int×Int)
 |nil=>[]
 |node l k v r=>l.ls++(k,v)::r.ls
def ht:Tr→Nat
 |nil=>0
 |node l _ _ r=>max l.ht r.ht+1
end Tr
abbrev Jn(a b:Nat):Prop:=a+1≤3*(b+1)∧b+1≤3*(a+1)
namespace Tr
def ok:Tr→Prop
 |nil=>True
 |node l _ _ r=>Jn l.n r.n∧l.ok∧r.ok
theorem ls_len:∀t:Tr,t.ls.length=t.n
 |nil=>rfl
 |node l _ _ r=>by simp[ls,n,ls_len l,ls_len r];omega
theorem n0{t:Tr}(h:t.n=0):t=nil:=by
 cases t with
 |nil=>rfl
 |node=>simp[n] at h
def dbL(l:Tr)(k v fk fv:Int)(s:Tr):Tr→Tr
 |nil=>nil
 |node x gk gv y=>node (node l k v x) gk gv (node y fk fv s)
def litL(l:Tr)(k v:Int):Tr→Tr
 |nil=>node l k v nil
 |node m fk fv s=>if m.n=0∨(Jn l.n m.n∧Jn (l.n+m.n+1) s.n) then node (node l k v m) fk fv s else dbL l k v fk fv s m
def dbR(r:Tr)(k v fk fv:Int)(s:Tr):Tr→Tr
 |nil=>nil
 |node x gk gv y=>node (node s fk fv x) gk gv (node y k v r)
def litR(r:Tr)(k v:Int):Tr→Tr
 |nil=>node nil k v r
 |node s fk fv m=>if m.n=0∨(Jn m.n r.n∧Jn s.n (m.n+r.n+1)) then node s fk fv (node m k v r) else dbR r k v fk fv s m
def bal(l:Tr)(k v:Int)(r:Tr):Tr:=if Jn l.n r.n then node l k v r else if l.n<r.n then litL l k v r else litR r k v l
def join:Tr→Int→Int→Tr→Tr
 |nil,k,v,nil=>node nil k v nil
 |nil,k,v,node m fk fv s=>if Jn 0 (m.n+s.n+1) then node nil k v (node m fk fv s) else bal (join nil k v m) fk fv s
 |node s fk fv m,k,v,nil=>if Jn (s.n+m.n+1) 0 then node (node s fk fv m) k v nil else bal s fk fv (join m k v nil)
 |node s fk fv m,k,v,node m' fk' fv' s'=>if Jn (s.n+m.n+1) (m'.n+s'.n+1) then node (node s fk fv m) k v (node m' fk' fv' s')
  else if m'.n+s'.n<s.n+m.n then bal s fk fv (join m k v (node m' fk' fv' s')) else bal (join (node s fk fv m) k v m') fk' fv' s'
termination_by l _ _ r=>l.n+r.n
decreasing_by all_goals simp only[n];omega
def jc:Tr→Tr→Nat
 |nil,nil=>1
 |nil,node m _ _ s=>if Jn 0 (m.n+s.n+1) then 1 else jc nil m+3
 |node s _ _ m,nil=>if Jn (s.n+m.n+1) 0 then 1 else jc m nil+3
 |node s fk fv m,node m' fk' fv' s'=>if Jn (s.n+m.n+1) (m'.n+s'.n+1) then 1
  else if m'.n+s'.n<s.n+m.n then jc m (node m' fk' fv' s')+3 else jc (node s fk fv m) m'+3
termination_by l r=>l.n+r.n
decreasing_by all_goals simp only[n];omega
theorem Zqy{l r:Tr}{k v:Int}(hr:r≠nil):(litL l k v r).n=l.n+r.n+1∧(litL l k v r).ls=l.ls++(k,v)::r.ls:=by
 cases r with
 |nil=>exact absurd rfl hr
 |node m fk fv s =>
  rw[litL]
  split
  ·exact⟨by simp only[n];omega,by simp[ls]⟩
  cases m with
  |nil=>simp[n] at *
  |node x gk gv y=>exact⟨by simp only[dbL,n];omega,by simp[dbL,ls]⟩
theorem Zrr{l r:Tr}{k v:Int}(hl:l≠nil):(litR r k v l).n=l.n+r.n+1∧(litR r k v l).ls=l.ls++(k,v)::r.ls:=by
 cases l with
 |nil=>exact absurd rfl hl
 |node s fk fv m =>
  rw[litR]
  split
  ·exact⟨by simp only[n];omega,by simp[ls]⟩
  cases m with
  |nil=>simp[n] at *
  |node x gk gv y=>exact⟨by simp only[dbR,n];omega,by simp[dbR,ls]⟩
theorem UG(l:Tr)(k v:Int)(r:Tr):(bal l k v r).n=l.n+r.n+1∧(bal l k v r).ls=l.ls++(k,v)::r.ls:=by
 unfold bal
 split
 ·exact⟨rfl,rfl⟩
 rename_i h
 split
 ·refine Zqy fun e=>?_
  subst e;simp[n] at *
 refine Zrr fun e=>?_
 subst e
 simp only[n] at *
 have:r.n=0:=by omega
 omega
def H6(a b:Nat):Prop:=3*(b+1)≤13*(a+1)
theorem Zml{l r:Tr}{k v:Int}(hl:l.ok)(hr:r.ok)(h3:3*(l.n+1)<r.n+1)(hN:H6 l.n r.n):(litL l k v r).ok:=by
 cases r with
 |nil=>simp[n] at h3
 |node m fk fv s =>
  obtain⟨⟨b1,b2⟩,hm,hs⟩:=hr
  simp only[n] at h3
  unfold H6 at hN;simp only[n] at hN
  rw[litL]
  split
  ·rename_i hc
   rcases hc with hc|hc
   ·have:=n0 hc;subst this
    simp only[n] at *
    exact⟨by simp only[n];constructor<;>omega,⟨by simp only[n];constructor<;>omega,hl,hm⟩,hs⟩
   exact⟨by simp only[n];constructor<;>omega,⟨hc.1,hl,hm⟩,hs⟩
  rename_i hc
  cases m with
  |nil=>simp[n] at hc
  |node x gk gv y =>
   obtain⟨⟨c1,c2⟩,hx,hy⟩:=hm
   simp only[n] at *
   refine⟨?_,⟨?_,hl,hx⟩,⟨?_,hy,hs⟩⟩<;>(try simp only[n])<;>constructor<;>omega
theorem Zmz{l r:Tr}{k v:Int}(hl:l.ok)(hr:r.ok)(h3:3*(r.n+1)<l.n+1)(hN:H6 r.n l.n):(litR r k v l).ok:=by
 cases l with
 |nil=>simp[n] at h3
 |node s fk fv m =>
  obtain⟨⟨b1,b2⟩,hs,hm⟩:=hl
  simp only[n] at h3
  unfold H6 at hN;simp only[n] at hN
  rw[litR]
  split
  ·rename_i hc
   rcases hc with hc|hc
   ·have:=n0 hc;subst this
    simp only[n] at *
    exact⟨by simp only[n];constructor<;>omega,hs,⟨by simp only[n];constructor<;>omega,hm,hr⟩⟩
   exact⟨by simp only[n];constructor<;>omega,hs,⟨hc.1,hm,hr⟩⟩
  rename_i hc
  cases m with
  |nil=>simp[n] at hc
  |node x gk gv y =>
   obtain⟨⟨c1,c2⟩,hx,hy⟩:=hm
   simp only[n] at *
   refine⟨?_,⟨?_,hs,hx⟩,⟨?_,hy,hr⟩⟩<;>(try simp only[n])<;>constructor<;>omega
theorem Cd{l r:Tr}{k v:Int}(hl:l.ok)(hr:r.ok)(hN:H6 l.n r.n)(hM:H6 r.n l.n):(bal l k v r).ok:=by
 unfold bal
 split
 ·rename_i h;exact⟨h,hl,hr⟩
 split
 ·exact Zml hl hr (by omega) hN
 exact Zmz hl hr (by omega) hM
theorem join_n(l:Tr)(k v:Int)(r:Tr):(join l k v r).n=l.n+r.n+1∧(join l k v r).ls=l.ls++(k,v)::r.ls:=by
 fun_induction join l k v r
 case case1=>exact⟨rfl,rfl⟩
 case case2=>exact⟨rfl,rfl⟩
 case case3 k v m fk fv s h ih =>
  refine⟨?_,?_⟩
  ·rw[(UG _ _ _ _).1,ih.1];simp only[n];omega
  rw[(UG _ _ _ _).2,ih.2];simp[ls]
 case case4=>exact⟨rfl,rfl⟩
 case case5 s fk fv m k v h ih =>
  refine⟨?_,?_⟩
  ·rw[(UG _ _ _ _).1,ih.1];simp only[n];omega
  rw[(UG _ _ _ _).2,ih.2];simp[ls]
 case case6=>exact⟨rfl,rfl⟩
 case case7 s fk fv m k v m' fk' fv' s' h1 h2 ih =>
  refine⟨?_,?_⟩
  ·rw[(UG _ _ _ _).1,ih.1];simp only[n];omega
  rw[(UG _ _ _ _).2,ih.2];simp[ls]
 case case8 s fk fv m k v m' fk' fv' s' h1 h2 ih =>
  refine⟨?_,?_⟩
  ·rw[(UG _ _ _ _).1,ih.1];simp only[n];omega
  rw[(UG _ _ _ _).2,ih.2];simp[ls]
theorem JR{l r:Tr}{k v:Int}(hl:l.ok)(hr:r.ok):(join l k v r).ok:=by
 fun_induction join l k v r
 case case1=>exact⟨by simp[n],trivial,trivial⟩
 case case2 h=>exact⟨h,hl,hr⟩
 case case3 k v m fk fv s h ih =>
  obtain⟨⟨b1,b2⟩,hm,hs⟩:=hr
  have hn:=(join_n nil k v m).1
  simp only[n] at hn
  refine Cd (ih hl hm) hs ?_ ?_<;>unfold H6<;>rw[hn]<;>omega
 case case4 h=>exact⟨h,hl,hr⟩
 case case5 s fk fv m k v h ih =>
  obtain⟨⟨b1,b2⟩,hs,hm⟩:=hl
  have hn:=(join_n m k v nil).1
  simp only[n] at hn
  refine Cd hs (ih hm hr) ?_ ?_<;>unfold H6<;>rw[hn]<;>omega
 case case6 h=>exact⟨h,hl,hr⟩
 case case7 s fk fv m k v m' fk' fv' s' h1 h2 ih =>
  obtain⟨⟨b1,b2⟩,hs,hm⟩:=hl
  have hn:=(join_n m k v (node m' fk' fv' s')).1
  simp only[n] at hn
  refine Cd hs (ih hm hr) ?_ ?_<;>unfold H6<;>rw[hn]<;>omega
 case case8 s fk fv m k v m' fk' fv' s' h1 h2 ih =>
  obtain⟨⟨b1,b2⟩,hm,hs⟩:=hr
  have hn:=(join_n (node s fk fv m) k v m').1
  simp only[n] at hn
  refine Cd (ih hl hm) hs ?_ ?_<;>unfold H6<;>rw[hn]<;>omega
theorem jc_bal{l r:Tr}(h:Jn l.n r.n):jc l r=1:=by
 cases l with
 |nil =>
  cases r with
  |nil=>simp[jc]
  |node m a b s=>rw[jc,if_pos (by simpa[n] using h)]
 |node s a b m =>
  cases r with
  |nil=>rw[jc,if_pos (by simpa[n] using h)]
  |node m' a' b' s'=>rw[jc,if_pos (by simpa[n] using h)]
theorem XX{l r:Tr}(hl:l.ok)(hr:r.ok)(h1:l.n+1≤3*(r.n+1)+1∨(l.n+1≤3*(r.n+1)+3∧1≤r.n))(h2:r.n+1≤3*(l.n+1)+1∨(r.n+1≤3*(l.n+1)+3∧1≤l.n)):jc l r≤4:=by
 cases l with
 |nil =>
  cases r with
  |nil=>simp[jc]
  |node m a b s =>
   rw[jc]
   obtain⟨⟨b1,b2⟩,hm,hs⟩:=hr
   simp only[n] at h2
   split
   ·omega
   rw[jc_bal (by simp only[n];constructor<;>omega)];omega
 |node s a b m =>
  obtain⟨⟨b1,b2⟩,hs,hm⟩:=hl
  cases r with
  |nil =>
   rw[jc]
   simp only[n] at h1
   split
   ·omega
   rw[jc_bal (by simp only[n];constructor<;>omega)];omega
  |node m' a' b' s' =>
   obtain⟨⟨c1,c2⟩,hm',hs'⟩:=hr
   simp only[n] at h1 h2
   rw[jc]
   split
   ·omega
   split
   ·rw[jc_bal (by simp only[n];constructor<;>omega)];omega
   rw[jc_bal (by simp only[n];constructor<;>omega)];omega
theorem Zdy{r:Tr}(hr:r.ok)(h:r.n≤5):jc nil r≤7:=by
 cases r with
 |nil=>simp[jc]
 |node m a b s =>
  rw[jc]
  obtain⟨⟨b1,b2⟩,hm,hs⟩:=hr
  simp only[n] at h
  split
  ·omega
  have:=XX (l:=nil) (r:=m) trivial hm (by simp only[n];omega) (by simp only[n];omega)
  omega
theorem Zb6{l:Tr}(hl:l.ok)(h:l.n≤5):jc l nil≤7:=by
 cases l with
 |nil=>simp[jc]
 |node s a b m =>
  rw[jc]
  obtain⟨⟨b1,b2⟩,hs,hm⟩:=hl
  simp only[n] at h
  split
  ·omega
  have:=XX (l:=m) (r:=nil) hm trivial (by simp only[n];omega) (by simp only[n];omega)
  omega
def ins(k v:Int):Tr→Tr
 |nil=>node nil k v nil
 |node l x y r=>if k<x then join (ins k v l) x y r else if x<k then join l x y (ins k v r) else node l k v r
def ic(k v:Int):Tr→Nat
 |nil=>1
 |node l x _ r=>if k<x then ic k v l+jc (ins k v l) r else if x<k then ic k v r+jc l (ins k v r) else 1
def has(k:Int):Tr→Bool
 |nil=>false
 |node l x _ r=>if k<x then l.has k else if x<k then r.has k else true
theorem ins_n(k v:Int):∀t:Tr,(ins k v t).n=t.n+(if t.has k then 0 else 1)
 |nil=>by simp[ins,has,n]
 |node l x y r=>by
  unfold ins has
  split
  ·rw[(join_n _ _ _ _).1,ins_n k v l];simp only[n];omega
  split
  ·rw[(join_n _ _ _ _).1,ins_n k v r];simp only[n];omega
  simp[n]
theorem ins_ok(k v:Int):∀t:Tr,t.ok→(ins k v t).ok
 |nil,_=>⟨by simp[n],trivial,trivial⟩
 |node l x y r,h=>by
  unfold ins
  split
  ·exact JR (ins_ok k v l h.2.1) h.2.2
  split
  ·exact JR h.2.1 (ins_ok k v r h.2.2)
  exact h
theorem Zhs(k v:Int):∀t:Tr,t.ok→ic k v t≤4*t.ht+1
 |nil,_=>by simp[ic,ht]
 |node l x y r,h=>by
  obtain⟨⟨b1,b2⟩,hl,hr⟩:=h
  unfold ic
  have el:=ins_n k v l
  have er:=ins_n k v r
  simp only[ht]
  split
  ·have h1:=Zhs k v l hl
   have h2:=XX (ins_ok k v l hl) hr (by split at el<;>omega) (by split at el<;>omega)
   omega
  split
  ·have h1:=Zhs k v r hr
   have h2:=XX hl (ins_ok k v r hr) (by split at er<;>omega) (by split at er<;>omega)
   omega
  omega
def pop:Tr→Tr×Int×Int
 |nil=>(nil,0,0)
 |node l k v nil=>(l,k,v)
 |node l k v (node a b c d)=>(join l k v (pop (node a b c d)).1,(pop (node a b c d)).2)
def pc:Tr→Nat
 |nil=>0
 |node _ _ _ nil=>0
 |node l _ _ (node a b c d)=>pc (node a b c d)+jc l (pop (node a b c d)).1
theorem pop_n:∀t:Tr,t≠nil→(pop t).1.n+1=t.n∧(pop t).1.ls++[(pop t).2]=t.ls
 |nil,h=>absurd rfl h
 |node l k v nil,_=>by simp[pop,n,ls]
 |node l k v (node a b c d),_=>by
  have ih:=pop_n (node a b c d) (by simp)
  unfold pop
  simp only
  refine⟨?_,?_⟩
  ·rw[(join_n _ _ _ _).1];rw[n];omega
  rw[(join_n _ _ _ _).2,ls.eq_2 l,←ih.2];simp
theorem DZ:∀t:Tr,t.ok→(pop t).1.ok
 |nil,_=>trivial
 |node l k v nil,h=>h.2.1
 |node l k v (node a b c d),h=>by
  unfold pop
  exact JR h.2.1 (DZ _ h.2.2)
theorem Zo2:∀t:Tr,t.ok→pc t≤4*t.ht-1
 |nil,_=>by simp[pc]
 |node l k v nil,_=>by simp[pc]
 |node l k v (node a b c d),h=>by
  obtain⟨⟨b1,b2⟩,hl,hr⟩:=h
  have ih:=Zo2 (node a b c d) hr
  have hn:=(pop_n (node a b c d) (by simp)).1
  have hk:=DZ _ hr
  unfold pc
  have hh:ht (node l k v (node a b c d))=max l.ht (node a b c d).ht+1:=rfl
  have h0:1≤(node a b c d).ht:=by simp[ht]
  by_cases e:(pop (node a b c d)).1.n=0
  ·have e2:=n0 e
   have e3:pc (node a b c d)=0:=by
    cases d with
    |nil=>rfl
    |node=>simp only[n] at hn;omega
   rw[e2,e3]
   have:=Zb6 hl (by omega)
   omega
  have:=XX hl hk (by omega) (by omega)
  omega
def cat(l r:Tr):Tr:=match l,r with
 |nil,r=>r
 |l,nil=>l
 |l,r=>join (pop l).1 (pop l).2.1 (pop l).2.2 r
def cc(l r:Tr):Nat:=match l,r with
 |nil,_=>0
 |_,nil=>0
 |l,r=>pc l+jc (pop l).1 r
theorem Zgl(l r:Tr):(cat l r).n=l.n+r.n∧(cat l r).ls=l.ls++r.ls:=by
 cases l with
 |nil=>simp[cat,n,ls]
 |node a b c d =>
  cases r with
  |nil=>simp[cat,n,ls]
  |node a' b' c' d' =>
   have h:=pop_n (node a b c d) (by simp)
   unfold cat
   refine⟨?_,?_⟩
   ·rw[(join_n _ _ _ _).1];omega
   rw[(join_n _ _ _ _).2,←h.2];simp
theorem Zqf{l r:Tr}(hl:l.ok)(hr:r.ok):(cat l r).ok:=by
 cases l with
 |nil=>exact hr
 |node a b c d =>
  cases r with
  |nil=>exact hl
  |node a' b' c' d'=>exact JR (DZ _ hl) hr
def del(k:Int):Tr→Tr
 |nil=>nil
 |node l x y r=>if k<x then join (del k l) x y r else if x<k then join l x y (del k r) else cat l r
def dc(k:Int):Tr→Nat
 |nil=>0
 |node l x _ r=>if k<x then dc k l+jc (del k l) r else if x<k then dc k r+jc l (del k r) else cc l r
theorem del_n(k:Int):∀t:Tr,(del k t).n+(if t.has k then 1 else 0)=t.n
 |nil=>by simp[del,has,n]
 |node l x y r=>by
  unfold del has
  split
  ·have:=del_n k l;rw[(join_n _ _ _ _).1];simp only[n];omega
  split
  ·have:=del_n k r;rw[(join_n _ _ _ _).1];simp only[n];omega
  rw[(Zgl _ _).1];simp[n]
theorem del_ok(k:Int):∀t:Tr,t.ok→(del k t).ok
 |nil,_=>trivial
 |node l x y r,h=>by
  unfold del
  split
  ·exact JR (del_ok k l h.2.1) h.2.2
  split
  ·exact JR h.2.1 (del_ok k r h.2.2)
  exact Zqf h.2.1 h.2.2
theorem cc_le{l r:Tr}(hl:l.ok)(hr:r.ok)(hb:Jn l.n r.n):cc l r≤4*l.ht+4:=by
 obtain⟨b1,b2⟩:=hb
 cases l with
 |nil=>simp[cc]
 |node a b c d =>
  cases r with
  |nil=>simp[cc]
  |node a' b' c' d' =>
   have hn:=(pop_n (node a b c d) (by simp)).1
   have hp:=Zo2 _ hl
   have hk:=DZ _ hl
   have h0:1≤(node a b c d).ht:=by simp[ht]
   unfold cc
   simp only
   by_cases e:(pop (node a b c d)).1.n=0
   ·have e2:=n0 e
    have e3:pc (node a b c d)=0:=by
     cases d with
     |nil=>rfl
     |node=>simp only[n] at hn;omega
    rw[e2,e3]
    have:=Zdy hr (by omega)
    omega
   have:=XX hk hr (by omega) (by omega)
   omega
theorem VS(k:Int){t:Tr}(h:(del k t).n=0):dc k t=0:=by
 cases t with
 |nil=>rfl
 |node l x y r =>
  unfold del at h
  unfold dc
  split at h
  ·rw[(join_n _ _ _ _).1] at h;omega
  split at h
  ·rw[(join_n _ _ _ _).1] at h;omega
  rename_i h1 h2
  rw[if_neg h1,if_neg h2]
  rw[(Zgl _ _).1] at h
  have:=n0 (t:=l) (by omega)
  subst this
  rfl
theorem Zi2(k:Int):∀t:Tr,t.ok→dc k t≤4*t.ht+3
 |nil,_=>by simp[dc]
 |node l x y r,h=>by
  obtain⟨⟨b1,b2⟩,hl,hr⟩:=h
  unfold dc
  have el:=del_n k l
  have er:=del_n k r
  have hdl:=Zi2 k l hl
  have hdr:=Zi2 k r hr
  simp only[ht]
  split
  ·by_cases e:(del k l).n=0
   ·have e1:=VS k e
    rw[e1,n0 e]
    have:=Zdy hr (by split at el<;>omega)
    omega
   have h2:=XX (del_ok k l hl) hr (by split at el<;>omega) (by split at el<;>omega)
   omega
  split
  ·by_cases e:(del k r).n=0
   ·have e1:=VS k e
    rw[e1,n0 e]
    have:=Zb6 hl (by split at er<;>omega)
    omega
   have h2:=XX hl (del_ok k r hr) (by split at er<;>omega) (by split at er<;>omega)
   omega
  have:=cc_le hl hr ⟨b1,b2⟩
  omega
def wt:Nat→Nat
 |0=>1
 |h+1=>wt h+(wt h+2)/3
theorem Zh6:∀t:Tr,t.ok→wt t.ht≤t.n+1
 |nil,_=>by simp[wt,ht,n]
 |node l k v r,h=>by
  obtain⟨⟨b1,b2⟩,hl,hr⟩:=h
  have h1:=Zh6 l hl
  have h2:=Zh6 r hr
  simp only[ht,n]
  rcases Nat.le_total l.ht r.ht with e|e
  ·rw[Nat.max_eq_right e,wt];omega
  rw[Nat.max_eq_left e,wt];omega
theorem Zd9{a b:Nat}(h:a≤b):wt a≤wt b:=by
 induction h with
 |refl=>exact Nat.le_refl _
 |step h ih=>rw[wt];omega
end Tr
end Go.V
namespace Go.V
open Go
abbrev Zl:=List (Int×Int)
def Srt(l:Zl):Prop:=l.Pairwise fun a b=>a.1<b.1
def Zs(k v:Int)(l:Zl):Zl:=l.filter (fun x=>decide (x.1<k))++(k,v)::l.filter (fun x=>decide (k<x.1))
def Va(k:Int)(l:Zl):Zl:=l.filter fun x=>decide (x.1≠k)
def Zo(k:Int)(l:Zl):Option Int:=(l.find? fun x=>decide (x.1=k)).map (·.2)
theorem Srt.app{a b:Zl}(h:Srt (a++b)):Srt a∧Srt b∧∀x∈a,∀y∈b,x.1<y.1:=by
 obtain⟨h1,h2,h3⟩:=List.pairwise_append.1 h
 exact⟨h1,h2,h3⟩
theorem Z6{p:Int×Int→Bool}{l:Zl}(h:∀x∈l,p x=true):l.filter p=l:=List.filter_eq_self.2 h
theorem YV{p:Int×Int→Bool}{l:Zl}(h:∀x∈l,p x=false):l.filter p=[]:=List.filter_eq_nil_iff.2 fun x hx=>by rw[h x hx];decide
theorem ZD{k v:Int}{l:Zl}(h:Srt l):Srt (Zs k v l):=by
 unfold Zs
 refine List.pairwise_append.2 ⟨h.sublist List.filter_sublist,List.pairwise_cons.2 ⟨fun y hy=>?_,h.sublist List.filter_sublist⟩,fun x hx y hy=>?_⟩
 ·exact of_decide_eq_true (List.mem_filter.1 hy).2
 have h1:=of_decide_eq_true (List.mem_filter.1 hx).2
 rcases List.mem_cons.1 hy with rfl|hy
 ·exact h1
 have h2:=of_decide_eq_true (List.mem_filter.1 hy).2
 omega
theorem Vy{k:Int}{l:Zl}(h:Srt l):Srt (Va k l):=h.sublist List.filter_sublist
theorem J1{k:Int}{l:Zl}(h:∀x∈l,x.1≠k):Zo k l=none:=by
 unfold Zo
 rw[List.find?_eq_none.2 fun x hx e=>h x hx (of_decide_eq_true e)];rfl
theorem ZN{k:Int}{l:Zl}(hs:Srt l){v:Int}:Zo k l=some v↔(k,v)∈l:=by
 unfold Zo
 constructor
 ·intro h
  cases hf:l.find? fun x=>decide (x.1=k) with
  |none=>rw[hf] at h;cases h
  |some y =>
   rw[hf] at h
   have h1:y.1=k:=of_decide_eq_true (List.find?_some (p:=fun x:Int×Int=>decide (x.1=k)) hf)
   simp only[Option.map_some,Option.some.injEq] at h
   have h2:=List.mem_of_find?_eq_some hf
   rw[←h1,←h];exact h2
 intro h
 induction l with
 |nil=>cases h
 |cons x t ih =>
  obtain⟨h1,h2⟩:=List.pairwise_cons.1 hs
  rw[List.find?_cons]
  rcases List.mem_cons.1 h with rfl|h
  ·simp
  have:=h1 _ h
  have hne:¬x.1=k:=by
   intro e
   have:x.1<k:=h1 _ h
   omega
  rw[decide_eq_false hne]
  exact ih h2 h
theorem JF{k v:Int}{l:Zl}(h:Srt l):(Zs k v l).length=l.length+(if(Zo k l).isSome then 0 else 1):=by
 unfold Zs
 induction l with
 |nil=>simp[Zo]
 |cons x t ih =>
  obtain⟨h1,h2⟩:=List.pairwise_cons.1 h
  have ih:=ih h2
  simp only[List.length_append,List.length_cons] at ih ⊢
  by_cases hlt:x.1<k
  ·have e1:Zo k (x::t)=Zo k t:=by unfold Zo;rw[List.find?_cons,decide_eq_false (show ¬x.1=k by omega)]
   rw[List.filter_cons_of_pos (by simpa using hlt),List.filter_cons_of_neg (by simp;omega),e1]
   simp only[List.length_cons]
   omega
  have e2:t.filter (fun x=>decide (x.1<k))=[]:=YV fun y hy=>decide_eq_false (by have:=h1 y hy;omega)
  rw[List.filter_cons_of_neg (by simpa using hlt),e2]
  by_cases he:x.1=k
  ·have e1:Zo k (x::t)=some x.2:=by unfold Zo;rw[List.find?_cons,decide_eq_true he];rfl
   have e3:t.filter (fun x=>decide (k<x.1))=t:=Z6 fun y hy=>decide_eq_true (by have:=h1 y hy;omega)
   rw[List.filter_cons_of_neg (by simp;omega),e1,e3];simp
  have e1:Zo k (x::t)=none:=J1 fun y hy=>by
   rcases List.mem_cons.1 hy with rfl|hy
   ·exact he
   have:=h1 y hy;omega
  have e3:t.filter (fun x=>decide (k<x.1))=t:=Z6 fun y hy=>decide_eq_true (by have:=h1 y hy;omega)
  rw[List.filter_cons_of_pos (by simp;omega),e1,e3];simp
namespace Tr
def get(k:Int):Tr→Option Int
 |nil=>none
 |node l x y r=>if k<x then get k l else if x<k then get k r else some y
theorem QK{l r:Tr}{k v:Int}(h:Srt (node l k v r).ls):Srt l.ls∧Srt r.ls∧(∀x∈l.ls,x.1<k)∧∀x∈r.ls,k<x.1:=by
 obtain⟨h1,h2,h3⟩:=Srt.app h
 obtain⟨h4,h5⟩:=List.pairwise_cons.1 h2
 exact⟨h1,h5,fun x hx=>h3 x hx _ (List.mem_cons_self ..),h4⟩
theorem get_ls(k:Int):∀t:Tr,Srt t.ls→get k t=Zo k t.ls
 |nil,_=>rfl
 |node l x y r,h=>by
  obtain⟨h1,h2,h3,h4⟩:=QK h
  unfold get ls Zo
  rw[List.find?_append,List.find?_cons]
  split
  ·rename_i hlt
   rw[get_ls k l h1,decide_eq_false (show ¬x=k by omega)]
   have:r.ls.find? (fun x=>decide (x.1=k))=none:=List.find?_eq_none.2 fun z hz e=>by
    have:=h4 z hz;have:=of_decide_eq_true e;omega
   simp only[this,Option.or_none];rfl
  rename_i hlt
  have e1:l.ls.find? (fun x=>decide (x.1=k))=none:=List.find?_eq_none.2 fun z hz e=>by
   have:=h3 z hz;have:=of_decide_eq_true e;omega
  rw[e1,Option.none_or]
  split
  ·rename_i hgt
   rw[get_ls k r h2,decide_eq_false (show ¬x=k by omega)];rfl
  rw[decide_eq_true (show x=k by omega)];rfl
theorem ins_ls(k v:Int):∀t:Tr,Srt t.ls→(ins k v t).ls=Zs k v t.ls
 |nil,_=>rfl
 |node l x y r,h=>by
  obtain⟨h1,h2,h3,h4⟩:=QK h
  unfold ins Zs
  rw[show(node l x y r).ls=l.ls++(x,y)::r.ls from rfl,List.filter_append,List.filter_append]
  split
  ·rename_i hlt
   rw[(join_n _ _ _ _).2,ins_ls k v l h1,List.filter_cons_of_neg (by simp;omega),List.filter_cons_of_pos (by simp;omega)]
   rw[YV (p:=fun x=>decide (x.1<k)) (l:=r.ls) fun z hz=>decide_eq_false (by have:=h4 z hz;omega),Z6 (p:=fun x=>decide (k<x.1)) (l:=r.ls) fun z hz=>decide_eq_true (by have:=h4 z hz;omega)]
   unfold Zs;simp
  split
  ·rename_i hgt
   rw[(join_n _ _ _ _).2,ins_ls k v r h2,List.filter_cons_of_pos (by simp;omega),List.filter_cons_of_neg (by simp;omega)]
   rw[Z6 (p:=fun x=>decide (x.1<k)) (l:=l.ls) fun z hz=>decide_eq_true (by have:=h3 z hz;omega),YV (p:=fun x=>decide (k<x.1)) (l:=l.ls) fun z hz=>decide_eq_false (by have:=h3 z hz;omega)]
   unfold Zs;simp
  have e:x=k:=by omega
  subst e
  rw[List.filter_cons_of_neg (by simp),List.filter_cons_of_neg (by simp)]
  rw[Z6 (p:=fun z=>decide (z.1<x)) (l:=l.ls) fun z hz=>decide_eq_true (h3 z hz),YV (p:=fun z=>decide (x<z.1)) (l:=l.ls) fun z hz=>decide_eq_false (by have:=h3 z hz;omega)]
  rw[YV (p:=fun z=>decide (z.1<x)) (l:=r.ls) fun z hz=>decide_eq_false (by have:=h4 z hz;omega),Z6 (p:=fun z=>decide (x<z.1)) (l:=r.ls) fun z hz=>decide_eq_true (h4 z hz)]
  simp[ls]
theorem del_ls(k:Int):∀t:Tr,Srt t.ls→(del k t).ls=Va k t.ls
 |nil,_=>rfl
 |node l x y r,h=>by
  obtain⟨h1,h2,h3,h4⟩:=QK h
  unfold del
  rw[show(node l x y r).ls=l.ls++(x,y)::r.ls from rfl]
  unfold Va
  rw[List.filter_append]
  split
  ·rename_i hlt
   rw[(join_n _ _ _ _).2,del_ls k l h1,List.filter_cons_of_pos (by simp;omega),Z6 (l:=r.ls) fun z hz=>decide_eq_true (by have:=h4 z hz;omega)]
   rfl
  split
  ·rename_i hgt
   rw[(join_n _ _ _ _).2,del_ls k r h2,List.filter_cons_of_pos (by simp;omega),Z6 (l:=l.ls) fun z hz=>decide_eq_true (by have:=h3 z hz;omega)]
   rfl
  have e:x=k:=by omega
  subst e
  rw[(Zgl _ _).2,List.filter_cons_of_neg (by simp),Z6 (l:=l.ls) fun z hz=>decide_eq_true (by have:=h3 z hz;omega),Z6 (l:=r.ls) fun z hz=>decide_eq_true (by have:=h4 z hz;omega)]
theorem H_{l r:Tr}{k v:Int}(h:Jn l.n r.n):join l k v r=node l k v r:=by
 cases l with
 |nil =>
  cases r with
  |nil=>rw[join]
  |node m a b s=>rw[join,if_pos (by simpa[n] using h)]
 |node s a b m =>
  cases r with
  |nil=>rw[join,if_pos (by simpa[n] using h)]
  |node m' a' b' s'=>rw[join,if_pos (by simpa[n] using h)]
theorem ins_same(k v:Int):∀t:Tr,t.ok→get k t=some v→ins k v t=t
 |nil,_,h=>by cases h
 |node l x y r,h,hg=>by
  obtain⟨hb,hl,hr⟩:=h
  unfold get at hg
  unfold ins
  split at hg
  ·rename_i hlt
   rw[if_pos hlt,ins_same k v l hl hg,H_ hb]
  rename_i hlt
  split at hg
  ·rename_i hgt
   rw[if_neg hlt,if_pos hgt,ins_same k v r hr hg,H_ hb]
  rename_i hgt
  rw[if_neg hlt,if_neg hgt]
  simp only[Option.some.injEq] at hg
  rw[hg,show x=k by omega]
def mxA(keys:Nat):Nat→Nat→Nat
 |0,h=>h
 |f+1,h=>if keys+1<wt (h+1) then h else mxA keys f (h+1)
def mxH(keys:Nat):Nat:=mxA keys 80 0
theorem CE(keys:Nat):∀f h,h≤mxA keys f h∧mxA keys f h≤h+f
 |0,h=>by simp[mxA]
 |f+1,h=>by
  unfold mxA
  split
  ·omega
  have:=CE keys f (h+1);omega
theorem Zjn(keys:Nat):∀f h j,j≤h+f→wt j≤keys+1→h≤j→j≤mxA keys f h
 |0,h,j,h1,_,_=>by unfold mxA;omega
 |f+1,h,j,h1,h2,h3=>by
  unfold mxA
  split
  ·rename_i hlt
   rcases Nat.lt_or_ge h j with h4|h4
   ·have:=Zd9 (a:=h+1) (b:=j) h4;omega
   omega
  rcases Nat.lt_or_ge h j with h4|h4
  ·exact Zjn keys f (h+1) j (by omega) h2 h4
  have:=(CE keys f (h+1)).1;omega
theorem Zi9:∀h:Nat,4^h≤wt h*3^h
 |0=>by simp[wt]
 |h+1=>by
  have ih:=Zi9 h
  have h1:4*wt h≤3*wt (h+1):=by rw[wt];omega
  calc 4^(h+1)=4*4^h:=by rw[Nat.pow_succ,Nat.mul_comm]
   _≤4*(wt h*3^h):=Nat.mul_le_mul_left _ ih
   _=(4*wt h)*3^h:=by rw[Nat.mul_assoc]
   _≤(3*wt (h+1))*3^h:=Nat.mul_le_mul_right _ h1
   _=wt (h+1)*3^(h+1):=by rw[Nat.pow_succ,Nat.mul_comm 3 (wt (h+1)),Nat.mul_assoc,Nat.mul_comm 3]
theorem wt_81:2147483648<wt 81:=by
 have h:=Zi9 81
 rcases Nat.lt_or_ge 2147483648 (wt 81) with h1|h1
 ·exact h1
 have h2:wt 81*3^81≤2147483648*3^81:=Nat.mul_le_mul_right _ h1
 have h3:2147483648*3^81<4^81:=by decide
 omega
theorem Zoi(t:Tr)(h:t.ok)(hn:t.n≤2147483647):t.ht≤mxH t.n:=by
 have h1:=Zh6 t h
 refine Zjn t.n 80 0 t.ht ?_ h1 (Nat.zero_le _)
 rcases Nat.lt_or_ge 80 t.ht with h2|h2
 ·have:=Zd9 (a:=81) (b:=t.ht) h2
  have:=wt_81
  omega
 omega
theorem Vq{a b:Nat}(hab:a≤b):∀f h,mxA a f h≤mxA b f h
 |0,h=>by simp[mxA]
 |f+1,h=>by
  unfold mxA
  split
  ·split
   ·exact Nat.le_refl _
   have:=(CE b f (h+1)).1;omega
  rw[if_neg (by omega)];exact Vq hab f (h+1)
theorem mxH_mono{a b:Nat}(h:a≤b):mxH a≤mxH b:=Vq h 80 0
theorem mxH_le(a:Nat):mxH a≤80:=by have:=(CE a 80 0).2;unfold mxH;omega
theorem ic_res(k v:Int)(t:Tr)(h:t.ok)(hn:t.n≤2147483646):ic k v t≤4*(mxH (t.n+1)+2):=by
 have h1:=Zhs k v t h
 have h2:=Zoi t h (by omega)
 have h3:=mxH_mono (a:=t.n) (b:=t.n+1) (by omega)
 omega
theorem dc_res(k:Int)(t:Tr)(h:t.ok)(hn:t.n≤2147483647):dc k t≤4*(mxH t.n+2):=by
 have h1:=Zi2 k t h
 have h2:=Zoi t h hn
 omega
end Tr
end Go.V
namespace Go.V
open Go Go.RowKit
def AM.nd(A:AM)(i:Int):Nd:=(A.nodes[i.toNat]?).getD Nd.zero
def AM.live(A:AM):List Int:=((List.range A.s.used.length).map fun i:Nat=>(i:Int)).filter fun i=>A.s.ok i
def AM.kids(A:AM):List Int:=A.live.flatMap fun i=>[(A.nd i).lf,(A.nd i).rg]
def AM.sz(A:AM)(i:Int):Int:=if A.s.ok i=true then(A.nd i).size else 0
structure ARf(A:AM)(R:List Int):Prop extends AWf A where
 kid:∀i,A.s.ok i=true→0≤i→∀c,c=(A.nd i).lf∨c=(A.nd i).rg→c=0∨(1≤c∧A.s.ok c=true)
 sz:∀i,A.s.ok i=true→0≤i→(A.nd i).size=1+A.sz (A.nd i).lf+A.sz (A.nd i).rg∧(A.nd i).size≤2147483647
 pos:∀i,A.s.ok i=true→0≤i→1≤(A.nd i).size
 ref:∀r∈R,r=0∨(1≤r∧A.s.ok r=true)
 cnt:∀i,A.s.ok i=true→0≤i→A.cntOf i=((R++A.kids).count i:Nat)∧1≤A.cntOf i
 zero:∀i,A.s.ok i=false→1≤i→A.nd i=Nd.zero
 len:R.length≤1000000000
theorem AM.mem_live{A:AM}(i:Int):i∈A.live↔0≤i∧A.s.ok i=true:=by
 unfold AM.live
 rw[List.mem_filter,List.mem_map]
 constructor
 ·rintro⟨⟨n,_,rfl⟩,h⟩;exact⟨by omega,h⟩
 rintro⟨h0,h⟩
 exact⟨⟨i.toNat,List.mem_range.2 (Znu h),by omega⟩,h⟩
theorem AM.live_nodup(A:AM):A.live.Nodup:=by
 unfold AM.live
 refine List.Pairwise.filter _ (List.pairwise_map.2 ?_)
 exact(List.nodup_range).imp fun h e=>h (by omega)
theorem Dc{A B:AM}{k:Int}(hk:A.s.ok k=true)(h0:0≤k)(h:∀j,0≤j→B.s.ok j=if j=k then false else A.s.ok j):A.live.Perm (k::B.live):=by
 refine(List.perm_ext_iff_of_nodup A.live_nodup (List.nodup_cons.2 ⟨fun hm=>?_,B.live_nodup⟩)).2 fun j=>?_
 ·have:=((B.mem_live k).1 hm).2
  rw[h k h0,if_pos rfl] at this;cases this
 rw[A.mem_live,List.mem_cons,B.mem_live]
 constructor
 ·rintro⟨j0,j1⟩
  by_cases e:j=k
  ·exact .inl e
  exact .inr ⟨j0,by rw[h j j0,if_neg e];exact j1⟩
 rintro(rfl|⟨j0,j1⟩)
 ·exact⟨h0,hk⟩
 rw[h j j0] at j1
 split at j1
 ·cases j1
 exact⟨j0,j1⟩
theorem VG{α β:Type}{f g:α→List β}:∀{l:List α},(∀x∈l,f x=g x)→l.flatMap f=l.flatMap g
 |[],_=>rfl
 |x::l,h=>by rw[List.flatMap_cons,List.flatMap_cons,h x (List.mem_cons_self ..),VG fun y hy=>h y (List.mem_cons_of_mem _ hy)]
theorem DA{A B:AM}{k:Int}(hk:A.s.ok k=true)(h0:0≤k)(h:∀j,0≤j→B.s.ok j=if j=k then false else A.s.ok j)(hn:∀j,0≤j→j≠k→B.nd j=A.nd j):A.kids.Perm ([(A.nd k).lf,(A.nd k).rg]++B.kids):=by
 have h1:=(Dc hk h0 h).flatMap_right (fun i=>[(A.nd i).lf,(A.nd i).rg])
 rw[List.flatMap_cons] at h1
 refine h1.trans (List.Perm.append_left _ (List.Perm.of_eq ?_))
 unfold AM.kids
 have hm:∀j∈B.live,[(A.nd j).lf,(A.nd j).rg]=[(B.nd j).lf,(B.nd j).rg]:=fun j hj=>by
  have hj2:=(B.mem_live j).1 hj
  have hne:j≠k:=fun e=>by subst e;have:=hj2.2;rw[h j h0,if_pos rfl] at this;cases this
  rw[hn j hj2.1 hne]
 exact VG hm
theorem AM.live_len(A:AM):A.live.length≤A.s.used.length:=by
 unfold AM.live
 exact Nat.le_trans (List.length_filter_le _ _) (by simp)
theorem AM.kids_len(A:AM):A.kids.length=2*A.live.length:=by
 unfold AM.kids
 induction A.live with
 |nil=>rfl
 |cons x l ih=>rw[List.flatMap_cons,List.length_append,ih];simp;omega
theorem AM.mem_kids{A:AM}(c:Int):c∈A.kids↔∃i,0≤i∧A.s.ok i=true∧(c=(A.nd i).lf∨c=(A.nd i).rg):=by
 unfold AM.kids
 rw[List.mem_flatMap]
 constructor
 ·rintro⟨i,hi,hc⟩
  have:=(A.mem_live i).1 hi
  exact⟨i,this.1,this.2,by simpa using hc⟩
 rintro⟨i,h0,h1,hc⟩
 exact⟨i,(A.mem_live i).2 ⟨h0,h1⟩,by simpa using hc⟩
theorem ARf.perm{A:AM}{R R':List Int}(h:ARf A R)(hp:R.Perm R'):ARf A R' :=
 ⟨h.toAWf,h.kid,h.sz,h.pos,fun r hr=>h.ref r (hp.mem_iff.2 hr),fun i hi h0=>by
  rw[←(List.Perm.append_right A.kids hp).count_eq i];exact h.cnt i hi h0,h.zero,by rw[←hp.length_eq];exact h.len⟩
theorem ARf.cons0{A:AM}{R:List Int}(h:ARf A R)(hl:R.length+1≤1000000000):ARf A (0::R) :=
 ⟨h.toAWf,h.kid,h.sz,h.pos,fun r hr=>by
  rcases List.mem_cons.1 hr with rfl|hr
  ·exact .inl rfl
  ·exact h.ref r hr,fun i hi h0=>by
  have h1:=(SM.ok_rng h.s h0 hi).1
  rw[List.cons_append,List.count_cons_of_ne (by omega)];exact h.cnt i hi h0,h.zero,by simpa using hl⟩
theorem ARf.tail0{A:AM}{R:List Int}(h:ARf A (0::R)):ARf A R :=
 ⟨h.toAWf,h.kid,h.sz,h.pos,fun r hr=>h.ref r (List.mem_cons_of_mem _ hr),fun i hi h0=>by
  have h1:=(SM.ok_rng h.s h0 hi).1
  have h2:=h.cnt i hi h0
  rwa[List.cons_append,List.count_cons_of_ne (by omega)] at h2,h.zero,by have:=h.len;simp at this;omega⟩
theorem ARf.cnt_le{A:AM}{R:List Int}(h:ARf A R){i:Int}(hi:A.s.ok i=true)(h0:0≤i):1≤A.cntOf i∧A.cntOf i≤2000000000:=by
 have h1:=h.cnt i hi h0
 have h2:=List.count_le_length (a:=i) (l:=R++A.kids)
 rw[List.length_append,A.kids_len] at h2
 have h3:=A.live_len
 have h4:=h.s.cap
 have h5:=h.len
 omega
theorem AM.cnt_set{A:AM}{s:SM}{n:List Nd}{k i x:Int}(hk:k.toNat<A.cnt.length)(h0:0≤k)(hi:0≤i):(AM.mk s n (A.cnt.set k.toNat x)).cntOf i=if i=k then x else A.cntOf i:=by
 unfold AM.cntOf
 simp only
 rw[List.getElem?_set]
 by_cases h:i=k
 ·subst h;rw[if_pos rfl,if_pos hk,if_pos rfl];rfl
 rw[if_neg (by omega),if_neg h]
theorem AM.nd_set{A:AM}{s:SM}{c:List Int}{k i:Int}{x:Nd}(hk:k.toNat<A.nodes.length)(h0:0≤k)(hi:0≤i):(AM.mk s (A.nodes.set k.toNat x) c).nd i=if i=k then x else A.nd i:=by
 unfold AM.nd
 simp only
 rw[List.getElem?_set]
 by_cases h:i=k
 ·subst h;rw[if_pos rfl,if_pos hk,if_pos rfl];rfl
 rw[if_neg (by omega),if_neg h]
theorem ARf.inc{A:AM}{R:List Int}{k:Int}(h:ARf A R)(hk:A.s.ok k=true)(h0:0≤k)(hl:R.length+1≤1000000000):ARf (A.inc k) (k::R):=by
 have hr:=SM.ok_rng h.s h0 hk
 have hkl:k.toNat<A.cnt.length:=by rw[h.cl];exact hr.2.2.2
 have hb:=h.cnt_le hk h0
 have hkids:(A.inc k).kids=A.kids:=rfl
 refine⟨h.toAWf.inc k,h.kid,h.sz,h.pos,fun r hr2=>?_,fun i hi hi0=>?_,h.zero,by simpa using hl⟩
 ·rcases List.mem_cons.1 hr2 with rfl|hr2
  ·exact .inr ⟨hr.1,hk⟩
  exact h.ref r hr2
 have hc:=h.cnt i hi hi0
 rw[hkids,AM.inc,AM.cnt_set hkl h0 hi0]
 by_cases e:i=k
 ·subst e
  rw[if_pos rfl,List.cons_append,List.count_cons_self,Yf (by omega)]
  omega
 rw[if_neg e,List.cons_append,List.count_cons_of_ne (fun h=>e h.symm)];exact hc
theorem ARf.dec{A:AM}{R:List Int}{k:Int}(h:ARf A (k::R))(hk:A.s.ok k=true)(h0:0≤k)(h1:A.cntOf k≠1):ARf (A.dec k) R:=by
 have hr:=SM.ok_rng h.s h0 hk
 have hkl:k.toNat<A.cnt.length:=by rw[h.cl];exact hr.2.2.2
 have hb:=h.cnt_le hk h0
 have hkids:(A.dec k).kids=A.kids:=rfl
 refine⟨⟨h.s,h.nl,by simpa[AM.dec] using h.cl⟩,h.kid,h.sz,h.pos,fun r hr2=>h.ref r (List.mem_cons_of_mem _ hr2),fun i hi hi0=>?_,h.zero,by have:=h.len;simp at this;omega⟩
 have hc:=h.cnt i hi hi0
 rw[hkids,AM.dec,AM.cnt_set hkl h0 hi0]
 by_cases e:i=k
 ·subst e
  rw[List.cons_append,List.count_cons_self] at hc
  rw[if_pos rfl,Yf (by omega)]
  omega
 rw[List.cons_append,List.count_cons_of_ne (fun h=>e h.symm)] at hc
 rw[if_neg e];exact hc
def AM.freed(A:AM)(k:Int):AM:=⟨A.s.release k,A.nodes.set k.toNat Nd.zero,A.cnt.set k.toNat (IntKind.i64.wrap (A.cntOf k-1))⟩
theorem AM.freed_ok{A:AM}{k:Int}(h:SOk A.s)(hk:A.s.ok k=true)(h0:0≤k):∀j,0≤j→(A.freed k).s.ok j=if j=k then false else A.s.ok j:=fun _ hj=>SM.release_ok' h h0 hk hj
theorem ARf.free{A:AM}{R:List Int}{k:Int}(h:ARf A (k::R))(hk:A.s.ok k=true)(h0:0≤k)(h1:A.cntOf k=1)(hl:R.length+2≤1000000000):ARf (A.freed k) ((A.nd k).lf::(A.nd k).rg::R):=by
 have hr:=SM.ok_rng h.s h0 hk
 have hkl:k.toNat<A.cnt.length:=by rw[h.cl];exact hr.2.2.2
 have hkn:k.toNat<A.nodes.length:=by rw[h.nl];exact hr.2.2.2
 have hok:=AM.freed_ok h.s hk h0
 have hnd:∀j,0≤j→j≠k→(A.freed k).nd j=A.nd j:=fun j hj e=>by
  unfold AM.freed;rw[AM.nd_set hkn h0 hj,if_neg e]
 have hkp:=DA hk h0 hok hnd
 have hck:=(h.cnt k hk h0).1
 rw[h1,List.cons_append,List.count_cons_self] at hck
 have hc0:(R++A.kids).count k=0:=by omega
 rw[List.count_append] at hc0
 have hnR:k∉R:=List.count_eq_zero.1 (by omega)
 have hnK:k∉A.kids:=List.count_eq_zero.1 (by omega)
 have hkid:∀i,A.s.ok i=true→0≤i→∀c,c=(A.nd i).lf∨c=(A.nd i).rg→c=0∨(1≤c∧(A.freed k).s.ok c=true):=fun i hi hi0 c hc=>by
  rcases h.kid i hi hi0 c hc with e|⟨c1,c2⟩
  ·exact .inl e
  refine .inr ⟨c1,?_⟩
  have hne:c≠k:=fun e=>hnK ((A.mem_kids k).2 ⟨i,hi0,hi,by rw[←e];exact hc⟩)
  rw[hok c (by omega),if_neg hne];exact c2
 have hback:∀i,0≤i→(A.freed k).s.ok i=true→i≠k∧A.s.ok i=true:=fun i hi0 hi=>by
  rw[hok i hi0] at hi
  split at hi
  ·cases hi
  rename_i e;exact⟨e,hi⟩
 have hsz:∀i,A.s.ok i=true→0≤i→∀c,c=(A.nd i).lf∨c=(A.nd i).rg→(A.freed k).sz c=A.sz c:=fun i hi hi0 c hc=>by
  rcases h.kid i hi hi0 c hc with e|⟨c1,c2⟩
  ·subst e
   unfold AM.sz
   have hu0:A.s.ok 0=false:=h.s.u0
   rw[hok 0 (Int.le_refl _),if_neg (show ¬(0:Int)=k by omega),hu0];rfl
  have hne:c≠k:=fun e=>hnK ((A.mem_kids k).2 ⟨i,hi0,hi,by rw[←e];exact hc⟩)
  unfold AM.sz
  rw[hok c (by omega),if_neg hne,hnd c (by omega) hne]
 refine⟨⟨SM.release_sok h.s h0 hk,?_,?_⟩,fun i hi hi0 c hc=>?_,fun i hi hi0=>?_,fun i hi hi0=>?_,fun r hr2=>?_,fun i hi hi0=>?_,fun i hi hi1=>?_,?_⟩
 ·show(A.nodes.set _ _).length=(A.s.used.set _ _).length
  rw[List.length_set,List.length_set];exact h.nl
 ·show(A.cnt.set _ _).length=(A.s.used.set _ _).length
  rw[List.length_set,List.length_set];exact h.cl
 ·obtain⟨e,hi2⟩:=hback i hi0 hi
  rw[hnd i hi0 e] at hc
  exact hkid i hi2 hi0 c hc
 ·obtain⟨e,hi2⟩:=hback i hi0 hi
  rw[hnd i hi0 e,hsz i hi2 hi0 _ (.inl rfl),hsz i hi2 hi0 _ (.inr rfl)]
  exact h.sz i hi2 hi0
 ·obtain⟨e,hi2⟩:=hback i hi0 hi
  rw[hnd i hi0 e];exact h.pos i hi2 hi0
 ·simp only[List.mem_cons] at hr2
  rcases hr2 with e|e|hr2
  ·exact hkid k hk h0 r (.inl e)
  ·exact hkid k hk h0 r (.inr e)
  rcases h.ref r (List.mem_cons_of_mem _ hr2) with e|⟨r1,r2⟩
  ·exact .inl e
  have hne:r≠k:=fun e=>hnR (e▸hr2)
  exact .inr ⟨r1,by rw[hok r (by omega),if_neg hne];exact r2⟩
 ·obtain⟨e,hi2⟩:=hback i hi0 hi
  have hc:=h.cnt i hi2 hi0
  have he:(A.freed k).cntOf i=A.cntOf i:=by unfold AM.freed;rw[AM.cnt_set hkl h0 hi0,if_neg e]
  rw[he]
  rw[List.cons_append,List.count_cons_of_ne (fun h=>e h.symm)] at hc
  have hp:(R++A.kids).Perm ((A.nd k).lf::(A.nd k).rg::R++(A.freed k).kids):=by
   refine(List.Perm.append_left R hkp).trans ?_
   simp only[List.cons_append,List.nil_append]
   exact(List.perm_middle).trans ((List.Perm.cons _ List.perm_middle))
  rw[←hp.count_eq i];exact hc
 ·by_cases e:i=k
  ·subst e
   unfold AM.freed
   rw[AM.nd_set hkn h0 h0,if_pos rfl]
  have hi2:A.s.ok i=false:=by rw[hok i (by omega),if_neg e] at hi;exact hi
  rw[hnd i (by omega) e];exact h.zero i hi2 hi1
 simpa using hl
end Go.V
namespace Go.V
open Go Go.RowKit
def AM.put(A:AM)(n:Nd):AM:=⟨A.s.alloc,A.nodes.set A.s.next.toNat n,A.cnt.set A.s.next.toNat 1⟩
def AM.make(A:AM)(n:Nd):AM:=((A.put n).inc n.lf).inc n.rg
theorem AM.inc_cnt{A:AM}{k j:Int}(hk:k.toNat<A.cnt.length)(h0:0≤k)(hj:0≤j):(A.inc k).cntOf j=if j=k then IntKind.i64.wrap (A.cntOf k+1) else A.cntOf j:=AM.cnt_set hk h0 hj
theorem ARf.rng{A:AM}{R:List Int}(h:ARf A R){r:Int}(hr:r∈R):0≤r∧r<4294967296∧r≤65536:=by
 rcases h.ref r hr with e|⟨h1,h2⟩
 ·omega
 have h3:=SM.ok_rng h.s (by omega) h2
 have h4:=h.s.cap
 have h5:A.s.cap=(A.s.used.length:Int)-1:=rfl
 omega
theorem ARf.okrng{A:AM}{R:List Int}(h:ARf A R){c:Int}(hc:c=0∨(1≤c∧A.s.ok c=true)):0≤c∧c≤65536∧c.toNat<A.s.used.length:=by
 have h4:=h.s.cap
 have h5:A.s.cap=(A.s.used.length:Int)-1:=rfl
 rcases hc with e|⟨h1,h2⟩
 ·subst e;exact⟨by omega,by omega,by show 0<_;omega⟩
 have h3:=SM.ok_rng h.s (by omega) h2
 omega
theorem ARf.make{A:AM}{R:List Int}{n:Nd}(h:ARf A R)(hf:0<A.s.free)(hl:n.lf=0∨(1≤n.lf∧A.s.ok n.lf=true))(hr:n.rg=0∨(1≤n.rg∧A.s.ok n.rg=true))(hs:n.size=1+A.sz n.lf+A.sz n.rg∧n.size≤2147483647)(hp:1≤n.size)(hlen:R.length+1≤1000000000):ARf (A.make n) (A.s.next::R):=by
 have hn:=SM.next_rng h.s hf
 have hno:A.s.ok A.s.next=false:=hn.2.2.2
 have hok:∀j,0≤j→(A.make n).s.ok j=if j=A.s.next then true else A.s.ok j:=fun j hj=>SM.alloc_ok' h.s hf hj
 have hnl:A.s.next.toNat<A.nodes.length:=by rw[h.nl];exact hn.2.2.1
 have hcl:A.s.next.toNat<A.cnt.length:=by rw[h.cl];exact hn.2.2.1
 have hnd:∀j,0≤j→(A.make n).nd j=if j=A.s.next then n else A.nd j:=fun j hj=>AM.nd_set hnl (by omega) hj
 have hne:∀c,(c=0∨(1≤c∧A.s.ok c=true))→c≠A.s.next:=fun c hc e=>by
  rcases hc with e2|⟨_,h2⟩
  ·omega
  rw[e,hno] at h2;cases h2
 have hup:∀c,(c=0∨(1≤c∧A.s.ok c=true))→(c=0∨(1≤c∧(A.make n).s.ok c=true)):=fun c hc=>by
  have h1:=hne c hc
  rcases hc with e2|⟨h3,h2⟩
  ·exact .inl e2
  exact .inr ⟨h3,by rw[hok c (by omega),if_neg h1];exact h2⟩
 have hsz:∀c,(c=0∨(1≤c∧A.s.ok c=true))→(A.make n).sz c=A.sz c:=fun c hc=>by
  have h1:=hne c hc
  have h0:0≤c:=by omega
  unfold AM.sz
  rw[hok c h0,if_neg h1,hnd c h0,if_neg h1]
 have hkp:(A.make n).kids.Perm ([n.lf,n.rg]++A.kids):=by
  have h1:=DA (A:=A.make n) (B:=A) (k:=A.s.next) (by rw[hok _ (by omega),if_pos rfl]) (by omega) (fun j hj=>by
   rw[hok j hj]
   by_cases e:j=A.s.next
   ·subst e;rw[if_pos rfl];exact hno
   rw[if_neg e,if_neg e]) (fun j hj e=>by rw[hnd j hj,if_neg e])
  rw[hnd _ (by omega),if_pos rfl] at h1
  exact h1
 have hlr:=h.okrng hl
 have hrr:=h.okrng hr
 have hcnt:∀j,1≤j→(j=A.s.next∨A.s.ok j=true)→(A.make n).cntOf j=if j=A.s.next then 1 else A.cntOf j+(if j=n.lf then 1 else 0)+(if j=n.rg then 1 else 0):=fun j hj hjo=>by
  have hpl:(A.put n).cnt.length=A.cnt.length:=by simp[AM.put]
  have hpl2:((A.put n).inc n.lf).cnt.length=A.cnt.length:=by simp[AM.inc,AM.put]
  have e1:(A.make n).cntOf j=if j=n.rg then IntKind.i64.wrap (((A.put n).inc n.lf).cntOf n.rg+1) else((A.put n).inc n.lf).cntOf j:=AM.inc_cnt (by rw[hpl2,h.cl];exact hrr.2.2) hrr.1 (by omega)
  have e2:∀x,0≤x→((A.put n).inc n.lf).cntOf x=if x=n.lf then IntKind.i64.wrap ((A.put n).cntOf n.lf+1) else(A.put n).cntOf x:=fun x hx=>AM.inc_cnt (by rw[hpl,h.cl];exact hlr.2.2) hlr.1 hx
  have e3:∀x,0≤x→(A.put n).cntOf x=if x=A.s.next then 1 else A.cntOf x:=fun x hx=>AM.cnt_set hcl (by omega) hx
  by_cases hj2:j=A.s.next
  ·rw[if_pos hj2,e1,if_neg (fun e=>hne _ hr (by rw[←e];exact hj2)),e2 j (by omega),if_neg (fun e=>hne _ hl (by rw[←e];exact hj2)),e3 j (by omega),if_pos hj2]
  have hjo:=hjo.resolve_left hj2
  have hb:=h.cnt_le hjo (by omega)
  rw[if_neg hj2,e1]
  have e4:((A.put n).inc n.lf).cntOf j=A.cntOf j+(if j=n.lf then 1 else 0):=by
   rw[e2 j (by omega)]
   by_cases e:j=n.lf
   ·rw[if_pos e,if_pos e,←e,e3 j (by omega),if_neg hj2,Yf (by omega)]
   rw[if_neg e,if_neg e,e3 j (by omega),if_neg hj2];omega
  by_cases e:j=n.rg
  ·rw[if_pos e,if_pos e,←e,e4,Yf (by split<;>omega)]
  rw[if_neg e,if_neg e,e4];omega
 refine⟨⟨SM.alloc_sok h.s hf,?_,?_⟩,fun i hi hi0 c hc=>?_,fun i hi hi0=>?_,fun i hi hi0=>?_,fun r hr2=>?_,fun i hi hi0=>?_,fun i hi hi1=>?_,by simpa using hlen⟩
 ·show(A.nodes.set _ _).length=(A.s.used.set _ _).length
  rw[List.length_set,List.length_set];exact h.nl
 ·show(((A.cnt.set _ _).set _ _).set _ _).length=(A.s.used.set _ _).length
  rw[List.length_set,List.length_set,List.length_set,List.length_set];exact h.cl
 ·rw[hnd i hi0] at hc
  by_cases e:i=A.s.next
  ·rw[if_pos e] at hc
   rcases hc with hc|hc<;>rw[hc]
   ·exact hup _ hl
   exact hup _ hr
  rw[if_neg e] at hc
  rw[hok i hi0,if_neg e] at hi
  exact hup _ (h.kid i hi hi0 c hc)
 ·rw[hnd i hi0]
  by_cases e:i=A.s.next
  ·rw[if_pos e,hsz _ hl,hsz _ hr];exact hs
  rw[if_neg e]
  rw[hok i hi0,if_neg e] at hi
  rw[hsz _ (h.kid i hi hi0 _ (.inl rfl)),hsz _ (h.kid i hi hi0 _ (.inr rfl))]
  exact h.sz i hi hi0
 ·rw[hnd i hi0]
  by_cases e:i=A.s.next
  ·rw[if_pos e];exact hp
  rw[if_neg e]
  rw[hok i hi0,if_neg e] at hi
  exact h.pos i hi hi0
 ·rcases List.mem_cons.1 hr2 with e|hr2
  ·rw[e];exact .inr ⟨hn.1,by rw[hok _ (by omega),if_pos rfl]⟩
  exact hup _ (h.ref r hr2)
 ·have h1:1≤i:=by
   rcases Int.lt_or_le i 1 with h1|h1
   ·have:i=0:=by omega
    subst this
    rw[hok 0 (by omega),if_neg (by omega),h.s.u0] at hi;cases hi
   exact h1
  rw[hok i hi0] at hi
  have hp2:(A.s.next::R++(A.make n).kids).count i=(A.s.next::(R++([n.lf,n.rg]++A.kids))).count i:=by
   rw[List.cons_append]
   exact(List.Perm.cons _ (List.Perm.append_left R hkp)).count_eq i
  rw[hp2]
  by_cases e:i=A.s.next
  ·rw[hcnt i h1 (.inl e),if_pos e,e,List.count_cons_self,List.count_append,List.count_append]
   have c1:R.count A.s.next=0:=List.count_eq_zero.2 fun hm=>hne _ (h.ref _ hm) rfl
   have c2:[n.lf,n.rg].count A.s.next=0:=List.count_eq_zero.2 fun hm=>by
    rcases List.mem_cons.1 hm with e2|hm
    ·exact hne _ hl e2.symm
    exact hne _ hr (List.mem_singleton.1 hm).symm
   have c3:A.kids.count A.s.next=0:=List.count_eq_zero.2 fun hm=>by
    obtain⟨j,j0,j1,jc⟩:=(A.mem_kids _).1 hm
    exact hne _ (h.kid j j1 j0 _ jc) rfl
   omega
  rw[if_neg e] at hi
  have hc2:=h.cnt i hi hi0
  have hb:=h.cnt_le hi hi0
  rw[List.count_append] at hc2
  rw[hcnt i h1 (.inr hi),if_neg e,List.count_cons_of_ne (fun h=>e h.symm),List.count_append,List.count_append]
  have c2:([n.lf,n.rg].count i:Nat)=(if i=n.lf then 1 else 0)+(if i=n.rg then 1 else 0):=by
   rw[List.count_cons,List.count_cons,List.count_nil]
   have q1:(n.lf==i)=decide (i=n.lf):=by rw[Bool.eq_iff_iff,beq_iff_eq,decide_eq_true_eq];exact⟨Eq.symm,Eq.symm⟩
   have q2:(n.rg==i)=decide (i=n.rg):=by rw[Bool.eq_iff_iff,beq_iff_eq,decide_eq_true_eq];exact⟨Eq.symm,Eq.symm⟩
   rw[q1,q2]
   simp only[decide_eq_true_eq]
   omega
  rw[c2]
  split<;>split<;>omega
 rw[hnd i (by omega)]
 rw[hok i (by omega)] at hi
 by_cases e:i=A.s.next
 ·rw[if_pos e] at hi;cases hi
 rw[if_neg e] at hi ⊢
 exact h.zero i hi hi1
theorem SOk.free_rng{S:SM}(h:SOk S):0≤S.free∧S.free≤131072:=by
 have h1:=h.rle;have h2:=h.cap;have h3:=h.fr;have h4:S.cap=(S.used.length:Int)-1:=rfl
 unfold SM.free;omega
theorem AM.cnt_live{A:AM}(h:SOk A.s):A.s.free+A.live.length=A.s.cap:=by
 have hc:A.s.cap=(A.s.used.length:Int)-1:=rfl
 have hcp:=h.cap
 have hfr:=h.fr
 have hp:((List.range A.s.cap.toNat).map fun i:Nat=>(i:Int)+1).Perm (A.live++(A.s.rel++(List.range (A.s.cap-A.s.fresh).toNat).map fun i:Nat=>A.s.fresh+1+(i:Int))):=by
  refine(List.perm_ext_iff_of_nodup ?_ ?_).2 fun j=>?_
  ·exact List.pairwise_map.2 ((List.nodup_range).imp fun h e=>h (by omega))
  ·refine List.nodup_append.2 ⟨A.live_nodup,List.nodup_append.2 ⟨h.nd,List.pairwise_map.2 ((List.nodup_range).imp fun h e=>h (by omega)),fun a ha b hb e=>?_⟩,fun a ha b hb e=>?_⟩
   ·have h1:=h.rm a ha
    obtain⟨i,_,rfl⟩:=List.mem_map.1 hb
    omega
   have h1:=(A.mem_live a).1 ha
   rcases List.mem_append.1 hb with hb|hb
   ·have h2:=(h.rm b hb).2.2
    rw[←e,h1.2] at h2;cases h2
   obtain⟨i,_,e2⟩:=List.mem_map.1 hb
   have h2:=h.hi a (by omega)
   rw[h1.2] at h2;cases h2
  rw[List.mem_append,List.mem_append,A.mem_live,List.mem_map,List.mem_map]
  constructor
  ·rintro⟨i,hi,rfl⟩
   have hi:=List.mem_range.1 hi
   by_cases ho:A.s.ok ((i:Int)+1)=true
   ·exact .inl ⟨by omega,ho⟩
   right
   by_cases hf:(i:Int)+1≤A.s.fresh
   ·exact .inl (h.cov _ (by omega) hf (by simpa using ho))
   exact .inr ⟨((i:Int)-A.s.fresh).toNat,List.mem_range.2 (by omega),by omega⟩
  rintro(⟨h0,h1⟩|h1|⟨i,hi,rfl⟩)
  ·have h2:=SM.ok_rng h h0 h1
   exact⟨(j-1).toNat,List.mem_range.2 (by omega),by omega⟩
  ·have h2:=h.rm j h1
   exact⟨(j-1).toNat,List.mem_range.2 (by omega),by omega⟩
  have hi:=List.mem_range.1 hi
  exact⟨(A.s.fresh+i).toNat,List.mem_range.2 (by omega),by omega⟩
 have h1:=hp.length_eq
 simp only[List.length_map,List.length_range,List.length_append] at h1
 unfold SM.free
 omega
theorem Zhu{A B:AM}(h:∀j,0≤j→B.s.ok j=true→A.s.ok j=true):B.live.length≤A.live.length:=by
 have hh:∀{l m:List Int},l.Nodup→(∀z∈l,z∈m)→l.length≤m.length:=by
  intro l
  induction l with
  |nil=>intro m _ _;exact Nat.zero_le _
  |cons x t ih =>
   intro m hn hs
   obtain⟨h1,h2⟩:=List.nodup_cons.1 hn
   have h3:x∈m:=hs x (List.mem_cons_self ..)
   have h4:=ih (m:=m.erase x) h2 (fun z hz=>(List.mem_erase_of_ne (fun e=>h1 (by rw[←e];exact hz))).2 (hs z (List.mem_cons_of_mem _ hz)))
   rw[List.length_erase_of_mem h3] at h4
   have:=List.length_pos_of_mem h3
   simp;omega
 exact hh B.live_nodup fun z hz=>by
  have:=(B.mem_live z).1 hz
  exact(A.mem_live z).2 ⟨this.1,h z this.1 this.2⟩
def JA(l r:Int)(k:Nat):Int:=if k=0 then l else r
theorem lr_at{l r:Int}{k:Nat}(h:k<2):(#[.int .u32 l,.int .u32 r]:Array Value)[k]?=some (.int .u32 (JA l r k)):=by
 match k,h with
 |0,_=>rfl
 |1,_=>rfl
def Zod(n x:Nd):Nd:=⟨n.key,n.val,n.lf,n.rg,n.size+x.size,IntKind.i64.wrap (n.sum+x.sum),min n.mn x.mn,max n.mx x.mx⟩
def JC(A:AM)(l r:Int)(n:Nd):Nat→Nd
 |0=>n
 |k+1=>if JA l r k=0 then JC A l r n k else Zod (JC A l r n k) (A.nd (JA l r k))
def QC(key val l r:Int):Nd:=⟨key,val,l,r,1,val,val,val⟩
def AM.nodeOf(A:AM)(key val l r:Int):Nd:=JC A l r (QC key val l r) 2
theorem QP(A:AM)(l r:Int)(n:Nd):∀k,(JC A l r n k).lf=n.lf∧(JC A l r n k).rg=n.rg∧(JC A l r n k).key=n.key∧(JC A l r n k).val=n.val
 |0=>⟨rfl,rfl,rfl,rfl⟩
 |k+1=>by
  unfold JC
  split
  ·exact QP A l r n k
  exact QP A l r n k
structure Kd(A:AM)(l r:Int):Prop where
 cl:l=0∨(1≤l∧A.s.ok l=true)
 cr:r=0∨(1≤r∧A.s.ok r=true)
 lz:0≤A.sz l
 rz:0≤A.sz r
 z:1+A.sz l+A.sz r≤2147483647
theorem sz_0{A:AM}(h:SOk A.s):A.sz 0=0:=by unfold AM.sz;rw[h.u0];rfl
theorem Zc7{A:AM}{c:Int}(h:A.s.ok c=true):A.sz c=(A.nd c).size:=by unfold AM.sz;rw[if_pos h]
theorem Kd.at_{A:AM}{l r:Int}(h:Kd A l r)(k:Nat):(JA l r k=0∨(1≤JA l r k∧A.s.ok (JA l r k)=true))∧0≤A.sz (JA l r k):=by
 unfold JA
 split
 ·exact⟨h.cl,h.lz⟩
 exact⟨h.cr,h.rz⟩
theorem Ci{A:AM}(hA:AWf A){l r:Int}(h:Kd A l r)(n:Nd)(k:Nat):(JC A l r n (k+1)).size=(JC A l r n k).size+A.sz (JA l r k):=by
 rw[JC]
 split
 ·rename_i e;rw[e,sz_0 hA.s];omega
 rename_i e;rw[Zc7 ((h.at_ k).1.resolve_left e).2];rfl
theorem Da{A:AM}(hA:AWf A){key val l r:Int}(h:Kd A l r):(A.nodeOf key val l r).size=1+A.sz l+A.sz r:=by
 unfold AM.nodeOf
 rw[Ci hA h,Ci hA h];rfl
theorem Zl6{A:AM}(hA:AWf A){key val l r:Int}(h:Kd A l r){k:Nat}(hk:k<2):1≤(JC A l r (QC key val l r) k).size∧(JC A l r (QC key val l r) k).size+A.sz (JA l r k)≤2147483647:=by
 have h1:=h.lz;have h2:=h.rz;have h3:=h.z
 match k,hk with
 |0,_=>exact⟨by simp[JC,QC],by show 1+A.sz l≤_;omega⟩
 |1,_ =>
  rw[Ci hA h]
  exact⟨by show 1≤1+A.sz l;omega,by show 1+A.sz l+A.sz r≤_;omega⟩
theorem Zbn{A:AM}(h:AWf A){c:Int}(hc:c=0∨(1≤c∧A.s.ok c=true)):0≤c∧c≤65536∧c.toNat<A.s.used.length:=by
 have h4:=h.s.cap
 have h5:A.s.cap=(A.s.used.length:Int)-1:=rfl
 rcases hc with e|⟨h1,h2⟩
 ·subst e;exact⟨by omega,by omega,by show 0<_;omega⟩
 have h3:=SM.ok_rng h.s (by omega) h2
 omega
theorem Zma{A:AM}{n:Nd}{l r z2 z3:Int}(h2:(A.cnt.set A.s.next.toNat 1)[l.toNat]?=some z2)(h3:((A.cnt.set A.s.next.toNat 1).set l.toNat (IntKind.i64.wrap (z2+1)))[r.toNat]?=some z3)(hl:n.lf=l)(hr:n.rg=r) :
  A.make n=AM.mk A.s.alloc (A.nodes.set A.s.next.toNat n) (((A.cnt.set A.s.next.toNat 1).set l.toNat (IntKind.i64.wrap (z2+1))).set r.toNat (IntKind.i64.wrap (z3+1))):=by
 subst hl;subst hr
 have e1:(A.put n).cntOf n.lf=z2:=by unfold AM.cntOf;show((A.cnt.set A.s.next.toNat 1)[n.lf.toNat]?).getD 0=z2;rw[h2];rfl
 have e2:(A.put n).inc n.lf=AM.mk A.s.alloc (A.nodes.set A.s.next.toNat n) ((A.cnt.set A.s.next.toNat 1).set n.lf.toNat (IntKind.i64.wrap (z2+1))):=by unfold AM.inc;rw[e1];rfl
 unfold AM.make
 rw[e2]
 unfold AM.inc AM.cntOf
 simp only
 rw[h3];rfl
def Is(A:AM):Tr→Int→Prop
 |.nil,i=>i=0
 |.node l k v r,i=>1≤i∧A.s.ok i=true∧(A.nd i).key=k∧(A.nd i).val=v∧Is A l (A.nd i).lf∧Is A r (A.nd i).rg
theorem Is.sz{A:AM}{R:List Int}(h:ARf A R):∀(t:Tr)(i:Int),Is A t i→A.sz i=t.n
 |.nil,i,hi=>by
  have:i=0:=hi
  subst this
  unfold AM.sz
  rw[h.s.u0];rfl
 |.node l k v r,i,⟨h1,h2,_,_,h5,h6⟩=>by
  have hs:=(h.sz i h2 (by omega)).1
  rw[Is.sz h l _ h5,Is.sz h r _ h6] at hs
  unfold AM.sz
  rw[if_pos h2,hs];simp only[Tr.n];omega
theorem Is.ref{A:AM}:∀{t:Tr}{i:Int},Is A t i→i=0∨(1≤i∧A.s.ok i=true)
 |.nil,_,h=>.inl h
 |.node _ _ _ _,_,h=>.inr ⟨h.1,h.2.1⟩
theorem Is.nil_iff{A:AM}{t:Tr}{i:Int}(h:Is A t i):i=0↔t=.nil:=by
 cases t with
 |nil=>exact⟨fun _=>rfl,fun _=>h⟩
 |node=>exact⟨fun e=>absurd h.1 (by omega),fun e=>by cases e⟩
theorem ARf.tree{A:AM}{R:List Int}(h:ARf A R):∀(m:Nat)(i:Int),(i=0∨(1≤i∧A.s.ok i=true))→A.sz i≤m→∃t,Is A t i
 |m,i,hi,hm=>by
  induction m using Nat.strongRecOn generalizing i with
  |_ m ih =>
   rcases hi with e|⟨h1,h2⟩
   ·exact⟨.nil,e⟩
   have hs:=(h.sz i h2 (by omega)).1
   have hp:=h.pos i h2 (by omega)
   have e:A.sz i=(A.nd i).size:=by unfold AM.sz;rw[if_pos h2]
   have hk:=fun c hc=>h.kid i h2 (by omega) c hc
   have hn:∀c,(c=0∨(1≤c∧A.s.ok c=true))→0≤A.sz c:=fun c hc=>by
    rcases hc with e|⟨c1,c2⟩
    ·subst e;unfold AM.sz;rw[h.s.u0];exact Int.le_refl _
    have:=h.pos c c2 (by omega);unfold AM.sz;rw[if_pos c2];omega
   have hl:=hn _ (hk _ (.inl rfl))
   have hr:=hn _ (hk _ (.inr rfl))
   obtain⟨l,il⟩:=ih (m-1) (by omega) _ (hk _ (.inl rfl)) (by omega)
   obtain⟨r,ir⟩:=ih (m-1) (by omega) _ (hk _ (.inr rfl)) (by omega)
   exact⟨.node l _ _ r,h1,h2,rfl,rfl,il,ir⟩
def ixs(A:AM):Tr→Int→List Int
 |.nil,_=>[]
 |.node l _ _ r,i=>ixs A l (A.nd i).lf++i::ixs A r (A.nd i).rg
theorem JD{A B:AM}(h:∀j,1≤j→A.s.ok j=true→B.nd j=A.nd j):∀(t:Tr)(i:Int),Is A t i→ixs B t i=ixs A t i
 |.nil,_,_=>rfl
 |.node l k v r,i,⟨h1,h2,_,_,h5,h6⟩=>by
  unfold ixs
  rw[h i h1 h2,JD h l _ h5,JD h r _ h6]
structure Kp(A B:AM)(R:List Int):Prop where
 is:∀r∈R,∀t,Is A t r→Is B t r
 ix:∀r∈R,∀t,Is A t r→ixs B t r=ixs A t r
instance{A B:AM}{R:List Int}:CoeFun (Kp A B R) fun _=>∀r∈R,∀t,Is A t r→Is B t r:=⟨Kp.is⟩
theorem Kp.refl(A:AM)(R:List Int):Kp A A R:=⟨fun _ _ _ h=>h,fun _ _ _ _=>rfl⟩
theorem Kp.trans{A B C:AM}{R:List Int}(h:Kp A B R)(k:Kp B C R):Kp A C R:=⟨fun r hr t ht=>k.is r hr t (h.is r hr t ht),fun r hr t ht=>(k.ix r hr t (h.is r hr t ht)).trans (h.ix r hr t ht)⟩
theorem Kp.sub{A B:AM}{R R':List Int}(h:Kp A B R)(hs:∀r∈R',r∈R):Kp A B R':=⟨fun r hr t ht=>h.is r (hs r hr) t ht,fun r hr t ht=>h.ix r (hs r hr) t ht⟩
theorem Kp.cons{A B:AM}{R:List Int}{x:Int}(h:Kp A B (x::R)):Kp A B R:=h.sub fun _ hr=>List.mem_cons_of_mem _ hr
theorem Is.mono{A B:AM}{RB:List Int}(hB:ARf B RB)(h:∀j,0≤j→B.s.ok j=true→B.nd j=A.nd j):∀(t:Tr)(i:Int),Is A t i→(i=0∨B.s.ok i=true)→Is B t i
 |.nil,_,hi,_=>hi
 |.node l k v r,i,⟨h1,h2,h3,h4,h5,h6⟩,hb=>by
  have hb:B.s.ok i=true:=hb.resolve_left (by omega)
  have hk:=fun c hc=>hB.kid i hb (by omega) c hc
  have e:=h i (by omega) hb
  refine⟨h1,hb,by rw[e];exact h3,by rw[e];exact h4,?_,?_⟩
  ·rw[e];exact Is.mono hB h l _ h5 ((hk _ (.inl (by rw[e]))).imp id (·.2))
  rw[e];exact Is.mono hB h r _ h6 ((hk _ (.inr (by rw[e]))).imp id (·.2))
theorem Is.up{A B:AM}(h:∀j,1≤j→A.s.ok j=true→B.s.ok j=true∧B.nd j=A.nd j):∀(t:Tr)(i:Int),Is A t i→Is B t i
 |.nil,_,hi=>hi
 |.node l k v r,i,⟨h1,h2,h3,h4,h5,h6⟩=>by
  obtain⟨hb,e⟩:=h i h1 h2
  refine⟨h1,hb,by rw[e];exact h3,by rw[e];exact h4,?_,?_⟩
  ·rw[e];exact Is.up h l _ h5
  rw[e];exact Is.up h r _ h6
structure TOp(A B:AM)(R:List Int)(i:Int)(t:Tr)(c:Nat):Prop where
 ref:ARf B (i::R)
 is:Is B t i
 kp:Kp A B R
 fr:A.s.free≤B.s.free+c
 cap:B.s.used.length=A.s.used.length
theorem TOp.rng{A B:AM}{R:List Int}{i:Int}{t:Tr}{c:Nat}(h:TOp A B R i t c):0≤i∧i<4294967296:=⟨(h.ref.rng (List.mem_cons_self ..)).1,(h.ref.rng (List.mem_cons_self ..)).2.1⟩
theorem ARf.refl{A:AM}{R:List Int}{i:Int}{t:Tr}(h:ARf A (i::R))(hi:Is A t i):TOp A A R i t 0:=⟨h,hi,Kp.refl _ _,by omega,rfl⟩
theorem TOp.trans{A B C:AM}{R R':List Int}{i j:Int}{t u:Tr}{c d:Nat}(h:TOp A B R' i t c)(k:TOp B C R j u d)(hs:∀r∈R,r∈R'):TOp A C R j u (c+d) :=
 ⟨k.ref,k.is,(h.kp.sub hs).trans k.kp,by have:=h.fr;have:=k.fr;omega,k.cap.trans h.cap⟩
theorem TOp.weak{A B:AM}{R:List Int}{i:Int}{t:Tr}{c d:Nat}(h:TOp A B R i t c)(hd:c≤d):TOp A B R i t d:=⟨h.ref,h.is,h.kp,by have:=h.fr;omega,h.cap⟩
theorem AM.ret_eq{A:AM}{R:List Int}(h:ARf A R){i:Int}(hi:i=0∨(1≤i∧A.s.ok i=true))(hl:R.length+1≤1000000000):ARf (A.ret i) (i::R)∧A.retE i=0:=by
 unfold AM.ret AM.retE
 rcases hi with e|⟨h1,h2⟩
 ·subst e;rw[if_neg (fun h=>h.1 rfl),if_pos (.inl rfl)];exact⟨h.cons0 hl,rfl⟩
 rw[if_pos ⟨by omega,h2⟩,if_pos (.inr h2)];exact⟨h.inc h2 (by omega) hl,rfl⟩
theorem Is.same{A B:AM}(hs:B.s=A.s)(hn:B.nodes=A.nodes):∀(t:Tr)(i:Int),Is A t i→Is B t i:=by
 refine fun t i h=>Is.up (fun j _ hj=>⟨by rw[hs];exact hj,?_⟩) t i h
 unfold AM.nd;rw[hn]
theorem AM.ret_same(A:AM)(i:Int):(A.ret i).s=A.s∧(A.ret i).nodes=A.nodes:=by
 unfold AM.ret
 split<;>exact⟨rfl,rfl⟩
theorem Is.ret{A:AM}{t:Tr}{j:Int}(i:Int)(h:Is A t j):Is (A.ret i) t j:=Is.same (A.ret_same i).1 (A.ret_same i).2 t j h
theorem Kp.ret(A:AM)(i:Int)(R:List Int):Kp A (A.ret i) R:=⟨fun _ _ _ h=>h.ret i,fun _ _ t ht=>JD (fun j _ _=>by unfold AM.nd;rw[(A.ret_same i).2]) t _ ht⟩
end Go.V
namespace Go.V
open Go Go.RowKit
theorem AM.make_keep{A:AM}{n:Nd}(h:AWf A)(hf:0<A.s.free):(∀j,1≤j→A.s.ok j=true→(A.make n).s.ok j=true∧(A.make n).nd j=A.nd j)∧(A.make n).s.ok A.s.next=true∧(A.make n).nd A.s.next=n∧(A.make n).s.free=A.s.free-1∧(A.make n).s.used.length=A.s.used.length:=by
 have hn:=SM.next_rng h.s hf
 have hnl:A.s.next.toNat<A.nodes.length:=by rw[h.nl];exact hn.2.2.1
 have hok:∀j,0≤j→(A.make n).s.ok j=if j=A.s.next then true else A.s.ok j:=fun j hj=>SM.alloc_ok' h.s hf hj
 have hnd:∀j,0≤j→(A.make n).nd j=if j=A.s.next then n else A.nd j:=fun j hj=>AM.nd_set hnl (by omega) hj
 refine⟨fun j hj ho=>?_,by rw[hok _ (by omega),if_pos rfl],by rw[hnd _ (by omega),if_pos rfl],SM.alloc_free _,?_⟩
 ·have hne:j≠A.s.next:=fun e=>by rw[e,hn.2.2.2] at ho;cases ho
  rw[hok j (by omega),hnd j (by omega),if_neg hne,if_neg hne];exact⟨ho,rfl⟩
 show(A.s.used.set _ _).length=_
 rw[List.length_set]
structure Mk(A:AM)(R:List Int)(l r:Int)(tl tr:Tr)(k v:Int):Prop where
 kd:Kd A l r
 rf:ARf (A.make (A.nodeOf k v l r)) (A.s.next::l::r::R)
 is:Is (A.make (A.nodeOf k v l r)) (.node tl k v tr) A.s.next
 kp:Kp A (A.make (A.nodeOf k v l r)) (l::r::R)
 fr:(A.make (A.nodeOf k v l r)).s.free=A.s.free-1
 cap:(A.make (A.nodeOf k v l r)).s.used.length=A.s.used.length
theorem Mk.of{A:AM}{R:List Int}{l r:Int}{tl tr:Tr}{k v:Int}(hA:ARf A (l::r::R))(hl:Is A tl l)(hr:Is A tr r)(hf:0<A.s.free)(hz:tl.n+tr.n≤2000000000)(hlen:R.length+4≤1000000000):Mk A R l r tl tr k v:=by
 have hn:=SM.next_rng hA.s hf
 have e1:=Is.sz hA tl l hl
 have e2:=Is.sz hA tr r hr
 have kd:Kd A l r:=⟨hl.ref,hr.ref,by omega,by omega,by omega⟩
 have hnl:=QP A l r (QC k v l r) 2
 have hlf:(A.nodeOf k v l r).lf=l:=hnl.1
 have hrg:(A.nodeOf k v l r).rg=r:=hnl.2.1
 have hky:(A.nodeOf k v l r).key=k:=hnl.2.2.1
 have hvl:(A.nodeOf k v l r).val=v:=hnl.2.2.2
 have hsz:=Da hA.toAWf (key:=k) (val:=v) kd
 obtain⟨k1,k2,k3,k4,k5⟩:=AM.make_keep (n:=A.nodeOf k v l r) hA.toAWf hf
 have rf:=hA.make (n:=A.nodeOf k v l r) hf (by rw[hlf];exact hl.ref) (by rw[hrg];exact hr.ref) (by rw[hlf,hrg];omega) (by omega) (by simp;omega)
 refine⟨kd,rf,⟨hn.1,k2,by rw[k3];exact hky,by rw[k3];exact hvl,?_,?_⟩,⟨fun x _ t ht=>Is.up k1 t x ht,fun x _ t ht=>JD (fun j h0 hj=>(k1 j h0 hj).2) t x ht⟩,k4,k5⟩
 ·rw[k3,hlf];exact Is.up k1 tl l hl
 rw[k3,hrg];exact Is.up k1 tr r hr
structure Rl(A B:AM)(R:List Int):Prop where
 ref:ARf B R
 kp:Kp A B R
 fr:A.s.free≤B.s.free
 cap:B.s.used.length=A.s.used.length
theorem Mk.op{A B C:AM}{R:List Int}{l r:Int}{tl tr:Tr}{k v:Int}(h:Mk A R l r tl tr k v)(h1:Rl (A.make (A.nodeOf k v l r)) B (A.s.next::r::R))(h2:Rl B C (A.s.next::R)):TOp A C R A.s.next (.node tl k v tr) 1 :=
 ⟨h2.ref,h2.kp _ (List.mem_cons_self ..) _ (h1.kp _ (List.mem_cons_self ..) _ h.is),
  ((h.kp.cons.cons.trans h1.kp.cons.cons).trans h2.kp.cons),
  by have:=h.fr;have:=h1.fr;have:=h2.fr;omega,by rw[h2.cap,h1.cap,h.cap]⟩
theorem Mk.p1{A:AM}{R:List Int}{l r:Int}{tl tr:Tr}{k v:Int}(h:Mk A R l r tl tr k v):ARf (A.make (A.nodeOf k v l r)) (l::A.s.next::r::R):=h.rf.perm (List.Perm.swap _ _ _)
theorem Rl.p1{A B:AM}{R:List Int}{x r:Int}(h:Rl A B (x::r::R)):ARf B (r::x::R):=h.ref.perm (List.Perm.swap _ _ _)
structure Opn(A B:AM)(R:List Int)(x y:Int)(l r:Tr):Prop where
 ref:ARf B (x::y::R)
 il:Is B l x
 ir:Is B r y
 kp:Kp A B R
 fr:A.s.free≤B.s.free
 cap:B.s.used.length=A.s.used.length
theorem Opn.rng{A B:AM}{R:List Int}{x y:Int}{l r:Tr}(h:Opn A B R x y l r):(0≤x∧x<4294967296)∧0≤y∧y<4294967296:=by
 have h1:=h.ref.rng (r:=x) (by simp)
 have h2:=h.ref.rng (r:=y) (by simp)
 omega
theorem Opn.of{A B:AM}{R:List Int}{i k v:Int}{l r:Tr}(hi:Is A (.node l k v r) i)(h:Rl ((A.ret (A.nd i).lf).ret (A.nd i).rg) B ((A.nd i).lf::(A.nd i).rg::R)):Opn A B R (A.nd i).lf (A.nd i).rg l r :=
 ⟨h.ref,h.kp _ (by simp) _ ((hi.2.2.2.2.1.ret _).ret _),h.kp _ (by simp) _ ((hi.2.2.2.2.2.ret _).ret _),((Kp.ret _ _ _).trans (Kp.ret _ _ _)).trans h.kp.cons.cons,
  by have:=h.fr;rw[(AM.ret_same _ _).1,(AM.ret_same _ _).1] at this;exact this,by rw[h.cap,(AM.ret_same _ _).1,(AM.ret_same _ _).1]⟩
theorem Opn.swap{A B:AM}{R:List Int}{x y:Int}{l r:Tr}(h:Opn A B R x y l r):ARf B (y::x::R):=h.ref.perm (List.Perm.swap _ _ _)
structure Ch(A B:AM)(R:List Int)(c:Nat):Prop where
 kp:Kp A B R
 fr:A.s.free≤B.s.free+c
 cap:B.s.used.length=A.s.used.length
theorem Ch.trans{A B C:AM}{R R' R'':List Int}{c d:Nat}(h:Ch A B R' c)(k:Ch B C R'' d)(h1:∀r∈R,r∈R')(h2:∀r∈R,r∈R''):Ch A C R (c+d) :=
 ⟨(h.kp.sub h1).trans (k.kp.sub h2),by have:=h.fr;have:=k.fr;omega,k.cap.trans h.cap⟩
theorem Opn.ch{A B:AM}{R:List Int}{x y:Int}{l r:Tr}(h:Opn A B R x y l r):Ch A B R 0:=⟨h.kp,by have:=h.fr;omega,h.cap⟩
theorem TOp.ch{A B:AM}{R:List Int}{i:Int}{t:Tr}{c:Nat}(h:TOp A B R i t c):Ch A B R c:=⟨h.kp,h.fr,h.cap⟩
theorem Rl.ch{A B:AM}{R:List Int}(h:Rl A B R):Ch A B R 0:=⟨h.kp,by have:=h.fr;omega,h.cap⟩
theorem TOp.after{A B C:AM}{R R':List Int}{i:Int}{t:Tr}{c d e:Nat}(k:TOp B C R i t d)(h:Ch A B R' c)(h1:∀r∈R,r∈R')(he:c+d≤e):TOp A C R i t e :=
 let q:=h.trans k.ch h1 (fun _ h=>h)
 ⟨k.ref,k.is,q.kp,by have:=q.fr;omega,q.cap⟩
theorem ARf.sw{A:AM}{R:List Int}{a b:Int}(h:ARf A (a::b::R)):ARf A (b::a::R):=h.perm (List.Perm.swap _ _ _)
theorem ARf.r3{A:AM}{R:List Int}{a b c:Int}(h:ARf A (a::b::c::R)):ARf A (c::a::b::R):=h.perm ((List.Perm.cons a (List.Perm.swap c b R)).trans (List.Perm.swap c a _))
theorem ARf.r4{A:AM}{R:List Int}{a b c d:Int}(h:ARf A (a::b::c::d::R)):ARf A (d::a::b::c::R):=h.perm ((List.Perm.cons a ((List.Perm.cons b (List.Perm.swap d c R)).trans (List.Perm.swap d b _))).trans (List.Perm.swap d a _))
theorem Di{a:Int}{R:List Int}:∀r∈R,r∈a::R:=fun _ h=>List.mem_cons_of_mem _ h
theorem sb2{a b:Int}{R:List Int}:∀r∈R,r∈a::b::R:=fun _ h=>List.mem_cons_of_mem _ (List.mem_cons_of_mem _ h)
theorem HX{R:List Int}:∀r∈R,r∈R:=fun _ h=>h
end Go.V
namespace Go.V
open Go Go.RowKit
theorem Q4(A:AM):∀(t:Tr)(i:Int),Is A t i→(ixs A t i).map (fun j=>((A.nd j).key,(A.nd j).val))=t.ls
 |.nil,_,_=>rfl
 |.node l k v r,i,⟨_,_,h3,h4,h5,h6⟩=>by
  unfold ixs Tr.ls
  rw[List.map_append,List.map_cons,Q4 A l _ h5,Q4 A r _ h6,h3,h4]
theorem Cz(A:AM){t:Tr}{i:Int}(h:Is A t i):(ixs A t i).length=t.n:=by
 rw[←Tr.ls_len,←Q4 A t i h,List.length_map]
theorem Zfs{A:AM}{t:Tr}{i:Int}(h:Is A t i)(hs:Srt t.ls):(ixs A t i).Nodup:=by
 have h1:=Q4 A t i h
 rw[←h1] at hs
 have h2:=List.pairwise_map.1 hs
 exact h2.imp fun {a b} hab e=>by subst e;exact absurd hab (by omega)
theorem DH(A:AM):∀(t:Tr)(i:Int),Is A t i→∀j∈ixs A t i,1≤j∧A.s.ok j=true
 |.nil,_,_,_,hj=>by cases hj
 |.node l k v r,i,⟨h1,h2,_,_,h5,h6⟩,j,hj=>by
  unfold ixs at hj
  rcases List.mem_append.1 hj with hj|hj
  ·exact DH A l _ h5 j hj
  rcases List.mem_cons.1 hj with rfl|hj
  ·exact⟨h1,h2⟩
  exact DH A r _ h6 j hj
theorem Jj{A:AM}:∀{t:Tr}{i:Int},Is A t i→i≠0→i∈ixs A t i
 |.nil,_,h,hne=>absurd h hne
 |.node _ _ _ _,_,_,_=>by unfold ixs;simp
theorem J'{A:AM}:∀(t:Tr)(i:Int),Is A t i→∀j∈ixs A t i,∀c,c=(A.nd j).lf∨c=(A.nd j).rg→c≠0→c∈ixs A t i
 |.nil,_,_,_,hj,_,_,_=>by cases hj
 |.node l k v r,i,⟨h1,h2,_,_,h5,h6⟩,j,hj,c,hc,hne=>by
  unfold ixs at hj ⊢
  rcases List.mem_append.1 hj with hj|hj
  ·exact List.mem_append_left _ (J' l _ h5 j hj c hc hne)
  rcases List.mem_cons.1 hj with rfl|hj
  ·rcases hc with rfl|rfl
   ·exact List.mem_append_left _ (Jj h5 hne)
   exact List.mem_append_right _ (List.mem_cons_of_mem _ (Jj h6 hne))
  exact List.mem_append_right _ (List.mem_cons_of_mem _ (J' r _ h6 j hj c hc hne))
theorem Zcq{A:AM}{R:List Int}(h:ARf A R)(S:Int→Prop)(hR:∀r∈R,r≠0→S r)(hK:∀j,1≤j→A.s.ok j=true→S j→∀c,c=(A.nd j).lf∨c=(A.nd j).rg→c≠0→S c):∀j,1≤j→A.s.ok j=true→S j:=by
 have key:∀(m:Nat)(j:Int),1≤j→A.s.ok j=true→2147483647-(A.nd j).size<m→S j:=by
  intro m
  induction m with
  |zero=>intro j h1 h2 h3;have:=(h.sz j h2 (by omega)).2;omega
  |succ m ih =>
   intro j h1 h2 h3
   have hc:=h.cnt j h2 (by omega)
   have hm:j∈R++A.kids:=List.count_pos_iff.1 (by omega)
   rcases List.mem_append.1 hm with hm|hm
   ·exact hR j hm (by omega)
   obtain⟨p,p0,p1,p2⟩:=(A.mem_kids j).1 hm
   have hp1:=(SM.ok_rng h.s p0 p1).1
   have hsz:=(h.sz p p1 p0).1
   have hn:∀c,(c=0∨(1≤c∧A.s.ok c=true))→0≤A.sz c:=fun c hc=>by
    rcases hc with e|⟨c1,c2⟩
    ·subst e;unfold AM.sz;rw[h.s.u0];exact Int.le_refl _
    have:=h.pos c c2 (by omega);unfold AM.sz;rw[if_pos c2];omega
   have hl:=hn _ (h.kid p p1 p0 _ (.inl rfl))
   have hr:=hn _ (h.kid p p1 p0 _ (.inr rfl))
   have hsj:A.sz j=(A.nd j).size:=by unfold AM.sz;rw[if_pos h2]
   have hlt:(A.nd j).size<(A.nd p).size:=by
    rcases p2 with e|e
    ·rw[←hsj,e];omega
    rw[←hsj,e];omega
   exact hK p hp1 p1 (ih p hp1 p1 (by omega)) j p2 (by omega)
 intro j h1 h2
 exact key ((2147483647-(A.nd j).size).toNat+1) j h1 h2 (by have:=(h.sz j h2 (by omega)).2;omega)
theorem C6{A:AM}{r:Int}{t:Tr}(h:ARf A [r])(hi:Is A t r)(hs:Srt t.ls):A.s.cap-A.s.free=t.n:=by
 have h1:=AM.cnt_live h.s
 have hp:A.live.Perm (ixs A t r):=(List.perm_ext_iff_of_nodup A.live_nodup (Zfs hi hs)).2 fun j=>by
  rw[A.mem_live]
  constructor
  ·rintro⟨h0,h2⟩
   have h3:=(SM.ok_rng h.s h0 h2).1
   refine Zcq h (fun j=>j∈ixs A t r) (fun x hx hne=>?_) (fun j _ _ hj c hc hne=>J' t r hi j hj c hc hne) j h3 h2
   rw[List.mem_singleton.1 hx] at hne ⊢
   exact Jj hi hne
  intro hj
  have:=DH A t r hi j hj
  exact⟨by omega,this.2⟩
 have h2:=hp.length_eq
 rw[Cz A hi] at h2
 omega
end Go.V
namespace Go.Proofs.YtpebgkkmgffmaaaGreatDoor
open Go Go.V
set_option maxHeartbeats 8000000
set_option maxRecDepth 8192
variable{g w:World}{L:List HP}
theorem D7(s:Nat)(ua ga ra:Option Addr)(n ng nr uc gc rc:Nat)(fr:Int)(hn:n≤65537)(Z:St g (Zq s #[.slice ua n uc,.slice ga ng gc,.slice ra nr rc,.W fr] 323::L) w) :
  Zr g L 207 [.P s] w fun rV=>rV (.I (n-1)) [Zq s #[.slice ua n uc,.slice ga ng gc,.slice ra nr rc,.W fr] 323]:=by
 refine Sp.en Tryz.func207 ?_
 have _:=hn
 exact⟨rfl,Z⟩
theorem Zix(s:Nat)(ua ga ra:Option Addr)(n ng nr uc gc rc:Nat)(fr:Int)(hn:n≤65537∧nr≤65537∧0≤fr∧fr≤65537)(Z:St g (Zq s #[.slice ua n uc,.slice ga ng gc,.slice ra nr rc,.W fr] 323::L) w) :
  Zr g L 79 [.P s] w fun rV=>rV (.I (nr+(n-1)-fr)) [Zq s #[.slice ua n uc,.slice ga ng gc,.slice ra nr rc,.W fr] 323]:=by
 refine Sp.en Tryz.func79 ?_
 have _:=hn
 refine Zsg [([0,5,8,1,9,2,10,3,11,4,12],some (6,[0,1,2,3,4,8,9,10,11,12])),([7,13,14],none)] ?_
 refine Qd fun w Z=>?_
 refine Zse (D7 _ ua ga ra n ng nr uc gc rc fr (by omega) Z) fun w Z=>?_
 refine Qd fun w Z=>?_
 exact⟨rfl,Z⟩
theorem Zir(s:Nat)(S:SM)(hl:S.used.length≤65537)(Z:St g (XE s S::L) w) :
  Zr g L 207 [.P s] w fun rV=>rV (.I S.cap) [XE s S]:=by
 refine Sp.enter Tryz.func207 rfl (by kernel_rfl) (by kernel_rfl) ?_
 have _:=hl
 obtain⟨⟨ua,uc,ga,gc,ra,rc⟩,Z⟩:=St.exOpen (f:=Xu s S) Z;have hbu:=ZC S.used;have hbg:=Zh S.gen;have hbr:=Zh S.rel
 replace Z:St g (Zq s #[.slice ua (Zk S.used).length uc,.slice ga (Za S.gen).length gc,.slice ra (Za S.rel).length rc,.W S.fresh] 323::Zp 4 1 (Zk S.used) ua uc::Zp 93 1 (Za S.gen) ga gc::Zp 93 1 (Za S.rel) ra rc::L) w:=Z
 refine Sz ?_
 replace Z:=St.exClose (f:=Xu s S) ⟨ua,uc,ga,gc,ra,rc⟩ Z
 replace Z:St g (XE s S::L) w:=Z
 refine Sz ?_
 exact⟨congrArg (Value.int .i64) (by rw[ZC];rfl),Z⟩
theorem DL(s:Nat)(S:SM)(hO:SOk S)(Z:St g (XE s S::L) w) :
  Zr g L 79 [.P s] w fun rV=>rV (.I S.free) [XE s S]:=by
 refine Sp.enter Tryz.func79 rfl (by kernel_rfl) (by kernel_rfl) ?_
 have hfr:=hO.fr;have hcp:S.cap=(S.used.length:Int)-1:=rfl;have hle:=hO.le;have hrl:=hO.rle
 obtain⟨⟨ua,uc,ga,gc,ra,rc⟩,Z⟩:=St.exOpen (f:=Xu s S) Z;have hbu:=ZC S.used;have hbg:=Zh S.gen;have hbr:=Zh S.rel
 replace Z:St g (Zq s #[.slice ua (Zk S.used).length uc,.slice ga (Za S.gen).length gc,.slice ra (Za S.rel).length rc,.W S.fresh] 323::Zp 4 1 (Zk S.used) ua uc::Zp 93 1 (Za S.gen) ga gc::Zp 93 1 (Za S.rel) ra rc::L) w:=Z
 refine Sz ?_
 refine Zsg [([0,5,8,1,9,2,10,3,11,4,12],some (6,[0,1,2,3,4,8,9,10,11,12])),([7,13,14],none)] ?_
 refine Qd fun w Z=>?_
 refine Zse (D7 _ ua ga ra (Zk S.used).length (Za S.gen).length (Za S.rel).length uc gc rc S.fresh (by omega) Z) fun w Z=>?_
 refine Qe fun w Z=>?_
 refine Sz ?_
 replace Z:=St.exClose (f:=Xu s S) ⟨ua,uc,ga,gc,ra,rc⟩ Z
 replace Z:St g (XE s S::L) w:=Z
 refine Sz ?_
 exact⟨congrArg (Value.int .i64) (by unfold SM.free;omega),Z⟩
theorem Ub(s:Nat)(S:SM)(i:Int)(hl:S.used.length≤65537)(hi:0≤i∧i<4294967296)(Z:St g (XE s S::L) w) :
  Zr g L 204 [.P s,.W i] w fun rV=>rV (.bool (S.ok i)) [XE s S]:=by
 refine Sp.enter Tryz.func204 rfl (by kernel_rfl) (by kernel_rfl) ?_
 have _:=hi
 have _:=hl
 obtain⟨⟨ua,uc,ga,gc,ra,rc⟩,Z⟩:=St.exOpen (f:=Xu s S) Z;have hbu:=ZC S.used;have hbg:=Zh S.gen;have hbr:=Zh S.rel
 replace Z:St g (Zq s #[.slice ua (Zk S.used).length uc,.slice ga (Za S.gen).length gc,.slice ra (Za S.rel).length rc,.W S.fresh] 323::Zp 4 1 (Zk S.used) ua uc::Zp 93 1 (Za S.gen) ga gc::Zp 93 1 (Za S.rel) ra rc::L) w:=Z
 refine Sz ?_
 by_cases cg1:i<(List.length (Zk S.used):Int)
 ·refine Zsf 13 (.bool true) (congrArg Value.bool (decide_eq_true cg1)) ?_
  obtain⟨x,hx⟩:∃x,S.used[i.toNat]?=some x:=⟨_,List.getElem?_eq_getElem (by omega)⟩
  refine Sz ?_
  refine Zsq rfl rfl (i:=i) (i.toNat) el_73 rfl rfl (by omega) (by omega) (Z.rdO 1 rfl (Zz hx)).1 ?_
  refine Sz ?_
  refine Zsv 1 [.bool x] rfl (by exact(Z.rdO 1 rfl (Zz hx)).2 0 _ rfl) ?_
  refine Sz ?_
  replace Z:=St.exClose (f:=Xu s S) ⟨ua,uc,ga,gc,ra,rc⟩ Z
  replace Z:St g (XE s S::L) w:=Z
  refine Sz ?_
  first|exact⟨congrArg Value.bool (by unfold SM.ok;rw[hx];rfl),Z⟩|exact⟨congrArg Value.bool (by unfold SM.ok;rw[List.getElem?_eq_none (by omega)];rfl),Z⟩
 refine Zsf 13 (.bool false) (congrArg Value.bool (decide_eq_false cg1)) ?_
 refine Sz ?_
 replace Z:=St.exClose (f:=Xu s S) ⟨ua,uc,ga,gc,ra,rc⟩ Z
 replace Z:St g (XE s S::L) w:=Z
 refine Sz ?_
 first|exact⟨congrArg Value.bool (by unfold SM.ok;rw[hx];rfl),Z⟩|exact⟨congrArg Value.bool (by unfold SM.ok;rw[List.getElem?_eq_none (by omega)];rfl),Z⟩
theorem Zju(s:Nat)(S:SM)(i:Int)(hl:S.gen.length≤65537)(hi:0≤i∧i<4294967296)(Z:St g (XE s S::L) w) :
  Zr g L 328 [.P s,.W i] w fun rV=>rV (.W (S.genOf i)) [XE s S]:=by
 refine Sp.enter Tryz.func328 rfl (by kernel_rfl) (by kernel_rfl) ?_
 have _:=hi
 have _:=hl
 obtain⟨⟨ua,uc,ga,gc,ra,rc⟩,Z⟩:=St.exOpen (f:=Xu s S) Z;have hbu:=ZC S.used;have hbg:=Zh S.gen;have hbr:=Zh S.rel
 replace Z:St g (Zq s #[.slice ua (Zk S.used).length uc,.slice ga (Za S.gen).length gc,.slice ra (Za S.rel).length rc,.W S.fresh] 323::Zp 4 1 (Zk S.used) ua uc::Zp 93 1 (Za S.gen) ga gc::Zp 93 1 (Za S.rel) ra rc::L) w:=Z
 refine Sz ?_
 refine Zsr rfl (fun cd1=>?_) (fun cd1=>?_)
 ·refine Sz ?_
  replace Z:=St.exClose (f:=Xu s S) ⟨ua,uc,ga,gc,ra,rc⟩ Z
  replace Z:St g (XE s S::L) w:=Z
  refine Sz ?_
  exact⟨congrArg (Value.int .u32) (by unfold SM.genOf;rw[List.getElem?_eq_none (by omega)];rfl),Z⟩
 obtain⟨x,hx⟩:∃x,S.gen[i.toNat]?=some x:=⟨_,List.getElem?_eq_getElem (by omega)⟩
 refine Sz ?_
 refine Zsq rfl rfl (i:=i) (i.toNat) el_70 rfl rfl (by omega) (by omega) (Z.rdO 2 rfl (Zn hx)).1 ?_
 refine Zsv 1 [.W x] rfl (by exact(Z.rdO 2 rfl (Zn hx)).2 0 _ rfl) ?_
 refine Sz ?_
 replace Z:=St.exClose (f:=Xu s S) ⟨ua,uc,ga,gc,ra,rc⟩ Z
 replace Z:St g (XE s S::L) w:=Z
 refine Sz ?_
 exact⟨congrArg (Value.int .u32) (by unfold SM.genOf;rw[hx];rfl),Z⟩
end Go.Proofs.YtpebgkkmgffmaaaGreatDoor
namespace Go.Proofs.YtpebgkkmgffmaaaGreatDoor
open Go Go.V
theorem DT{S:SM}(h:¬0≤(List.length (Za S.rel):Int)-1):S.rel=[]:=by
 rw[Zh] at h
 exact List.length_eq_zero_iff.1 (by omega)
variable{g w:World}{L:List HP}
theorem Xw{n s:Nat}{ua ga:Option Addr}{uc gc:Nat}(Z:St g (Zq s #[.slice ua (n+1) uc,.slice ga (n+1) gc,.N,.W 0] 323::Zp 4 1 (Zk (List.replicate (n+1) false)) ua uc::Zp 93 1 (Za (List.replicate (n+1) 0)) ga gc::Zp 93 1 [] none 0::L) w):St g (Xu s (SM.new n) ⟨ua,uc,ga,gc,none,0⟩++L) w:=by
 have e1:(Zk (SM.new n).used).length=n+1:=by simp[SM.new]
 have e2:(Za (SM.new n).gen).length=n+1:=by simp[SM.new]
 unfold Xu
 rw[e1,e2]
 exact Z
set_option maxHeartbeats 8000000
set_option maxRecDepth 8192
theorem Dk(cap:Int)(hc:1≤cap∧cap≤65536)(Z:St g (L) w) :
  Zr g L 75 [.I cap] w fun rV=>∃(s:Nat),rV (.tuple #[.P s,.I 0]) [XE s (SM.new cap.toNat)]:=by
 refine Sp.en Tryz.func75 ?_
 have _:=hc
 refine Ztd 3 rfl (fun j=>?_)
 refine Zsx 9 rfl (X2 (dd _) (dd _)) ?_
 refine Sz ?_
 refine Zsm rfl (decide_eq_false ((by omega))) ?_
 refine Zto (.two [0,3,1,4] 2 [3,4] (.one [] 5 [0,1] (.one [6] 7 [] (.seg [8,9] .nil))) 5 [0,1] (.one [] 2 [3,4] (.one [6] 7 [] (.seg [8,9] .nil)))) ?_
 refine Qz ?_
 refine Zta ?_
 intro m1
 replace Z:=Z.drewN m1;generalize hwm1:World.drewN _ _=w at *;clear hwm1
 refine⟨?_,?_⟩
 ·refine Zth rfl rfl (v:=cap+1) (v':=cap+1) (cap.toNat+1) (cap.toNat+1) el_73 Z rfl (by omega) rfl (by omega) (by omega) (Rm.of (by omega) (by decide)) (fun b1 w Z=>?_)
  replace Z:=Z.z
  refine Sz ?_
  refine Qd fun w Z=>?_
  refine Zth rfl rfl (v:=cap+1) (v':=cap+1) (cap.toNat+1) (cap.toNat+1) el_70 Z rfl (by omega) rfl (by omega) (by omega) (Rm.of (by omega) (by decide)) (fun b2 w Z=>?_)
  replace Z:=Z.z
  refine Sz ?_
  refine Ztj rfl rfl (cs:=[.slice (some ⟨b1,0,none⟩) (cap.toNat+1) (cap.toNat+1),.slice (some ⟨b2,0,none⟩) (cap.toNat+1) (cap.toNat+1),.N,.W 0]) zv_323.h rfl rfl ?_
  refine Qd fun w Z=>?_
  refine Zsp fun b3 w Z=>?_
  refine Qe fun w Z=>?_
  rw[Qh,XI] at Z
  refine Sz ?_
  first
  |(replace Z:St g (Zq b3 #[.slice (some ⟨b1,0,none⟩) (cap.toNat+1) (cap.toNat+1),.slice (some ⟨b2,0,none⟩) (cap.toNat+1) (cap.toNat+1),.N,.W 0] 323::Zp 4 1 (Zk (List.replicate (cap.toNat+1) false)) (some ⟨b1,0,none⟩) (cap.toNat+1)::Zp 93 1 (Za (List.replicate (cap.toNat+1) 0)) (some ⟨b2,0,none⟩) (cap.toNat+1)::Zp 93 1 [] none 0::L) w:=(Z.nil_ 93 1).sel 4 [1,2,1,0] rfl;replace Z:=St.exClose (f:=Xu b3 (SM.new cap.toNat)) ⟨some ⟨b1,0,none⟩,cap.toNat+1,some ⟨b2,0,none⟩,cap.toNat+1,none,0⟩ (Xw Z))
  |(replace Z:St g (Zq b3 #[.slice (some ⟨b2,0,none⟩) (cap.toNat+1) (cap.toNat+1),.slice (some ⟨b1,0,none⟩) (cap.toNat+1) (cap.toNat+1),.N,.W 0] 323::Zp 4 1 (Zk (List.replicate (cap.toNat+1) false)) (some ⟨b2,0,none⟩) (cap.toNat+1)::Zp 93 1 (Za (List.replicate (cap.toNat+1) 0)) (some ⟨b1,0,none⟩) (cap.toNat+1)::Zp 93 1 [] none 0::L) w:=(Z.nil_ 93 1).sel 4 [1,1,1,0] rfl;replace Z:=St.exClose (f:=Xu b3 (SM.new cap.toNat)) ⟨some ⟨b2,0,none⟩,cap.toNat+1,some ⟨b1,0,none⟩,cap.toNat+1,none,0⟩ (Xw Z))
  replace Z:St g (XE b3 (SM.new cap.toNat)::L) w:=Z
  refine Sz ?_
  exact⟨_,rfl,Z⟩
 refine Zth rfl rfl (v:=cap+1) (v':=cap+1) (cap.toNat+1) (cap.toNat+1) el_70 Z rfl (by omega) rfl (by omega) (by omega) (Rm.of (by omega) (by decide)) (fun b1 w Z=>?_)
 replace Z:=Z.z
 refine Sz ?_
 refine Qd fun w Z=>?_
 refine Zth rfl rfl (v:=cap+1) (v':=cap+1) (cap.toNat+1) (cap.toNat+1) el_73 Z rfl (by omega) rfl (by omega) (by omega) (Rm.of (by omega) (by decide)) (fun b2 w Z=>?_)
 replace Z:=Z.z
 refine Sz ?_
 refine Ztj rfl rfl (cs:=[.slice (some ⟨b2,0,none⟩) (cap.toNat+1) (cap.toNat+1),.slice (some ⟨b1,0,none⟩) (cap.toNat+1) (cap.toNat+1),.N,.W 0]) zv_323.h rfl rfl ?_
 refine Qd fun w Z=>?_
 refine Zsp fun b3 w Z=>?_
 refine Qe fun w Z=>?_
 rw[Qh,XI] at Z
 refine Sz ?_
 first
 |(replace Z:St g (Zq b3 #[.slice (some ⟨b1,0,none⟩) (cap.toNat+1) (cap.toNat+1),.slice (some ⟨b2,0,none⟩) (cap.toNat+1) (cap.toNat+1),.N,.W 0] 323::Zp 4 1 (Zk (List.replicate (cap.toNat+1) false)) (some ⟨b1,0,none⟩) (cap.toNat+1)::Zp 93 1 (Za (List.replicate (cap.toNat+1) 0)) (some ⟨b2,0,none⟩) (cap.toNat+1)::Zp 93 1 [] none 0::L) w:=(Z.nil_ 93 1).sel 4 [1,2,1,0] rfl;replace Z:=St.exClose (f:=Xu b3 (SM.new cap.toNat)) ⟨some ⟨b1,0,none⟩,cap.toNat+1,some ⟨b2,0,none⟩,cap.toNat+1,none,0⟩ (Xw Z))
 |(replace Z:St g (Zq b3 #[.slice (some ⟨b2,0,none⟩) (cap.toNat+1) (cap.toNat+1),.slice (some ⟨b1,0,none⟩) (cap.toNat+1) (cap.toNat+1),.N,.W 0] 323::Zp 4 1 (Zk (List.replicate (cap.toNat+1) false)) (some ⟨b2,0,none⟩) (cap.toNat+1)::Zp 93 1 (Za (List.replicate (cap.toNat+1) 0)) (some ⟨b1,0,none⟩) (cap.toNat+1)::Zp 93 1 [] none 0::L) w:=(Z.nil_ 93 1).sel 4 [1,1,1,0] rfl;replace Z:=St.exClose (f:=Xu b3 (SM.new cap.toNat)) ⟨some ⟨b2,0,none⟩,cap.toNat+1,some ⟨b1,0,none⟩,cap.toNat+1,none,0⟩ (Xw Z))
 replace Z:St g (XE b3 (SM.new cap.toNat)::L) w:=Z
 refine Sz ?_
 exact⟨_,rfl,Z⟩
theorem UF(s:Nat)(S:SM)(hO:SOk S)(hf:0<S.free)(Z:St g (XE s S::L) w) :
  Zr g L 249 [.P s] w fun rV=>rV (.tuple #[.W S.next,.I 0]) [XE s S.alloc]:=by
 refine Sp.en Tryz.func249 ?_
 refine Zse (DL _ _ (by assumption) Z) fun w Z=>?_
 refine Zs8 rfl (decide_eq_false ((by omega))) ?_
 refine Ztw<|Zsw<|WC.region ?_
 refine Sx ?_
 refine Zs9<|Zsw<|Zsw<|WC.region ?_
 have hfr:=hO.fr;have hcp:S.cap=(S.used.length:Int)-1:=rfl;have hle:=hO.cap;have hrl:=hO.rle;have hnx:=S.next_rng hO hf;have hgl:=hO.gl
 obtain⟨⟨ua,uc,ga,gc,ra,rc⟩,Z⟩:=St.exOpen (f:=Xu s S) Z;have hbu:=ZC S.used;have hbg:=Zh S.gen;have hbr:=Zh S.rel
 replace Z:St g (Zq s #[.slice ua (Zk S.used).length uc,.slice ga (Za S.gen).length gc,.slice ra (Za S.rel).length rc,.W S.fresh] 323::Zp 4 1 (Zk S.used) ua uc::Zp 93 1 (Za S.gen) ga gc::Zp 93 1 (Za S.rel) ra rc::L) w:=Z
 refine Sx ?_
 refine Zs9<|Zsw<|WC.region ?_
 refine Sx ?_
 refine Zs9<|Ztc [0,2,3] [4] [_,_,_,_] Z (fun vs jS=>∃(nx:Int)(rl:List Int)(fr:Int)(ra2:Option Addr)(rc2:Nat),vs=[.W nx]∧jS [Zq s #[.slice ua (Zk S.used).length uc,.slice ga (Za S.gen).length gc,.slice ra2 (Za rl).length rc2,.W fr] 323,Zp 4 1 (Zk S.used) ua uc,Zp 93 1 (Za S.gen) ga gc,Zp 93 1 (Za rl) ra2 rc2]∧(nx=S.next)∧(rl=S.alloc.rel)∧(fr=S.alloc.fresh)) rfl ?_ ?_
 ·refine Zsr rfl (fun cd1=>?_) (fun cd1=>?_)
  ·have hne:S.rel≠[]:=(fun e=>by have h9:=congrArg List.length e;rw[List.length_nil] at h9;omega);have hx:S.rel[S.rel.length-1]?=some S.next:=by rw[Ji hne];simp
   refine Sz ?_
   refine Zsq rfl rfl (i:=(List.length (Za S.rel):Int)-1) (S.rel.length-1) el_70 rfl rfl (by omega) (by omega) (Z.rdO 3 rfl (Zn hx)).1 ?_
   refine Zsv 1 [.W S.next] rfl (by exact(Z.rdO 3 rfl (Zn hx)).2 0 _ rfl) ?_
   refine Sz ?_
   refine Zuj rfl rfl (v:=(List.length (Za S.rel):Int)-1) 3 (S.rel.length-1) (Za (S.rel.take (S.rel.length-1))) el_70 Z rfl rfl rfl (by omega) (by omega) (JS _ _) (fun Z=>?_)
   replace Z:=Z.z
   refine Sz ?_
   refine Zss fun w Z=>?_
   exact⟨rfl,S.next,S.rel.take (S.rel.length-1),S.fresh,ra,rc,rfl,Z,rfl,(List.dropLast_eq_take (l:=S.rel)).symm,(if_neg hne).symm⟩
  refine Sz ?_
  refine Zss fun w Z=>?_
  exact⟨rfl,S.fresh+1,S.rel,S.fresh+1,ra,rc,rfl,Z,(SM.next_nil (DT cd1)).symm,(by show S.rel=S.rel.dropLast;rw[DT cd1];rfl),(if_pos (DT cd1)).symm⟩
 rintro _ w j ⟨nx,rl,fr,ra2,rc2,rfl,Z,hnx,hrl,hfr⟩
 replace Z:=Z.z
 obtain⟨u,hu⟩:∃u,S.used[nx.toNat]?=some u:=⟨_,List.getElem?_eq_getElem (by omega)⟩
 refine Sz ?_
 refine Zsq rfl rfl (i:=nx) (nx.toNat) el_73 rfl rfl (by omega) (by omega) (Z.rdO 1 rfl (Zz hu)).1 ?_
 refine Zs5 rfl rfl rfl 1 (nx.toNat) 0 [.bool u] (Zk (S.used.set nx.toNat true)) Z rfl (Zz hu) rfl rfl rfl rfl rfl (XS _ _ _) (fun w Z=>?_)
 replace Z:=Z.z
 obtain⟨v,hv⟩:∃v,S.gen[nx.toNat]?=some v:=⟨_,List.getElem?_eq_getElem (by omega)⟩
 refine Sz ?_
 refine Zsq rfl rfl (i:=nx) (nx.toNat) el_70 rfl rfl (by omega) (by omega) (Z.rdO 2 rfl (Zn hv)).1 ?_
 refine Zsv 1 [.W v] rfl (by exact(Z.rdO 2 rfl (Zn hv)).2 0 _ rfl) ?_
 refine Zso 1 rfl<|Zsf 57 (.W ((v+1)%4294967296)) (congrArg (Value.int .u32) (by rfl)) ?_
 refine Zsq rfl rfl (i:=nx) (nx.toNat) el_70 rfl rfl (by omega) (by omega) (Z.rdO 2 rfl (Zn hv)).1 ?_
 refine Zs5 rfl rfl rfl 2 (nx.toNat) 0 [.W v] (Za (S.gen.set nx.toNat ((v+1)%4294967296))) Z rfl (Zn hv) rfl rfl rfl rfl rfl (Zx _ _ _) (fun w Z=>?_)
 replace Z:=Z.z
 as_aux_lemma =>
 refine Sz ?_
 replace Z:=St.exClose (f:=Xu s S.alloc) ⟨ua,uc,ga,gc,ra2,rc2⟩ (by
  subst hnx;subst hrl;subst hfr
  have hge:S.genOf S.next=v:=by unfold SM.genOf;rw[hv];rfl
  have e1:(Zk S.alloc.used).length=(Zk S.used).length:=by simp[SM.alloc]
  have e2:(Za S.alloc.gen).length=(Za S.gen).length:=by simp[SM.alloc]
  have e3:S.alloc.gen=S.gen.set S.next.toNat ((v+1)%4294967296):=by rw[←hge];rfl
  unfold Xu
  rw[e1,e2,e3]
  exact Z)
 replace Z:St g (XE s S.alloc::L) w:=Z
 refine Sz ?_
 exact⟨by rw[hnx];rfl,Z⟩
theorem H1(s:Nat)(S:SM)(i:Int)(hO:SOk S)(hi:0≤i∧i<4294967296)(hn:S.ok i=true)(Z:St g (XE s S::L) w) :
  Zr g L 241 [.P s,.W i] w fun rV=>rV (.I 0) [XE s (S.release i)]:=by
 refine Sp.en Tryz.func241 ?_
 refine Zse (Ub _ _ i (by first|assumption|exact SOk.le (by assumption)) (by omega) Z) fun w Z=>?_
 refine Zs8 rfl (by rw[hn];decide) ?_
 have hrg:=SM.ok_rng hO hi.1 hn;have hrl:=hO.rle
 obtain⟨⟨ua,uc,ga,gc,ra,rc⟩,Z⟩:=St.exOpen (f:=Xu s S) Z;have hbu:=ZC S.used;have hbg:=Zh S.gen;have hbr:=Zh S.rel
 replace Z:St g (Zq s #[.slice ua (Zk S.used).length uc,.slice ga (Za S.gen).length gc,.slice ra (Za S.rel).length rc,.W S.fresh] 323::Zp 4 1 (Zk S.used) ua uc::Zp 93 1 (Za S.gen) ga gc::Zp 93 1 (Za S.rel) ra rc::L) w:=Z
 obtain⟨u,hu⟩:∃u,S.used[i.toNat]?=some u:=⟨_,List.getElem?_eq_getElem (by omega)⟩
 refine Sz ?_
 refine Zsq rfl rfl (i:=i) (i.toNat) el_73 rfl rfl (by omega) (by omega) (Z.rdO 1 rfl (Zz hu)).1 ?_
 refine Zs5 rfl rfl rfl 1 (i.toNat) 0 [.bool u] (Zk (S.used.set i.toNat false)) Z rfl (Zz hu) rfl rfl rfl rfl rfl (XS _ _ _) (fun w Z=>?_)
 replace Z:=Z.z
 refine Sz ?_
 refine Zs1 rfl rfl (Za [i]) el_70 Z (by exact⟨rfl,rfl⟩) (YY _) rfl (Nat.le_of_ble_eq_true rfl) (fun b1 w Z=>?_)
 refine Zs3 rfl rfl 4 (Za (S.rel++[i])) el_70 Z rfl (Z.srcO 0 rfl) (YM _ _).symm (Rm.of (by first|omega|(simp<;>omega)) (by decide)) rfl rfl (fun a1 c1 w Z=>?_)
 replace Z:=Z.z
 refine Sz ?_
 refine Zss fun w Z=>?_
 replace Z:=St.exClose (f:=Xu s (S.release i)) ⟨ua,uc,ga,gc,a1,c1⟩ (by
  have e1:(Zk (S.release i).used).length=(Zk S.used).length:=by simp[SM.release]
  unfold Xu
  rw[e1]
  exact Z.sel 5 [1,1,1,1] rfl)
 replace Z:St g (XE s (S.release i)::L) w:=Z
 refine Sz ?_
 exact⟨rfl,Z⟩
end Go.Proofs.YtpebgkkmgffmaaaGreatDoor
namespace Go.Proofs.YtpebgkkmgffmaaaGreatDoor
open Go Go.V
set_option maxHeartbeats 8000000
set_option maxRecDepth 8192
variable{g w:World}{L:List HP}
theorem Zey(i n:Int)(hi:0≤i∧i<4294967296)(hn:0≤n∧n<4294967296)(Z:St g (L) w) :
  Zr g L 374 [.W i,.W n] w fun rV=>rV (.U (n*4294967296+i)) []:=by
 refine Sp.enter Tryz.func374 rfl (by kernel_rfl) (by kernel_rfl) ?_
 refine Sy ?_
 refine Zur rfl rfl rfl (by omega) ?_
 refine Zso 1 rfl ?_
 refine Sy ?_
 refine Zur rfl rfl rfl (by omega) ?_
 refine Zso 1 rfl<|Zsf 10 (.U (n*4294967296+i)) (congrArg (Value.int .u64) (by exact Zmh hi hn)) ?_
 refine Sz ?_
 exact⟨rfl,Z⟩
theorem VF(h:Int)(hh:0≤h∧h≤18446744073709551615)(Z:St g (L) w) :
  Zr g L 371 [.U h] w fun rV=>rV (.tuple #[.W (h%4294967296),.W (h/4294967296)]) []:=by
 refine Sp.enter Tryz.func371 rfl (by kernel_rfl) (by kernel_rfl) ?_
 have _:=hh
 refine Sy ?_
 refine Zso 1 rfl<|Zsf 5 (.W (h%4294967296)) (congrArg (Value.int .u32) (by rfl)) ?_
 refine Sy ?_
 refine Zso 1 rfl<|Zsf 7 (.U (h/4294967296)) (congrArg (Value.int .u64) (by rfl)) ?_
 refine Zso 1 rfl<|Zsf 8 (.W (h/4294967296)) (congrArg (Value.int .u32) (by show(h/4294967296)%4294967296=h/4294967296;omega)) ?_
 refine Sz ?_
 exact⟨rfl,Z⟩
theorem hd0(t p:Nat)(S:SM)(va:Option Addr)(n vc:Nat)(i:Int)(hO:SOk S)(hi:0≤i∧i<4294967296)(Z:St g (Zq t #[.P p,.slice va n vc] 170::XE p S::L) w) :
  Zr g L 250 [.P t,.W i] w fun rV=>rV (.U (S.hd i)) [Zq t #[.P p,.slice va n vc] 170,XE p S]:=by
 refine Sp.en Tryz.func250 ?_
 have _:=hi
 have hg:=hO.gen_rng i
 refine Sz ?_
 refine Ztg (Zju _ _ i (by first|assumption|exact SOk.gle (by assumption)) (by omega) (Z.sel 2 [1,0] rfl)) fun w Z=>?_
 refine Zse (Zey i (S.genOf i) (by omega) (by first|omega|exact SOk.gen_rng (by assumption) _) Z) fun w Z=>?_
 replace Z:=(Z.sel 2 [1,0] rfl)
 exact⟨rfl,Z⟩
theorem ent0(t p:Nat)(S:SM)(va:Option Addr)(n vc:Nat)(h:Int)(hO:SOk S)(hh:0≤h∧h≤18446744073709551615)(Z:St g (Zq t #[.P p,.slice va n vc] 170::XE p S::L) w) :
  Zr g L 242 [.P t,.U h] w fun rV=>rV (.tuple #[.W (h%4294967296),.bool (S.opn h)]) [Zq t #[.P p,.slice va n vc] 170,XE p S]:=by
 refine Sp.en Tryz.func242 ?_
 have _:=hh
 have _:=hO
 refine Zse (VF h (by omega) Z) fun w Z=>?_
 refine Zse (Ub _ _ (h%4294967296) (by first|assumption|exact SOk.le (by assumption)) (by omega) (Z.sel 2 [1,0] rfl)) fun w Z=>?_
 by_cases cg1:(S.ok (h%4294967296))=true
 ·refine Zsf 20 (.bool true) (congrArg Value.bool cg1) ?_
  refine Sz ?_
  refine Zse (hd0 _ _ _ va n vc (h%4294967296) (by assumption) (by omega) (Z.sel 2 [1,0] rfl)) fun w Z=>?_
  first|exact⟨congrArg (fun b=>Value.tuple #[.W (h%4294967296),.bool b]) (by unfold SM.opn;rw[show S.ok (h%4294967296)=true from cg1];rfl),Z⟩|exact⟨congrArg (fun b=>Value.tuple #[.W (h%4294967296),.bool b]) (by unfold SM.opn;rw[Bool.eq_false_iff.2 cg1];rfl),Z⟩
 refine Zsf 20 (.bool false) (congrArg Value.bool (Bool.eq_false_iff.2 cg1)) ?_
 refine Sz ?_
 replace Z:=(Z.sel 2 [1,0] rfl)
 first|exact⟨congrArg (fun b=>Value.tuple #[.W (h%4294967296),.bool b]) (by unfold SM.opn;rw[show S.ok (h%4294967296)=true from cg1];rfl),Z⟩|exact⟨congrArg (fun b=>Value.tuple #[.W (h%4294967296),.bool b]) (by unfold SM.opn;rw[Bool.eq_false_iff.2 cg1];rfl),Z⟩
theorem H5(t:Nat)(T:TM)(h:Int)(hT:TOk T)(hh:0≤h∧h≤18446744073709551615)(hn:T.s.opn h=false)(Z:St g (Tbl t T::L) w) :
  Zr g L 210 [.P t,.U h] w fun rV=>rV (.tuple #[.W 0,.I 5]) [Tbl t T]:=by
 refine Sp.enter Tryz.func210 rfl (by kernel_rfl) (by kernel_rfl) ?_
 obtain⟨⟨p,va,vc⟩,Z⟩:=St.exOpen (f:=UO t T) Z;have hbv:=Zh T.vals;have hTs:=hT.s;have hvl:=hT.vl;have hcp:=hTs.cap
 replace Z:St g (Zq t #[.P p,.slice va (Za T.vals).length vc] 170::XE p T.s::Zp 93 1 (Za T.vals) va vc::L) w:=Z
 refine Sz ?_
 refine Zse (ent0 _ _ T.s va (Za T.vals).length vc h (by assumption) hh Z) fun w Z=>?_
 refine Zs0 rfl (by rw[hn];rfl) ?_
 replace Z:=St.exClose (f:=UO t T) ⟨p,va,vc⟩ Z
 replace Z:St g (Tbl t T::L) w:=Z
 refine Sz ?_
 exact⟨rfl,Z⟩
theorem CC(t:Nat)(T:TM)(h:Int)(hT:TOk T)(hh:0≤h∧h≤18446744073709551615)(hn:T.s.opn h=true)(Z:St g (Tbl t T::L) w) :
  Zr g L 210 [.P t,.U h] w fun rV=>rV (.tuple #[.W (T.val h),.I 0]) [Tbl t T]:=by
 refine Sp.enter Tryz.func210 rfl (by kernel_rfl) (by kernel_rfl) ?_
 obtain⟨⟨p,va,vc⟩,Z⟩:=St.exOpen (f:=UO t T) Z;have hbv:=Zh T.vals;have hTs:=hT.s;have hvl:=hT.vl;have hcp:=hTs.cap
 replace Z:St g (Zq t #[.P p,.slice va (Za T.vals).length vc] 170::XE p T.s::Zp 93 1 (Za T.vals) va vc::L) w:=Z
 refine Sz ?_
 refine Zse (ent0 _ _ T.s va (Za T.vals).length vc h (by assumption) hh Z) fun w Z=>?_
 refine Zs8 rfl (by rw[hn];decide) ?_
 have hrg:=SM.ok_rng hTs (by omega) (SM.opn_ok hn).1
 obtain⟨v,hv⟩:∃v,T.vals[(h%4294967296).toNat]?=some v:=⟨_,List.getElem?_eq_getElem (by omega)⟩
 refine Sz ?_
 refine Zsq rfl rfl (i:=h%4294967296) ((h%4294967296).toNat) el_70 rfl rfl (by omega) (by omega) (Z.rdO 2 rfl (Zn hv)).1 ?_
 refine Zsv 1 [.W v] rfl (by exact(Z.rdO 2 rfl (Zn hv)).2 0 _ rfl) ?_
 refine Sz ?_
 replace Z:=St.exClose (f:=UO t T) ⟨p,va,vc⟩ Z
 replace Z:St g (Tbl t T::L) w:=Z
 refine Sz ?_
 exact⟨by rw[TM.val,hv];rfl,Z⟩
theorem Zpg(t:Nat)(T:TM)(hT:TOk T)(Z:St g (Tbl t T::L) w) :
  Zr g L 86 [.P t] w fun rV=>rV (.I (T.s.cap-T.s.free)) [Tbl t T]:=by
 refine Sp.enter Tryz.func86 rfl (by kernel_rfl) (by kernel_rfl) ?_
 have hfr:=hT.s.fr;have hrl:=hT.s.rle;have hcp0:=hT.s.cap;have e1:T.s.cap=(T.s.used.length:Int)-1:=rfl;have e2:T.s.free=(T.s.rel.length:Int)+T.s.cap-T.s.fresh:=rfl
 obtain⟨⟨p,va,vc⟩,Z⟩:=St.exOpen (f:=UO t T) Z;have hbv:=Zh T.vals;have hTs:=hT.s;have hvl:=hT.vl;have hcp:=hTs.cap
 replace Z:St g (Zq t #[.P p,.slice va (Za T.vals).length vc] 170::XE p T.s::Zp 93 1 (Za T.vals) va vc::L) w:=Z
 refine Sz ?_
 refine Zsg [([0,5,1,6,2,7,3,8],some (4,[5,6,7,8])),([],some (9,[])),([10,11],none)] ?_
 refine Qd fun w Z=>?_
 refine Zse (Zir _ T.s (by first|assumption|exact SOk.le (by assumption)) (Z.sel 2 [1,0] rfl)) fun w Z=>?_
 refine Qd fun w Z=>?_
 refine Zse (DL _ T.s (by assumption) Z) fun w Z=>?_
 refine Qe fun w Z=>?_
 refine Sz ?_
 replace Z:=St.exClose (f:=UO t T) ⟨p,va,vc⟩ (by first|exact Z|exact Z.sel 3 [1,0,0] rfl)
 replace Z:St g (Tbl t T::L) w:=Z
 refine Sz ?_
 exact⟨rfl,Z⟩
theorem Zao(t:Nat)(T:TM)(y:Int)(hT:TOk T)(hf:0<T.s.free)(Z:St g (Tbl t T::L) w) :
  Zr g L 107 [.P t,.W y] w fun rV=>rV (.tuple #[.U T.newH,.I 0]) [Tbl t (T.open y)]:=by
 refine Sp.enter Tryz.func107 rfl (by kernel_rfl) (by kernel_rfl) ?_
 obtain⟨⟨p,va,vc⟩,Z⟩:=St.exOpen (f:=UO t T) Z;have hbv:=Zh T.vals;have hTs:=hT.s;have hvl:=hT.vl;have hcp:=hTs.cap
 replace Z:St g (Zq t #[.P p,.slice va (Za T.vals).length vc] 170::XE p T.s::Zp 93 1 (Za T.vals) va vc::L) w:=Z
 refine Sz ?_
 refine Zse (UF _ T.s (by assumption) hf (Z.sel 2 [1,0] rfl)) fun w Z=>?_
 have hnx:=T.s.next_rng hTs hf;have hO2:=SM.alloc_sok hTs hf
 obtain⟨u,hv⟩:∃u,T.vals[T.s.next.toNat]?=some u:=⟨_,List.getElem?_eq_getElem (by omega)⟩
 refine Sz ?_
 refine Zsq rfl rfl (i:=T.s.next) (T.s.next.toNat) el_70 rfl rfl (by omega) (by omega) (Z.rdO 2 rfl (Zn hv)).1 ?_
 refine Zs5 rfl rfl rfl 2 (T.s.next.toNat) 0 [.W u] (Za (T.vals.set T.s.next.toNat y)) Z rfl (Zn hv) rfl rfl rfl rfl rfl (Zx _ _ _) (fun w Z=>?_)
 replace Z:=Z.z
 refine Sz ?_
 refine Zse (hd0 _ _ T.s.alloc va (Za T.vals).length vc T.s.next (by assumption) (by omega) (Z.sel 2 [1,0] rfl)) fun w Z=>?_
 replace Z:=St.exClose (f:=UO t (T.open y)) ⟨p,va,vc⟩ (by
  have e1:(Za (T.open y).vals).length=(Za T.vals).length:=by simp[TM.open]
  unfold UO
  rw[e1]
  first|exact Z|exact Z.sel 3 [1,0,0] rfl)
 replace Z:St g (Tbl t (T.open y)::L) w:=Z
 refine Sz ?_
 exact⟨rfl,Z⟩
theorem Uw(cap:Int)(hc:1≤cap∧cap≤4096)(Z:St g (L) w) :
  Zr g L 28 [.I cap] w fun rV=>∃(t:Nat),rV (.tuple #[.P t,.I 0]) [Tbl t (TM.new cap.toNat)]:=by
 refine Sp.en Tryz.func28 ?_
 have _:=hc
 refine Ztd 3 rfl (fun j=>?_)
 refine Zsx 11 rfl (X2 (dd _) (dd _)) ?_
 refine Sz ?_
 refine Zsm rfl (decide_eq_false ((by omega))) ?_
 refine Zt7 (Dk cap (by omega) Z) fun w s1 Z=>?_
 refine Zth rfl rfl (v:=cap+1) (v':=cap+1) (cap.toNat+1) (cap.toNat+1) el_70 Z rfl (by omega) rfl (by omega) (by omega) (Rm.of (by omega) (by decide)) (fun b1 w Z=>?_)
 replace Z:=Z.z
 refine Zs4 rfl rfl (cs:=[.P s1,.slice (some ⟨b1,0,none⟩) (cap.toNat+1) (cap.toNat+1)]) zv_170.h rfl rfl<|Zub rfl rfl #[.P s1,.slice (some ⟨b1,0,none⟩) (cap.toNat+1) (cap.toNat+1)] Z rfl rfl (fun b2 w Z=>?_)
 rw[XI] at Z
 refine Sz ?_
 replace Z:=St.exClose (f:=UO b2 (TM.new cap.toNat)) ⟨s1,some ⟨b1,0,none⟩,cap.toNat+1⟩ (by
  have e1:(Za (TM.new cap.toNat).vals).length=cap.toNat+1:=by simp[TM.new]
  unfold UO
  rw[e1]
  exact Z.sel 3 [0,1,0] rfl)
 replace Z:St g (Tbl b2 (TM.new cap.toNat)::L) w:=Z
 refine Sz ?_
 exact⟨_,rfl,Z⟩
end Go.Proofs.YtpebgkkmgffmaaaGreatDoor
