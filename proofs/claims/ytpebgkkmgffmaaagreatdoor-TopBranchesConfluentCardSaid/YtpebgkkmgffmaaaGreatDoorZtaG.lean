/-
  What the proof of Jtb stands on, part 7.
  Conditions: none.
-/
import Derived.Test.YtpebgkkmgffmaaaGreatDoorZtaD
set_option maxRecDepth 8192
namespace Go.V
def gI(xs:List Int)(k:Nat):Int:=xs.getD k 0
theorem Zdq{xs:List Int}{k:Nat}{x:Int}(h:xs[k]?=some x):gI xs k=x:=by unfold gI;rw[List.getD_eq_getElem?_getD,h];rfl
theorem Vu{xs:List Int}{k:Nat}(h:k<xs.length):xs[k]?=some (gI xs k):=by unfold gI;rw[List.getD_eq_getElem?_getD,List.getElem?_eq_getElem h];rfl
def sw(i j:Nat)(xs:List Int):List Int:=(xs.set i (gI xs j)).set j (gI xs i)
theorem Ju(i j:Nat)(xs:List Int):(sw i j xs).length=xs.length:=by unfold sw;rw[List.length_set,List.length_set]
theorem Xs{xs:List Int}{i j:Nat}(hi:i<xs.length)(hj:j<xs.length)(k:Nat):gI (sw i j xs) k=if k=j then gI xs i else if k=i then gI xs j else gI xs k:=by
 unfold sw gI
 rw[List.getD_eq_getElem?_getD,List.getElem?_set,List.getElem?_set,List.length_set]
 by_cases h1:k=j
 ·subst h1;rw[if_pos rfl,if_pos rfl,if_pos hj];rfl
 rw[if_neg (fun e=>h1 e.symm),if_neg h1]
 by_cases h2:k=i
 ·subst h2;rw[if_pos rfl,if_pos rfl,if_pos hi];rfl
 rw[if_neg (fun e=>h2 e.symm),if_neg h2,List.getD_eq_getElem?_getD]
theorem Zc1{xs:List Int}{i j:Nat}(hi:i<xs.length)(hj:j<xs.length):(sw i j xs).Perm xs:=by
 have h:=Array.swap_perm (xs:=xs.toArray) (i:=i) (j:=j) (by simpa using hi) (by simpa using hj)
 rw[List.swap_toArray] at h
 replace h:=Array.perm_iff_toList_perm.1 h
 unfold sw
 rw[Zdq (List.getElem?_eq_getElem hi),Zdq (List.getElem?_eq_getElem hj)]
 exact h
structure Pm(a b:Nat)(xs ys:List Int):Prop where
 pm:ys.Perm xs
 out:∀k,k<a∨b≤k→gI ys k=gI xs k
 inn:∀k,a≤k→k<b→∃j,a≤j∧j<b∧gI ys k=gI xs j
theorem Pm.refl(a b:Nat)(xs:List Int):Pm a b xs xs:=⟨List.Perm.refl _,fun _ _=>rfl,fun k h1 h2=>⟨k,h1,h2,rfl⟩⟩
theorem Pm.len{a b:Nat}{xs ys:List Int}(h:Pm a b xs ys):ys.length=xs.length:=h.pm.length_eq
theorem Pm.trans{a b:Nat}{xs ys zs:List Int}(h:Pm a b xs ys)(k:Pm a b ys zs):Pm a b xs zs:=⟨k.pm.trans h.pm,fun i hi=>(k.out i hi).trans (h.out i hi),fun i h1 h2=>by
 obtain⟨j,j1,j2,e⟩:=k.inn i h1 h2
 obtain⟨l,l1,l2,e2⟩:=h.inn j j1 j2
 exact⟨l,l1,l2,e.trans e2⟩⟩
theorem Pm.up{a b c d:Nat}{xs ys:List Int}(h:Pm a b xs ys)(h1:c≤a)(h2:b≤d):Pm c d xs ys:=⟨h.pm,fun k hk=>h.out k (by omega),fun k k1 k2=>by
 by_cases hk:a≤k∧k<b
 ·obtain⟨j,j1,j2,e⟩:=h.inn k hk.1 hk.2
  exact⟨j,by omega,by omega,e⟩
 exact⟨k,k1,k2,h.out k (by omega)⟩⟩
theorem Pm.swap{a b i j:Nat}{xs:List Int}(h1:a≤i∧i<b)(h2:a≤j∧j<b)(hb:b≤xs.length):Pm a b xs (sw i j xs):=⟨Zc1 (by omega) (by omega),fun k hk=>by rw[Xs (by omega) (by omega),if_neg (by omega),if_neg (by omega)],fun k k1 k2=>by
 rw[Xs (by omega) (by omega)]
 by_cases e1:k=j
 ·exact⟨i,h1.1,h1.2,by rw[if_pos e1]⟩
 by_cases e2:k=i
 ·exact⟨j,h2.1,h2.2,by rw[if_neg e1,if_pos e2]⟩
 exact⟨k,k1,k2,by rw[if_neg e1,if_neg e2]⟩⟩
def Sd(a b:Nat)(xs:List Int):Prop:=∀i j,a≤i→i<j→j<b→gI xs i≤gI xs j
theorem Sd.snoc{a k:Nat}{xs:List Int}(h:Sd a k xs)(hk:a<k)(hl:¬gI xs k<gI xs (k-1)):Sd a (k+1) xs:=fun i j h1 h2 h3=>by
 by_cases e:j=k
 ·subst e
  by_cases e2:i=j-1
  ·rw[e2];omega
  have:=h i (j-1) h1 (by omega) (by omega);omega
 exact h i j h1 h2 (by omega)
def SdO(a b c d:Nat)(xs:List Int):Prop:=∀i j,a≤i→i<j→j<b→¬(c≤i∧j<d)→gI xs i≤gI xs j
theorem SdO.start(a b:Nat)(xs:List Int):SdO a b a b xs:=fun _ _ h1 _ h3 h=>absurd ⟨h1,h3⟩ h
theorem SdO.pm{a b c d:Nat}{xs ys:List Int}(h:SdO a b c d xs)(p:Pm c d xs ys)(h1:a≤c)(h2:d≤b):SdO a b c d ys:=fun i j hi hij hj hn=>by
 have f:∀k,∃l,gI ys k=gI xs l∧((c≤k∧k<d∧c≤l∧l<d)∨(¬(c≤k∧k<d)∧l=k)):=fun k=>by
  by_cases hk:c≤k∧k<d
  ·obtain⟨l,l1,l2,e⟩:=p.inn k hk.1 hk.2
   exact⟨l,e,.inl ⟨hk.1,hk.2,l1,l2⟩⟩
  exact⟨k,p.out k (by omega),.inr ⟨hk,rfl⟩⟩
 obtain⟨k,ek,hk⟩:=f i
 obtain⟨l,el,hl⟩:=f j
 rw[ek,el]
 exact h k l (by omega) (by omega) (by omega) (by omega)
theorem SdO.all{a b c d:Nat}{xs:List Int}(h:SdO a b c d xs)(s:Sd c d xs):Sd a b xs:=fun i j hi hij hj=>by
 by_cases hn:c≤i∧j<d
 ·exact s i j hn.1 hij hn.2
 exact h i j hi hij hj hn
def Ins(a n j:Nat)(xs:List Int):Prop:=∀p q,a≤p→p<q→q<n→q≠j→gI xs p≤gI xs q
theorem Ins.start{a i:Nat}{xs:List Int}(h:Sd a i xs):Ins a (i+1) i xs:=fun p q h1 h2 h3 h4=>h p q h1 h2 (by omega)
theorem Ins.step{a n j:Nat}{xs:List Int}(h:Ins a n (j+1) xs)(hj:j+1<n)(ha:a≤j)(hl:n≤xs.length)(hlt:gI xs (j+1)<gI xs j):Ins a n j (sw (j+1) j xs):=fun p q h1 h2 h3 h4=>by
 rw[Xs (by omega) (by omega),Xs (by omega) (by omega)]
 have k:=h p q h1 h2 h3
 have k1:=h p j h1
 have k2:=h j q ha
 by_cases e1:q=j+1
 ·subst e1
  rw[if_neg (show ¬j+1=j by omega),if_pos rfl]
  by_cases e2:p=j
  ·rw[if_pos e2];omega
  rw[if_neg e2,if_neg (by omega)];exact k1 (by omega) (by omega) (by omega)
 rw[if_neg h4,if_neg e1]
 by_cases e2:p=j
 ·subst e2
  rw[if_pos rfl]
  rcases Nat.lt_or_ge q (p+1) with e3|e3
  ·omega
  exact h (p+1) q (by omega) (by omega) h3 (by omega)
 rw[if_neg e2]
 by_cases e3:p=j+1
 ·rw[if_pos e3];exact k2 (by omega) h3 (by omega)
 rw[if_neg e3];exact k (by omega)
theorem Ins.end0{a n:Nat}{xs:List Int}(h:Ins a n a xs):Sd a n xs:=fun p q h1 h2 h3=>h p q h1 h2 h3 (by omega)
theorem Ins.end1{a n j:Nat}{xs:List Int}(h:Ins a n (j+1) xs)(_:a≤j)(hge:gI xs j≤gI xs (j+1)):Sd a n xs:=fun p q h1 h2 h3=>by
 by_cases e:q=j+1
 ·subst e
  by_cases e2:p=j
  ·rw[e2];exact hge
  have:=h p j h1 (by omega) (by omega) (by omega);omega
 exact h p q h1 h2 h3 e
theorem Ins.step2{a n j:Nat}{xs:List Int}(h:Ins a n j xs)(hj:j<n)(ha:a<j)(hl:n≤xs.length)(hlt:gI xs j<gI xs (j-1)):Ins a n (j-1) (sw j (j-1) xs):=by
 obtain⟨e,rfl⟩:∃e,j=e+1:=⟨j-1,by omega⟩
 exact h.step hj (by omega) hl hlt
theorem Ins.end2{a n j:Nat}{xs:List Int}(h:Ins a n j xs)(ha:a<j)(hge:gI xs (j-1)≤gI xs j):Sd a n xs:=by
 obtain⟨e,rfl⟩:∃e,j=e+1:=⟨j-1,by omega⟩
 exact h.end1 (by omega) hge
structure Hp2(f lo n r:Nat)(xs:List Int):Prop where
 kid:∀p c,lo≤p→p≠r→(c=2*p+1∨c=2*p+2)→c<n→gI xs (f+c)≤gI xs (f+p)
 skip:∀p c,lo≤p→(r=2*p+1∨r=2*p+2)→(c=2*r+1∨c=2*r+2)→c<n→gI xs (f+c)≤gI xs (f+p)
def Heap(f lo n:Nat)(xs:List Int):Prop:=∀p c,lo≤p→(c=2*p+1∨c=2*p+2)→c<n→gI xs (f+c)≤gI xs (f+p)
theorem Hp2.start{f lo n:Nat}{xs:List Int}(h:Heap f (lo+1) n xs):Hp2 f lo n lo xs:=⟨fun p c h1 h2 h3 h4=>h p c (by omega) h3 h4,fun p c h1 h2=>by omega⟩
theorem Hp2.done{f lo n r:Nat}{xs:List Int}(h:Hp2 f lo n r xs)(hr:∀c,(c=2*r+1∨c=2*r+2)→c<n→gI xs (f+c)≤gI xs (f+r)):Heap f lo n xs:=fun p c h1 h2 h3=>by
 by_cases e:p=r
 ·subst e;exact hr c h2 h3
 exact h.kid p c h1 e h2 h3
theorem Hp2.step{f lo n r k:Nat}{xs:List Int}(h:Hp2 f lo n r xs)(hl:lo≤r)(hk:k=2*r+1∨k=2*r+2)(hn:k<n)(hx:f+n≤xs.length)(hlt:gI xs (f+r)<gI xs (f+k))(hmax:∀c,(c=2*r+1∨c=2*r+2)→c<n→gI xs (f+c)≤gI xs (f+k)):Hp2 f lo n k (sw (f+r) (f+k) xs):=by
 have g:∀q,gI (sw (f+r) (f+k) xs) (f+q)=if q=k then gI xs (f+r) else if q=r then gI xs (f+k) else gI xs (f+q):=fun q=>by
  rw[Xs (by omega) (by omega)]
  by_cases e1:q=k
  ·rw[if_pos (by omega),if_pos e1]
  rw[if_neg (by omega),if_neg e1]
  by_cases e2:q=r
  ·rw[if_pos (by omega),if_pos e2]
  rw[if_neg (by omega),if_neg e2]
 refine⟨fun p c h1 h2 h3 h4=>?_,fun p c h1 h2 h3 h4=>?_⟩
 ·rw[g c,g p,if_neg h2]
  by_cases e1:p=r
  ·subst e1
   rw[if_pos rfl]
   by_cases e2:c=k
   ·rw[if_pos e2];omega
   rw[if_neg e2,if_neg (by omega)];exact hmax c h3 h4
  rw[if_neg e1]
  by_cases e2:c=k
  ·omega
  rw[if_neg e2]
  by_cases e3:c=r
  ·subst e3
   rw[if_pos rfl];exact h.skip p k h1 h3 hk hn
  rw[if_neg e3];exact h.kid p c h1 e1 h3 h4
 have e:p=r:=by omega
 subst e
 rw[g c,g p,if_neg (by omega),if_neg (by omega),if_neg (by omega),if_pos rfl]
 exact h.kid k c (by omega) (by omega) h3 h4
theorem Heap.top{f n:Nat}{xs:List Int}(h:Heap f 0 n xs):∀k,k<n→gI xs (f+k)≤gI xs f:=fun k=>by
 induction k using Nat.strongRecOn with
 |_ k ih =>
  intro hk
  by_cases e:k=0
  ·subst e;exact Int.le_refl _
  have h1:=h ((k-1)/2) k (Nat.zero_le _) (by omega) hk
  have h2:=ih ((k-1)/2) (by omega) (by omega)
  omega
theorem Heap.pop{f n:Nat}{xs:List Int}(h:Heap f 0 (n+1) xs)(hx:f+n+1≤xs.length):Heap f 1 n (sw f (f+n) xs):=fun p c h1 h2 h3=>by
 rw[Xs (by omega) (by omega),Xs (by omega) (by omega),if_neg (by omega),if_neg (by omega),if_neg (by omega),if_neg (by omega)]
 exact h p c (Nat.zero_le _) h2 (by omega)
theorem SdO.pop{a b n:Nat}{xs:List Int}(h:SdO a b a (a+n+1) xs)(hh:Heap a 0 (n+1) xs)(hb:a+n+1≤b)(hx:b≤xs.length):SdO a b a (a+n) (sw a (a+n) xs):=fun i j hi hij hj hn=>by
 rw[Xs (by omega) (by omega),Xs (by omega) (by omega)]
 have top:∀k,a≤k→k≤a+n→gI xs k≤gI xs a:=fun k h1 h2=>by
  have:=hh.top (k-a) (by omega)
  rwa[show a+(k-a)=k by omega] at this
 by_cases e1:j=a+n
 ·rw[if_pos e1,if_neg (by omega)]
  by_cases e2:i=a
  ·rw[if_pos e2];exact top (a+n) (by omega) (by omega)
  rw[if_neg e2];exact top i hi (by omega)
 rw[if_neg e1,if_neg (show ¬j=a by omega)]
 by_cases e3:i=a+n
 ·rw[if_pos e3];exact h a j (by omega) (by omega) hj (by omega)
 rw[if_neg e3]
 by_cases e2:i=a
 ·rw[if_pos e2];exact h (a+n) j (by omega) (by omega) hj (by omega)
 rw[if_neg e2];exact h i j hi hij hj (by omega)
theorem Zpu{n:Nat}{z:Int}(h0:1≤n)(h:z=(n:Int)-1)(hn:n≤1000):IntKind.i64.wrap (Int.tdiv z 2)=(((n+1)/2:Nat):Int)-1:=by
 cases n with
 |zero=>omega
 |succ n =>
  rw[h,Int.tdiv_eq_ediv_of_nonneg (by omega),Yf (by omega)]
  omega
theorem wq(k:Nat){n:Nat}(hn:n≤1000):IntKind.i64.wrap (Int.tdiv (n:Int) (k:Int))=((n/k:Nat):Int):=by
 have h1:Int.tdiv (n:Int) (k:Int)=((n/k:Nat):Int):=by
  rw[Int.tdiv_eq_ediv_of_nonneg (Int.natCast_nonneg _)]
  exact(Int.natCast_ediv n k).symm
 have h2:=Nat.div_le_self n k
 have h3:0≤((n/k:Nat):Int):=Int.natCast_nonneg _
 have h4:((n/k:Nat):Int)≤1000:=by
  have:n/k≤1000:=by omega
  exact Int.ofNat_le.2 this
 rw[h1]
 generalize((n/k:Nat):Int)=q at *
 exact Yf (by omega)
structure PtI(a b i j:Nat)(xs:List Int):Prop where
 lt:∀k,a<k→k<i→gI xs k≤gI xs a
 ge:∀k,j<k→k<b→gI xs a≤gI xs k
theorem PtI.start(a b:Nat)(xs:List Int)(_:a<b):PtI a b (a+1) (b-1) xs:=⟨fun k h1 h2=>by omega,fun k h1 h2=>by omega⟩
theorem PtI.up{a b i j:Nat}{xs:List Int}(h:PtI a b i j xs)(hl:gI xs i<gI xs a):PtI a b (i+1) j xs:=⟨fun k h1 h2=>by
 by_cases e:k=i
 ·rw[e];omega
 exact h.lt k h1 (by omega),h.ge⟩
theorem PtI.down{a b i j:Nat}{xs:List Int}(h:PtI a b i j xs)(hl:¬gI xs j<gI xs a):PtI a b i (j-1) xs:=⟨h.lt,fun k h1 h2=>by
 by_cases e:k=j
 ·rw[e];omega
 exact h.ge k (by omega) h2⟩
theorem PtI.swap{a b i j:Nat}{xs:List Int}(h:PtI a b i j xs)(hi:a<i)(hij:i≤j)(hj:j<b)(hb:b≤xs.length)(h1:¬gI xs i<gI xs a)(h2:¬¬gI xs j<gI xs a):i<j∧PtI a b (i+1) (j-1) (sw i j xs):=by
 have hne:i≠j:=fun e=>by subst e;exact h2 h1
 refine⟨by omega,fun k k1 k2=>?_,fun k k1 k2=>?_⟩
 ·rw[Xs (by omega) (by omega),Xs (by omega) (by omega),if_neg (by omega:¬a=j),if_neg (by omega:¬a=i),if_neg (by omega)]
  by_cases e:k=i
  ·rw[if_pos e];omega
  rw[if_neg e];exact h.lt k k1 (by omega)
 rw[Xs (by omega) (by omega),Xs (by omega) (by omega),if_neg (by omega:¬a=j),if_neg (by omega:¬a=i)]
 by_cases e:k=j
 ·rw[if_pos e];omega
 rw[if_neg e,if_neg (by omega)];exact h.ge k (by omega) k2
structure Ptn(a b m:Nat)(xs ys:List Int):Prop where
 pm:Pm a b xs ys
 mm:a≤m∧m<b
 lo:∀k,a≤k→k<m→gI ys k≤gI ys m
 hi:∀k,m<k→k<b→gI ys m≤gI ys k
theorem PtI.fin{a b i j:Nat}{xs zs:List Int}(h:PtI a b i j zs)(hp:Pm a b xs zs)(hij:i=j+1)(hi:a<i)(hj:j<b)(hb:b≤zs.length):Ptn a b j xs (sw j a zs):=by
 have e:∀k,gI (sw j a zs) k=if k=a then gI zs j else if k=j then gI zs a else gI zs k:=Xs (by omega) (by omega)
 have ej:gI (sw j a zs) j=gI zs a:=by
  rw[e]
  by_cases h1:j=a
  ·rw[if_pos h1,h1]
  rw[if_neg h1,if_pos rfl]
 refine⟨hp.trans (Pm.swap (by omega) (by omega) hb),by omega,fun k k1 k2=>?_,fun k k1 k2=>?_⟩
 ·rw[ej,e]
  by_cases h1:k=a
  ·rw[if_pos h1];exact h.lt j (by omega) (by omega)
  rw[if_neg h1,if_neg (by omega)];exact h.lt k (by omega) (by omega)
 rw[ej,e,if_neg (by omega),if_neg (by omega)];exact h.ge k k1 k2
structure PeI(a b i j:Nat)(xs:List Int):Prop where
 le:∀k,a≤k→k<i→gI xs k≤gI xs a
 gt:∀k,j<k→k<b→gI xs a≤gI xs k
theorem PeI.start(a b:Nat)(xs:List Int)(_:a<b):PeI a b (a+1) (b-1) xs:=⟨fun k h1 h2=>by rw[show k=a by omega];exact Int.le_refl _,fun k h1 h2=>by omega⟩
theorem PeI.up{a b i j:Nat}{xs:List Int}(h:PeI a b i j xs)(hl:¬gI xs a<gI xs i):PeI a b (i+1) j xs:=⟨fun k h1 h2=>by
 by_cases e:k=i
 ·rw[e];omega
 exact h.le k h1 (by omega),h.gt⟩
theorem PeI.down{a b i j:Nat}{xs:List Int}(h:PeI a b i j xs)(hl:gI xs a<gI xs j):PeI a b i (j-1) xs:=⟨h.le,fun k h1 h2=>by
 by_cases e:k=j
 ·rw[e];omega
 exact h.gt k (by omega) h2⟩
theorem PeI.swap{a b i j:Nat}{xs:List Int}(h:PeI a b i j xs)(hi:a<i)(hij:i≤j)(hj:j<b)(hb:b≤xs.length)(h1:¬¬gI xs a<gI xs i)(h2:¬gI xs a<gI xs j):i<j∧PeI a b (i+1) (j-1) (sw i j xs):=by
 have hne:i≠j:=fun e=>by subst e;exact h1 h2
 refine⟨by omega,fun k k1 k2=>?_,fun k k1 k2=>?_⟩
 ·rw[Xs (by omega) (by omega),Xs (by omega) (by omega),if_neg (by omega:¬a=j),if_neg (by omega:¬a=i),if_neg (by omega)]
  by_cases e:k=i
  ·rw[if_pos e];omega
  rw[if_neg e];exact h.le k k1 (by omega)
 rw[Xs (by omega) (by omega),Xs (by omega) (by omega),if_neg (by omega:¬a=j),if_neg (by omega:¬a=i)]
 by_cases e:k=j
 ·rw[if_pos e];omega
 rw[if_neg e,if_neg (by omega)];exact h.gt k (by omega) k2
structure Pte(a b m:Nat)(xs ys:List Int):Prop where
 pm:Pm a b xs ys
 mm:a<m∧m≤b
 lo:∀k l,a≤k→k<m→a≤l→l<b→gI ys k≤gI ys l
theorem PeI.fin2{a b i j:Nat}{xs zs:List Int}(h:PeI a b i j zs)(hp:Pm a b xs zs)(hi:a<i)(hb:i≤b)(_:i≤j+1)(hmin:∀k,a≤k→k<b→gI zs a≤gI zs k):Pte a b i xs zs :=
 ⟨hp,by omega,fun k l k1 k2 l1 l2=>by have h1:=h.le k k1 k2;have h2:=hmin l l1 l2;omega⟩
theorem PeI.fin{a b i j:Nat}{xs zs:List Int}(h:PeI a b i j zs)(hp:Pm a b xs zs)(hi:a<i)(hb:i≤b)(hmin:∀k,a≤k→k<b→gI zs a≤gI zs k):Pte a b i xs zs :=
 ⟨hp,by omega,fun k l k1 k2 l1 l2=>by have h1:=h.le k k1 k2;have h2:=hmin l l1 l2;omega⟩
structure Pdq(a b c d:Nat)(xs ys:List Int):Prop where
 pm:Pm a b xs ys
 so:SdO a b c d ys
 cd:a≤c∧c≤d∧d≤b
 fr:0<c→∀k,c≤k→k<d→gI ys (c-1)≤gI ys k
theorem Pdq.start{a b:Nat}{xs:List Int}(hab:a≤b)(h:0<a→∀k,a≤k→k<b→gI xs (a-1)≤gI xs k):Pdq a b a b xs xs:=⟨Pm.refl _ _ _,SdO.start _ _ _,by omega,h⟩
theorem Pdq.pmt{a b c d:Nat}{xs ys zs:List Int}(h:Pdq a b c d xs ys)(_:c≤d)(p:Pm c d ys zs):Pdq a b c d xs zs:=⟨h.pm.trans (p.up h.cd.1 h.cd.2.2),h.so.pm p h.cd.1 h.cd.2.2,h.cd,fun h0 k k1 k2=>by
 obtain⟨j,j1,j2,e⟩:=p.inn k k1 k2
 rw[p.out (c-1) (by omega),e]
 exact h.fr h0 j j1 j2⟩
theorem Pdq.fin{a b c d:Nat}{xs ys zs:List Int}(h:Pdq a b c d xs ys)(hc:c≤d)(p:Pm c d ys zs)(s:Sd c d zs):Pm a b xs zs∧Sd a b zs:=⟨(h.pmt hc p).pm,(h.pmt hc p).so.all s⟩
theorem Pdq.left{a b c d m:Nat}{xs ys zs us:List Int}(h:Pdq a b c d xs ys)(p:Ptn c d m ys zs)(q:Pm c m zs us)(s:Sd c m us):Pdq a b (m+1) d xs us:=by
 have h1:=(h.pmt (by have:=p.mm;omega) p.pm)
 have hm:=p.mm
 have hcd:=h.cd
 have f:∀k,c≤k→k≤m→gI us k≤gI us m:=fun k k1 k2=>by
  by_cases e:k=m
  ·rw[e];exact Int.le_refl _
  obtain⟨j,j1,j2,e2⟩:=q.inn k k1 (by omega)
  rw[e2,q.out m (by omega)];exact p.lo j j1 j2
 have f2:∀k,m<k→k<d→gI us m≤gI us k:=fun k k1 k2=>by
  rw[q.out m (by omega),q.out k (by omega)];exact p.hi k k1 k2
 have h2:=h1.pmt (by omega) (q.up (Nat.le_refl _) (by omega:m≤d))
 refine⟨h2.pm,fun i j i1 i2 i3 hn=>?_,by omega,fun _ k k1 k2=>by rw[Nat.add_sub_cancel];exact f2 k (by omega) k2⟩
 by_cases e:c≤i∧j<d
 ·by_cases e1:j≤m
  ·by_cases e2:j=m
   ·rw[e2];exact f i e.1 (by omega)
   exact s i j e.1 i2 (by omega)
  have h3:=f i e.1 (by omega)
  have h4:=f2 j (by omega) e.2
  omega
 exact h2.so i j i1 i2 i3 e
theorem Pdq.right{a b c d m:Nat}{xs ys zs us:List Int}(h:Pdq a b c d xs ys)(p:Ptn c d m ys zs)(q:Pm (m+1) d zs us)(s:Sd (m+1) d us):Pdq a b c m xs us:=by
 have h1:=(h.pmt (by have:=p.mm;omega) p.pm)
 have hm:=p.mm
 have hcd:=h.cd
 have f:∀k,c≤k→k<m→gI us k≤gI us m:=fun k k1 k2=>by
  rw[q.out m (by omega),q.out k (by omega)];exact p.lo k k1 k2
 have f2:∀k,m≤k→k<d→gI us m≤gI us k:=fun k k1 k2=>by
  by_cases e:k=m
  ·rw[e];exact Int.le_refl _
  obtain⟨j,j1,j2,e2⟩:=q.inn k (by omega) k2
  rw[e2,q.out m (by omega)];exact p.hi j (by omega) j2
 have h2:=h1.pmt (by omega) (q.up (by omega:c≤m+1) (Nat.le_refl _))
 refine⟨h2.pm,fun i j i1 i2 i3 hn=>?_,by omega,fun h0 k k1 k2=>h2.fr h0 k k1 (by omega)⟩
 by_cases e:c≤i∧j<d
 ·by_cases e1:i<m
  ·have h3:=f i e.1 e1
   have h4:=f2 j (by omega) e.2
   omega
  by_cases e2:i=m
  ·rw[e2];exact f2 j (by omega) e.2
  exact s i j (by omega) i2 e.2
 exact h2.so i j i1 i2 i3 e
theorem Pdq.equal{a b c d m:Nat}{xs ys zs:List Int}(h:Pdq a b c d xs ys)(p:Pte c d m ys zs):Pdq a b m d xs zs:=by
 have hm:=p.mm
 have hcd:=h.cd
 have h1:=(h.pmt (by omega) p.pm)
 refine⟨h1.pm,fun i j i1 i2 i3 hn=>?_,by omega,fun _ k k1 k2=>p.lo (m-1) k (by omega) (by omega) (by omega) k2⟩
 by_cases e:c≤i∧j<d
 ·exact p.lo i j e.1 (by omega) (by omega) e.2
 exact h1.so i j i1 i2 i3 e
def l8(x:Nat):Int:=if x=0 then 0 else(Nat.log2 x:Int)+1
theorem Zr4{T:List Int}(h:(List.range 50).all (fun y=>T[y]?==some (l8 y))=true){x:Nat}(hx:x<50):T[x]?=some (l8 x):=by
 have h1:=List.all_eq_true.1 h x (List.mem_range.2 hx)
 simpa using h1
theorem Zbq{x:Nat}(hx:x<50):0≤l8 x∧l8 x≤6∧(8≤x→(x:Int)<2^(l8 x).toNat∧(2:Int)^(l8 x).toNat≤2*x):=by
 have h:(List.range 50).all (fun y=>decide (0≤l8 y∧l8 y≤6∧(8≤y→(y:Int)<2^(l8 y).toNat∧(2:Int)^(l8 y).toNat≤2*y)))=true:=by decide
 exact of_decide_eq_true (List.all_eq_true.1 h x (List.mem_range.2 hx))
theorem U2{y m:Int}(h1:0≤y∧y≤18446744073709551615)(h2:0≤m∧m≤18446744073709551615):0≤UI .and .u64 y m∧UI .and .u64 y m≤m:=by
 rw[Zr0 (by omega) (by simp[IntKind.bits];omega) (by omega) (by simp[IntKind.bits];omega)]
 have h3:y.toNat &&& m.toNat≤m.toNat:=Nat.and_le_right
 rw[V' (by omega)];omega
theorem Zl2(x y:Int):0≤UI .xor .u64 x y∧UI .xor .u64 x y≤18446744073709551615:=by
 show 0≤IntKind.u64.wrap _∧IntKind.u64.wrap _≤_
 rw[Zja];omega
end Go.V
namespace Go.Proofs.YtpebgkkmgffmaaaGreatDoor
open Go Go.V Go.RowKit
theorem Zb{xs:List Int}{k:Nat}(h:k<xs.length):(Za xs)[k]?=some [.W (gI xs k)]:=Zn (Vu h)
set_option maxHeartbeats 8000000
set_option maxRecDepth 8192
variable{g w:World}{L:List HP}
theorem nan_u(x:Int)(Z:St g (L) w) :
  Zr g L 423 [.W x] w fun rV=>rV (.bool false) []:=by
 refine Sp.en Tryz.func423 ?_
 exact⟨congrArg Value.bool (decide_eq_false (fun h=>h rfl)),Z⟩
theorem Xo(x y:Int)(Z:St g (L) w) :
  Zr g L 322 [.W x,.W y] w fun rV=>rV (.bool (decide (x<y))) []:=by
 refine Sp.en Tryz.func322 ?_
 refine Zse (nan_u x Z) fun w Z=>?_
 exact⟨rfl,Z⟩
theorem ins_u(xs:List Int)(u:Option Addr)(nn d:Nat)(a b:Nat)(hab:a≤b)(hb:b≤xs.length)(hl:xs.length≤1000)(hnn:xs.length=nn)(Z:St g (Zp 93 1 (Za xs) u d::L) w) :
  Cp g L 316 [.slice u nn d,.I (a:Int),.I (b:Int)] w fun rV=>∃(ys:List Int),rV (.tuple #[]) [Zp 93 1 (Za ys) u d] (Pm a b xs ys∧Sd a b ys):=by
 refine Sp.en Tryz.func316 ?_
 have _:=hnn
 have _:=hl
 have _:=hb
 have _:=hab
 have hxl:=Zh xs
 refine Sz ?_
 refine Zst [0,1,2] [6] (fun kM vs jS=>∃(i:Nat)(ys:List Int),vs=[.I (i:Int)]∧jS [Zp 93 1 (Za ys) u d]∧(a+1≤i)∧(i≤b∨i=a+1)∧(Pm a b xs ys)∧(Sd a i ys)∧(b+1-i)=kM) rfl ⟨a+1,xs,rfl,Z,(Nat.le_refl _),(.inr rfl),(Pm.refl _ _ _),(fun p q h1 h2 h3=>by omega),rfl⟩ ?_
 rintro _ _ w j ⟨i,ys,rfl,Z,hi,hib,hp,hsd,rfl⟩
 replace Z:=Z.z
 have hxl:=Zh xs
 refine Sz ?_
 refine Zsr rfl (fun cd1=>?_) (fun cd1=>?_)
 ·have hyl:=hp.len
  refine Sz ?_
  refine Zst [0,1,2,6,10,11,12,15] [7] (fun kM vs jS=>∃(j:Nat)(zs:List Int),vs=[.I (j:Int)]∧jS [Zp 93 1 (Za zs) u d]∧(a≤j∧j≤i)∧(Pm a b xs zs)∧(Ins a (i+1) j zs)∧(j)=kM) rfl ⟨i,ys,rfl,Z,(by omega),hp,(Ins.start hsd),rfl⟩ ?_
  rintro _ _ w j ⟨j,zs,rfl,Z,hj,hq,hin,rfl⟩
  replace Z:=Z.z
  refine Sz ?_
  refine Zsg [([0,1,2,3,4,5,8,9,6,10,7,11,12],some (13,[])),([14],none)] ?_
  refine Qz ?_
  by_cases cg1:(a:Int)<(j:Int)
  ·refine Zsu 19 (.bool true) (congrArg Value.bool (decide_eq_true cg1))<|Zti rfl rfl rfl<|Ztf 1 rfl<|Zti rfl rfl rfl<|Ztf 1 rfl<|Zti rfl rfl rfl<|Ztf 1 rfl<|Zti rfl rfl rfl<|Ztf 1 rfl<|Zti rfl rfl rfl ?_
   have hzl:=hq.len
   refine Zsj rfl rfl (i:=(j:Int)) (j) el_70 rfl rfl (by omega) (show j<nn by omega) (Z.rdO 0 rfl (Zb (k:=j) (by omega))).1 ?_
   refine Zti rfl rfl rfl<|Ztf 1 rfl<|Zsu 26 (.I ((j:Int)-1)) (congrArg (Value.int .i64) (by exact Yf (by omega))) ?_
   refine Zti rfl rfl rfl<|Zsn 1 [.W (gI zs j)] rfl (by exact(Z.rdO 0 rfl (Zb (k:=j) (by omega))).2 0 _ rfl) ?_
   refine Zti rfl rfl rfl<|Zsj rfl rfl (i:=(j:Int)-1) (j-1) el_70 rfl rfl (by omega) (show j-1<nn by omega) (Z.rdO 0 rfl (Zb (k:=j-1) (by omega))).1 ?_
   refine Zti rfl rfl rfl<|Zsn 1 [.W (gI zs (j-1))] rfl (by exact(Z.rdO 0 rfl (Zb (k:=j-1) (by omega))).2 0 _ rfl) ?_
   refine WQ.dn Z (fun w Z=>?_)
   refine Sz ?_
   refine Zse (Xo (gI zs j) (gI zs (j-1)) Z) fun w Z=>?_
   refine Qd fun w Z=>?_
   as_aux_lemma =>
   refine Zsr rfl (fun cd2=>?_) (fun cd2=>?_)
   ·refine Sz ?_
    refine Zsg [([0,1,2,3,5,6,10,11,4,7,12,8,13,9,14],some (15,[2,3,4])),([16],some (17,[]))] ?_
    refine Qz ?_
    refine Zsj rfl rfl (i:=(j:Int)) (j) el_70 rfl rfl (by omega) (show j<nn by omega) (Z.rdO 0 rfl (Zb (k:=j) (by omega))).1 ?_
    refine Zsj rfl rfl (i:=(j:Int)-1) (j-1) el_70 rfl rfl (by omega) (show j-1<nn by omega) (Z.rdO 0 rfl (Zb (k:=j-1) (by omega))).1 ?_
    refine Zsn 1 [.W (gI zs j)] rfl (by exact(Z.rdO 0 rfl (Zb (k:=j) (by omega))).2 0 _ rfl) ?_
    refine Zsn 1 [.W (gI zs (j-1))] rfl (by exact(Z.rdO 0 rfl (Zb (k:=j-1) (by omega))).2 0 _ rfl) ?_
    refine Zsj rfl rfl (i:=(j:Int)) (j) el_70 rfl rfl (by omega) (show j<nn by omega) (Z.rdO 0 rfl (Zb (k:=j) (by omega))).1 ?_
    refine Qd fun w Z=>?_
    refine Zs5 rfl rfl rfl 0 (j) 0 [.W (gI zs j)] (Za (zs.set (j) (gI zs (j-1)))) Z rfl (Zb (k:=j) (by omega)) rfl rfl rfl rfl rfl (Zx _ _ _) (fun w Z=>?_)
    replace Z:=Z.z
    refine Sz ?_
    refine Zsj rfl rfl (i:=(j:Int)-1) (j-1) el_70 rfl rfl (by omega) (show j-1<nn by omega) (Z.rdO 0 rfl (Zb (k:=j-1) (by rw[List.length_set];omega))).1 ?_
    refine Qd fun w Z=>?_
    refine Zs5 rfl rfl rfl 0 (j-1) 0 [.W (gI (zs.set j (gI zs (j-1))) (j-1))] (Za (sw (j) (j-1) zs)) Z rfl (Zb (k:=j-1) (by rw[List.length_set];omega)) rfl rfl rfl rfl rfl (Zx _ _ _) (fun w Z=>?_)
    replace Z:=Z.z
    refine Sz ?_
    refine Qe fun w Z=>?_
    refine Sy ?_
    refine Zso 1 rfl<|Zsf 32 (.I ((j-1:Nat):Int)) (congrArg (Value.int .i64) (by rw[Yf (by omega)];omega)) ?_
    refine Sz ?_
    exact⟨_,by omega,rfl,j-1,sw j (j-1) zs,rfl,Z,(by omega),(hq.trans (Pm.swap (by omega) (by omega) (by omega))),(hin.step2 (by omega) (by omega) (by omega) cd2),rfl⟩
   have hxl:=Zh xs
   refine Sz ?_
   exact⟨_,by omega,rfl,i+1,zs,rfl,Z,(by omega),(.inl (by omega)),hq,(hin.end2 (by omega) (by omega)),rfl⟩
  refine Zsu 19 (.bool false) (congrArg Value.bool (decide_eq_false cg1)) ?_
  refine Qd fun w Z=>?_
  refine Qd fun w Z=>?_
  as_aux_lemma =>
  have hxl:=Zh xs
  refine Sz ?_
  exact⟨_,by omega,rfl,i+1,zs,rfl,Z,(by omega),(.inl (by omega)),hq,(Ins.end0 (by have e9:j=a:=(by omega);rw[←e9];rw[←e9] at hin;exact hin)),rfl⟩
 refine Sz ?_
 exact⟨_,rfl,Z,hp,fun p q h1 h2 h3=>hsd p q h1 h2 (by omega)⟩
theorem Zd4{f r hi:Nat}{zs:List Int}{bb:Bool}(_:2*r+1<hi)(hbb:bb=true↔2*r+1+1<hi∧gI zs (f+(2*r+1))<gI zs (f+(2*r+1)+1))(q:Nat)(hq:q=2*r+1∨q=2*r+2)(hn:q<hi):gI zs (f+q)≤gI zs (f+(if bb=true then 2*r+2 else 2*r+1)):=by
 by_cases hb:bb=true
 ·rw[if_pos hb]
  rcases hq with rfl|rfl
  ·exact Int.le_of_lt (hbb.1 hb).2
  exact Int.le_refl _
 rw[if_neg hb]
 rcases hq with rfl|rfl
 ·exact Int.le_refl _
 exact Int.not_lt.1 fun h=>hb (hbb.2 ⟨by omega,h⟩)
theorem Zjb(xs:List Int)(u:Option Addr)(nn d:Nat)(lo hi f:Nat)(hx:f+hi≤xs.length)(hl:xs.length≤1000)(hnn:xs.length=nn)(hlo:lo≤hi)(hh:Heap f (lo+1) hi xs)(Z:St g (Zp 93 1 (Za xs) u d::L) w) :
  Cp g L 418 [.slice u nn d,.I (lo:Int),.I (hi:Int),.I (f:Int)] w fun rV=>∃(ys:List Int),rV (.tuple #[]) [Zp 93 1 (Za ys) u d] (Pm f (f+hi) xs ys∧Heap f lo hi ys):=by
 refine Sp.en Tryz.func418 ?_
 have _:=hlo
 have _:=hnn
 have _:=hl
 have _:=hx
 have hxl:=Zh xs
 refine Sz ?_
 refine Zst [0,2,3] [8] (fun kM vs jS=>∃(r:Nat)(zs:List Int),vs=[.I (r:Int)]∧jS [Zp 93 1 (Za zs) u d]∧(lo≤r∧r≤hi)∧(Pm f (f+hi) xs zs)∧(Hp2 f lo hi r zs)∧(hi-r)=kM) rfl ⟨lo,xs,rfl,Z,(by omega),(Pm.refl _ _ _),(Hp2.start hh),rfl⟩ ?_
 rintro _ _ w j ⟨r,zs,rfl,Z,hr,hq,hk,rfl⟩
 replace Z:=Z.z
 refine Sy ?_
 have hzl:=hq.len
 refine Zso 1 rfl<|Zsf 12 (.I ((2*r:Nat):Int)) (congrArg (Value.int .i64) (by rw[Yf (by omega)];omega)) ?_
 refine Zso 1 rfl<|Zsf 13 (.I ((2*r+1:Nat):Int)) (congrArg (Value.int .i64) (by rw[Yf (by omega)];omega)) ?_
 refine Sz ?_
 refine Zsr rfl (fun hch=>?_) (fun hch=>?_)
 ·refine Sz ?_
  exact⟨_,rfl,Z,hq,hk.done (fun q h1 h2=>by omega)⟩
 refine Ztw<|Zsw<|Zsw<|Ztc [0,2,3,8,9,11,12,13,14,15,16] [36] [] Z (fun vs jS=>∃(bb:Bool),vs=[.bool bb]∧jS []∧(bb=true↔2*r+1+1<hi∧gI zs (f+(2*r+1))<gI zs (f+(2*r+1)+1))) rfl ?_ ?_
 ·refine Zsg [([0,2,1,3,4,5,6,7,11,12,13,8,14,9,15,10,16,17],some (18,[])),([19],none)] ?_
  refine Qz ?_
  by_cases cg1:(((2*r+1:Nat):Int)+1)<(hi:Int)
  ·refine Zsu 21 (.bool true) (congrArg Value.bool (decide_eq_true cg1)) ?_
   refine Qz ?_
   refine Zsj rfl rfl (i:=(f:Int)+((2*r+1:Nat):Int)) (f+(2*r+1)) el_70 rfl rfl (by omega) (show f+(2*r+1)<nn by omega) (Z.rdO 0 rfl (Zb (k:=f+(2*r+1)) (by omega))).1 ?_
   refine Qz ?_
   refine Zsn 1 [.W (gI zs (f+(2*r+1)))] rfl (by exact(Z.rdO 0 rfl (Zb (k:=f+(2*r+1)) (by omega))).2 0 _ rfl) ?_
   refine Qz ?_
   refine Zsj rfl rfl (i:=((f:Int)+((2*r+1:Nat):Int))+1) (f+(2*r+1)+1) el_70 rfl rfl (by omega) (show f+(2*r+1)+1<nn by omega) (Z.rdO 0 rfl (Zb (k:=f+(2*r+1)+1) (by omega))).1 ?_
   refine Qz ?_
   refine Zsn 1 [.W (gI zs (f+(2*r+1)+1))] rfl (by exact(Z.rdO 0 rfl (Zb (k:=f+(2*r+1)+1) (by omega))).2 0 _ rfl) ?_
   refine Qd fun w Z=>?_
   refine Zse (Xo (gI zs (f+(2*r+1))) (gI zs (f+(2*r+1)+1)) Z) fun w Z=>?_
   refine Qd fun w Z=>?_
   exact⟨rfl,(decide (gI zs (f+(2*r+1))<gI zs (f+(2*r+1)+1))),rfl,Z,(by rw[decide_eq_true_iff];omega)⟩
  refine Zsu 21 (.bool false) (congrArg Value.bool (decide_eq_false cg1)) ?_
  refine Qd fun w Z=>?_
  refine Qd fun w Z=>?_
  exact⟨rfl,false,rfl,Z,(by simp;omega)⟩
 rintro _ w j ⟨bb,rfl,Z,hbb⟩
 replace Z:=Z.z
 refine Ztc [0,2,3,8,11,12,13,14,15,16,36] [9] [] Z (fun vs jS=>∃(c:Nat),vs=[.I (c:Int)]∧jS []∧((c=2*r+1∨c=2*r+2)∧c<hi)∧(∀q,(q=2*r+1∨q=2*r+2)→q<hi→gI zs (f+q)≤gI zs (f+c))) rfl ?_ ?_
 ·refine Ztm rfl (fun cd1=>?_) (fun cd1=>?_)
  ·refine Sy ?_
   refine Zso 1 rfl<|Zsf 38 (.I ((2*r+2:Nat):Int)) (congrArg (Value.int .i64) (by rw[Yf (by omega)];omega)) ?_
   refine Sz ?_
   exact⟨rfl,2*r+2,rfl,Z,(by have h9:=hbb.1 cd1;omega),(fun q h1 h2=>by have h9:=Zd4 (by omega) hbb q h1 h2;rwa[if_pos cd1] at h9)⟩
  refine Sz ?_
  exact⟨rfl,2*r+1,rfl,Z,(by omega),(fun q h1 h2=>by have h9:=Zd4 (by omega) hbb q h1 h2;rw[cd1,if_neg Bool.false_ne_true] at h9;exact h9)⟩
 rintro _ w j ⟨c,rfl,Z,hc,hcm⟩
 replace Z:=Z.z
 refine Sz ?_
 refine Zsg [([0,1,2,6,7,8,3,9,4,10,5,11],some (12,[])),([13],none)] ?_
 refine Qz ?_
 refine Zsj rfl rfl (i:=(f:Int)+(r:Int)) (f+r) el_70 rfl rfl (by omega) (show f+r<nn by omega) (Z.rdO 0 rfl (Zb (k:=f+r) (by omega))).1 ?_
 refine Zsj rfl rfl (i:=(f:Int)+(c:Int)) (f+c) el_70 rfl rfl (by omega) (show f+c<nn by omega) (Z.rdO 0 rfl (Zb (k:=f+c) (by omega))).1 ?_
 refine Zsn 1 [.W (gI zs (f+r))] rfl (by exact(Z.rdO 0 rfl (Zb (k:=f+r) (by omega))).2 0 _ rfl) ?_
 refine Zsn 1 [.W (gI zs (f+c))] rfl (by exact(Z.rdO 0 rfl (Zb (k:=f+c) (by omega))).2 0 _ rfl) ?_
 refine Qd fun w Z=>?_
 refine Zse (Xo (gI zs (f+r)) (gI zs (f+c)) Z) fun w Z=>?_
 refine Qd fun w Z=>?_
 as_aux_lemma =>
 refine Zsi (fun hls=>?_) fun hls=>?_
 ·exact⟨_,rfl,Z,hq,hk.done (fun q h1 h2=>by have h8:=hcm q h1 h2;omega)⟩
 refine Zsg [([0,1,2,4,5,6,8,9,10,14,15,16,3,7,11,17,12,18,13,19,20],some (21,[4,5,6,7])),([22],some (23,[]))] ?_
 refine Qz ?_
 refine Zsj rfl rfl (i:=(f:Int)+(c:Int)) (f+c) el_70 rfl rfl (by omega) (show f+c<nn by omega) (Z.rdO 0 rfl (Zb (k:=f+c) (by omega))).1 ?_
 refine Zsj rfl rfl (i:=(f:Int)+(r:Int)) (f+r) el_70 rfl rfl (by omega) (show f+r<nn by omega) (Z.rdO 0 rfl (Zb (k:=f+r) (by omega))).1 ?_
 refine Zsn 1 [.W (gI zs (f+c))] rfl (by exact(Z.rdO 0 rfl (Zb (k:=f+c) (by omega))).2 0 _ rfl) ?_
 refine Zsn 1 [.W (gI zs (f+r))] rfl (by exact(Z.rdO 0 rfl (Zb (k:=f+r) (by omega))).2 0 _ rfl) ?_
 refine Zsj rfl rfl (i:=(f:Int)+(r:Int)) (f+r) el_70 rfl rfl (by omega) (show f+r<nn by omega) (Z.rdO 0 rfl (Zb (k:=f+r) (by omega))).1 ?_
 refine Qd fun w Z=>?_
 refine Zs5 rfl rfl rfl 0 (f+r) 0 [.W (gI zs (f+r))] (Za (zs.set (f+r) (gI zs (f+c)))) Z rfl (Zb (k:=f+r) (by omega)) rfl rfl rfl rfl rfl (Zx _ _ _) (fun w Z=>?_)
 replace Z:=Z.z
 refine Sz ?_
 refine Zsj rfl rfl (i:=(f:Int)+(c:Int)) (f+c) el_70 rfl rfl (by omega) (show f+c<nn by omega) (Z.rdO 0 rfl (Zb (k:=f+c) (by rw[List.length_set];omega))).1 ?_
 refine Qd fun w Z=>?_
 refine Zs5 rfl rfl rfl 0 (f+c) 0 [.W (gI (zs.set (f+r) (gI zs (f+c))) (f+c))] (Za (sw (f+r) (f+c) zs)) Z rfl (Zb (k:=f+c) (by rw[List.length_set];omega)) rfl rfl rfl rfl rfl (Zx _ _ _) (fun w Z=>?_)
 replace Z:=Z.z
 refine Sz ?_
 refine Qd fun w Z=>?_
 exact⟨_,by omega,rfl,c,sw (f+r) (f+c) zs,rfl,Z,(by omega),(hq.trans (Pm.swap (by omega) (by omega) (by omega))),(hk.step (by omega) hc.1 hc.2 (by omega) (by omega) hcm),rfl⟩
theorem Zqm(xs:List Int)(u:Option Addr)(nn d:Nat)(a b:Nat)(hab:a<b)(hb:b≤xs.length)(hl:xs.length≤1000)(hnn:xs.length=nn)(Z:St g (Zp 93 1 (Za xs) u d::L) w) :
  Cp g L 317 [.slice u nn d,.I (a:Int),.I (b:Int)] w fun rV=>∃(ys:List Int),rV (.tuple #[]) [Zp 93 1 (Za ys) u d] (Pm a b xs ys∧Sd a b ys):=by
 refine Sp.enter Tryz.func317 rfl (by kernel_rfl) (by kernel_rfl) ?_
 have _:=hnn
 have _:=hl
 have _:=hb
 have _:=hab
 refine Sy ?_
 have hxl:=Zh xs
 refine Zso 1 rfl<|Zsf 14 (.I ((b-a:Nat):Int)) (congrArg (Value.int .i64) (by rw[Yf (by omega)];omega)) ?_
 refine Sy ?_
 refine Zt3 rfl rfl rfl (by omega) ?_
 refine Zso 1 rfl<|Zsf 17 (.I (((((b-a)+1)/2:Nat):Int)-1)) (congrArg (Value.int .i64) (by exact Zpu (by omega) (by omega) (by omega))) ?_
 refine Sz ?_
 refine Zst [0,6,7,8] [9] (fun kM vs jS=>∃(k:Nat)(zs:List Int),vs=[.I ((k:Int)-1)]∧jS [Zp 93 1 (Za zs) u d]∧(k≤b-a)∧(Pm a b xs zs)∧(Heap a k (b-a) zs)∧(k)=kM) rfl ⟨((b-a)+1)/2,xs,rfl,Z,(by omega),(Pm.refl _ _ _),(fun p c h1 h2 h3=>by omega),rfl⟩ ?_
 rintro _ _ w j ⟨k,zs,rfl,Z,hk,hq,hh,rfl⟩
 replace Z:=Z.z
 refine Sz ?_
 refine Zsr rfl (fun cd1=>?_) (fun cd1=>?_)
 ·refine Ztw<|Zsw<|Zt9<|WC.region ?_
  have hzl:=hq.len
  refine Zsf 9 (.I ((k-1:Nat):Int)) (congrArg (Value.int .i64) (by omega)) ?_
  refine Sz ?_
  refine Zsy (Zjb _ _ nn _ (k-1:Nat) (b-a:Nat) a (by omega) (by omega) (by omega) (by omega) (by rw[Nat.sub_add_cancel (by omega)];exact hh) Z) fun w ys1 Z f1=>?_
  exact⟨_,by omega,rfl,k-1,ys1,rfl,Z,(by omega),(hq.trans (f1.1.up (Nat.le_refl _) (by omega))),f1.2,rfl⟩
 refine Sz ?_
 refine Zst [0,6,7] [10] (fun kM vs jS=>∃(n:Nat)(zs2:List Int),vs=[.I ((n:Int)-1)]∧jS [Zp 93 1 (Za zs2) u d]∧(a+n≤b)∧(Pm a b xs zs2)∧(Heap a 0 n zs2)∧(SdO a b a (a+n) zs2)∧(n)=kM) rfl ⟨b-a,zs,rfl,Z,(by omega),hq,(by have e9:k=0:=(by omega);rw[←e9];exact hh),(by rw[show a+(b-a)=b by omega];exact SdO.start _ _ _),rfl⟩ ?_
 rintro _ _ w j ⟨n,zs2,rfl,Z,hn,hq2,hh2,hso,rfl⟩
 replace Z:=Z.z
 refine Sz ?_
 refine Zsi (fun cd2=>?_) fun cd2=>?_
 ·refine Zsg [([0,1,2,3,4,6,7,8,12,13,5,9,14,10,15,11,16],some (17,[2,3,4,5])),([18],some (19,[]))] ?_
  have hzl:=hq2.len
  refine Zsu 10 (.I ((n-1:Nat):Int)) (congrArg (Value.int .i64) (by omega)) ?_
  refine Qz ?_
  refine Zsj rfl rfl (i:=(a:Int)) (a) el_70 rfl rfl (by omega) (show a<nn by omega) (Z.rdO 0 rfl (Zb (k:=a) (by omega))).1 ?_
  refine Zsj rfl rfl (i:=(a:Int)+((n-1:Nat):Int)) (a+(n-1)) el_70 rfl rfl (by omega) (show a+(n-1)<nn by omega) (Z.rdO 0 rfl (Zb (k:=a+(n-1)) (by omega))).1 ?_
  refine Zsn 1 [.W (gI zs2 a)] rfl (by exact(Z.rdO 0 rfl (Zb (k:=a) (by omega))).2 0 _ rfl) ?_
  refine Zsn 1 [.W (gI zs2 (a+(n-1)))] rfl (by exact(Z.rdO 0 rfl (Zb (k:=a+(n-1)) (by omega))).2 0 _ rfl) ?_
  refine Zsj rfl rfl (i:=(a:Int)) (a) el_70 rfl rfl (by omega) (show a<nn by omega) (Z.rdO 0 rfl (Zb (k:=a) (by omega))).1 ?_
  refine Qd fun w Z=>?_
  refine Zs5 rfl rfl rfl 0 (a) 0 [.W (gI zs2 a)] (Za (zs2.set (a) (gI zs2 (a+(n-1))))) Z rfl (Zb (k:=a) (by omega)) rfl rfl rfl rfl rfl (Zx _ _ _) (fun w Z=>?_)
  replace Z:=Z.z
  refine Sz ?_
  refine Zsj rfl rfl (i:=(a:Int)+((n-1:Nat):Int)) (a+(n-1)) el_70 rfl rfl (by omega) (show a+(n-1)<nn by omega) (Z.rdO 0 rfl (Zb (k:=a+(n-1)) (by rw[List.length_set];omega))).1 ?_
  refine Qd fun w Z=>?_
  refine Zs5 rfl rfl rfl 0 (a+(n-1)) 0 [.W (gI (zs2.set a (gI zs2 (a+(n-1)))) (a+(n-1)))] (Za (sw (a) (a+(n-1)) zs2)) Z rfl (Zb (k:=a+(n-1)) (by rw[List.length_set];omega)) rfl rfl rfl rfl rfl (Zx _ _ _) (fun w Z=>?_)
  replace Z:=Z.z
  refine Sz ?_
  refine Qe fun w Z=>?_
  as_aux_lemma =>
  refine WC.region ?_
  have hh3:=Heap.pop (f:=a) (n:=n-1) (xs:=zs2) (by rw[Nat.sub_add_cancel (by omega)];exact hh2) (by omega);have hs3:=SdO.pop (a:=a) (b:=b) (n:=n-1) (xs:=zs2) (by rw[show a+(n-1)+1=a+n by omega];exact hso) (by rw[Nat.sub_add_cancel (by omega)];exact hh2) (by omega) (by omega);have hp3:=hq2.trans (Pm.swap (a:=a) (b:=b) (i:=a) (j:=a+(n-1)) (by omega) (by omega) (by omega));have hsl:=Ju a (a+(n-1)) zs2
  refine Zsf 7 (.I ((0:Nat):Int)) rfl ?_
  refine Sz ?_
  refine Zsy (Zjb (sw a (a+(n-1)) zs2) _ nn _ (0:Nat) (n-1:Nat) a (by omega) (by omega) (by omega) (by omega) hh3 Z) fun w ys1 Z f1=>?_
  exact⟨_,by omega,rfl,n-1,ys1,rfl,Z,(by omega),(hp3.trans (f1.1.up (Nat.le_refl _) (by omega))),f1.2,(hs3.pm f1.1 (Nat.le_refl _) (by omega)),rfl⟩
 exact⟨_,rfl,Z,hq2,hso.all (fun i j h1 h2 h3=>by omega)⟩
theorem Zsa(xs:List Int)(u:Option Addr)(nn d:Nat)(a b pv:Nat)(hab:a<b)(hb:b≤xs.length)(hpv:a≤pv∧pv<b)(hl:xs.length≤1000)(hnn:xs.length=nn)(Z:St g (Zp 93 1 (Za xs) u d::L) w) :
  Cp g L 324 [.slice u nn d,.I (a:Int),.I (b:Int),.I (pv:Int)] w fun rV=>∃(ys:List Int)(m:Nat)(bb:Bool),rV (.tuple #[.I (m:Int),.bool bb]) [Zp 93 1 (Za ys) u d] (Ptn a b m xs ys):=by
 refine Sp.en Tryz.func324 ?_
 have _:=hnn
 have _:=hl
 have _:=hpv
 refine Zsg [([0,1,2,3,4,5,8,9,6,10,7,11,12],some (13,[2,3])),([14],some (15,[]))] ?_
 have hxl:=Zh xs
 refine Qz ?_
 refine Zsj rfl rfl (i:=(pv:Int)) (pv) el_70 rfl rfl (by omega) (show pv<nn by omega) (Z.rdO 0 rfl (Zb (k:=pv) (by omega))).1 ?_
 refine Zsj rfl rfl (i:=(a:Int)) (a) el_70 rfl rfl (by omega) (show a<nn by omega) (Z.rdO 0 rfl (Zb (k:=a) (by omega))).1 ?_
 refine Zsn 1 [.W (gI xs pv)] rfl (by exact(Z.rdO 0 rfl (Zb (k:=pv) (by omega))).2 0 _ rfl) ?_
 refine Zsn 1 [.W (gI xs a)] rfl (by exact(Z.rdO 0 rfl (Zb (k:=a) (by omega))).2 0 _ rfl) ?_
 refine Zsj rfl rfl (i:=(a:Int)) (a) el_70 rfl rfl (by omega) (show a<nn by omega) (Z.rdO 0 rfl (Zb (k:=a) (by omega))).1 ?_
 refine Qd fun w Z=>?_
 refine Zs5 rfl rfl rfl 0 (a) 0 [.W (gI xs a)] (Za (xs.set (a) (gI xs (pv)))) Z rfl (Zb (k:=a) (by omega)) rfl rfl rfl rfl rfl (Zx _ _ _) (fun w Z=>?_)
 replace Z:=Z.z
 refine Sz ?_
 refine Zsj rfl rfl (i:=(pv:Int)) (pv) el_70 rfl rfl (by omega) (show pv<nn by omega) (Z.rdO 0 rfl (Zb (k:=pv) (by rw[List.length_set];omega))).1 ?_
 refine Qd fun w Z=>?_
 refine Zs5 rfl rfl rfl 0 (pv) 0 [.W (gI (xs.set a (gI xs pv)) pv)] (Za (sw (a) (pv) xs)) Z rfl (Zb (k:=pv) (by rw[List.length_set];omega)) rfl rfl rfl rfl rfl (Zx _ _ _) (fun w Z=>?_)
 replace Z:=Z.z
 refine Sz ?_
 refine Qe fun w Z=>?_
 refine Sy ?_
 have hp0:=Pm.swap (a:=a) (b:=b) (i:=a) (j:=pv) (xs:=xs) (by omega) (by omega) hb;have hsl:=Ju a pv xs
 refine Zso 1 rfl<|Zsf 27 (.I ((a+1:Nat):Int)) (congrArg (Value.int .i64) (by rw[Yf (by omega)];omega)) ?_
 refine Sy ?_
 refine Zso 1 rfl<|Zsf 29 (.I ((b-1:Nat):Int)) (congrArg (Value.int .i64) (by rw[Yf (by omega)];omega)) ?_
 refine Sx ?_
 refine Zs9<|Zsw<|Ztc [0,1,8,9,11] [10] [] Z (fun vs jS=>∃(i:Nat),vs=[.I (i:Int)]∧jS []∧(a+1≤i∧i≤(b-1)+1)∧(PtI a b i (b-1) (sw a pv xs))∧(¬i≤(b-1)∨¬gI (sw a pv xs) i<gI (sw a pv xs) a)) rfl ?_ ?_
 ·refine Sz ?_
  refine Zst [0,1,8,9,11] [10] (fun kM vs jS=>∃(k1:Nat),vs=[.I (k1:Int)]∧jS []∧(a+1≤k1∧k1≤(b-1)+1)∧(PtI a b k1 (b-1) (sw a pv xs))∧(b+1-k1)=kM) rfl ⟨a+1,rfl,Z,(by omega),(PtI.start a b _ hab),rfl⟩ ?_
  rintro _ _ w j ⟨k1,rfl,Z,hk1,hK,rfl⟩
  replace Z:=Z.z
  refine Sz ?_
  refine Zsg [([0,1,2,3,4,5,8,9,6,10,7,11],some (12,[])),([13],none)] ?_
  refine Qz ?_
  by_cases cg1:(k1:Int)≤((b-1:Nat):Int)
  ·refine Zsu 33 (.bool true) (congrArg Value.bool (decide_eq_true cg1)) ?_
   refine Qz ?_
   refine Zsj rfl rfl (i:=(k1:Int)) (k1) el_70 rfl rfl (by omega) (show k1<nn by omega) (Z.rdO 0 rfl (Zb (k:=k1) (by omega))).1 ?_
   refine Qz ?_
   refine Zsj rfl rfl (i:=(a:Int)) (a) el_70 rfl rfl (by omega) (show a<nn by omega) (Z.rdO 0 rfl (Zb (k:=a) (by omega))).1 ?_
   refine Qz ?_
   refine Zsn 1 [.W (gI (sw a pv xs) k1)] rfl (by exact(Z.rdO 0 rfl (Zb (k:=k1) (by omega))).2 0 _ rfl) ?_
   refine Qz ?_
   refine Zsn 1 [.W (gI (sw a pv xs) a)] rfl (by exact(Z.rdO 0 rfl (Zb (k:=a) (by omega))).2 0 _ rfl) ?_
   refine Qd fun w Z=>?_
   refine Zse (Xo (gI (sw a pv xs) k1) (gI (sw a pv xs) a) Z) fun w Z=>?_
   refine Qd fun w Z=>?_
   as_aux_lemma =>
   refine Zsr rfl (fun cd1=>?_) (fun cd1=>?_)
   ·refine Sy ?_
    refine Zso 1 rfl<|Zsf 45 (.I ((k1+1:Nat):Int)) (congrArg (Value.int .i64) (by rw[Yf (by omega)];omega)) ?_
    refine Sz ?_
    exact⟨_,by omega,rfl,k1+1,rfl,Z,(by omega),(hK.up cd1),rfl⟩
   refine Sz ?_
   exact⟨rfl,k1,rfl,Z,hk1,hK,(by first|exact .inr cd1|(left;omega))⟩
  refine Zsu 33 (.bool false) (congrArg Value.bool (decide_eq_false cg1)) ?_
  refine Qd fun w Z=>?_
  refine Qd fun w Z=>?_
  as_aux_lemma =>
  refine Sz ?_
  exact⟨rfl,k1,rfl,Z,hk1,hK,(by first|exact .inr cg1|(left;omega))⟩
 rintro _ w j ⟨i,rfl,Z,hi,hI,hI0⟩
 replace Z:=Z.z
 as_aux_lemma =>
 refine Zsw<|Ztc [0,1,8,9,10] [11] [] Z (fun vs jS=>∃(jr:Nat),vs=[.I (jr:Int)]∧jS []∧(i≤jr+1∧jr≤b-1)∧(PtI a b i jr (sw a pv xs))∧(¬i≤jr∨¬¬gI (sw a pv xs) jr<gI (sw a pv xs) a)) rfl ?_ ?_
 ·refine Sz ?_
  refine Zst [0,1,8,9,10] [11] (fun kM vs jS=>∃(k2:Nat),vs=[.I (k2:Int)]∧jS []∧(i≤k2+1∧k2≤b-1)∧(PtI a b i k2 (sw a pv xs))∧(k2)=kM) rfl ⟨b-1,rfl,Z,(by omega),hI,rfl⟩ ?_
  rintro _ _ w j ⟨k2,rfl,Z,hk2,hL,rfl⟩
  replace Z:=Z.z
  refine Sz ?_
  refine Zsg [([0,1,2,3,4,5,8,9,6,10,7,11],some (12,[])),([13,14],none)] ?_
  refine Qz ?_
  by_cases cg1:(i:Int)≤(k2:Int)
  ·refine Zsu 49 (.bool true) (congrArg Value.bool (decide_eq_true cg1)) ?_
   refine Qz ?_
   refine Zsj rfl rfl (i:=(k2:Int)) (k2) el_70 rfl rfl (by omega) (show k2<nn by omega) (Z.rdO 0 rfl (Zb (k:=k2) (by omega))).1 ?_
   refine Qz ?_
   refine Zsj rfl rfl (i:=(a:Int)) (a) el_70 rfl rfl (by omega) (show a<nn by omega) (Z.rdO 0 rfl (Zb (k:=a) (by omega))).1 ?_
   refine Qz ?_
   refine Zsn 1 [.W (gI (sw a pv xs) k2)] rfl (by exact(Z.rdO 0 rfl (Zb (k:=k2) (by omega))).2 0 _ rfl) ?_
   refine Qz ?_
   refine Zsn 1 [.W (gI (sw a pv xs) a)] rfl (by exact(Z.rdO 0 rfl (Zb (k:=a) (by omega))).2 0 _ rfl) ?_
   refine Qd fun w Z=>?_
   refine Zse (Xo (gI (sw a pv xs) k2) (gI (sw a pv xs) a) Z) fun w Z=>?_
   refine Qd fun w Z=>?_
   as_aux_lemma =>
   refine Zsr rfl (fun cd1=>?_) (fun cd1=>?_)
   ·refine Sy ?_
    refine Zso 1 rfl<|Zsf 62 (.I ((k2-1:Nat):Int)) (congrArg (Value.int .i64) (by rw[Yf (by omega)];omega)) ?_
    refine Sz ?_
    exact⟨_,by omega,rfl,k2-1,rfl,Z,(by omega),(hL.down cd1),rfl⟩
   refine Sz ?_
   exact⟨rfl,k2,rfl,Z,hk2,hL,(by first|exact .inr cd1|(left;omega))⟩
  refine Zsu 49 (.bool false) (congrArg Value.bool (decide_eq_false cg1)) ?_
  refine Qd fun w Z=>?_
  refine Qd fun w Z=>?_
  exact⟨rfl,k2,rfl,Z,hk2,hL,(by first|exact .inr cg1|(left;omega))⟩
 rintro _ w j ⟨jr,rfl,Z,hj,hJ,hJ0⟩
 replace Z:=Z.z
 refine Sz ?_
 refine Zsi (fun hend=>?_) fun hend=>?_
 ·refine Zsg [([0,1,2,3,4,5,8,9,6,10,7,11,12],some (13,[2,3])),([14],some (15,[]))] ?_
  refine Qz ?_
  refine Zsj rfl rfl (i:=(a:Int)) (a) el_70 rfl rfl (by omega) (show a<nn by omega) (Z.rdO 0 rfl (Zb (k:=a) (by omega))).1 ?_
  refine Zsj rfl rfl (i:=(jr:Int)) (jr) el_70 rfl rfl (by omega) (show jr<nn by omega) (Z.rdO 0 rfl (Zb (k:=jr) (by omega))).1 ?_
  refine Zsn 1 [.W (gI (sw a pv xs) a)] rfl (by exact(Z.rdO 0 rfl (Zb (k:=a) (by omega))).2 0 _ rfl) ?_
  refine Zsn 1 [.W (gI (sw a pv xs) jr)] rfl (by exact(Z.rdO 0 rfl (Zb (k:=jr) (by omega))).2 0 _ rfl) ?_
  refine Zsj rfl rfl (i:=(jr:Int)) (jr) el_70 rfl rfl (by omega) (show jr<nn by omega) (Z.rdO 0 rfl (Zb (k:=jr) (by omega))).1 ?_
  refine Qd fun w Z=>?_
  refine Zs5 rfl rfl rfl 0 (jr) 0 [.W (gI (sw a pv xs) jr)] (Za ((sw a pv xs).set (jr) (gI (sw a pv xs) (a)))) Z rfl (Zb (k:=jr) (by omega)) rfl rfl rfl rfl rfl (Zx _ _ _) (fun w Z=>?_)
  replace Z:=Z.z
  refine Sz ?_
  refine Zsj rfl rfl (i:=(a:Int)) (a) el_70 rfl rfl (by omega) (show a<nn by omega) (Z.rdO 0 rfl (Zb (k:=a) (by rw[List.length_set];omega))).1 ?_
  refine Qd fun w Z=>?_
  refine Zs5 rfl rfl rfl 0 (a) 0 [.W (gI ((sw a pv xs).set jr (gI (sw a pv xs) a)) a)] (Za (sw (jr) (a) (sw a pv xs))) Z rfl (Zb (k:=a) (by rw[List.length_set];omega)) rfl rfl rfl rfl rfl (Zx _ _ _) (fun w Z=>?_)
  replace Z:=Z.z
  refine Sz ?_
  refine Qd fun w Z=>?_
  exact⟨_,_,_,rfl,Z,hJ.fin hp0 (by omega) (by omega) (by omega) (by omega)⟩
 refine Zsg [([0,1,2,3,4,5,8,9,6,10,7,11,12],some (13,[2,3])),([14],some (15,[]))] ?_
 have hsw:=hJ.swap (by omega) (by omega) (by omega) (by omega) (hI0.resolve_left (by omega)) (hJ0.resolve_left (by omega));have hp1:=hp0.trans (Pm.swap (a:=a) (b:=b) (i:=i) (j:=jr) (xs:=sw a pv xs) (by omega) (by omega) (by omega));have hsl2:=Ju i jr (sw a pv xs)
 refine Qz ?_
 refine Zsj rfl rfl (i:=(jr:Int)) (jr) el_70 rfl rfl (by omega) (show jr<nn by omega) (Z.rdO 0 rfl (Zb (k:=jr) (by omega))).1 ?_
 refine Zsj rfl rfl (i:=(i:Int)) (i) el_70 rfl rfl (by omega) (show i<nn by omega) (Z.rdO 0 rfl (Zb (k:=i) (by omega))).1 ?_
 refine Zsn 1 [.W (gI (sw a pv xs) jr)] rfl (by exact(Z.rdO 0 rfl (Zb (k:=jr) (by omega))).2 0 _ rfl) ?_
 refine Zsn 1 [.W (gI (sw a pv xs) i)] rfl (by exact(Z.rdO 0 rfl (Zb (k:=i) (by omega))).2 0 _ rfl) ?_
 refine Zsj rfl rfl (i:=(i:Int)) (i) el_70 rfl rfl (by omega) (show i<nn by omega) (Z.rdO 0 rfl (Zb (k:=i) (by omega))).1 ?_
 refine Qd fun w Z=>?_
 refine Zs5 rfl rfl rfl 0 (i) 0 [.W (gI (sw a pv xs) i)] (Za ((sw a pv xs).set (i) (gI (sw a pv xs) (jr)))) Z rfl (Zb (k:=i) (by omega)) rfl rfl rfl rfl rfl (Zx _ _ _) (fun w Z=>?_)
 replace Z:=Z.z
 refine Sz ?_
 refine Zsj rfl rfl (i:=(jr:Int)) (jr) el_70 rfl rfl (by omega) (show jr<nn by omega) (Z.rdO 0 rfl (Zb (k:=jr) (by rw[List.length_set];omega))).1 ?_
 refine Qd fun w Z=>?_
 refine Zs5 rfl rfl rfl 0 (jr) 0 [.W (gI ((sw a pv xs).set i (gI (sw a pv xs) jr)) jr)] (Za (sw (i) (jr) (sw a pv xs))) Z rfl (Zb (k:=jr) (by rw[List.length_set];omega)) rfl rfl rfl rfl rfl (Zx _ _ _) (fun w Z=>?_)
 replace Z:=Z.z
 refine Sz ?_
 refine Qe fun w Z=>?_
 refine Sy ?_
 refine Zso 1 rfl<|Zsf 96 (.I ((i+1:Nat):Int)) (congrArg (Value.int .i64) (by rw[Yf (by omega)];omega)) ?_
 refine Sy ?_
 refine Zso 1 rfl<|Zsf 98 (.I ((jr-1:Nat):Int)) (congrArg (Value.int .i64) (by rw[Yf (by omega)];omega)) ?_
 as_aux_lemma =>
 refine Sz ?_
 refine Zst [0,1,8,9] [10,11] (fun kM vs jS=>∃(i3 j3:Nat)(zs:List Int),vs=[.I (i3:Int),.I (j3:Int)]∧jS [Zp 93 1 (Za zs) u d]∧(a+1≤i3∧i3≤j3+1∧j3≤b-1)∧(Pm a b xs zs)∧(PtI a b i3 j3 zs)∧(zs.length=xs.length)∧(j3+1-i3)=kM) rfl ⟨i+1,jr-1,sw i jr (sw a pv xs),rfl,Z,(by omega),hp1,hsw.2,(by omega),rfl⟩ ?_
 rintro _ _ w j ⟨i3,j3,zs,rfl,Z,hij,hp3,hP,hzl,rfl⟩
 replace Z:=Z.z
 refine Zt9<|Zsw<|Ztc [0,1,8,9,11] [10] [] Z (fun vs jS=>∃(i4:Nat),vs=[.I (i4:Int)]∧jS []∧(i3≤i4∧i4≤j3+1)∧(PtI a b i4 j3 zs)∧(¬i4≤j3∨¬gI zs i4<gI zs a)) rfl ?_ ?_
 ·refine Sz ?_
  refine Zst [0,1,8,9,11] [10] (fun kM vs jS=>∃(k4:Nat),vs=[.I (k4:Int)]∧jS []∧(i3≤k4∧k4≤j3+1)∧(PtI a b k4 j3 zs)∧(b+1-k4)=kM) rfl ⟨i3,rfl,Z,(by omega),hP,rfl⟩ ?_
  rintro _ _ w j ⟨k4,rfl,Z,hk4,hK4,rfl⟩
  replace Z:=Z.z
  refine Sz ?_
  refine Zsg [([0,1,2,3,4,5,8,9,6,10,7,11],some (12,[])),([13],none)] ?_
  refine Qz ?_
  by_cases cg1:(k4:Int)≤(j3:Int)
  ·refine Zsu 102 (.bool true) (congrArg Value.bool (decide_eq_true cg1)) ?_
   refine Qz ?_
   refine Zsj rfl rfl (i:=(k4:Int)) (k4) el_70 rfl rfl (by omega) (show k4<nn by omega) (Z.rdO 0 rfl (Zb (k:=k4) (by omega))).1 ?_
   refine Qz ?_
   refine Zsj rfl rfl (i:=(a:Int)) (a) el_70 rfl rfl (by omega) (show a<nn by omega) (Z.rdO 0 rfl (Zb (k:=a) (by omega))).1 ?_
   refine Qz ?_
   refine Zsn 1 [.W (gI zs k4)] rfl (by exact(Z.rdO 0 rfl (Zb (k:=k4) (by omega))).2 0 _ rfl) ?_
   refine Qz ?_
   refine Zsn 1 [.W (gI zs a)] rfl (by exact(Z.rdO 0 rfl (Zb (k:=a) (by omega))).2 0 _ rfl) ?_
   refine Qd fun w Z=>?_
   refine Zse (Xo (gI zs k4) (gI zs a) Z) fun w Z=>?_
   refine Qd fun w Z=>?_
   as_aux_lemma =>
   refine Zsr rfl (fun cd1=>?_) (fun cd1=>?_)
   ·refine Sy ?_
    refine Zso 1 rfl<|Zsf 114 (.I ((k4+1:Nat):Int)) (congrArg (Value.int .i64) (by rw[Yf (by omega)];omega)) ?_
    refine Sz ?_
    exact⟨_,by omega,rfl,k4+1,rfl,Z,(by omega),(hK4.up cd1),rfl⟩
   refine Sz ?_
   exact⟨rfl,k4,rfl,Z,hk4,hK4,(by first|exact .inr cd1|(left;omega))⟩
  refine Zsu 102 (.bool false) (congrArg Value.bool (decide_eq_false cg1)) ?_
  refine Qd fun w Z=>?_
  refine Qd fun w Z=>?_
  exact⟨rfl,k4,rfl,Z,hk4,hK4,(by first|exact .inr cg1|(left;omega))⟩
 rintro _ w j ⟨i4,rfl,Z,hi4,hI3,hI4⟩
 replace Z:=Z.z
 refine Zsw<|Ztc [0,1,8,9,10] [11] [] Z (fun vs jS=>∃(j4:Nat),vs=[.I (j4:Int)]∧jS []∧(i4≤j4+1∧j4≤j3)∧(PtI a b i4 j4 zs)∧(¬i4≤j4∨¬¬gI zs j4<gI zs a)) rfl ?_ ?_
 ·refine Sz ?_
  refine Zst [0,1,8,9,10] [11] (fun kM vs jS=>∃(k5:Nat),vs=[.I (k5:Int)]∧jS []∧(i4≤k5+1∧k5≤j3)∧(PtI a b i4 k5 zs)∧(k5)=kM) rfl ⟨j3,rfl,Z,(by omega),hI3,rfl⟩ ?_
  rintro _ _ w j ⟨k5,rfl,Z,hk5,hL5,rfl⟩
  replace Z:=Z.z
  refine Sz ?_
  refine Zsg [([0,1,2,3,4,5,8,9,6,10,7,11],some (12,[])),([13,14],none)] ?_
  refine Qz ?_
  by_cases cg1:(i4:Int)≤(k5:Int)
  ·refine Zsu 118 (.bool true) (congrArg Value.bool (decide_eq_true cg1)) ?_
   refine Qz ?_
   refine Zsj rfl rfl (i:=(k5:Int)) (k5) el_70 rfl rfl (by omega) (show k5<nn by omega) (Z.rdO 0 rfl (Zb (k:=k5) (by omega))).1 ?_
   refine Qz ?_
   refine Zsj rfl rfl (i:=(a:Int)) (a) el_70 rfl rfl (by omega) (show a<nn by omega) (Z.rdO 0 rfl (Zb (k:=a) (by omega))).1 ?_
   refine Qz ?_
   refine Zsn 1 [.W (gI zs k5)] rfl (by exact(Z.rdO 0 rfl (Zb (k:=k5) (by omega))).2 0 _ rfl) ?_
   refine Qz ?_
   refine Zsn 1 [.W (gI zs a)] rfl (by exact(Z.rdO 0 rfl (Zb (k:=a) (by omega))).2 0 _ rfl) ?_
   refine Qd fun w Z=>?_
   refine Zse (Xo (gI zs k5) (gI zs a) Z) fun w Z=>?_
   refine Qd fun w Z=>?_
   as_aux_lemma =>
   refine Zsr rfl (fun cd1=>?_) (fun cd1=>?_)
   ·refine Sy ?_
    refine Zso 1 rfl<|Zsf 131 (.I ((k5-1:Nat):Int)) (congrArg (Value.int .i64) (by rw[Yf (by omega)];omega)) ?_
    refine Sz ?_
    exact⟨_,by omega,rfl,k5-1,rfl,Z,(by omega),(hL5.down cd1),rfl⟩
   refine Sz ?_
   exact⟨rfl,k5,rfl,Z,hk5,hL5,(by first|exact .inr cd1|(left;omega))⟩
  refine Zsu 118 (.bool false) (congrArg Value.bool (decide_eq_false cg1)) ?_
  refine Qd fun w Z=>?_
  refine Qd fun w Z=>?_
  as_aux_lemma =>
  refine Sz ?_
  exact⟨rfl,k5,rfl,Z,hk5,hL5,(by first|exact .inr cg1|(left;omega))⟩
 rintro _ w j ⟨j4,rfl,Z,hj4,hJ4,hJ5⟩
 replace Z:=Z.z
 refine Sz ?_
 refine Zsi (fun hen2=>?_) fun hen2=>?_
 ·refine Zsg [([0,1,2,3,4,5,8,9,6,10,7,11,12],some (13,[2,3])),([14],some (15,[]))] ?_
  refine Qz ?_
  refine Zsj rfl rfl (i:=(a:Int)) (a) el_70 rfl rfl (by omega) (show a<nn by omega) (Z.rdO 0 rfl (Zb (k:=a) (by omega))).1 ?_
  refine Zsj rfl rfl (i:=(j4:Int)) (j4) el_70 rfl rfl (by omega) (show j4<nn by omega) (Z.rdO 0 rfl (Zb (k:=j4) (by omega))).1 ?_
  refine Zsn 1 [.W (gI zs a)] rfl (by exact(Z.rdO 0 rfl (Zb (k:=a) (by omega))).2 0 _ rfl) ?_
  refine Zsn 1 [.W (gI zs j4)] rfl (by exact(Z.rdO 0 rfl (Zb (k:=j4) (by omega))).2 0 _ rfl) ?_
  refine Zsj rfl rfl (i:=(j4:Int)) (j4) el_70 rfl rfl (by omega) (show j4<nn by omega) (Z.rdO 0 rfl (Zb (k:=j4) (by omega))).1 ?_
  refine Qd fun w Z=>?_
  refine Zs5 rfl rfl rfl 0 (j4) 0 [.W (gI zs j4)] (Za (zs.set (j4) (gI zs (a)))) Z rfl (Zb (k:=j4) (by omega)) rfl rfl rfl rfl rfl (Zx _ _ _) (fun w Z=>?_)
  replace Z:=Z.z
  refine Sz ?_
  refine Zsj rfl rfl (i:=(a:Int)) (a) el_70 rfl rfl (by omega) (show a<nn by omega) (Z.rdO 0 rfl (Zb (k:=a) (by rw[List.length_set];omega))).1 ?_
  refine Qd fun w Z=>?_
  refine Zs5 rfl rfl rfl 0 (a) 0 [.W (gI (zs.set j4 (gI zs a)) a)] (Za (sw (j4) (a) zs)) Z rfl (Zb (k:=a) (by rw[List.length_set];omega)) rfl rfl rfl rfl rfl (Zx _ _ _) (fun w Z=>?_)
  replace Z:=Z.z
  refine Sz ?_
  refine Qd fun w Z=>?_
  as_aux_lemma =>
  refine Sz ?_
  exact⟨_,_,_,rfl,Z,hJ4.fin hp3 (by omega) (by omega) (by omega) (by omega)⟩
 refine Zsg [([0,1,2,3,4,5,8,9,6,10,7,11,12],some (13,[2,3])),([14],some (15,[]))] ?_
 have hsw:=hJ4.swap (by omega) (by omega) (by omega) (by omega) (hI4.resolve_left (by omega)) (hJ5.resolve_left (by omega));have hp4:=hp3.trans (Pm.swap (a:=a) (b:=b) (i:=i4) (j:=j4) (xs:=zs) (by omega) (by omega) (by omega));have hsl2:=Ju i4 j4 zs
 refine Qz ?_
 refine Zsj rfl rfl (i:=(j4:Int)) (j4) el_70 rfl rfl (by omega) (show j4<nn by omega) (Z.rdO 0 rfl (Zb (k:=j4) (by omega))).1 ?_
 refine Zsj rfl rfl (i:=(i4:Int)) (i4) el_70 rfl rfl (by omega) (show i4<nn by omega) (Z.rdO 0 rfl (Zb (k:=i4) (by omega))).1 ?_
 refine Zsn 1 [.W (gI zs j4)] rfl (by exact(Z.rdO 0 rfl (Zb (k:=j4) (by omega))).2 0 _ rfl) ?_
 refine Zsn 1 [.W (gI zs i4)] rfl (by exact(Z.rdO 0 rfl (Zb (k:=i4) (by omega))).2 0 _ rfl) ?_
 refine Zsj rfl rfl (i:=(i4:Int)) (i4) el_70 rfl rfl (by omega) (show i4<nn by omega) (Z.rdO 0 rfl (Zb (k:=i4) (by omega))).1 ?_
 refine Qd fun w Z=>?_
 refine Zs5 rfl rfl rfl 0 (i4) 0 [.W (gI zs i4)] (Za (zs.set (i4) (gI zs (j4)))) Z rfl (Zb (k:=i4) (by omega)) rfl rfl rfl rfl rfl (Zx _ _ _) (fun w Z=>?_)
 replace Z:=Z.z
 refine Sz ?_
 refine Zsj rfl rfl (i:=(j4:Int)) (j4) el_70 rfl rfl (by omega) (show j4<nn by omega) (Z.rdO 0 rfl (Zb (k:=j4) (by rw[List.length_set];omega))).1 ?_
 refine Qd fun w Z=>?_
 refine Zs5 rfl rfl rfl 0 (j4) 0 [.W (gI (zs.set i4 (gI zs j4)) j4)] (Za (sw (i4) (j4) zs)) Z rfl (Zb (k:=j4) (by rw[List.length_set];omega)) rfl rfl rfl rfl rfl (Zx _ _ _) (fun w Z=>?_)
 replace Z:=Z.z
 refine Sz ?_
 refine Qe fun w Z=>?_
 as_aux_lemma =>
 refine Sy ?_
 refine Zso 1 rfl<|Zsf 150 (.I ((i4+1:Nat):Int)) (congrArg (Value.int .i64) (by rw[Yf (by omega)];omega)) ?_
 refine Sy ?_
 refine Zso 1 rfl<|Zsf 152 (.I ((j4-1:Nat):Int)) (congrArg (Value.int .i64) (by rw[Yf (by omega)];omega)) ?_
 refine Sz ?_
 exact⟨_,by omega,rfl,i4+1,j4-1,sw i4 j4 zs,rfl,Z,(by omega),hp4,hsw.2,(by omega),rfl⟩
end Go.Proofs.YtpebgkkmgffmaaaGreatDoor
namespace Go.Proofs.YtpebgkkmgffmaaaGreatDoor
open Go Go.V Go.RowKit
set_option maxHeartbeats 8000000
set_option maxRecDepth 8192
variable{g w:World}{L:List HP}
theorem Zjc(xs:List Int)(u:Option Addr)(nn d:Nat)(a b pv:Nat)(hab:a<b)(hb:b≤xs.length)(hpv:a≤pv∧pv<b)(hl:xs.length≤1000)(hnn:xs.length=nn)(hmin:∀k,a≤k→k<b→gI xs pv≤gI xs k)(Z:St g (Zp 93 1 (Za xs) u d::L) w) :
  Cp g L 323 [.slice u nn d,.I (a:Int),.I (b:Int),.I (pv:Int)] w fun rV=>∃(ys:List Int)(m:Nat),rV (.I (m:Int)) [Zp 93 1 (Za ys) u d] (Pte a b m xs ys):=by
 refine Sp.en Tryz.func323 ?_
 have _:=hnn
 have _:=hl
 have _:=hpv
 refine Zsg [([0,1,2,3,4,5,8,9,6,10,7,11,12],some (13,[2,3])),([14],some (15,[]))] ?_
 have hxl:=Zh xs
 refine Qz ?_
 refine Zsj rfl rfl (i:=(pv:Int)) (pv) el_70 rfl rfl (by omega) (show pv<nn by omega) (Z.rdO 0 rfl (Zb (k:=pv) (by omega))).1 ?_
 refine Zsj rfl rfl (i:=(a:Int)) (a) el_70 rfl rfl (by omega) (show a<nn by omega) (Z.rdO 0 rfl (Zb (k:=a) (by omega))).1 ?_
 refine Zsn 1 [.W (gI xs pv)] rfl (by exact(Z.rdO 0 rfl (Zb (k:=pv) (by omega))).2 0 _ rfl) ?_
 refine Zsn 1 [.W (gI xs a)] rfl (by exact(Z.rdO 0 rfl (Zb (k:=a) (by omega))).2 0 _ rfl) ?_
 refine Zsj rfl rfl (i:=(a:Int)) (a) el_70 rfl rfl (by omega) (show a<nn by omega) (Z.rdO 0 rfl (Zb (k:=a) (by omega))).1 ?_
 refine Qd fun w Z=>?_
 refine Zs5 rfl rfl rfl 0 (a) 0 [.W (gI xs a)] (Za (xs.set (a) (gI xs (pv)))) Z rfl (Zb (k:=a) (by omega)) rfl rfl rfl rfl rfl (Zx _ _ _) (fun w Z=>?_)
 replace Z:=Z.z
 refine Sz ?_
 refine Zsj rfl rfl (i:=(pv:Int)) (pv) el_70 rfl rfl (by omega) (show pv<nn by omega) (Z.rdO 0 rfl (Zb (k:=pv) (by rw[List.length_set];omega))).1 ?_
 refine Qd fun w Z=>?_
 refine Zs5 rfl rfl rfl 0 (pv) 0 [.W (gI (xs.set a (gI xs pv)) pv)] (Za (sw (a) (pv) xs)) Z rfl (Zb (k:=pv) (by rw[List.length_set];omega)) rfl rfl rfl rfl rfl (Zx _ _ _) (fun w Z=>?_)
 replace Z:=Z.z
 refine Sz ?_
 refine Qe fun w Z=>?_
 refine Sy ?_
 have hp0:=Pm.swap (a:=a) (b:=b) (i:=a) (j:=pv) (xs:=xs) (by omega) (by omega) hb;have hsl:=Ju a pv xs
 refine Zso 1 rfl<|Zsf 26 (.I ((a+1:Nat):Int)) (congrArg (Value.int .i64) (by rw[Yf (by omega)];omega)) ?_
 refine Sy ?_
 refine Zso 1 rfl<|Zsf 28 (.I ((b-1:Nat):Int)) (congrArg (Value.int .i64) (by rw[Yf (by omega)];omega)) ?_
 refine Sz ?_
 refine Zst [0,1,8] [9,10] (fun kM vs jS=>∃(i3 j3:Nat)(zs:List Int),vs=[.I (i3:Int),.I (j3:Int)]∧jS [Zp 93 1 (Za zs) u d]∧(a+1≤i3∧i3≤j3+1∧j3≤b-1)∧(Pm a b xs zs)∧(PeI a b i3 j3 zs)∧(gI zs a=gI xs pv)∧(zs.length=xs.length)∧(j3+1-i3)=kM) rfl ⟨a+1,b-1,sw a pv xs,rfl,Z,(by omega),hp0,(PeI.start a b _ hab),(by rw[Xs (by omega) (by omega)];split;(rename_i e;rw[e]);rw[if_pos rfl]),(by omega),rfl⟩ ?_
 rintro _ _ w j ⟨i3,j3,zs,rfl,Z,hij,hp3,hP,hpa,hzl,rfl⟩
 replace Z:=Z.z
 refine Zt9<|Zsw<|Ztc [0,1,8,10] [9] [] Z (fun vs jS=>∃(i4:Nat),vs=[.I (i4:Int)]∧jS []∧(i3≤i4∧i4≤j3+1)∧(PeI a b i4 j3 zs)∧(¬i4≤j3∨¬¬gI zs a<gI zs i4)) rfl ?_ ?_
 ·refine Sz ?_
  refine Zst [0,1,8,10] [9] (fun kM vs jS=>∃(k4:Nat),vs=[.I (k4:Int)]∧jS []∧(i3≤k4∧k4≤j3+1)∧(PeI a b k4 j3 zs)∧(b+1-k4)=kM) rfl ⟨i3,rfl,Z,(by omega),hP,rfl⟩ ?_
  rintro _ _ w j ⟨k4,rfl,Z,hk4,hK4,rfl⟩
  replace Z:=Z.z
  refine Sz ?_
  refine Zsg [([0,1,2,3,4,5,8,9,6,10,7,11],some (12,[])),([13,14],none)] ?_
  refine Qz ?_
  by_cases cg1:(k4:Int)≤(j3:Int)
  ·refine Zsu 32 (.bool true) (congrArg Value.bool (decide_eq_true cg1)) ?_
   refine Qz ?_
   refine Zsj rfl rfl (i:=(a:Int)) (a) el_70 rfl rfl (by omega) (show a<nn by omega) (Z.rdO 0 rfl (Zb (k:=a) (by omega))).1 ?_
   refine Qz ?_
   refine Zsj rfl rfl (i:=(k4:Int)) (k4) el_70 rfl rfl (by omega) (show k4<nn by omega) (Z.rdO 0 rfl (Zb (k:=k4) (by omega))).1 ?_
   refine Qz ?_
   refine Zsn 1 [.W (gI zs a)] rfl (by exact(Z.rdO 0 rfl (Zb (k:=a) (by omega))).2 0 _ rfl) ?_
   refine Qz ?_
   refine Zsn 1 [.W (gI zs k4)] rfl (by exact(Z.rdO 0 rfl (Zb (k:=k4) (by omega))).2 0 _ rfl) ?_
   refine Qd fun w Z=>?_
   refine Zse (Xo (gI zs a) (gI zs k4) Z) fun w Z=>?_
   refine Qd fun w Z=>?_
   as_aux_lemma =>
   refine Zsr rfl (fun cd1=>?_) (fun cd1=>?_)
   ·refine Sy ?_
    refine Zso 1 rfl<|Zsf 45 (.I ((k4+1:Nat):Int)) (congrArg (Value.int .i64) (by rw[Yf (by omega)];omega)) ?_
    refine Sz ?_
    exact⟨_,by omega,rfl,k4+1,rfl,Z,(by omega),(hK4.up cd1),rfl⟩
   refine Sz ?_
   exact⟨rfl,k4,rfl,Z,hk4,hK4,(by first|exact .inr cd1|(left;omega))⟩
  refine Zsu 32 (.bool false) (congrArg Value.bool (decide_eq_false cg1)) ?_
  refine Qd fun w Z=>?_
  refine Qd fun w Z=>?_
  as_aux_lemma =>
  refine Sz ?_
  exact⟨rfl,k4,rfl,Z,hk4,hK4,(by first|exact .inr cg1|(left;omega))⟩
 rintro _ w j ⟨i4,rfl,Z,hi4,hI3,hI4⟩
 replace Z:=Z.z
 as_aux_lemma =>
 refine Zsw<|Ztc [0,1,8,9] [10] [] Z (fun vs jS=>∃(j4:Nat),vs=[.I (j4:Int)]∧jS []∧(i4≤j4+1∧j4≤j3)∧(PeI a b i4 j4 zs)∧(¬i4≤j4∨¬gI zs a<gI zs j4)) rfl ?_ ?_
 ·refine Sz ?_
  refine Zst [0,1,8,9] [10] (fun kM vs jS=>∃(k5:Nat),vs=[.I (k5:Int)]∧jS []∧(i4≤k5+1∧k5≤j3)∧(PeI a b i4 k5 zs)∧(k5)=kM) rfl ⟨j3,rfl,Z,(by omega),hI3,rfl⟩ ?_
  rintro _ _ w j ⟨k5,rfl,Z,hk5,hL5,rfl⟩
  replace Z:=Z.z
  refine Sz ?_
  refine Zsg [([0,1,2,3,4,5,8,9,6,10,7,11],some (12,[])),([13],none)] ?_
  refine Qz ?_
  by_cases cg1:(i4:Int)≤(k5:Int)
  ·refine Zsu 49 (.bool true) (congrArg Value.bool (decide_eq_true cg1)) ?_
   refine Qz ?_
   refine Zsj rfl rfl (i:=(a:Int)) (a) el_70 rfl rfl (by omega) (show a<nn by omega) (Z.rdO 0 rfl (Zb (k:=a) (by omega))).1 ?_
   refine Qz ?_
   refine Zsj rfl rfl (i:=(k5:Int)) (k5) el_70 rfl rfl (by omega) (show k5<nn by omega) (Z.rdO 0 rfl (Zb (k:=k5) (by omega))).1 ?_
   refine Qz ?_
   refine Zsn 1 [.W (gI zs a)] rfl (by exact(Z.rdO 0 rfl (Zb (k:=a) (by omega))).2 0 _ rfl) ?_
   refine Qz ?_
   refine Zsn 1 [.W (gI zs k5)] rfl (by exact(Z.rdO 0 rfl (Zb (k:=k5) (by omega))).2 0 _ rfl) ?_
   refine Qd fun w Z=>?_
   refine Zse (Xo (gI zs a) (gI zs k5) Z) fun w Z=>?_
   refine Qd fun w Z=>?_
   as_aux_lemma =>
   refine Zsr rfl (fun cd1=>?_) (fun cd1=>?_)
   ·refine Sy ?_
    refine Zso 1 rfl<|Zsf 61 (.I ((k5-1:Nat):Int)) (congrArg (Value.int .i64) (by rw[Yf (by omega)];omega)) ?_
    refine Sz ?_
    exact⟨_,by omega,rfl,k5-1,rfl,Z,(by omega),(hL5.down cd1),rfl⟩
   refine Sz ?_
   exact⟨rfl,k5,rfl,Z,hk5,hL5,(by first|exact .inr cd1|(left;omega))⟩
  refine Zsu 49 (.bool false) (congrArg Value.bool (decide_eq_false cg1)) ?_
  refine Qd fun w Z=>?_
  refine Qd fun w Z=>?_
  exact⟨rfl,k5,rfl,Z,hk5,hL5,(by first|exact .inr cg1|(left;omega))⟩
 rintro _ w j ⟨j4,rfl,Z,hj4,hJ4,hJ5⟩
 replace Z:=Z.z
 refine Sz ?_
 refine Zsi (fun hen2=>?_) fun hen2=>?_
 ·exact⟨_,_,rfl,Z,hJ4.fin2 hp3 (by omega) (by omega) (by omega) (fun k h1 h2=>by obtain⟨j9,j1,j2,e9⟩:=hp3.inn k h1 h2;rw[e9,hpa];exact hmin j9 j1 j2)⟩
 refine Zsg [([0,1,2,3,4,5,8,9,6,10,7,11,12],some (13,[2,3])),([14],some (15,[]))] ?_
 have hsw:=hJ4.swap (by omega) (by omega) (by omega) (by omega) (hI4.resolve_left (by omega)) (hJ5.resolve_left (by omega));have hp4:=hp3.trans (Pm.swap (a:=a) (b:=b) (i:=i4) (j:=j4) (xs:=zs) (by omega) (by omega) (by omega));have hsl2:=Ju i4 j4 zs
 refine Qz ?_
 refine Zsj rfl rfl (i:=(j4:Int)) (j4) el_70 rfl rfl (by omega) (show j4<nn by omega) (Z.rdO 0 rfl (Zb (k:=j4) (by omega))).1 ?_
 refine Zsj rfl rfl (i:=(i4:Int)) (i4) el_70 rfl rfl (by omega) (show i4<nn by omega) (Z.rdO 0 rfl (Zb (k:=i4) (by omega))).1 ?_
 refine Zsn 1 [.W (gI zs j4)] rfl (by exact(Z.rdO 0 rfl (Zb (k:=j4) (by omega))).2 0 _ rfl) ?_
 refine Zsn 1 [.W (gI zs i4)] rfl (by exact(Z.rdO 0 rfl (Zb (k:=i4) (by omega))).2 0 _ rfl) ?_
 refine Zsj rfl rfl (i:=(i4:Int)) (i4) el_70 rfl rfl (by omega) (show i4<nn by omega) (Z.rdO 0 rfl (Zb (k:=i4) (by omega))).1 ?_
 refine Qd fun w Z=>?_
 refine Zs5 rfl rfl rfl 0 (i4) 0 [.W (gI zs i4)] (Za (zs.set (i4) (gI zs (j4)))) Z rfl (Zb (k:=i4) (by omega)) rfl rfl rfl rfl rfl (Zx _ _ _) (fun w Z=>?_)
 replace Z:=Z.z
 refine Sz ?_
 refine Zsj rfl rfl (i:=(j4:Int)) (j4) el_70 rfl rfl (by omega) (show j4<nn by omega) (Z.rdO 0 rfl (Zb (k:=j4) (by rw[List.length_set];omega))).1 ?_
 refine Qd fun w Z=>?_
 refine Zs5 rfl rfl rfl 0 (j4) 0 [.W (gI (zs.set i4 (gI zs j4)) j4)] (Za (sw (i4) (j4) zs)) Z rfl (Zb (k:=j4) (by rw[List.length_set];omega)) rfl rfl rfl rfl rfl (Zx _ _ _) (fun w Z=>?_)
 replace Z:=Z.z
 refine Sz ?_
 refine Qe fun w Z=>?_
 refine Sy ?_
 refine Zso 1 rfl<|Zsf 80 (.I ((i4+1:Nat):Int)) (congrArg (Value.int .i64) (by rw[Yf (by omega)];omega)) ?_
 refine Sy ?_
 refine Zso 1 rfl<|Zsf 82 (.I ((j4-1:Nat):Int)) (congrArg (Value.int .i64) (by rw[Yf (by omega)];omega)) ?_
 refine Sz ?_
 exact⟨_,by omega,rfl,i4+1,j4-1,sw i4 j4 zs,rfl,Z,(by omega),hp4,hsw.2,(by rw[Xs (by omega) (by omega),if_neg (by omega),if_neg (by omega)];exact hpa),(by omega),rfl⟩
theorem Zph(xs:List Int)(u:Option Addr)(nn d:Nat)(a b:Nat)(hab:a+1<b)(hb:b≤xs.length)(hl:xs.length<50)(hnn:xs.length=nn)(Z:St g (Zp 93 1 (Za xs) u d::L) w) :
  Cp g L 321 [.slice u nn d,.I (a:Int),.I (b:Int)] w fun rV=>∃(bb:Bool),rV (.bool bb) [Zp 93 1 (Za xs) u d] (bb=true→Sd a b xs):=by
 refine Sp.enter Tryz.func321 rfl (by kernel_rfl) (by kernel_rfl) ?_
 have _:=hnn
 have _:=hl
 have _:=hb
 have _:=hab
 refine Sy ?_
 have hxl:=Zh xs
 refine Zso 1 rfl<|Zsf 12 (.I ((a+1:Nat):Int)) (congrArg (Value.int .i64) (by rw[Yf (by omega)];omega)) ?_
 refine Sz ?_
 refine Zst [0,1,2] [7,8] (fun kM vs jS=>vs=[.I ((a+1:Nat):Int),.I 0]∧jS []∧(0)=kM) rfl ⟨rfl,Z,rfl⟩ ?_
 rintro _ _ w j ⟨rfl,Z,rfl⟩
 replace Z:=Z.z
 refine Sz ?_
 refine Zst [0,1,2,8,13,14] [7] (fun kM vs jS=>∃(k:Nat),vs=[.I (k:Int)]∧jS []∧(a+1≤k∧k≤b)∧(Sd a k xs)∧(b-k)=kM) rfl ⟨a+1,rfl,Z,(by omega),(fun p q h1 h2 h3=>by omega),rfl⟩ ?_
 rintro _ _ w j ⟨k,rfl,Z,hk,hs,rfl⟩
 replace Z:=Z.z
 refine Sz ?_
 refine Zsg [([0,1,2,3,4,5,8,9,6,10,7,11,12],some (13,[])),([14,15],none)] ?_
 refine Qz ?_
 by_cases cg1:(k:Int)<(b:Int)
 ·refine Zsu 20 (.bool true) (congrArg Value.bool (decide_eq_true cg1))<|Zti rfl rfl rfl<|Ztf 1 rfl<|Zti rfl rfl rfl<|Ztf 1 rfl<|Zti rfl rfl rfl<|Ztf 1 rfl<|Zti rfl rfl rfl<|Ztf 1 rfl<|Zti rfl rfl rfl<|Zsj rfl rfl (i:=(k:Int)) (k) el_70 rfl rfl (by omega) (show k<nn by omega) (Z.rdO 0 rfl (Zb (k:=k) (by omega))).1 ?_
  refine Zti rfl rfl rfl<|Ztf 1 rfl<|Zsu 27 (.I ((k-1:Nat):Int)) (congrArg (Value.int .i64) (by rw[Yf (by omega)];omega)) ?_
  refine Zti rfl rfl rfl<|Zsn 1 [.W (gI xs k)] rfl (by exact(Z.rdO 0 rfl (Zb (k:=k) (by omega))).2 0 _ rfl) ?_
  refine Zti rfl rfl rfl<|Zsj rfl rfl (i:=((k-1:Nat):Int)) (k-1) el_70 rfl rfl (by omega) (show k-1<nn by omega) (Z.rdO 0 rfl (Zb (k:=k-1) (by omega))).1 ?_
  refine Zti rfl rfl rfl<|Zsn 1 [.W (gI xs (k-1))] rfl (by exact(Z.rdO 0 rfl (Zb (k:=k-1) (by omega))).2 0 _ rfl) ?_
  refine WQ.dn Z (fun w Z=>?_)
  refine Sz ?_
  refine Zse (Xo (gI xs k) (gI xs (k-1)) Z) fun w Z=>?_
  refine Qd fun w Z=>?_
  as_aux_lemma =>
  refine Zsr rfl (fun cd2=>?_) (fun cd2=>?_)
  ·refine Sy ?_
   refine Zso 1 rfl<|Zsf 34 (.I ((k+1:Nat):Int)) (congrArg (Value.int .i64) (by rw[Yf (by omega)];omega)) ?_
   refine Sz ?_
   exact⟨_,by omega,rfl,k+1,rfl,Z,(by omega),(Sd.snoc hs (by omega) cd2),rfl⟩
  refine Sz ?_
  refine Zsi (fun he=>?_) fun he=>?_
  ·exact⟨_,rfl,Z,fun _=>by have e9:k=b:=(by omega);rw[←e9];exact hs⟩
  refine Zs0 rfl (decide_eq_true ((by omega))) ?_
  exact⟨_,rfl,Z,fun h=>by cases h⟩
 refine Zsu 20 (.bool false) (congrArg Value.bool (decide_eq_false cg1)) ?_
 refine Qd fun w Z=>?_
 refine Qd fun w Z=>?_
 as_aux_lemma =>
 refine Sz ?_
 refine Zsi (fun he=>?_) fun he=>?_
 ·exact⟨_,rfl,Z,fun _=>by have e9:k=b:=(by omega);rw[←e9];exact hs⟩
 refine Zs0 rfl (decide_eq_true ((by omega))) ?_
 exact⟨_,rfl,Z,fun h=>by cases h⟩
theorem Zaj(xs:List Int)(u:Option Addr)(nn d:Nat)(a b s:Nat)(p:Nat)(ha:a<xs.length)(hb:b<xs.length)(hl:xs.length≤1000)(hnn:xs.length=nn)(hs:s≤100)(Z:St g (Zp 93 1 (Za xs) u d::Zq p #[.I (s:Int)] 3::L) w) :
  Cp g L 467 [.slice u nn d,.I (a:Int),.I (b:Int),.P p] w fun rV=>∃(x y s2:Nat),rV (.tuple #[.I (x:Int),.I (y:Int)]) [Zp 93 1 (Za xs) u d,Zq p #[.I (s2:Int)] 3] (s2≤s+1∧((x=a∧y=b)∨(x=b∧y=a))):=by
 refine Sp.en Tryz.func467 ?_
 have _:=hs
 have _:=hnn
 have _:=hl
 have _:=hb
 have _:=ha
 refine Zsg [([0,1,4,5,2,6,3,7],some (8,[]))] ?_
 have hxl:=Zh xs
 refine Qz ?_
 refine Zsj rfl rfl (i:=(b:Int)) (b) el_70 rfl rfl (by omega) (show b<nn by omega) (Z.rdO 0 rfl (Zb (k:=b) (by omega))).1 ?_
 refine Zsj rfl rfl (i:=(a:Int)) (a) el_70 rfl rfl (by omega) (show a<nn by omega) (Z.rdO 0 rfl (Zb (k:=a) (by omega))).1 ?_
 refine Zsn 1 [.W (gI xs b)] rfl (by exact(Z.rdO 0 rfl (Zb (k:=b) (by omega))).2 0 _ rfl) ?_
 refine Zsn 1 [.W (gI xs a)] rfl (by exact(Z.rdO 0 rfl (Zb (k:=a) (by omega))).2 0 _ rfl) ?_
 refine Qd fun w Z=>?_
 refine Zse (Xo (gI xs b) (gI xs a) Z) fun w Z=>?_
 refine Qd fun w Z=>?_
 refine Zsr rfl (fun hc=>?_) (fun hc=>?_)
 ·refine Sy ?_
  refine Zso 1 rfl<|Zsf 22 (.I ((s+1:Nat):Int)) (congrArg (Value.int .i64) (by rw[Yf (by omega)];omega)) ?_
  refine Sz ?_
  refine Zss fun w Z=>?_
  exact⟨_,_,_,rfl,Z,by omega,.inr ⟨rfl,rfl⟩⟩
 refine Sz ?_
 exact⟨_,_,_,rfl,Z,by omega,.inl ⟨rfl,rfl⟩⟩
theorem med_u(xs:List Int)(u:Option Addr)(nn d:Nat)(a b c s:Nat)(p:Nat)(lo hi:Nat)(ha:lo≤a∧a<hi)(hb:lo≤b∧b<hi)(hc:lo≤c∧c<hi)(hhi:hi≤xs.length)(hl:xs.length≤1000)(hnn:xs.length=nn)(hs:s≤90)(Z:St g (Zp 93 1 (Za xs) u d::Zq p #[.I (s:Int)] 3::L) w) :
  Cp g L 422 [.slice u nn d,.I (a:Int),.I (b:Int),.I (c:Int),.P p] w fun rV=>∃(x s2:Nat),rV (.I (x:Int)) [Zp 93 1 (Za xs) u d,Zq p #[.I (s2:Int)] 3] (s2≤s+3∧lo≤x∧x<hi):=by
 refine Sp.en Tryz.func422 ?_
 have _:=hs
 have _:=hhi
 have _:=hc
 have _:=hb
 have _:=ha
 refine Ztk (Zaj _ _ nn _ a b s _ (by omega) (by omega) hl hnn (by omega) Z) fun w x1 y1 s1 Z f1=>?_
 refine Ztk (Zaj _ _ nn _ y1 c s1 _ (by omega) (by omega) hl hnn (by omega) Z) fun w x2 y2 s2 Z f2=>?_
 refine Ztk (Zaj _ _ nn _ x1 x2 s2 _ (by omega) (by omega) hl hnn (by omega) Z) fun w x3 y3 s3 Z f3=>?_
 exact⟨_,_,rfl,Z,by omega,by omega⟩
theorem chp_u(xs:List Int)(u:Option Addr)(nn d:Nat)(a b:Nat)(hab:a+8≤b)(hb:b≤xs.length)(hl:xs.length<50)(hnn:xs.length=nn)(Z:St g (Zp 93 1 (Za xs) u d::L) w) :
  Cp g L 319 [.slice u nn d,.I (a:Int),.I (b:Int)] w fun rV=>∃(p:Nat)(h:Int),rV (.tuple #[.I (p:Int),.I h]) [Zp 93 1 (Za xs) u d] (a≤p∧p<b∧(h=0∨h=1)):=by
 refine Sp.enter Tryz.func319 rfl (by kernel_rfl) (by kernel_rfl) ?_
 have _:=hl
 have _:=hab
 refine Sy ?_
 refine Zso 1 rfl<|Zsf 15 (.I ((b-a:Nat):Int)) (congrArg (Value.int .i64) (by rw[Yf (by omega)];omega)) ?_
 refine Sz ?_
 refine Zua rfl rfl zv_3.h Z (fun b1 w Z=>?_)
 refine Sy ?_
 refine Zso 1 rfl<|Zsf 18 (.I (((b-a)/4:Nat):Int)) (congrArg (Value.int .i64) (by exact wq 4 (by omega))) ?_
 refine Zso 1 rfl<|Zsf 19 (.I (((b-a)/4:Nat):Int)) (congrArg (Value.int .i64) (by rw[Yf (by omega)];omega)) ?_
 refine Zso 1 rfl<|Zsf 20 (.I ((a+(b-a)/4:Nat):Int)) (congrArg (Value.int .i64) (by rw[Yf (by omega)];omega)) ?_
 refine Sy ?_
 refine Zso 1 rfl<|Zsf 23 (.I (((b-a)/4:Nat):Int)) (congrArg (Value.int .i64) (by exact wq 4 (by omega))) ?_
 refine Zso 1 rfl<|Zsf 24 (.I (((b-a)/4*2:Nat):Int)) (congrArg (Value.int .i64) (by rw[Yf (by omega)];omega)) ?_
 refine Zso 1 rfl<|Zsf 25 (.I ((a+(b-a)/4*2:Nat):Int)) (congrArg (Value.int .i64) (by rw[Yf (by omega)];omega)) ?_
 refine Sy ?_
 refine Zso 1 rfl<|Zsf 28 (.I (((b-a)/4:Nat):Int)) (congrArg (Value.int .i64) (by exact wq 4 (by omega))) ?_
 refine Zso 1 rfl<|Zsf 29 (.I (((b-a)/4*3:Nat):Int)) (congrArg (Value.int .i64) (by rw[Yf (by omega)];omega)) ?_
 refine Zso 1 rfl<|Zsf 30 (.I ((a+(b-a)/4*3:Nat):Int)) (congrArg (Value.int .i64) (by rw[Yf (by omega)];omega)) ?_
 refine Sz ?_
 refine Zs0 rfl (decide_eq_true ((by omega))) ?_
 refine Zs8 rfl (decide_eq_false ((by omega))) ?_
 replace Z:=Z.n2 L (a0:=Zq b1 #[.I ((0:Nat):Int)] 3) rfl
 refine Sz ?_
 refine Zs2 (med_u _ _ nn _ (a+(b-a)/4:Nat) (a+(b-a)/4*2:Nat) (a+(b-a)/4*3:Nat) (0:Nat) _ a b (by omega) (by omega) (by omega) hb (by omega) hnn (by omega) (Z.sel 2 [1,0] rfl)) fun w x1 s1 Z f1=>?_
 refine Zsi (fun h0=>?_) fun h0=>?_
 ·replace Z:=(Z.sel 2 [0] rfl)
  exact⟨_,_,rfl,Z,by omega,by omega,.inr rfl⟩
 refine Zs8 rfl (decide_eq_false ((by omega))) ?_
 as_aux_lemma =>
 refine Sz ?_
 replace Z:=(Z.sel 2 [0] rfl)
 exact⟨_,_,rfl,Z,by omega,by omega,.inl rfl⟩
end Go.Proofs.YtpebgkkmgffmaaaGreatDoor
namespace Go.Proofs.YtpebgkkmgffmaaaGreatDoor
open Go Go.V Go.RowKit
set_option maxHeartbeats 8000000
set_option maxRecDepth 8192
variable{g w:World}{L:List HP}
theorem Znd(x:Nat)(hx:x<50)(Z:St g (L) w) :
  Zr g L 326 [.U (x:Int)] w fun rV=>rV (.I (l8 x)) []:=by
 refine Sp.en Tryz.func326 ?_
 refine Zsm rfl (decide_eq_false ((by omega))) ?_
 refine Zsm rfl (decide_eq_false ((by omega))) ?_
 refine Zs8 rfl (decide_eq_false ((by omega))) ?_
 refine Sy ?_
 have hlr:=Zbq hx;have hw8:IntKind.u8.wrap (x:Int)=x:=(by unfold IntKind.wrap;simp[IntKind.bits,IntKind.signed];omega)
 refine Zso 1 rfl<|Zt2 rfl rfl (v:=IntKind.u8.wrap (x:Int)) (x) rfl rfl rfl (by omega) (Zr4 (by kernel_rfl) hx) ?_
 refine Sz ?_
 exact⟨congrArg (Value.int .i64) (Int.zero_add _),Z⟩
theorem Zor(x:Nat)(hx:x<50)(Z:St g (L) w) :
  Zr g L 195 [.U (x:Int)] w fun rV=>rV (.I (l8 x)) []:=by
 refine Sp.en Tryz.func195 ?_
 refine Zse (Znd x hx Z) fun w Z=>?_
 exact⟨rfl,Z⟩
theorem xnext(p:Nat)(x:Int)(hx:0≤x∧x≤18446744073709551615)(Z:St g (Zq p #[.U x] 541::L) w) :
  Cp g L 420 [.P p] w fun rV=>∃(y:Int),rV (.U y) [Zq p #[.U y] 541] (0≤y∧y≤18446744073709551615):=by
 refine Sp.en Tryz.func420 ?_
 have _:=hx
 refine Zsg [([0,3,1,4,2,5,6,7,8],some (9,[]))] ?_
 refine Qz ?_
 refine Ztf 1 rfl<|Ztf 1 rfl ?_
 refine Qd fun w Z=>?_
 refine Zss fun w Z=>?_
 refine Qd fun w Z=>?_
 refine Zsg [([0,3,1,4,2,5,6,7,8],some (9,[]))]<|Ztf 4 rfl<|Zsn 1 [.U (UI .xor .u64 x (IntKind.u64.wrap (x*(p2 .u64 13))))] rfl (by exact Z.ld 0 rfl rfl) ?_
 refine Zsn 1 [.U (UI .xor .u64 x (IntKind.u64.wrap (x*(p2 .u64 13))))] rfl (by exact Z.ld 0 rfl rfl) ?_
 refine Ztf 1 rfl<|Zsu 18 (.U ((UI .xor .u64 x (IntKind.u64.wrap (x*(p2 .u64 13))))/128)) (congrArg (Value.int .u64) (by rfl)) ?_
 refine Ztf 2 rfl<|WQ.dn Z (fun w Z=>?_)
 refine Zss fun w Z=>?_
 refine Qd fun w Z=>?_
 refine Zsg [([0,3,1,4,2,5,6,7,8],some (9,[]))] ?_
 refine Qz ?_
 refine Ztf 1 rfl<|Ztf 1 rfl ?_
 refine Qd fun w Z=>?_
 refine Zss fun w Z=>?_
 refine Qd fun w Z=>?_
 exact⟨_,rfl,Z,Zl2 _ _⟩
theorem Zpv{x:Nat}(hx:8≤x∧x<50):(x:Int)<IntKind.u64.wrap (1*p2 .u64 (l8 x).toNat)∧IntKind.u64.wrap (1*p2 .u64 (l8 x).toNat)≤2*x:=by
 have h:(List.range 50).all (fun y=>decide (8≤y→(y:Int)<IntKind.u64.wrap (1*p2 .u64 (l8 y).toNat)∧IntKind.u64.wrap (1*p2 .u64 (l8 y).toNat)≤2*y))=true:=by kernel_rfl
 exact of_decide_eq_true (List.all_eq_true.1 h x (List.mem_range.2 hx.2)) hx.1
theorem npow(x:Nat)(hx:8≤x∧x<50)(Z:St g (L) w) :
  Cp g L 419 [.I (x:Int)] w fun rV=>∃(md:Int),rV (.U md) [] ((x:Int)<md∧md≤2*x):=by
 refine Sp.en Tryz.func419 ?_
 have hlr:=Zbq hx.2;have hl3:=hlr.2.2 hx.1
 refine Sz ?_
 refine Ztg (Zor x hx.2 Z) fun w Z=>?_
 refine Zv3 rfl rfl (b:=l8 x) ((l8 x).toNat) rfl rfl (by omega) ?_
 refine Sz ?_
 exact⟨_,rfl,Z,Zpv hx⟩
theorem brk_u(xs:List Int)(u:Option Addr)(nn d:Nat)(a b:Nat)(hab:a+8≤b)(hb:b≤xs.length)(hl:xs.length<50)(hnn:xs.length=nn)(Z:St g (Zp 93 1 (Za xs) u d::L) w) :
  Cp g L 318 [.slice u nn d,.I (a:Int),.I (b:Int)] w fun rV=>∃(ys:List Int),rV (.tuple #[]) [Zp 93 1 (Za ys) u d] (Pm a b xs ys):=by
 refine Sp.enter Tryz.func318 rfl (by kernel_rfl) (by kernel_rfl) ?_
 have _:=hnn
 have _:=hl
 have _:=hb
 have _:=hab
 refine Sy ?_
 refine Zso 1 rfl<|Zsf 13 (.I ((b-a:Nat):Int)) (congrArg (Value.int .i64) (by rw[Yf (by omega)];omega)) ?_
 refine Sz ?_
 refine Zs0 rfl (decide_eq_true ((by omega))) ?_
 refine Zsk fun b1 w Z=>?_
 refine Zss fun w Z=>?_
 refine Zt8 (npow (b-a:Nat) (by omega) Z) fun w md1 Z f1=>?_
 refine Sy ?_
 refine Zso 1 rfl<|Zsf 22 (.I (((b-a)/4:Nat):Int)) (congrArg (Value.int .i64) (by exact wq 4 (by omega))) ?_
 refine Zso 1 rfl<|Zsf 23 (.I (((b-a)/4*2:Nat):Int)) (congrArg (Value.int .i64) (by rw[Yf (by omega)];omega)) ?_
 refine Zso 1 rfl<|Zsf 24 (.I ((a+(b-a)/4*2:Nat):Int)) (congrArg (Value.int .i64) (by rw[Yf (by omega)];omega)) ?_
 refine Zso 1 rfl<|Zsf 25 (.I ((a+(b-a)/4*2-1:Nat):Int)) (congrArg (Value.int .i64) (by rw[Yf (by omega)];omega)) ?_
 refine Sz ?_
 refine Zst [0,1,6,7,8] [9] (fun kM vs jS=>∃(k:Nat)(r:Int)(zs:List Int),vs=[.I (k:Int)]∧jS [Zq b1 #[.U r] 541,Zp 93 1 (Za zs) u d]∧(a≤k∧k≤a+(b-a)/4*2+2)∧(0≤r∧r≤18446744073709551615)∧(Pm a b xs zs)∧(a+(b-a)/4*2+2-k)=kM) rfl ⟨a+(b-a)/4*2-1,((b-a:Nat):Int),xs,rfl,Z,(by omega),(by omega),(Pm.refl _ _ _),rfl⟩ ?_
 rintro _ _ w j ⟨k,r,zs,rfl,Z,hk,hr,hp,rfl⟩
 replace Z:=Z.z
 refine Sy ?_
 refine Zso 1 rfl<|Zsf 29 (.I (((b-a)/4:Nat):Int)) (congrArg (Value.int .i64) (by exact wq 4 (by omega))) ?_
 refine Zso 1 rfl<|Zsf 30 (.I (((b-a)/4*2:Nat):Int)) (congrArg (Value.int .i64) (by rw[Yf (by omega)];omega)) ?_
 refine Zso 1 rfl<|Zsf 31 (.I ((a+(b-a)/4*2:Nat):Int)) (congrArg (Value.int .i64) (by rw[Yf (by omega)];omega)) ?_
 refine Zso 1 rfl<|Zsf 32 (.I ((a+(b-a)/4*2+1:Nat):Int)) (congrArg (Value.int .i64) (by rw[Yf (by omega)];omega)) ?_
 refine Sz ?_
 refine Zsr rfl (fun cd1=>?_) (fun cd1=>?_)
 ·have hzl:=hp.len
  refine Sz ?_
  refine Zt8 (xnext _ r hr Z) fun w y1 Z f2=>?_
  refine Sy ?_
  refine Zso 1 rfl<|Zsf 38 (.U (md1-1)) (congrArg (Value.int .u64) (by exact V' (by omega))) ?_
  refine Zso 1 rfl<|Zsf 39 (.U (UI .and .u64 y1 (md1-1))) (congrArg (Value.int .u64) (by rfl)) ?_
  refine Zso 1 rfl<|Zsf 40 (.I (UI .and .u64 y1 (md1-1))) (congrArg (Value.int .i64) (by have h9:=U2 (y:=y1) (m:=md1-1) (by omega) (by omega);exact Yf (by omega))) ?_
  refine Sx ?_
  refine Zs9 ?_
  as_aux_lemma =>
  refine Zsw<|Zsw<|WC.region ?_
  refine Sx ?_
  refine Zs9<|Ztc [0,1,6,7,8,9,26,27,28,29,30,31,32,33,36,37,38,39,40,41,42,43] [10] [] Z (fun vs jS=>∃(o:Int),vs=[.I o]∧jS []∧(0≤o∧o<((b-a:Nat):Int))) rfl ?_ ?_
  ·refine Zsr rfl (fun cd2=>?_) (fun cd2=>?_)
   ·refine Sy ?_
    refine Zso 1 rfl<|Zsf 46 (.I ((UI .and .u64 y1 (md1-1))-((b-a:Nat):Int))) (congrArg (Value.int .i64) (by have h9:=U2 (y:=y1) (m:=md1-1) (by omega) (by omega);exact Yf (by omega))) ?_
    refine Sz ?_
    exact⟨rfl,(UI .and .u64 y1 (md1-1))-((b-a:Nat):Int),rfl,Z,(by have h9:=U2 (y:=y1) (m:=md1-1) (by omega) (by omega);omega)⟩
   refine Sz ?_
   exact⟨rfl,(UI .and .u64 y1 (md1-1)),rfl,Z,(by have h9:=U2 (y:=y1) (m:=md1-1) (by omega) (by omega);omega)⟩
  rintro _ w j ⟨o,rfl,Z,ho⟩
  replace Z:=Z.z
  refine Zsg [([0,1,2,3,4,6,7,8,12,13,5,9,14,10,15,11,16],some (17,[2,3,4,5])),([18],some (19,[]))] ?_
  have hkb:k<b:=(by omega)
  refine Qz ?_
  refine Zsj rfl rfl (i:=(k:Int)) (k) el_70 rfl rfl (by omega) (show k<nn by omega) (Z.rdO 1 rfl (Zb (k:=k) (by omega))).1 ?_
  refine Zsj rfl rfl (i:=(a:Int)+o) (a+o.toNat) el_70 rfl rfl (by omega) (show a+o.toNat<nn by omega) (Z.rdO 1 rfl (Zb (k:=a+o.toNat) (by omega))).1 ?_
  refine Zsn 1 [.W (gI zs k)] rfl (by exact(Z.rdO 1 rfl (Zb (k:=k) (by omega))).2 0 _ rfl) ?_
  refine Zsn 1 [.W (gI zs (a+o.toNat))] rfl (by exact(Z.rdO 1 rfl (Zb (k:=a+o.toNat) (by omega))).2 0 _ rfl) ?_
  refine Zsj rfl rfl (i:=(k:Int)) (k) el_70 rfl rfl (by omega) (show k<nn by omega) (Z.rdO 1 rfl (Zb (k:=k) (by omega))).1 ?_
  refine Qd fun w Z=>?_
  refine Zs5 rfl rfl rfl 1 (k) 0 [.W (gI zs k)] (Za (zs.set (k) (gI zs (a+o.toNat)))) Z rfl (Zb (k:=k) (by omega)) rfl rfl rfl rfl rfl (Zx _ _ _) (fun w Z=>?_)
  replace Z:=Z.z
  refine Sz ?_
  refine Zsj rfl rfl (i:=(a:Int)+o) (a+o.toNat) el_70 rfl rfl (by omega) (show a+o.toNat<nn by omega) (Z.rdO 1 rfl (Zb (k:=a+o.toNat) (by rw[List.length_set];omega))).1 ?_
  refine Qd fun w Z=>?_
  refine Zs5 rfl rfl rfl 1 (a+o.toNat) 0 [.W (gI (zs.set k (gI zs (a+o.toNat))) (a+o.toNat))] (Za (sw (k) (a+o.toNat) zs)) Z rfl (Zb (k:=a+o.toNat) (by rw[List.length_set];omega)) rfl rfl rfl rfl rfl (Zx _ _ _) (fun w Z=>?_)
  replace Z:=Z.z
  refine Sz ?_
  refine Qe fun w Z=>?_
  refine Sy ?_
  refine Zso 1 rfl<|Zsf 35 (.I ((k+1:Nat):Int)) (congrArg (Value.int .i64) (by rw[Yf (by omega)];omega)) ?_
  refine Sz ?_
  exact⟨_,by omega,rfl,k+1,y1,sw k (a+o.toNat) zs,rfl,Z,(by omega),(by omega),(hp.trans (Pm.swap (by omega) (by omega) (by omega))),rfl⟩
 refine Sz ?_
 replace Z:=(Z.sel 1 [] rfl)
 exact⟨_,rfl,Z,hp⟩
theorem V9(nM:Nat)(ih:∀mM:Nat,mM<nM→∀(g w:World)(L:List HP)(xs:List Int)(u:Option Addr)(nn d:Nat)(a b:Nat)(lim:Int),(a≤b)→(b≤xs.length)→(xs.length<50)→(xs.length=nn)→(0≤lim∧lim≤100)→(0<a→∀k,a≤k→k<b→gI xs (a-1)≤gI xs k)→b-a=mM→St g (Zp 93 1 (Za xs) u d::L) w→Cp g L 194 [.slice u nn d,.I (a:Int),.I (b:Int),.I lim] w fun rV=>∃(ys:List Int),rV (.tuple #[]) [Zp 93 1 (Za ys) u d] (Pm a b xs ys∧Sd a b ys))(xs:List Int)(u:Option Addr)(nn d:Nat)(a b:Nat)(lim:Int)(hab:a≤b)(hb:b≤xs.length)(hl:xs.length<50)(hnn:xs.length=nn)(hlim:0≤lim∧lim≤100)(hfr:0<a→∀k,a≤k→k<b→gI xs (a-1)≤gI xs k)(hM:b-a=nM)(Z:St g (Zp 93 1 (Za xs) u d::L) w) :
  Cp g L 194 [.slice u nn d,.I (a:Int),.I (b:Int),.I lim] w fun rV=>∃(ys:List Int),rV (.tuple #[]) [Zp 93 1 (Za ys) u d] (Pm a b xs ys∧Sd a b ys):=by
 refine Sp.en Tryz.func194 ?_
 have _:=hnn
 have _:=hl
 have _:=hb
 refine Zst [0] [1,2,3,8,9] (fun kM vs jS=>∃(c e:Nat)(lm:Int)(wb wp:Bool)(zs:List Int),vs=[.I (c:Int),.I (e:Int),.I lm,.bool wb,.bool wp]∧jS [Zp 93 1 (Za zs) u d]∧(Pdq a b c e xs zs)∧(0≤lm∧lm≤100)∧(e-c)=kM) rfl ⟨a,b,lim,true,true,xs,rfl,Z,(Pdq.start hab hfr),hlim,rfl⟩ ?_
 rintro _ _ w j ⟨c,e,lm,wb,wp,zs,rfl,Z,hP,hlm,rfl⟩
 replace Z:=Z.z
 refine Sy ?_
 have hzl:=hP.pm.len;have hcd:=hP.cd
 refine Zso 1 rfl<|Zsf 21 (.I ((e-c:Nat):Int)) (congrArg (Value.int .i64) (by rw[Yf (by omega)];omega)) ?_
 refine Sz ?_
 refine Zsi (fun hs12=>?_) fun hs12=>?_
 ·refine Zsy (ins_u _ _ nn _ c e hcd.2.1 (by omega) (by omega) (by omega) Z) fun w ys1 Z f1=>?_
  exact⟨_,rfl,Z,hP.fin hcd.2.1 f1.1 f1.2⟩
 refine Zsr rfl (fun hl0=>?_) (fun hl0=>?_)
 ·refine Sz ?_
  refine Zsy (Zqm _ _ nn _ c e (by omega) (by omega) (by omega) (by omega) Z) fun w ys1 Z f1=>?_
  exact⟨_,rfl,Z,hP.fin hcd.2.1 f1.1 f1.2⟩
 refine Ztw<|Zsw<|Zsw<|WC.region ?_
 refine Sx ?_
 refine Zs9<|Ztc [0,1,2,8,9,10,19,20,21,22,23,28,29,34,35] [3] [_] Z (fun vs jS=>∃(lm2:Int)(zs2:List Int),vs=[.I lm2]∧jS [Zp 93 1 (Za zs2) u d]∧(Pdq a b c e xs zs2)∧(0≤lm2∧lm2≤100)) rfl ?_ ?_
 ·refine Ztl (fun cd1=>?_) fun cd1=>?_
  ·refine Zsy (brk_u _ _ nn _ c e (by omega) (by omega) (by omega) (by omega) Z) fun w ys1 Z f1=>?_
   exact⟨rfl,lm-1,ys1,rfl,Z,(hP.pmt hcd.2.1 f1),(by omega)⟩
  exact⟨rfl,lm,zs,rfl,Z,hP,hlm⟩
 rintro _ w j ⟨lm2,zs2,rfl,Z,hP2,hlm2⟩
 replace Z:=Z.z
 have hzl2:=hP2.pm.len
 refine Sz ?_
 refine Zs2 (chp_u _ _ nn _ c e (by omega) (by omega) (by omega) (by omega) Z) fun w p1 h1 Z f1=>?_
 refine Zsm rfl (decide_eq_false ((by omega))) ?_
 refine Ztd 6 rfl (fun j=>?_)
 refine Zsx 68 rfl (Zy (Zy (dv _) (dv _)) (dd _))<|Zs9<|Ztc [0,1,2,3,8,9,10,11,12,19,20,21,22,23,28,29,34,35,42,43,44,45,46,47,48,49,50,61,62,65,68] [] [] Z (fun vs jS=>vs=[]∧jS []) rfl ?_ ?_
 ·refine Zsi (fun cd1=>?_) fun cd1=>?_
  ·refine Zsy (Zph _ _ nn _ c e (by omega) (by omega) (by omega) (by omega) Z) fun w bb1 Z f2=>?_
   as_aux_lemma =>
   refine Ztl (fun hpi=>?_) fun hpi=>?_
   ·exact⟨_,rfl,Z,hP2.fin hcd.2.1 (Pm.refl _ _ _) (f2 hpi)⟩
   exact⟨rfl,rfl,Z⟩
  exact⟨rfl,rfl,Z⟩
 rintro _ w j ⟨rfl,Z⟩
 replace Z:=Z.z
 as_aux_lemma =>
 refine Zsw<|Zsw<|Ztc [0,1,2,3,8,9,10,11,12,19,20,21,22,23,28,29,34,35,42,43,44,45,46,47,48,49,50,61,62,65,68] [87] [] Z (fun vs jS=>∃(bb:Bool),vs=[.bool bb]∧jS []∧(bb=true→0<c∧gI zs2 p1≤gI zs2 (c-1))) rfl ?_ ?_
 ·refine Zsg [([0,1,2,3,4,8,9,5,10,6,11,7],some (12,[])),([13,14],none)] ?_
  refine Qz ?_
  by_cases cg1:0<(c:Int)
  ·refine Zsu 75 (.bool true) (congrArg Value.bool (decide_eq_true cg1))<|Zti rfl rfl rfl<|Ztf 1 rfl<|Zti rfl rfl rfl<|Ztf 1 rfl<|Zti rfl rfl rfl<|Ztf 1 rfl<|Zti rfl rfl rfl<|Ztf 1 rfl<|Zti rfl rfl rfl<|Ztf 1 rfl<|Zsu 78 (.I ((c-1:Nat):Int)) (congrArg (Value.int .i64) (by rw[Yf (by omega)];omega)) ?_
   refine Zti rfl rfl rfl<|Zsj rfl rfl (i:=(p1:Int)) (p1) el_70 rfl rfl (by omega) (show p1<nn by omega) (Z.rdO 0 rfl (Zb (k:=p1) (by omega))).1 ?_
   refine Zti rfl rfl rfl<|Zsj rfl rfl (i:=((c-1:Nat):Int)) (c-1) el_70 rfl rfl (by omega) (show c-1<nn by omega) (Z.rdO 0 rfl (Zb (k:=c-1) (by omega))).1 ?_
   refine Zti rfl rfl rfl<|Zsn 1 [.W (gI zs2 p1)] rfl (by exact(Z.rdO 0 rfl (Zb (k:=p1) (by omega))).2 0 _ rfl) ?_
   refine Zti rfl rfl rfl<|Zsn 1 [.W (gI zs2 (c-1))] rfl (by exact(Z.rdO 0 rfl (Zb (k:=c-1) (by omega))).2 0 _ rfl) ?_
   refine WQ.dn Z (fun w Z=>?_)
   refine Sz ?_
   refine Zse (Xo (gI zs2 (c-1)) (gI zs2 p1) Z) fun w Z=>?_
   refine Qd fun w Z=>?_
   exact⟨rfl,(decide (¬gI zs2 (c-1)<gI zs2 p1)),rfl,Z,(fun h=>by have h9:=of_decide_eq_true h;exact⟨by omega,by omega⟩)⟩
  refine Zsu 75 (.bool false) (congrArg Value.bool (decide_eq_false cg1)) ?_
  refine Qd fun w Z=>?_
  refine Qd fun w Z=>?_
  exact⟨rfl,false,rfl,Z,(fun h=>by cases h)⟩
 rintro _ w j ⟨bb,rfl,Z,hbb⟩
 replace Z:=Z.z
 refine Ztl (fun cd1=>?_) fun cd1=>?_
 ·refine Zs2 (Zjc _ _ nn _ c e p1 (by omega) (by omega) (by omega) (by omega) (by omega) (fun k h1 h2=>by have h8:=hbb cd1;have h9:=hP2.fr h8.1 k h1 h2;omega) Z) fun w ys1 m1 Z f2=>?_
  have hmm:=f2.mm
  refine Sz ?_
  exact⟨_,by omega,rfl,m1,e,lm2,wb,wp,ys1,rfl,Z,(hP2.equal f2),hlm2,rfl⟩
 refine Zul (Zsa _ _ nn _ c e p1 (by omega) (by omega) (by omega) (by omega) (by omega) Z) fun w ys1 m1 bb1 Z f2=>?_
 refine Sy ?_
 have hyl:=f2.pm.len;have hmm:=f2.mm
 refine Zso 1 rfl<|Zsf 105 (.I ((m1-c:Nat):Int)) (congrArg (Value.int .i64) (by rw[Yf (by omega)];omega)) ?_
 refine Sy ?_
 refine Zso 1 rfl<|Zsf 108 (.I ((e-m1:Nat):Int)) (congrArg (Value.int .i64) (by rw[Yf (by omega)];omega)) ?_
 refine Sy ?_
 refine Zso 1 rfl<|Zsf 110 (.I (((e-c)/8:Nat):Int)) (congrArg (Value.int .i64) (by exact wq 8 (by omega))) ?_
 refine Sz ?_
 refine Zsr rfl (fun hlr=>?_) (fun hlr=>?_)
 ·refine Sz ?_
  refine Zte rfl rfl (ih (m1-c) (by omega) _ _ _ ys1 u nn d c m1 lm2 ((by omega)) ((by omega)) ((by omega)) ((by omega)) (hlm2) ((fun h0 k h1 h2=>(hP2.pmt hcd.2.1 f2.pm).fr h0 k h1 (by omega))) rfl Z) rfl ?_
  clear Z;rintro _ w ⟨ys2,rfl,Z,f3⟩
  replace Z:=Z.z
  refine Sy ?_
  refine Zso 1 rfl<|Zsf 123 (.I ((m1+1:Nat):Int)) (congrArg (Value.int .i64) (by rw[Yf (by omega)];omega)) ?_
  refine Sz ?_
  exact⟨_,by omega,rfl,m1+1,e,lm2,(decide ((((e-c)/8:Nat):Int)≤((m1-c:Nat):Int))),bb1,ys2,rfl,Z,(hP2.left f2 f3.1 f3.2),hlm2,rfl⟩
 refine Sy ?_
 refine Zso 1 rfl<|Zsf 129 (.I ((m1+1:Nat):Int)) (congrArg (Value.int .i64) (by rw[Yf (by omega)];omega)) ?_
 refine Sz ?_
 refine Zte rfl rfl (ih (e-(m1+1:Nat)) (by omega) _ _ _ ys1 u nn d (m1+1:Nat) e lm2 ((by omega)) ((by omega)) ((by omega)) ((by omega)) (hlm2) ((fun _ k h1 h2=>by rw[Nat.add_sub_cancel];exact f2.hi k (by omega) h2)) rfl Z) rfl ?_
 clear Z;rintro _ w ⟨ys2,rfl,Z,f3⟩
 replace Z:=Z.z
 refine Sz ?_
 exact⟨_,by omega,rfl,c,m1,lm2,(decide ((((e-c)/8:Nat):Int)≤((e-m1:Nat):Int))),bb1,ys2,rfl,Z,(hP2.right f2 f3.1 f3.2),hlm2,rfl⟩
theorem Zet(nM:Nat):∀(g w:World)(L:List HP)(xs:List Int)(u:Option Addr)(nn d:Nat)(a b:Nat)(lim:Int),(a≤b)→(b≤xs.length)→(xs.length<50)→(xs.length=nn)→(0≤lim∧lim≤100)→(0<a→∀k,a≤k→k<b→gI xs (a-1)≤gI xs k)→b-a=nM→St g (Zp 93 1 (Za xs) u d::L) w→Cp g L 194 [.slice u nn d,.I (a:Int),.I (b:Int),.I lim] w fun rV=>∃(ys:List Int),rV (.tuple #[]) [Zp 93 1 (Za ys) u d] (Pm a b xs ys∧Sd a b ys):=by
 induction nM using Nat.strongRecOn with
 |_ nM ih=>intro g w L xs u nn d a b lim hab hb hl hnn hlim hfr hM Z;exact V9 nM ih xs u nn d a b lim hab hb hl hnn hlim hfr hM Z
theorem pdq_u(xs:List Int)(u:Option Addr)(nn d:Nat)(a b:Nat)(lim:Int)(hab:a≤b)(hb:b≤xs.length)(hl:xs.length<50)(hnn:xs.length=nn)(hlim:0≤lim∧lim≤100)(hfr:0<a→∀k,a≤k→k<b→gI xs (a-1)≤gI xs k)(Z:St g (Zp 93 1 (Za xs) u d::L) w) :
  Cp g L 194 [.slice u nn d,.I (a:Int),.I (b:Int),.I lim] w fun rV=>∃(ys:List Int),rV (.tuple #[]) [Zp 93 1 (Za ys) u d] (Pm a b xs ys∧Sd a b ys):=Zet _ g w L xs u nn d a b lim hab hb hl hnn hlim hfr rfl Z
theorem Zrp(xs:List Int)(u:Option Addr)(d:Nat)(hl:xs.length<50)(Z:St g (Zp 93 1 (Za xs) u d::L) w) :
  Cp g L 65 [.slice u (Za xs).length d] w fun rV=>∃(ys:List Int),rV (.tuple #[]) [Zp 93 1 (Za ys) u d] (ys.Perm xs∧Sd 0 xs.length ys):=by
 refine Sp.enter Tryz.func65 rfl (by kernel_rfl) (by kernel_rfl) ?_
 refine Zsw<|WC.region ?_
 have hxl:=Zh xs;have hlr:=Zbq hl
 refine Sx ?_
 refine Zs9<|WC.region<|Zsf 2 (.I (xs.length:Int)) (congrArg (Value.int .i64) (by rw[hxl])) ?_
 refine Sz ?_
 refine Ztg (Zor (List.length xs) hl Z) fun w Z=>?_
 refine Zsy (pdq_u _ _ (Za xs).length _ 0 (List.length xs) (l8 (List.length xs)) (Nat.zero_le _) (Nat.le_refl _) hl hxl.symm (by omega) (fun h=>by omega) Z) fun w ys1 Z f1=>?_
 exact⟨_,rfl,Z,f1.1.pm,f1.2⟩
end Go.Proofs.YtpebgkkmgffmaaaGreatDoor
namespace Go.Proofs.YtpebgkkmgffmaaaGreatDoor
open Go Go.V Go.RowKit
set_option maxHeartbeats 8000000
set_option maxRecDepth 8192
variable{g w:World}{L:List HP}
theorem Dw(T:TM)(ra ga oa va:Option Addr)(rc gc oc vc:Nat)(hT:TOk T)(hc:T.s.cap≤4096)(Z:St g (Sh 93 1 (Za (T.s.gen.drop 1)) ga gc::Sh 4 1 (Zk (T.s.used.drop 1)) oa oc::L) w) :
  Zr g L 24 [.agg #[.I T.s.cap,.slice ra (Za T.s.rel).length rc,.I (T.s.fresh+1),.slice ga (Za (T.s.gen.drop 1)).length gc,.slice oa (Zk (T.s.used.drop 1)).length oc,.slice va (Za (T.vals.drop 1)).length vc]] w fun rV=>∃(a2:Option Addr)(c2:Nat),rV (.slice a2 (Zv T.handles).length c2) [Zp 23 1 (Zv T.handles) a2 c2,Sh 93 1 (Za (T.s.gen.drop 1)) ga gc,Sh 4 1 (Zk (T.s.used.drop 1)) oa oc]:=by
 refine Sp.en Tryz.func24 ?_
 have _:=hc
 refine Zsp fun b1 w Z=>?_
 have hTs:=hT.s;have hcp:=hTs.cap;have hce:T.s.cap=(T.s.used.length:Int)-1:=rfl
 replace Z:=Z.nil_ 23 1
 refine Sz ?_
 refine Zst [1,2] [3,4] (fun kM vs jS=>∃(k:Nat)(acc:List Int)(u:Option Addr)(d:Nat),vs=[.slice u (Zv acc).length d,.W (k:Int)]∧jS [Zp 23 1 (Zv acc) u d]∧(1≤k∧k≤T.s.used.length)∧(acc=hup T k)∧(T.s.used.length-k)=kM) rfl ⟨1,[],none,0,rfl,Z,(by omega),(hup_1 hTs.u0).symm,rfl⟩ ?_
 rintro _ _ w j ⟨k,acc,u,d,rfl,Z,hk,ha,rfl⟩
 replace Z:=Z.z
 refine Sz ?_
 refine Zsr rfl (fun cd1=>?_) (fun cd1=>?_)
 ·have hule:=Zqn T k;rw[←ha] at hule;have hul2:=YE acc;have hgr:=hTs.gen_rng k
  refine Sz ?_
  refine Zse (q_ok T.s ra ga _ rc gc _ (k:Int) hTs (by omega) (Z.sel 4 [3,0,0,0] rfl)) fun w Z=>?_
  refine Ztl (fun cd2=>?_) fun cd2=>?_
  ·refine Ztg (Zh4 T.s ra _ oa rc _ oc (k:Int) hTs (by omega) (by omega) (Z.sel 4 [3,0,0,0] rfl)) fun w Z=>?_
   refine Ztg (Zhr (k:Int) (T.s.genOf (k:Int)) (by omega) hgr Z) fun w Z=>?_
   refine Zs1 rfl rfl (Zv [(T.s.genOf (k:Int))*4294967296+(k:Int)]) el_47 Z (by exact⟨rfl,rfl⟩) (YG _) rfl (Nat.le_of_ble_eq_true rfl) (fun b2 w Z=>?_)
   refine Zs3 rfl rfl 3 (Zv (acc++[(T.s.genOf (k:Int))*4294967296+(k:Int)])) el_47 Z rfl (Z.srcO 0 rfl) (C2 _ _).symm (Rm.of (by first|omega|(simp<;>omega)) (by decide)) rfl rfl (fun a1 c1 w Z=>?_)
   replace Z:=Z.z
   refine Sz ?_
   exact⟨_,by omega,rfl,k+1,acc++[T.s.hd k],a1,c1,rfl,(Z.sel 5 [3,3,1,1] rfl),(by omega),(by rw[Zrz cd2,ha]),rfl⟩
  exact⟨_,by omega,rfl,k+1,acc,u,d,rfl,(Z.sel 4 [1,1,1,0] rfl),(by omega),(by rw[Zcs (by simpa using cd2),ha]),rfl⟩
 refine Sz ?_
 replace Z:=(Z.sel 2 [0] rfl)
 have hke:k=T.s.used.length:=(by omega);subst hke;subst ha;exact⟨_,_,rfl,Z⟩
theorem WR.need{V:VM}{A:AM}{R:List Int}{z:RSt}{m:Nat}(h:WR V A R z m){ss:List Int}(hs:Keys V.xs ss):ss=YD (Y3 z.P z.B)∧ss.Perm (V.rs.map RN.n):=by
 refine⟨h.ra.vers h.vi.g.ok h.ko hs,?_⟩
 have hu:(V.rs.map RN.n).Nodup:=List.pairwise_map.2 h.vi.k.uniq
 refine(List.perm_ext_iff_of_nodup hs.asc.nodup hu).2 fun z=>?_
 rw[hs.mem,←h.vi.pre z,List.mem_map]
end Go.Proofs.YtpebgkkmgffmaaaGreatDoor
