/-
  The row of ScriptAnswers: for every input the law returns true, and the arguments read as before.
  Conditions: none.
-/
import Derived.Test.YtlifpobidhfbfaaGreatDoorZsaC
import Derived.Test.YtlifpobidhfbfaaGreatDoorJsag
import Derived.Test.YtlifpobidhfbfaaGreatDoorJsaq
set_option maxRecDepth 8192
namespace Go.V
open Go Go.RowKit
def Vb : AnS := ⟨VA, none, none, none, none, 0, 0, 0, 0⟩
def Zr (z : AnS) : AnS := { x := { z.x with err := z.x.err % 256, chs := [] }, ab := z.ab, ae := z.ae, ac := none, ak := z.ak, cb := z.cb, ce := z.ce, cc := 0, ck := z.ck }
def Xq (zs : List AnS) (k : Nat) : List AnS := (zs.take k).map Zr ++ List.replicate (zs.length - k) Vb
theorem CS {zs : List AnS} {k : Nat} (h : k ≤ zs.length) : (Xq zs k).length = zs.length := by
 unfold Xq; simp only [List.length_append, List.length_map, List.length_take, List.length_replicate]; omega
theorem HM {zs : List AnS} {k : Nat} (h : k < zs.length) : (Xq zs k)[k]? = some Vb := by
 have h1 : ((zs.take k).map Zr).length = k := by simp only [List.length_map, List.length_take]; omega
 unfold Xq
 rw [List.getElem?_append_right (by omega), h1, Nat.sub_self, List.getElem?_replicate, if_pos (by omega)]
theorem CU {zs : List AnS} {k : Nat} {z : AnS} (h : zs[k]? = some z) : (Xq zs k).set k (Zr z) = Xq zs (k + 1) := by
 have hk := (List.getElem?_eq_some_iff.1 h).1
 have h1 : ((zs.take k).map Zr).length = k := by simp only [List.length_map, List.length_take]; omega
 unfold Xq
 rw [List.set_append_right _ _ (by omega), h1, Nat.sub_self, show zs.length - k = (zs.length - (k + 1)) + 1 by omega, List.replicate_succ, List.set_cons_zero, List.take_add_one, h, List.map_append, List.append_assoc]; rfl
theorem Zd4 (zs : List AnS) : Xq zs 0 = List.replicate zs.length Vb := by unfold Xq; simp
theorem Zcp (zs : List AnS) : Xq zs zs.length = zs.map Zr := by unfold Xq; simp
theorem V3 (n : Nat) : List.replicate n (anC Vb) = Z5 (List.replicate n Vb) := by unfold Z5; rw [List.map_replicate]
theorem All.put3 {A B C C2 D : HP} {r : Hp} (hC : ∀ q, C2.h (fun _ => none) q) (h : All [A, B, C, D] (fun _ => none) r) : All [A, B, C2, D] (fun _ => none) r := by
 obtain ⟨o1, p1, s1, t1, d1, a1, o2, p2, s2, t2, d2, a2, o3, p3, s3, t3, d3, a3, a4⟩ := h
 have e2 : o2 = fun _ => none := funext fun k => by cases hk : o2 k with | none => rfl | some x => exact absurd (t1 _ _ (s2 _ _ hk)) (by simp)
 have e3 : o3 = fun _ => none := funext fun k => by cases hk : o3 k with | none => rfl | some x => exact absurd (t1 _ _ (t2 _ _ (s3 _ _ hk))) (by simp)
 exact ⟨o1, p1, s1, t1, d1, a1, o2, p2, s2, t2, d2, a2, o3, p3, s3, t3, d3, by rw [e3]; exact hC _, a4⟩
theorem St.tidS {zs : List AnS} {g w : World} {L : List HP} (h : St g (ZP anF zs :: L) w) : St g (ZP anF (zs.map Zr) :: L) w :=
 h.impl fun _ _ hh y hy => by
  obtain ⟨z, hz, rfl⟩ := List.mem_map.1 hy
  exact All.put3 (fun q => ⟨fun x hx => (by cases hx), Nat.zero_le _, fun hx => absurd hx (Nat.lt_irrefl 0)⟩) (hh z hz)
structure AnB (z : AnS) : Prop where
 t : AnT z.x
 e : z.x.ents.length ≤ reachBytes
 c : z.x.chs.length ≤ reachBytes
 k : z.x.keys.length ≤ reachBytes
 b : z.x.bytes.length ≤ reachBytes
def smA (z : AnS) : Prop := z.x.ents.length + z.x.chs.length + z.x.keys.length + z.x.bytes.length ≤ 100
theorem V4 {z : AnS} (h : AnB z) (hs : smA z) : AnOk (Zr z).x := by
 obtain ⟨t1, t2, t3, t4, t5, t6, t7, t8, t9, t10, t11, t12, t13, t14⟩ := h.t
 unfold smA at hs
 have he : 0 ≤ z.x.err % 256 ∧ z.x.err % 256 ≤ 255 := by omega
 have hI : Z8 (z.x.err % 256) := by unfold Z8; omega
 have hch : Qm ([] : List (Int × Int × Int × Int)) := fun _ h => by cases h
 refine ⟨⟨hI, t2, t3, t4, t5, t6, t7, t8, t9, t10, t11, hch, t13, t14⟩, ⟨hI, t2, t3, t4, t5, t6, t7, t8, t9, t10, t11, hch, t13, ?_, Nat.zero_le _, ?_, ?_⟩, he, rfl⟩
 ·show z.x.ents.length ≤ _; omega
 ·show z.x.keys.length ≤ _; omega
 ·show z.x.bytes.length ≤ _; omega
theorem Zas {zs : List AnS} (h : ∀ z ∈ zs, AnB z) (hs : ∀ z ∈ zs.take zs.length, smA z) : ∀ x ∈ (zs.map Zr).map AnS.x, AnOk x := fun x hx => by
 obtain ⟨y, hy, rfl⟩ := List.mem_map.1 hx
 obtain ⟨z, hz, rfl⟩ := List.mem_map.1 hy
 exact V4 (h z hz) (hs z (by rw [List.take_length]; exact hz))
theorem Zbd {ms zs : List AnS} (h : ms.map AnS.x = zs.map AnS.x) {k : Nat} {m y : AnS} (hm : ms[k]? = some m) (hy : zs[k]? = some y) : m.x = y.x := by
 have h1 := congrArg (fun l => l[k]?) h
 simp only [List.getElem?_map, hm, hy, Option.map_some, Option.some.injEq] at h1
 exact h1
theorem Zc9 {X : List AnM} (hok : ∀ x ∈ X, AnOk x) {n q : Nat} {y : AnM} (hn : X.length = n + 1) (hy : X[n]? = some y) (h1 : (Zz (X.take n)).length < q) (h2 : q < (Zz X).length) :
  (∀ (k : Nat) (x : AnM), (X.take n)[k]? = some x → ZH ((Zz X).take q) ((Zz ((X.take n).take k)).length : Int) = (x, ((Zz ((X.take n).take (k + 1))).length : Int), 0) ∧ (Zz ((X.take n).take k)).length < ((Zz X).take q).length) ∧
  ZH ((Zz X).take q) ((Zz (X.take n)).length : Int) = (VA, 0, 12) ∧ (Zz (X.take n)).length < ((Zz X).take q).length := by
 have e : Zz X = Zz (X.take n) ++ YJ y := by rw [← Xp hy, List.take_of_length_le (by omega)]
 have hl := congrArg List.length e
 rw [List.length_append] at hl
 have ht : (Zz X).take q = Zz (X.take n) ++ (YJ y).take (q - (Zz (X.take n)).length) := by rw [e, List.take_append, List.take_of_length_le (by omega)]
 have hq : ((Zz X).take q).length = q := by rw [List.length_take]; omega
 have hw : ∀ x ∈ X.take n, AnOk x := fun x hx => hok x (List.mem_of_mem_take hx)
 rw [hq]
 refine ⟨fun k x hx => ⟨?_, ?_⟩, ?_, h1⟩
 ·rw [ht]; exact CD hw hx
 ·have := HH (fun x hx => (hw x hx).w) hx; omega
 ·rw [ht]
  exact Zbi (hok y (List.mem_of_getElem? hy)) (List.take_prefix _ _) (by rw [List.length_take]; omega)
end Go.V
namespace Go.Proofs.YtlifpobidhfbfaaGreatDoor
open Go Go.V
variable {g w : World} {L : List HP}
theorem same9 (xs ys : List (Int × Int)) (a b : Option Addr) (c d : Nat) (hl : xs.length ≤ 1000000000) (Z : St g (Sh 27 2 (Zo xs) a c :: Sh 27 2 (Zo ys) b d :: L) w) :
  Sp Tryz.prog 16 [.slice a (Zo xs).length c, .slice b (Zo ys).length d] w (fun v w' => ∃ (ok : Bool), v = .bool ok ∧ St g (Sh 27 2 (Zo xs) a c :: Sh 27 2 (Zo ys) b d :: L) w' ∧ (ok = true ↔ xs = ys)) := by
 refine Sp.enter Tryz.func16 rfl (by kernel_rfl) (by kernel_rfl) ?_
 refine Ze7 <| WC.region <| Ze6 1 rfl <| Ze8 <| Ze7 <| Ze7 <| WC.region ?_
 have h1 := Z_ xs; have h2 := Z_ ys
 refine Ze6 5 rfl <| Ze8 <| Zfe rfl (fun cd1 => ?_) (fun cd1 => ?_)
 ·refine Ze7 <| WC.region <| Ze6 1 rfl <| Ze8 <| Zfa ?_
  refine ⟨[.bool false], rfl, ?_⟩
  exact ⟨_, rfl, Z, ⟨fun h => (by cases h), fun h => by rw [h1, h2, h] at cd1; exact absurd rfl cd1⟩⟩
 ·refine Zfc <| Ze7 <| Ze7 <| WC.region <| Ze6 1 rfl <| Ze8 <| Zfj <| Zft [0, 1, 5] (fun kM vs w => ∃ (k : Nat), vs = [.slice a (Zo xs).length c, .slice b (Zo ys).length d, .int .i64 (k : Int)] ∧ St g (Sh 27 2 (Zo xs) a c :: Sh 27 2 (Zo ys) b d :: L) w ∧ (k ≤ xs.length) ∧ (xs.take k = ys.take k) ∧ (xs.length - k) = kM) ((List.length xs) - 0) ⟨0, rfl, Z, (Nat.zero_le _), (rfl), rfl⟩ ?_
  clear Z; rintro _ _ w j ⟨k, rfl, Z, hk, he, rfl⟩
  refine Ze7 <| Ze7 <| WC.region <| Ze6 4 rfl <| Ze8 ?_
  as_aux_lemma =>
  refine Zfe rfl (fun cd2 => ?_) (fun cd2 => ?_)
  ·refine Zfc <| Ze7 <| Zfj <| Ze7 <| Zfr [([0, 1, 4, 5, 2, 6, 3, 7, 8], none)] (by kernel_rfl) (by kernel_rfl) ?_
   refine Zfg 4 rfl ?_
   obtain ⟨x, hx⟩ : ∃ x, xs[k]? = some x := ⟨_, List.getElem?_eq_getElem (by omega)⟩
   refine Zf1 rfl rfl (i := (k : Int)) (k) el_30 rfl rfl (by omega) (Zt (ZW hx)) (Z.rdS 0 rfl (ZW hx)).1 ?_
   obtain ⟨y, hy⟩ : ∃ y, ys[k]? = some y := ⟨_, List.getElem?_eq_getElem (by omega)⟩
   refine Zf1 rfl rfl (i := (k : Int)) (k) el_30 rfl rfl (by omega) (Zt (ZW hy)) (Z.rdS 1 rfl (ZW hy)).1 ?_
   refine Zgh rfl rfl [.int .i64 x.1, .int .i64 x.2] Qw rfl (Z.rdS 0 rfl (ZW hx)).2 <| Zgh rfl rfl [.int .i64 y.1, .int .i64 y.2] Qw rfl (Z.rdS 1 rfl (ZW hy)).2 <| Zgv rfl rfl Zb9 (xs := [.int .i64 x.1, .int .i64 x.2]) (ys := [.int .i64 y.1, .int .i64 y.2]) rfl rfl rfl rfl <| Zgp 25 rfl (Zbx (Ya (dd _) (dd _))) <| Zfo ?_
   refine Z.dn (fun w Z => ?_)
   refine Zfe rfl (fun cd3 => ?_) (fun cd3 => ?_)
   ·refine Ze7 <| WC.region <| Ze6 1 rfl <| Ze8 <| Zfa ?_
    refine ⟨[.bool false], rfl, ?_⟩
    exact ⟨_, rfl, Z, ⟨fun h => (by cases h), fun h => by subst h; rw [hx] at hy; cases hy; exact absurd ⟨rfl, rfl⟩ cd3⟩⟩
   ·refine Zfc <| WC.region <| Ze6 2 rfl <| Zfi 16 rfl (ZF (by omega)) ?_
    refine Ze6 1 rfl <| Ze8 ?_
    exact ⟨_, by omega, k + 1, rfl, Z, (by omega), (by rw [List.take_add_one, List.take_add_one, he, hx, hy, Prod.ext (Classical.not_not.1 cd3).1 (Classical.not_not.1 cd3).2]), rfl⟩
  ·refine Zfv <| Ze7 <| WC.region <| Ze6 1 rfl <| Ze8 <| Zfa ?_
   refine ⟨[.bool true], rfl, ?_⟩
   exact ⟨_, rfl, Z, ⟨fun _ => by rw [← List.take_of_length_le (i := k) (l := xs) (by omega), he, List.take_of_length_le (by omega)], fun _ => rfl⟩⟩
theorem Zea (xs ys : List (Int × Int × Int × Int)) (a b : Option Addr) (c d : Nat) (hl : xs.length ≤ 1000000000) (Z : St g (Sh 88 4 (Zn xs) a c :: Sh 88 4 (Zn ys) b d :: L) w) :
  Sp Tryz.prog 17 [.slice a (Zn xs).length c, .slice b (Zn ys).length d] w (fun v w' => ∃ (ok : Bool), v = .bool ok ∧ St g (Sh 88 4 (Zn xs) a c :: Sh 88 4 (Zn ys) b d :: L) w' ∧ (ok = true ↔ xs = ys)) := by
 refine Sp.enter Tryz.func17 rfl (by kernel_rfl) (by kernel_rfl) ?_
 refine Ze7 <| WC.region <| Ze6 1 rfl <| Ze8 <| Ze7 <| Ze7 <| WC.region ?_
 have h1 := Z9 xs; have h2 := Z9 ys
 refine Ze6 5 rfl <| Ze8 <| Zfe rfl (fun cd1 => ?_) (fun cd1 => ?_)
 ·refine Ze7 <| WC.region <| Ze6 1 rfl <| Ze8 <| Zfa ?_
  refine ⟨[.bool false], rfl, ?_⟩
  exact ⟨_, rfl, Z, ⟨fun h => (by cases h), fun h => by rw [h1, h2, h] at cd1; exact absurd rfl cd1⟩⟩
 ·refine Zfc <| Ze7 <| Ze7 <| WC.region ?_
  have hq : ∀ (x y : Int × Int × Int × Int), (x.1 = y.1 ∧ x.2.1 = y.2.1 ∧ x.2.2.1 = y.2.2.1 ∧ x.2.2.2 = y.2.2.2) → x = y := fun x y h => Prod.ext h.1 (Prod.ext h.2.1 (Prod.ext h.2.2.1 h.2.2.2))
  refine Ze6 1 rfl <| Ze8 <| Zfj <| Zft [0, 1, 5] (fun kM vs w => ∃ (k : Nat), vs = [.slice a (Zn xs).length c, .slice b (Zn ys).length d, .int .i64 (k : Int)] ∧ St g (Sh 88 4 (Zn xs) a c :: Sh 88 4 (Zn ys) b d :: L) w ∧ (k ≤ xs.length) ∧ (xs.take k = ys.take k) ∧ (xs.length - k) = kM) ((List.length xs) - 0) ⟨0, rfl, Z, (Nat.zero_le _), (rfl), rfl⟩ ?_
  clear Z; rintro _ _ w j ⟨k, rfl, Z, hk, he, rfl⟩
  refine Ze7 <| Ze7 <| WC.region ?_
  have hq : ∀ (x y : Int × Int × Int × Int), (x.1 = y.1 ∧ x.2.1 = y.2.1 ∧ x.2.2.1 = y.2.2.1 ∧ x.2.2.2 = y.2.2.2) → x = y := fun x y h => Prod.ext h.1 (Prod.ext h.2.1 (Prod.ext h.2.2.1 h.2.2.2))
  refine Ze6 4 rfl <| Ze8 ?_
  as_aux_lemma =>
  refine Zfe rfl (fun cd2 => ?_) (fun cd2 => ?_)
  ·refine Zfc <| Ze7 <| Zfj <| Ze7 <| Zfr [([0, 1, 4, 5, 2, 6, 3, 7, 8], none)] (by kernel_rfl) (by kernel_rfl) ?_
   refine Zfg 4 rfl ?_
   obtain ⟨x, hx⟩ : ∃ x, xs[k]? = some x := ⟨_, List.getElem?_eq_getElem (by omega)⟩
   refine Zf1 rfl rfl (i := (k : Int)) (k) el_31 rfl rfl (by omega) (Zt (Zp hx)) (Z.rdS 0 rfl (Zp hx)).1 ?_
   obtain ⟨y, hy⟩ : ∃ y, ys[k]? = some y := ⟨_, List.getElem?_eq_getElem (by omega)⟩
   refine Zf1 rfl rfl (i := (k : Int)) (k) el_31 rfl rfl (by omega) (Zt (Zp hy)) (Z.rdS 1 rfl (Zp hy)).1 ?_
   refine Zgh rfl rfl [.int .i64 x.1, .int .i64 x.2.1, .int .i64 x.2.2.1, .int .i64 x.2.2.2] Jt rfl (Z.rdS 0 rfl (Zp hx)).2 <| Zgh rfl rfl [.int .i64 y.1, .int .i64 y.2.1, .int .i64 y.2.2.1, .int .i64 y.2.2.2] Jt rfl (Z.rdS 1 rfl (Zp hy)).2 <| Zgv rfl rfl eq_88 (xs := [.int .i64 x.1, .int .i64 x.2.1, .int .i64 x.2.2.1, .int .i64 x.2.2.2]) (ys := [.int .i64 y.1, .int .i64 y.2.1, .int .i64 y.2.2.1, .int .i64 y.2.2.2]) rfl rfl rfl rfl <| Zgp 25 rfl (Zbx (Ya (dd _) (Ya (dd _) (Ya (dd _) (dd _))))) <| Zfo ?_
   refine Z.dn (fun w Z => ?_)
   refine Zfe rfl (fun cd3 => ?_) (fun cd3 => ?_)
   ·refine Ze7 <| WC.region <| Ze6 1 rfl <| Ze8 <| Zfa ?_
    refine ⟨[.bool false], rfl, ?_⟩
    exact ⟨_, rfl, Z, ⟨fun h => (by cases h), fun h => by subst h; rw [hx] at hy; cases hy; exact absurd ⟨rfl, rfl, rfl, rfl⟩ cd3⟩⟩
   ·refine Zfc <| WC.region <| Ze6 2 rfl <| Zfi 16 rfl (ZF (by omega)) ?_
    refine Ze6 1 rfl <| Ze8 ?_
    exact ⟨_, by omega, k + 1, rfl, Z, (by omega), (by rw [List.take_add_one, List.take_add_one, he, hx, hy, hq _ _ (Classical.not_not.1 cd3)]), rfl⟩
  ·refine Zfv <| Ze7 <| WC.region <| Ze6 1 rfl <| Ze8 <| Zfa ?_
   refine ⟨[.bool true], rfl, ?_⟩
   exact ⟨_, rfl, Z, ⟨fun _ => by rw [← List.take_of_length_le (i := k) (l := xs) (by omega), he, List.take_of_length_le (by omega)], fun _ => rfl⟩⟩
theorem sameB (xs ys : List Int) (a b : Option Addr) (c d : Nat) (hl : xs.length ≤ 1000000000) (Z : St g (Sh 5 1 (Za xs) a c :: Sh 5 1 (Za ys) b d :: L) w) :
  Sp Tryz.prog 8 [.slice a (Za xs).length c, .slice b (Za ys).length d] w (fun v w' => ∃ (ok : Bool), v = .bool ok ∧ St g (Sh 5 1 (Za xs) a c :: Sh 5 1 (Za ys) b d :: L) w' ∧ (ok = true ↔ xs = ys)) := by
 refine Sp.enter Tryz.func8 rfl (by kernel_rfl) (by kernel_rfl) ?_
 refine Ze7 <| WC.region <| Ze6 1 rfl <| Ze8 <| Ze7 <| Ze7 <| WC.region ?_
 have h1 := Zf xs; have h2 := Zf ys
 refine Ze6 5 rfl <| Ze8 <| Zfe rfl (fun cd1 => ?_) (fun cd1 => ?_)
 ·refine Ze7 <| WC.region <| Ze6 1 rfl <| Ze8 <| Zfa ?_
  refine ⟨[.bool false], rfl, ?_⟩
  exact ⟨_, rfl, Z, ⟨fun h => (by cases h), fun h => by rw [h1, h2, h] at cd1; exact absurd rfl cd1⟩⟩
 ·refine Zfc <| Ze7 <| Ze7 <| WC.region <| Ze6 1 rfl <| Ze8 <| Zfj <| Zft [0, 1, 5] (fun kM vs w => ∃ (k : Nat), vs = [.slice a (Za xs).length c, .slice b (Za ys).length d, .int .i64 (k : Int)] ∧ St g (Sh 5 1 (Za xs) a c :: Sh 5 1 (Za ys) b d :: L) w ∧ (k ≤ xs.length) ∧ (xs.take k = ys.take k) ∧ (xs.length - k) = kM) ((List.length xs) - 0) ⟨0, rfl, Z, (Nat.zero_le _), (rfl), rfl⟩ ?_
  clear Z; rintro _ _ w j ⟨k, rfl, Z, hk, he, rfl⟩
  refine Ze7 <| Ze7 <| WC.region <| Ze6 4 rfl <| Ze8 ?_
  as_aux_lemma =>
  refine Zfe rfl (fun cd2 => ?_) (fun cd2 => ?_)
  ·refine Zfc <| Ze7 <| Zfj <| Ze7 <| Zfr [([0, 1, 4, 5, 2, 6, 3, 7, 8], none)] (by kernel_rfl) (by kernel_rfl) ?_
   refine Zfg 4 rfl ?_
   obtain ⟨x, hx⟩ : ∃ x, xs[k]? = some x := ⟨_, List.getElem?_eq_getElem (by omega)⟩
   refine Zf1 rfl rfl (i := (k : Int)) (k) el_33 rfl rfl (by omega) (Zt (ZA hx)) (Z.rdS 0 rfl (ZA hx)).1 ?_
   obtain ⟨y, hy⟩ : ∃ y, ys[k]? = some y := ⟨_, List.getElem?_eq_getElem (by omega)⟩
   refine Zf1 rfl rfl (i := (k : Int)) (k) el_33 rfl rfl (by omega) (Zt (ZA hy)) (Z.rdS 1 rfl (ZA hy)).1 ?_
   refine Zfp 3 [.int .u8 x, .int .u8 y] rfl (by exact ⟨(Z.rdS 0 rfl (ZA hx)).2 0 _ rfl, (Z.rdS 1 rfl (ZA hy)).2 0 _ rfl⟩) ?_
   refine Zfo ?_
   refine Z.dn (fun w Z => ?_)
   refine Zfe rfl (fun cd3 => ?_) (fun cd3 => ?_)
   ·refine Ze7 <| WC.region <| Ze6 1 rfl <| Ze8 <| Zfa ?_
    refine ⟨[.bool false], rfl, ?_⟩
    exact ⟨_, rfl, Z, ⟨fun h => (by cases h), fun h => by subst h; rw [hx] at hy; cases hy; exact absurd rfl cd3⟩⟩
   ·refine Zfc <| WC.region <| Ze6 2 rfl <| Zfi 16 rfl (ZF (by omega)) ?_
    refine Ze6 1 rfl <| Ze8 ?_
    exact ⟨_, by omega, k + 1, rfl, Z, (by omega), (by rw [List.take_add_one, List.take_add_one, he, hx, hy, Classical.not_not.1 cd3]), rfl⟩
  ·refine Zfv <| Ze7 <| WC.region <| Ze6 1 rfl <| Ze8 <| Zfa ?_
   refine ⟨[.bool true], rfl, ?_⟩
   exact ⟨_, rfl, Z, ⟨fun _ => by rw [← List.take_of_length_le (i := k) (l := xs) (by omega), he, List.take_of_length_le (by omega)], fun _ => rfl⟩⟩
end Go.Proofs.YtlifpobidhfbfaaGreatDoor
namespace Go.Proofs.YtlifpobidhfbfaaGreatDoor
open Go Go.V Go.RowKit
variable {g w : World} {L : List HP}
theorem Zag (n : Int) (hn : Z8 n) (Z : St g (L) w) :
  Sp Tryz.prog 42 [.int .i64 n] w (fun v w' => v = .int .u64 (zz n) ∧ St g (L) w') := by
 refine Sp.enter Tryz.func42 rfl (by kernel_rfl) (by kernel_rfl) ?_
 refine Ze7 <| WC.region <| Ze6 1 rfl <| Ze8 <| Ze7 <| Ze7 <| WC.region ?_
 obtain ⟨hn1, hn2⟩ := hn
 refine Ze6 2 rfl <| Ze8 <| Zfe rfl (fun cd1 => ?_) (fun cd1 => ?_)
 ·refine Ze7 <| WC.region <| Ze6 2 rfl <| Zfi 6 rfl (Ye (by omega)) ?_
  refine Ze6 1 rfl <| Zfi 7 rfl (Ye (by omega)) ?_
  refine Ze6 1 rfl <| Ze8 <| Zfa ?_
  refine ⟨[.int .u64 (2 * n)], rfl, ?_⟩
  rw [zz, if_pos (by omega)]; exact ⟨rfl, Z⟩
 ·refine Zfc <| Ze7 <| WC.region <| Ze6 2 rfl <| Zfi 9 rfl (ZF (by omega)) ?_
  refine Ze6 1 rfl <| Zfi 10 rfl (ZF (by omega)) ?_
  refine Ze6 1 rfl <| Zfi 11 rfl (Ye (by omega)) ?_
  refine Ze6 1 rfl <| Zfi 12 rfl (Ye (by omega)) ?_
  refine Ze6 1 rfl <| Zfi 13 rfl (Ye (by omega)) ?_
  refine Ze6 1 rfl <| Ze8 ?_
  as_aux_lemma =>
  refine Zfa ?_
  refine ⟨[.int .u64 ((2 * (0 - (n + 1))) + 1)], rfl, ?_⟩
  rw [zz, if_neg (by omega), show -2 * n - 1 = 2 * (0 - (n + 1)) + 1 by omega]; exact ⟨rfl, Z⟩
theorem Zaw (u : Nat) (hu : (u : Int) ≤ 18446744073709551615) (Z : St g (L) w) :
  Sp Tryz.prog 43 [.int .u64 (u : Int)] w (fun v w' => ∃ (a : Option Addr) (c : Nat), v = .slice a (Za (Zu u)).length c ∧ St g (Ze 5 1 (Za (Zu u)) a c :: L) w') := by
 refine Sp.enter Tryz.func43 rfl (by kernel_rfl) (by kernel_rfl) ?_
 refine Ze7 <| WC.region <| Ze6 1 rfl <| Ze8 <| Ze7 <| WC.region ?_
 have hl := Yi 10 u (by omega) (by omega)
 refine Ze6 1 rfl <| Ze8 <| Ze7 <| Zfj ?_
 replace Z := Z.nil_ 5 1
 refine Zft [0, 2, 3] (fun kM vs w => ∃ (v : Nat) (xs : List Int) (a : Option Addr) (c : Nat), vs = [.int .u64 (v : Int), .slice none 0 0, .slice a (Za xs).length c] ∧ St g (Ze 5 1 (Za xs) a c :: L) w ∧ (Zu u = xs ++ Zu v) ∧ (v ≤ u) ∧ (v) = kM) (u) ⟨u, [], none, 0, rfl, Z, (rfl), (Nat.le_refl _), rfl⟩ ?_
 clear Z; rintro _ _ w j ⟨v, xs, a, c, rfl, Z, hv, hle, rfl⟩
 refine Ze7 <| Ze7 <| WC.region <| Ze6 2 rfl <| Ze8 <| Zfe rfl (fun cd1 => ?_) (fun cd1 => ?_)
 ·refine Zfc <| Zfj <| Ze7 <| WC.region ?_
  have hv2 : ¬ v < 128 := by omega
  have hl2 := congrArg List.length hv; rw [Yc hv2] at hl2; simp only [List.length_append, List.length_cons] at hl2
  refine Ze6 3 rfl <| Zfm 8 (.int .u64 ((v : Int) % 128)) (congrArg (Value.int .u64) (Int.tmod_eq_emod_of_nonneg (a := (v : Int)) (by omega))) ?_
  refine Ze6 1 rfl <| Zfi 9 rfl (wu8 (by omega)) ?_
  refine Ze6 1 rfl <| Zfm 10 (.int .u8 ((v : Int) % 128 + 128)) (congrArg (Value.int .u8) (by exact wu8 (by omega))) ?_
  refine Zf3 rfl rfl (Za [(v : Int) % 128 + 128]) el_33 Z (by exact ⟨rfl, rfl⟩) (Yj _) rfl (Nat.le_of_ble_eq_true rfl) (fun b1 w Z => ?_)
  refine Zfz rfl rfl 1 (Za (xs ++ [(v : Int) % 128 + 128])) el_33 Z rfl (Z.srcO 0 rfl) (Z0 _ _).symm (Rm.of (by first | omega | (simp <;> omega)) (by decide)) rfl rfl (fun a1 c1 w Z => ?_)
  replace Z : St g (Ze 5 1 (Za [(v : Int) % 128 + 128]) (some ⟨b1, 0, none⟩) (Za [(v : Int) % 128 + 128]).length :: Ze 5 1 (Za (xs ++ [(v : Int) % 128 + 128])) a1 c1 :: L) w := Z
  refine Ze6 1 rfl <| Ze8 ?_
  as_aux_lemma =>
  refine WC.region <| Ze6 2 rfl <| Zfm 14 (.int .u64 ((v : Int) / 128)) (congrArg (Value.int .u64) (Zbt (p := (v : Int)) (q := 128) (by omega))) ?_
  refine Ze6 1 rfl <| Ze8 ?_
  exact ⟨_, by omega, v / 128, xs ++ [(v : Int) % 128 + 128], _, _, rfl, (Z.sel 1 [] rfl), (by rw [hv, Yc (by omega)]; simp), (by omega), rfl⟩
 ·refine Zfv <| Ze7 <| WC.region ?_
  have hv2 : v < 128 := by omega
  have hl2 := congrArg List.length hv; rw [Yb hv2] at hl2; simp only [List.length_append, List.length_cons] at hl2
  refine Ze6 3 rfl <| Zfi 17 rfl (wu8 (by omega)) ?_
  refine Zf3 rfl rfl (Za [(v : Int)]) el_33 Z (by exact ⟨rfl, rfl⟩) (Yj _) rfl (Nat.le_of_ble_eq_true rfl) (fun b1 w Z => ?_)
  refine Zfz rfl rfl 1 (Za (xs ++ [(v : Int)])) el_33 Z rfl (Z.srcO 0 rfl) (Z0 _ _).symm (Rm.of (by first | omega | (simp <;> omega)) (by decide)) rfl rfl (fun a1 c1 w Z => ?_)
  replace Z : St g (Ze 5 1 (Za [(v : Int)]) (some ⟨b1, 0, none⟩) (Za [(v : Int)]).length :: Ze 5 1 (Za (xs ++ [(v : Int)])) a1 c1 :: L) w := Z
  refine Ze6 1 rfl <| Ze8 ?_
  as_aux_lemma =>
  refine Zfa ?_
  refine ⟨[.slice a1 (List.length (Za (xs ++ [(v : Int)]))) c1], rfl, ?_⟩
  replace Z := (Z.sel 1 [] rfl)
  rw [Yb hv2] at hv; rw [← hv] at Z ⊢; exact ⟨_, _, rfl, Z⟩
theorem C6 (xs ys : List Int) (a b : Option Addr) (c d : Nat) (hx : xs.length + ys.length ≤ 1000000) (Z : St g (Sh 5 1 (Za xs) a c :: Sh 5 1 (Za ys) b d :: L) w) :
  Sp Tryz.prog 15 [.slice a (Za xs).length c, .slice b (Za ys).length d] w (fun v w' => ∃ (a2 : Option Addr) (c2 : Nat), v = .slice a2 (Za (xs ++ ys)).length c2 ∧ St g (Ze 5 1 (Za (xs ++ ys)) a2 c2 :: Sh 5 1 (Za xs) a c :: Sh 5 1 (Za ys) b d :: L) w') := by
 refine Sp.enter Tryz.func15 rfl (by kernel_rfl) (by kernel_rfl) ?_
 refine Ze7 <| WC.region <| Ze6 1 rfl <| Ze8 <| Ze7 <| WC.region ?_
 have h1 := Zf xs; have h2 := Zf ys
 refine Ze6 5 rfl <| Zfi 12 rfl (ZF (by omega)) ?_
 refine Zga rfl rfl (v := 0) (v' := (List.length (Za xs) : Int) + (List.length (Za ys) : Int)) (0) (xs.length + ys.length) el_33 Z rfl (by omega) rfl (by omega) (by omega) (Rm.of (by omega) (by decide)) (fun b1 w Z => ?_)
 replace Z := Z.n3 L (a0 := Ze 5 1 [] (some ⟨b1, 0, none⟩) ((List.length xs) + (List.length ys))) rfl
 refine Ze6 1 rfl <| Ze8 <| Ze7 <| Ze7 <| WC.region <| Ze6 1 rfl <| Ze8 <| Zfj <| Zft [0, 1, 4, 5, 6] (fun kM vs w => ∃ (k : Nat) (zs : List Int) (a2 : Option Addr) (c2 : Nat), vs = [.slice a (Za xs).length c, .slice b (Za ys).length d, .slice none 0 0, .slice a2 (Za zs).length c2, .int .i64 (k : Int)] ∧ St g (Ze 5 1 (Za zs) a2 c2 :: Sh 5 1 (Za xs) a c :: Sh 5 1 (Za ys) b d :: L) w ∧ (k ≤ xs.length ∧ zs.length = k) ∧ (zs = xs.take k) ∧ (xs.length - k) = kM) ((List.length xs) - 0) ⟨0, [], _, _, rfl, Z, (by simp), (rfl), rfl⟩ ?_
 clear Z; rintro _ _ w j ⟨k, zs, a2, c2, rfl, Z, hk, hz, rfl⟩
 refine Ze7 <| Ze7 <| WC.region <| Ze6 4 rfl <| Ze8 ?_
 as_aux_lemma =>
 refine Zfe rfl (fun cd1 => ?_) (fun cd1 => ?_)
 ·refine Zfc <| Ze7 <| Zfj <| WC.region <| Ze6 3 rfl ?_
  obtain ⟨x, hx2⟩ : ∃ x, xs[k]? = some x := ⟨_, List.getElem?_eq_getElem (by omega)⟩
  refine Zfw rfl rfl (i := (k : Int)) (k) el_33 rfl rfl (by omega) (Zt (ZA hx2)) (Z.rdS 1 rfl (ZA hx2)).1 ?_
  refine Zfd 1 [.int .u8 x] rfl (by exact (Z.rdS 1 rfl (ZA hx2)).2 0 _ rfl) ?_
  refine Zf3 rfl rfl (Za [x]) el_33 Z (by exact ⟨rfl, rfl⟩) (Yj _) rfl (Nat.le_of_ble_eq_true rfl) (fun b2 w Z => ?_)
  refine Zfz rfl rfl 1 (Za (zs ++ [x])) el_33 Z rfl (Z.srcO 0 rfl) (Z0 _ _).symm (Rm.of (by first | omega | (simp <;> omega)) (by decide)) rfl rfl (fun a1 c1 w Z => ?_)
  replace Z := Z.n4 L (a0 := Ze 5 1 (Za [x]) (some ⟨b2, 0, none⟩) (Za [x]).length) (a1 := Ze 5 1 (Za (zs ++ [x])) a1 c1) rfl
  refine Ze6 1 rfl <| Ze8 <| WC.region <| Ze6 2 rfl <| Zfi 19 rfl (ZF (by omega)) ?_
  refine Ze6 1 rfl <| Ze8 ?_
  exact ⟨_, by omega, k + 1, zs ++ [x], _, _, rfl, (Z.sel 1 [] rfl), (by simp; omega), (by rw [hz, List.take_add_one, hx2]; rfl), rfl⟩
 ·refine Zfv <| Ze7 <| Ze7 <| WC.region <| Ze6 1 rfl <| Ze8 <| Zfj <| Zft [1, 4, 5, 7] (fun kM vs w => ∃ (k : Nat) (us : List Int) (a2 : Option Addr) (c2 : Nat), vs = [.slice b (Za ys).length d, .slice none 0 0, .slice a2 (Za us).length c2, .int .i64 (k : Int)] ∧ St g (Ze 5 1 (Za us) a2 c2 :: Sh 5 1 (Za xs) a c :: Sh 5 1 (Za ys) b d :: L) w ∧ (k ≤ ys.length ∧ us.length = xs.length + k) ∧ (us = xs ++ ys.take k) ∧ (ys.length - k) = kM) ((List.length ys) - 0) ⟨0, zs, _, _, rfl, Z, (by omega), (by rw [hz, List.take_of_length_le (by omega)]; simp), rfl⟩ ?_
  clear Z; rintro _ _ w j ⟨k, us, a2, c2, rfl, Z, hk2, hz2, rfl⟩
  refine Ze7 <| Ze7 <| WC.region <| Ze6 4 rfl <| Ze8 <| Zfe rfl (fun cd2 => ?_) (fun cd2 => ?_)
  ·refine Zfc <| Ze7 <| Zfj <| WC.region <| Ze6 3 rfl ?_
   obtain ⟨x, hx2⟩ : ∃ x, ys[k]? = some x := ⟨_, List.getElem?_eq_getElem (by omega)⟩
   refine Zfw rfl rfl (i := (k : Int)) (k) el_33 rfl rfl (by omega) (Zt (ZA hx2)) (Z.rdS 2 rfl (ZA hx2)).1 ?_
   refine Zfd 1 [.int .u8 x] rfl (by exact (Z.rdS 2 rfl (ZA hx2)).2 0 _ rfl) ?_
   refine Zf3 rfl rfl (Za [x]) el_33 Z (by exact ⟨rfl, rfl⟩) (Yj _) rfl (Nat.le_of_ble_eq_true rfl) (fun b2 w Z => ?_)
   refine Zfz rfl rfl 1 (Za (us ++ [x])) el_33 Z rfl (Z.srcO 0 rfl) (Z0 _ _).symm (Rm.of (by first | omega | (simp <;> omega)) (by decide)) rfl rfl (fun a1 c1 w Z => ?_)
   replace Z := Z.n4 L (a0 := Ze 5 1 (Za [x]) (some ⟨b2, 0, none⟩) (Za [x]).length) (a1 := Ze 5 1 (Za (us ++ [x])) a1 c1) rfl
   refine Ze6 1 rfl <| Ze8 ?_
   as_aux_lemma =>
   refine WC.region <| Ze6 2 rfl <| Zfi 32 rfl (ZF (by omega)) ?_
   refine Ze6 1 rfl <| Ze8 ?_
   exact ⟨_, by omega, k + 1, us ++ [x], _, _, rfl, (Z.sel 1 [] rfl), (by simp; omega), (by rw [hz2, List.take_add_one, hx2, List.append_assoc]; rfl), rfl⟩
  ·refine Zfv <| Ze7 <| WC.region <| Ze6 2 rfl <| Ze8 <| Zfa ?_
   refine ⟨[.slice a2 (Za us).length c2], rfl, ?_⟩
   rw [hz2, List.take_of_length_le (by omega)] at Z ⊢; exact ⟨_, _, rfl, Z⟩
end Go.Proofs.YtlifpobidhfbfaaGreatDoor
namespace Go.Proofs.YtlifpobidhfbfaaGreatDoor
open Go Go.V
variable {g w : World} {L : List HP}
theorem Xh (xs : List Int) (a : Option Addr) (c : Nat) (n : Int) (hx : xs.length ≤ 800000) (hn : 0 ≤ n ∧ n ≤ 18446744073709551615) (Z : St g (Sh 5 1 (Za xs) a c :: L) w) :
  Sp Tryz.prog 19 [.slice a (Za xs).length c, .int .u64 n] w (fun v w' => ∃ (a2 : Option Addr) (c2 : Nat), v = .slice a2 (Za (xs ++ eU n)).length c2 ∧ St g (Ze 5 1 (Za (xs ++ eU n)) a2 c2 :: L) w') := by
 refine Sp.enter Tryz.func19 rfl (by kernel_rfl) (by kernel_rfl) ?_
 refine Ze7 <| WC.region ?_
 obtain ⟨k, rfl⟩ : ∃ k : Nat, n = k := ⟨n.toNat, by omega⟩; have hl := Yi 10 k (by omega) (by omega)
 refine Ze6 1 rfl <| Ze8 <| Ze7 <| WC.region <| Ze6 2 rfl <| Zfb rfl rfl (Zaw k (by omega) Z) rfl ?_
 clear Z; rintro _ w ⟨a1, c1, rfl, Z⟩
 replace Z := Z.n2 L rfl
 replace Z := (Z.at_ 0 rfl).share
 replace Z := Z.n2 L (a0 := Sh 5 1 (Za (Zu k)) a1 c1) rfl
 refine Zfb rfl rfl (C6 _ (Zu k) _ _ _ _ (by omega) (Z.sel 2 [1, 0] rfl)) rfl ?_
 clear Z; rintro _ w ⟨a2, c2, rfl, Z⟩
 replace Z := Z.n3 L rfl
 refine Ze6 1 rfl <| Ze8 <| Zfa ?_
 refine ⟨[.slice a2 (List.length (Za (xs ++ (Zu k)))) c2], rfl, ?_⟩
 replace Z := (Z.sel 3 [0] rfl)
 exact ⟨_, _, rfl, Z⟩
theorem Z2 (xs : List Int) (a : Option Addr) (c : Nat) (n : Int) (hx : xs.length ≤ 800000) (hn : Z8 n) (Z : St g (Sh 5 1 (Za xs) a c :: L) w) :
  Sp Tryz.prog 18 [.slice a (Za xs).length c, .int .i64 n] w (fun v w' => ∃ (a2 : Option Addr) (c2 : Nat), v = .slice a2 (Za (xs ++ eZ n)).length c2 ∧ St g (Ze 5 1 (Za (xs ++ eZ n)) a2 c2 :: L) w') := by
 refine Sp.enter Tryz.func18 rfl (by kernel_rfl) (by kernel_rfl) ?_
 refine Ze7 <| WC.region ?_
 have hz := Zbz hn
 refine Ze6 1 rfl <| Ze8 <| Ze7 <| WC.region <| Ze6 2 rfl <| Zfb rfl rfl (Zag n hn Z) rfl ?_
 clear Z; rintro _ w ⟨rfl, Z⟩
 replace Z := Z.n1 L rfl
 refine Zfb rfl rfl (Xh _ _ _ (zz n) (by first | omega | (simp <;> omega)) (by omega) Z) rfl ?_
 generalize hY1 : xs ++ eU (zz n) = Y1
 clear Z; rintro _ w ⟨a1, c1, rfl, Z⟩
 have hY1f0 : (List.length Y1) ≤ (List.length xs) + 10 := by rw [← hY1, List.length_append]; exact Nat.add_le_add_left (ZO (by omega)) _
 replace Z : St g (Ze 5 1 (Za Y1) a1 c1 :: L) w := Z
 refine Ze6 1 rfl <| Ze8 <| Zfa ?_
 refine ⟨[.slice a1 (Za Y1).length c1], rfl, ?_⟩
 subst hY1; exact ⟨_, _, rfl, Z⟩
theorem Hu (xs : List Int) (a : Option Addr) (c : Nat) (x : Bool) (hx : xs.length ≤ 800000) (Z : St g (Ze 5 1 (Za xs) a c :: L) w) :
  Sp Tryz.prog 20 [.slice a (Za xs).length c, .bool x] w (fun v w' => ∃ (a2 : Option Addr) (c2 : Nat), v = .slice a2 (Za (xs ++ eF x)).length c2 ∧ St g (Ze 5 1 (Za (xs ++ eF x)) a2 c2 :: L) w') := by
 refine Sp.enter Tryz.func20 rfl (by kernel_rfl) (by kernel_rfl) ?_
 refine Ze7 <| WC.region <| Ze6 1 rfl <| Ze8 <| Ze7 <| Ze7 <| WC.region <| Ze6 1 rfl <| Ze8 <| Zgf rfl (fun cd1 => ?_) (fun cd1 => ?_)
 ·refine Ze7 <| WC.region <| Ze6 1 rfl <| Zf3 rfl rfl (Za [1]) el_33 Z (by exact ⟨rfl, rfl⟩) (Yj _) rfl (Nat.le_of_ble_eq_true rfl) (fun b1 w Z => ?_)
  refine Zfz rfl rfl 1 (Za (xs ++ [1])) el_33 Z rfl (Z.srcO 0 rfl) (Z0 _ _).symm (Rm.of (by first | omega | (simp <;> omega)) (by decide)) rfl rfl (fun a1 c1 w Z => ?_)
  replace Z : St g (Ze 5 1 (Za [1]) (some ⟨b1, 0, none⟩) (Za [1]).length :: Ze 5 1 (Za (xs ++ [1])) a1 c1 :: L) w := Z
  refine Ze6 1 rfl <| Ze8 <| Zfa ?_
  refine ⟨[.slice a1 (Za (xs ++ [1])).length c1], rfl, ?_⟩
  replace Z := (Z.sel 1 [] rfl)
  rw [eF, if_pos cd1]; exact ⟨_, _, rfl, Z⟩
 ·refine Zfc <| Ze7 <| WC.region <| Ze6 1 rfl <| Zf3 rfl rfl (Za [0]) el_33 Z (by exact ⟨rfl, rfl⟩) (Yj _) rfl (Nat.le_of_ble_eq_true rfl) (fun b1 w Z => ?_)
  refine Zfz rfl rfl 1 (Za (xs ++ [0])) el_33 Z rfl (Z.srcO 0 rfl) (Z0 _ _).symm (Rm.of (by first | omega | (simp <;> omega)) (by decide)) rfl rfl (fun a1 c1 w Z => ?_)
  replace Z : St g (Ze 5 1 (Za [0]) (some ⟨b1, 0, none⟩) (Za [0]).length :: Ze 5 1 (Za (xs ++ [0])) a1 c1 :: L) w := Z
  refine Ze6 1 rfl <| Ze8 <| Zfa ?_
  refine ⟨[.slice a1 (Za (xs ++ [0])).length c1], rfl, ?_⟩
  replace Z := (Z.sel 1 [] rfl)
  rw [eF, if_neg (by simp [cd1])]; exact ⟨_, _, rfl, Z⟩
theorem U2 (xs : List Int) (a : Option Addr) (c : Nat) (l : List Int) (la : Option Addr) (lc : Nat) (hx : xs.length ≤ 800000) (hl : l.length ≤ 100000) (Z : St g (Sh 5 1 (Za xs) a c :: Sh 5 1 (Za l) la lc :: L) w) :
  Sp Tryz.prog 23 [.slice a (Za xs).length c, .slice la (Za l).length lc] w (fun v w' => ∃ (a2 : Option Addr) (c2 : Nat), v = .slice a2 (Za (xs ++ Yp l)).length c2 ∧ St g (Ze 5 1 (Za (xs ++ Yp l)) a2 c2 :: Sh 5 1 (Za l) la lc :: L) w') := by
 refine Sp.enter Tryz.func23 rfl (by kernel_rfl) (by kernel_rfl) ?_
 refine Ze7 <| WC.region ?_
 have hl8 := Zf l
 refine Ze6 1 rfl <| Ze8 <| Ze7 <| WC.region <| Ze6 4 rfl <| Zfi 8 rfl (Ye (by omega)) ?_
 refine Zfb rfl rfl (Xh _ _ _ (List.length (Za l) : Int) (by first | omega | (simp <;> omega)) (by omega) Z) rfl ?_
 generalize hY1 : xs ++ eU (List.length (Za l) : Int) = Y1
 clear Z; rintro _ w ⟨a1, c1, rfl, Z⟩
 have hY1f0 : (List.length Y1) ≤ (List.length xs) + 10 := by rw [← hY1, List.length_append]; exact Nat.add_le_add_left (ZO (by omega)) _
 replace Z := Z.n2 L (a0 := Ze 5 1 (Za Y1) a1 c1) rfl
 refine Ze6 1 rfl ?_
 replace Z := (Z.at_ 0 rfl).share
 replace Z := Z.n2 L (a0 := Sh 5 1 (Za Y1) a1 c1) rfl
 refine Zfb rfl rfl (C6 _ _ _ _ _ _ (by omega) Z) rfl ?_
 clear Z; rintro _ w ⟨a2, c2, rfl, Z⟩
 replace Z := Z.n3 L rfl
 refine Ze6 1 rfl <| Ze8 <| Zfa ?_
 refine ⟨[.slice a2 (Za (Y1 ++ l)).length c2], rfl, ?_⟩
 replace Z := (Z.sel 2 [0] rfl)
 subst hY1; rw [hl8] at Z ⊢; rw [Yp, ← List.append_assoc]; exact ⟨_, _, rfl, Z⟩
theorem Qh (xs : List Int) (a : Option Addr) (c : Nat) (l : List (Int × Int)) (la : Option Addr) (lc : Nat) (hx : xs.length ≤ 800000) (hl : l.length ≤ 10000) (hx2 : xs.length + 31 * l.length ≤ 700000) (hw : Ua l) (Z : St g (Sh 5 1 (Za xs) a c :: Sh 27 2 (Zo l) la lc :: L) w) :
  Sp Tryz.prog 22 [.slice a (Za xs).length c, .slice la (Zo l).length lc] w (fun v w' => ∃ (a2 : Option Addr) (c2 : Nat), v = .slice a2 (Za (xs ++ YF l)).length c2 ∧ St g (Ze 5 1 (Za (xs ++ YF l)) a2 c2 :: Sh 27 2 (Zo l) la lc :: L) w') := by
 refine Sp.enter Tryz.func22 rfl (by kernel_rfl) (by kernel_rfl) ?_
 refine Ze7 <| WC.region <| Ze6 1 rfl <| Ze8 <| Ze7 <| WC.region ?_
 have hl2 := Z_ l
 refine Ze6 4 rfl <| Zfi 9 rfl (Ye (by omega)) ?_
 refine Zfb rfl rfl (Xh _ _ _ (List.length (Zo l) : Int) (by first | omega | (simp <;> omega)) (by omega) Z) rfl ?_
 generalize hY1 : xs ++ eU (List.length (Zo l) : Int) = Y1
 clear Z; rintro _ w ⟨a1, c1, rfl, Z⟩
 have hY1f0 : (List.length Y1) ≤ (List.length xs) + 10 := by rw [← hY1, List.length_append]; exact Nat.add_le_add_left (ZO (by omega)) _
 replace Z := Z.n2 L (a0 := Ze 5 1 (Za Y1) a1 c1) rfl
 refine Ze6 1 rfl <| Ze8 <| Ze7 <| Ze7 <| WC.region <| Ze6 1 rfl <| Ze8 <| Zfj <| Zft [0, 1, 4, 5] (fun kM vs w => ∃ (k : Nat) (ys : List Int) (a3 : Option Addr) (c3 : Nat), vs = [.slice a3 (Za ys).length c3, .slice la (Zo l).length lc, .slice none 0 0, .int .i64 (k : Int)] ∧ St g (Ze 5 1 (Za ys) a3 c3 :: Sh 27 2 (Zo l) la lc :: L) w ∧ (k ≤ l.length) ∧ (ys = xs ++ (eU l.length ++ (l.take k).flatMap U4)) ∧ (ys.length ≤ xs.length + 10 + 20 * k) ∧ (l.length - k) = kM) ((List.length l) - 0) ⟨0, Y1, _, _, rfl, Z, (Nat.zero_le _), (by rw [← hY1, hl2]; simp), (by omega), rfl⟩ ?_
 clear Z; rintro _ _ w j ⟨k, ys, a3, c3, rfl, Z, hk, hys, hyl, rfl⟩
 refine Ze7 <| Ze7 <| WC.region <| Ze6 4 rfl <| Ze8 ?_
 as_aux_lemma =>
 refine Zfe rfl (fun cd1 => ?_) (fun cd1 => ?_)
 ·refine Zfc <| Ze7 <| Zfj <| Zfr [([0, 1, 2, 7, 8, 3, 9, 4, 10, 5, 11], some (6, [7, 8, 9, 10, 11])), ([], some (12, [])), ([13], none)] (by kernel_rfl) (by kernel_rfl) ?_
  refine Zfg 5 rfl ?_
  obtain ⟨x, hx3⟩ : ∃ x, l[k]? = some x := ⟨_, List.getElem?_eq_getElem (by omega)⟩; obtain ⟨hw1, hw2⟩ := hw x (List.mem_of_getElem? hx3)
  refine Zf1 rfl rfl (i := (k : Int)) (k) el_30 rfl rfl (by omega) (Zt (ZW hx3)) (Z.rdS 1 rfl (ZW hx3)).1 ?_
  refine Zf1 rfl rfl (i := (k : Int)) (k) el_30 rfl rfl (by omega) (Zt (ZW hx3)) (Z.rdS 1 rfl (ZW hx3)).1 ?_
  refine Zfp 4 [.int .i64 x.1, .int .i64 x.2] rfl (by exact ⟨(Z.rdS 1 rfl (ZW hx3)).2 0 _ rfl, (Z.rdS 1 rfl (ZW hx3)).2 1 _ rfl⟩) ?_
  refine WQ.dn Z (fun w Z => ?_)
  replace Z := (Z.at_ 0 rfl).share
  replace Z := Z.n2 L (a0 := Sh 5 1 (Za ys) a3 c3) rfl
  refine Zfb rfl rfl (Z2 _ _ _ x.1 (by first | omega | (simp <;> omega)) (by assumption) Z) rfl ?_
  generalize hY2 : ys ++ eZ x.1 = Y2
  clear Z; rintro _ w ⟨a2, c2, rfl, Z⟩
  have hY2f0 : (List.length Y2) ≤ (List.length ys) + 10 := by rw [← hY2, List.length_append]; exact Nat.add_le_add_left (Zl (by assumption)) _
  replace Z := Z.n2 L (a0 := Ze 5 1 (Za Y2) a2 c2) rfl
  refine Ze8 ?_
  refine ⟨by exact ⟨Zff rfl rfl rfl rfl, Zff rfl rfl rfl rfl, Zgm rfl rfl (i := (k : Int)) (k) el_30 rfl rfl (by omega) (Zt (ZW hx3)) (Z.rdS 1 rfl (ZW hx3)).1 rfl rfl, Zff rfl rfl rfl rfl, Zfq rfl rfl rfl rfl ((Z.rdS 1 rfl (ZW hx3)).2 1 _ rfl)⟩, ?_⟩
  refine WQ.dn Z (fun w Z => ?_)
  replace Z := (Z.at_ 0 rfl).share
  replace Z := Z.n2 L (a0 := Sh 5 1 (Za Y2) a2 c2) rfl
  refine Zfb rfl rfl (Z2 _ _ _ x.2 (by first | omega | (simp <;> omega)) (by assumption) Z) rfl ?_
  generalize hY3 : Y2 ++ eZ x.2 = Y3
  clear Z; rintro _ w ⟨a3, c3, rfl, Z⟩
  have hY3f0 : (List.length Y3) ≤ (List.length Y2) + 10 := by rw [← hY3, List.length_append]; exact Nat.add_le_add_left (Zl (by assumption)) _
  replace Z := Z.n2 L (a0 := Ze 5 1 (Za Y3) a3 c3) rfl
  refine Ze8 ?_
  refine ⟨by exact trivial, ?_⟩
  refine Zfg 1 rfl <| Zfo ?_
  refine Z.dn (fun w Z => ?_)
  as_aux_lemma =>
  refine WC.region <| Ze6 2 rfl <| Zfi 16 rfl (ZF (by omega)) ?_
  refine Ze6 1 rfl <| Ze8 ?_
  exact ⟨_, by omega, k + 1, Y3, _, _, rfl, Z, (by omega), (by rw [Xd U4 hx3, U4, ← hY3, ← hY2, hys]; simp only [List.append_assoc]), (by omega), rfl⟩
 ·refine Zfv <| Ze7 <| WC.region <| Ze6 2 rfl <| Ze8 <| Zfa ?_
  refine ⟨[.slice a3 (Za ys).length c3], rfl, ?_⟩
  have h9 : ys = xs ++ YF l := by rw [hys, XP U4 (by omega), YF]; rfl
  rw [← h9]; exact ⟨_, _, rfl, Z⟩
theorem Qp (xs : List Int) (a : Option Addr) (c : Nat) (l : List (Int × Int × Int × Int)) (la : Option Addr) (lc : Nat) (hx : xs.length ≤ 800000) (hl : l.length ≤ 10000) (hx2 : xs.length + 31 * l.length ≤ 700000) (hw : Qm l) (Z : St g (Sh 5 1 (Za xs) a c :: Sh 88 4 (Zn l) la lc :: L) w) :
  Sp Tryz.prog 21 [.slice a (Za xs).length c, .slice la (Zn l).length lc] w (fun v w' => ∃ (a2 : Option Addr) (c2 : Nat), v = .slice a2 (Za (xs ++ XO l)).length c2 ∧ St g (Ze 5 1 (Za (xs ++ XO l)) a2 c2 :: Sh 88 4 (Zn l) la lc :: L) w') := by
 refine Sp.enter Tryz.func21 rfl (by kernel_rfl) (by kernel_rfl) ?_
 refine Ze7 <| WC.region <| Ze6 1 rfl <| Ze8 <| Ze7 <| WC.region ?_
 have hl2 := Z9 l
 refine Ze6 4 rfl <| Zfi 9 rfl (Ye (by omega)) ?_
 refine Zfb rfl rfl (Xh _ _ _ (List.length (Zn l) : Int) (by first | omega | (simp <;> omega)) (by omega) Z) rfl ?_
 generalize hY1 : xs ++ eU (List.length (Zn l) : Int) = Y1
 clear Z; rintro _ w ⟨a1, c1, rfl, Z⟩
 have hY1f0 : (List.length Y1) ≤ (List.length xs) + 10 := by rw [← hY1, List.length_append]; exact Nat.add_le_add_left (ZO (by omega)) _
 replace Z := Z.n2 L (a0 := Ze 5 1 (Za Y1) a1 c1) rfl
 refine Ze6 1 rfl <| Ze8 <| Ze7 <| Ze7 <| WC.region <| Ze6 1 rfl <| Ze8 <| Zfj <| Zft [0, 1, 4, 5] (fun kM vs w => ∃ (k : Nat) (ys : List Int) (a3 : Option Addr) (c3 : Nat), vs = [.slice a3 (Za ys).length c3, .slice la (Zn l).length lc, .slice none 0 0, .int .i64 (k : Int)] ∧ St g (Ze 5 1 (Za ys) a3 c3 :: Sh 88 4 (Zn l) la lc :: L) w ∧ (k ≤ l.length) ∧ (ys = xs ++ (eU l.length ++ (l.take k).flatMap HE)) ∧ (ys.length ≤ xs.length + 10 + 31 * k) ∧ (l.length - k) = kM) ((List.length l) - 0) ⟨0, Y1, _, _, rfl, Z, (Nat.zero_le _), (by rw [← hY1, hl2]; simp), (by omega), rfl⟩ ?_
 clear Z; rintro _ _ w j ⟨k, ys, a3, c3, rfl, Z, hk, hys, hyl, rfl⟩
 refine Ze7 <| Ze7 <| WC.region <| Ze6 4 rfl <| Ze8 ?_
 as_aux_lemma =>
 refine Zfe rfl (fun cd1 => ?_) (fun cd1 => ?_)
 ·refine Zfc <| Ze7 <| Zfj <| Ze7 <| WC.region <| Ze6 3 rfl ?_
  obtain ⟨x, hx3⟩ : ∃ x, l[k]? = some x := ⟨_, List.getElem?_eq_getElem (by omega)⟩; obtain ⟨hw1, hw2, hw3, hw4⟩ := hw x (List.mem_of_getElem? hx3)
  refine Zfw rfl rfl (i := (k : Int)) (k) el_31 rfl rfl (by omega) (Zt (Zp hx3)) (Z.rdS 1 rfl (Zp hx3)).1 ?_
  refine Zfd 3 [.int .i64 x.1] rfl (by exact (Z.rdS 1 rfl (Zp hx3)).2 0 _ rfl) ?_
  refine Zfm 23 (.int .u8 (x.1 % 256)) (congrArg (Value.int .u8) (by rfl)) ?_
  refine Zf3 rfl rfl (Za [x.1 % 256]) el_33 Z (by exact ⟨rfl, rfl⟩) (Yj _) rfl (Nat.le_of_ble_eq_true rfl) (fun b1 w Z => ?_)
  refine Zfz rfl rfl 1 (Za (ys ++ [x.1 % 256])) el_33 Z rfl (Z.srcO 0 rfl) (Z0 _ _).symm (Rm.of (by first | omega | (simp <;> omega)) (by decide)) rfl rfl (fun a2 c2 w Z => ?_)
  replace Z := Z.n3 L (a0 := Ze 5 1 (Za [x.1 % 256]) (some ⟨b1, 0, none⟩) (Za [x.1 % 256]).length) (a1 := Ze 5 1 (Za (ys ++ [x.1 % 256])) a2 c2) rfl
  refine Ze6 1 rfl <| Ze8 <| Zfr [([0, 1, 2, 7, 8, 13, 14, 3, 9, 15, 4, 10, 16, 5, 11, 17], some (6, [7, 8, 9, 10, 11, 13, 14, 15, 16, 17])), ([], some (12, [13, 14, 15, 16, 17])), ([], some (18, [])), ([19], none)] (by kernel_rfl) (by kernel_rfl) ?_
  have hym : (ys ++ [x.1 % 256]).length = ys.length + 1 := by simp
  refine Zfg 7 rfl <| Zf1 rfl rfl (i := (k : Int)) (k) el_31 rfl rfl (by omega) (Zt (Zp hx3)) (Z.rdS 2 rfl (Zp hx3)).1 ?_
  refine Zf1 rfl rfl (i := (k : Int)) (k) el_31 rfl rfl (by omega) (Zt (Zp hx3)) (Z.rdS 2 rfl (Zp hx3)).1 ?_
  refine Zf1 rfl rfl (i := (k : Int)) (k) el_31 rfl rfl (by omega) (Zt (Zp hx3)) (Z.rdS 2 rfl (Zp hx3)).1 ?_
  refine Zfp 6 [.int .i64 x.2.1, .int .i64 x.2.2.1, .int .i64 x.2.2.2] rfl (by exact ⟨(Z.rdS 2 rfl (Zp hx3)).2 1 _ rfl, (Z.rdS 2 rfl (Zp hx3)).2 2 _ rfl, (Z.rdS 2 rfl (Zp hx3)).2 3 _ rfl⟩) ?_
  refine WQ.dn Z (fun w Z => ?_)
  replace Z := (Z.at_ 1 rfl).share
  replace Z := Z.n3 L (a0 := Sh 5 1 (Za (ys ++ [x.1 % 256])) a2 c2) rfl
  refine Zfb rfl rfl (Z2 (ys ++ [x.1 % 256]) _ _ x.2.1 (by first | omega | (simp <;> omega)) (by assumption) Z) rfl ?_
  generalize hY2 : (ys ++ [x.1 % 256]) ++ eZ x.2.1 = Y2
  clear Z; rintro _ w ⟨a3, c3, rfl, Z⟩
  have hY2f0 : (List.length Y2) ≤ (ys ++ [x.1 % 256]).length + 10 := by rw [← hY2, List.length_append]; exact Nat.add_le_add_left (Zl (by assumption)) _
  replace Z := Z.n3 L (a0 := Ze 5 1 (Za Y2) a3 c3) rfl
  refine Ze8 ?_
  refine ⟨by exact ⟨Zff rfl rfl rfl rfl, Zff rfl rfl rfl rfl, Zgm rfl rfl (i := (k : Int)) (k) el_31 rfl rfl (by omega) (Zt (Zp hx3)) (Z.rdS 2 rfl (Zp hx3)).1 rfl rfl, Zff rfl rfl rfl rfl, Zfq rfl rfl rfl rfl ((Z.rdS 2 rfl (Zp hx3)).2 2 _ rfl), Zff rfl rfl rfl rfl, Zff rfl rfl rfl rfl, Zgm rfl rfl (i := (k : Int)) (k) el_31 rfl rfl (by omega) (Zt (Zp hx3)) (Z.rdS 2 rfl (Zp hx3)).1 rfl rfl, Zff rfl rfl rfl rfl, Zfq rfl rfl rfl rfl ((Z.rdS 2 rfl (Zp hx3)).2 3 _ rfl)⟩, ?_⟩
  refine WQ.dn Z (fun w Z => ?_)
  replace Z := (Z.at_ 0 rfl).share
  replace Z := Z.n3 L (a0 := Sh 5 1 (Za Y2) a3 c3) rfl
  refine Zfb rfl rfl (Z2 _ _ _ x.2.2.1 (by first | omega | (simp <;> omega)) (by assumption) Z) rfl ?_
  generalize hY3 : Y2 ++ eZ x.2.2.1 = Y3
  clear Z; rintro _ w ⟨a4, c4, rfl, Z⟩
  have hY3f0 : (List.length Y3) ≤ (List.length Y2) + 10 := by rw [← hY3, List.length_append]; exact Nat.add_le_add_left (Zl (by assumption)) _
  replace Z := Z.n3 L (a0 := Ze 5 1 (Za Y3) a4 c4) rfl
  refine Ze8 ?_
  refine ⟨by exact ⟨Zff rfl rfl rfl rfl, Zff rfl rfl rfl rfl, Zgm rfl rfl (i := (k : Int)) (k) el_31 rfl rfl (by omega) (Zt (Zp hx3)) (Z.rdS 2 rfl (Zp hx3)).1 rfl rfl, Zff rfl rfl rfl rfl, Zfq rfl rfl rfl rfl ((Z.rdS 2 rfl (Zp hx3)).2 3 _ rfl)⟩, ?_⟩
  refine WQ.dn Z (fun w Z => ?_)
  replace Z := (Z.at_ 0 rfl).share
  replace Z := Z.n3 L (a0 := Sh 5 1 (Za Y3) a4 c4) rfl
  refine Zfb rfl rfl (Z2 _ _ _ x.2.2.2 (by first | omega | (simp <;> omega)) (by assumption) Z) rfl ?_
  generalize hY4 : Y3 ++ eZ x.2.2.2 = Y4
  clear Z; rintro _ w ⟨a5, c5, rfl, Z⟩
  have hY4f0 : (List.length Y4) ≤ (List.length Y3) + 10 := by rw [← hY4, List.length_append]; exact Nat.add_le_add_left (Zl (by assumption)) _
  replace Z := Z.n3 L (a0 := Ze 5 1 (Za Y4) a5 c5) rfl
  refine Ze8 ?_
  refine ⟨by exact trivial, ?_⟩
  refine Zfg 1 rfl <| Zfo ?_
  refine Z.dn (fun w Z => ?_)
  as_aux_lemma =>
  refine WC.region <| Ze6 2 rfl <| Zfi 16 rfl (ZF (by omega)) ?_
  refine Ze6 1 rfl <| Ze8 ?_
  exact ⟨_, by omega, k + 1, Y4, _, _, rfl, (Z.sel 2 [0] rfl), (by omega), (by rw [Xd HE hx3, HE, ← hY4, ← hY3, ← hY2, hys]; simp only [List.append_assoc, List.cons_append, List.nil_append]), (by omega), rfl⟩
 ·refine Zfv <| Ze7 <| WC.region <| Ze6 2 rfl <| Ze8 <| Zfa ?_
  refine ⟨[.slice a3 (Za ys).length c3], rfl, ?_⟩
  have h9 : ys = xs ++ XO l := by rw [hys, XP HE (by omega), XO]; rfl
  rw [← h9]; exact ⟨_, _, rfl, Z⟩
end Go.Proofs.YtlifpobidhfbfaaGreatDoor
namespace Go.Proofs.YtlifpobidhfbfaaGreatDoor
open Go Go.V
variable {g w : World} {L : List HP}
theorem QJ (x y : AnM) (ab ae ac ak ab2 ae2 ac2 ak2 : Option Addr) (cb ce cc ck cb2 ce2 cc2 ck2 : Nat) (h1 : x.ents.length ≤ 1000000000) (h2 : x.chs.length ≤ 1000000000) (h3 : x.keys.length ≤ 1000000000) (hbx : B8 x.bytes) (hby : B8 y.bytes) (Z : St g (Sh 5 1 (Za x.bytes) ab cb :: Sh 27 2 (Zo x.ents) ae ce :: Sh 88 4 (Zn x.chs) ac cc :: Sh 2 1 (Zb x.keys) ak ck :: Sh 5 1 (Za y.bytes) ab2 cb2 :: Sh 27 2 (Zo y.ents) ae2 ce2 :: Sh 88 4 (Zn y.chs) ac2 cc2 :: Sh 2 1 (Zb y.keys) ak2 ck2 :: L) w) :
  Sp Tryz.prog 10 [.agg #[.int .i64 x.err, .int .u64 x.handle, .int .i64 x.value, .bool x.found, .int .i64 x.n, .int .i64 x.ekey, .int .i64 x.eval, .int .i64 x.count, .int .i64 x.sum, .int .i64 x.mn, .int .i64 x.mx, .slice ae (Zo x.ents).length ce, .slice ac (Zn x.chs).length cc, .slice ak (Zb x.keys).length ck, .slice ab (Za x.bytes).length cb], .agg #[.int .i64 y.err, .int .u64 y.handle, .int .i64 y.value, .bool y.found, .int .i64 y.n, .int .i64 y.ekey, .int .i64 y.eval, .int .i64 y.count, .int .i64 y.sum, .int .i64 y.mn, .int .i64 y.mx, .slice ae2 (Zo y.ents).length ce2, .slice ac2 (Zn y.chs).length cc2, .slice ak2 (Zb y.keys).length ck2, .slice ab2 (Za y.bytes).length cb2]] w (fun v w' => ∃ (ok : Bool), v = .bool ok ∧ St g (Sh 5 1 (Za x.bytes) ab cb :: Sh 27 2 (Zo x.ents) ae ce :: Sh 88 4 (Zn x.chs) ac cc :: Sh 2 1 (Zb x.keys) ak ck :: Sh 5 1 (Za y.bytes) ab2 cb2 :: Sh 27 2 (Zo y.ents) ae2 ce2 :: Sh 88 4 (Zn y.chs) ac2 cc2 :: Sh 2 1 (Zb y.keys) ak2 ck2 :: L) w' ∧ (ok = true ↔ x = y)) := by
 refine Sp.enter Tryz.func10 rfl (by kernel_rfl) (by kernel_rfl) ?_
 refine Ze7 <| WC.region <| Zf0 rfl rfl #[.int .i64 x.err, .int .u64 x.handle, .int .i64 x.value, .bool x.found, .int .i64 x.n, .int .i64 x.ekey, .int .i64 x.eval, .int .i64 x.count, .int .i64 x.sum, .int .i64 x.mn, .int .i64 x.mx, .slice ae (Zo x.ents).length ce, .slice ac (Zn x.chs).length cc, .slice ak (Zb x.keys).length ck, .slice ab (Za x.bytes).length cb] Z rfl rfl (fun b1 w Z => ?_)
 refine Zf0 rfl rfl #[.int .i64 y.err, .int .u64 y.handle, .int .i64 y.value, .bool y.found, .int .i64 y.n, .int .i64 y.ekey, .int .i64 y.eval, .int .i64 y.count, .int .i64 y.sum, .int .i64 y.mn, .int .i64 y.mx, .slice ae2 (Zo y.ents).length ce2, .slice ac2 (Zn y.chs).length cc2, .slice ak2 (Zb y.keys).length ck2, .slice ab2 (Za y.bytes).length cb2] Z rfl rfl (fun b2 w Z => ?_)
 refine Ze6 1 rfl <| Ze8 <| Ze7 <| Ze7 <| WC.region ?_
 have hk1 := Zh x.keys; have hk2 := Zh y.keys
 refine Zfd 7 [.slice ak (Zb x.keys).length ck, .slice ak2 (Zb y.keys).length ck2] rfl (by exact ⟨Z.ld 1 rfl rfl, Z.ld 0 rfl rfl⟩) ?_
 refine Ze8 <| Zfe rfl (fun cd1 => ?_) (fun cd1 => ?_)
 ·refine Ze7 <| WC.region <| Ze6 1 rfl <| Ze8 <| Zfa ?_
  refine ⟨[.bool false], rfl, ?_⟩
  replace Z := (Z.sel 2 [] rfl)
  exact ⟨_, rfl, Z, ⟨fun h => (by cases h), fun h => by rw [hk1, hk2, h] at cd1; exact absurd rfl cd1⟩⟩
 ·refine Zfc <| Ze7 <| Ze7 <| WC.region <| Ze6 1 rfl <| Ze8 <| Zfj <| Zft [2, 3, 5] (fun kM vs w => ∃ (k : Nat), vs = [.pointer (some ⟨b1, 0, none⟩), .pointer (some ⟨b2, 0, none⟩), .int .i64 (k : Int)] ∧ St g (Zd b2 #[.int .i64 y.err, .int .u64 y.handle, .int .i64 y.value, .bool y.found, .int .i64 y.n, .int .i64 y.ekey, .int .i64 y.eval, .int .i64 y.count, .int .i64 y.sum, .int .i64 y.mn, .int .i64 y.mx, .slice ae2 (Zo y.ents).length ce2, .slice ac2 (Zn y.chs).length cc2, .slice ak2 (Zb y.keys).length ck2, .slice ab2 (Za y.bytes).length cb2] 35 :: Zd b1 #[.int .i64 x.err, .int .u64 x.handle, .int .i64 x.value, .bool x.found, .int .i64 x.n, .int .i64 x.ekey, .int .i64 x.eval, .int .i64 x.count, .int .i64 x.sum, .int .i64 x.mn, .int .i64 x.mx, .slice ae (Zo x.ents).length ce, .slice ac (Zn x.chs).length cc, .slice ak (Zb x.keys).length ck, .slice ab (Za x.bytes).length cb] 35 :: Sh 5 1 (Za x.bytes) ab cb :: Sh 27 2 (Zo x.ents) ae ce :: Sh 88 4 (Zn x.chs) ac cc :: Sh 2 1 (Zb x.keys) ak ck :: Sh 5 1 (Za y.bytes) ab2 cb2 :: Sh 27 2 (Zo y.ents) ae2 ce2 :: Sh 88 4 (Zn y.chs) ac2 cc2 :: Sh 2 1 (Zb y.keys) ak2 ck2 :: L) w ∧ (k ≤ x.keys.length) ∧ (x.keys.take k = y.keys.take k) ∧ (x.keys.length - k) = kM) ((List.length x.keys) - 0) ⟨0, rfl, Z, (Nat.zero_le _), (rfl), rfl⟩ ?_
  clear Z; rintro _ _ w j ⟨k, rfl, Z, hk, he, rfl⟩
  refine Ze7 <| Ze7 <| WC.region <| Zfd 5 [.slice ak (Zb x.keys).length ck] rfl (by exact Z.ld 1 rfl rfl) ?_
  refine Ze8 ?_
  as_aux_lemma =>
  refine Zfe rfl (fun cd2 => ?_) (fun cd2 => ?_)
  ·refine Zfc <| Ze7 <| Zfj <| Ze7 <| Zfr [([0, 2, 5, 7, 1, 6, 3, 8, 4, 9, 10], none)] (by kernel_rfl) (by kernel_rfl) ?_
   refine Zfp 6 [.slice ak (Zb x.keys).length ck, .slice ak2 (Zb y.keys).length ck2] rfl (by exact ⟨Z.ld 1 rfl rfl, Z.ld 0 rfl rfl⟩) ?_
   obtain ⟨v, hkx⟩ : ∃ v, x.keys[k]? = some v := ⟨_, List.getElem?_eq_getElem (by omega)⟩
   refine Zf1 rfl rfl (i := (k : Int)) (k) el_32 rfl rfl (by omega) (Zt (Zg hkx)) (Z.rdS 5 rfl (Zg hkx)).1 ?_
   obtain ⟨u, hky⟩ : ∃ u, y.keys[k]? = some u := ⟨_, List.getElem?_eq_getElem (by omega)⟩
   refine Zf1 rfl rfl (i := (k : Int)) (k) el_32 rfl rfl (by omega) (Zt (Zg hky)) (Z.rdS 9 rfl (Zg hky)).1 ?_
   refine Zfp 3 [.int .i64 v, .int .i64 u] rfl (by exact ⟨(Z.rdS 5 rfl (Zg hkx)).2 0 _ rfl, (Z.rdS 9 rfl (Zg hky)).2 0 _ rfl⟩) ?_
   refine Zfo ?_
   refine Z.dn (fun w Z => ?_)
   refine Zfe rfl (fun cd3 => ?_) (fun cd3 => ?_)
   ·refine Ze7 <| WC.region <| Ze6 1 rfl <| Ze8 <| Zfa ?_
    refine ⟨[.bool false], rfl, ?_⟩
    replace Z := (Z.sel 2 [] rfl)
    exact ⟨_, rfl, Z, ⟨fun h => (by cases h), fun h => by subst h; rw [hkx] at hky; cases hky; exact absurd rfl cd3⟩⟩
   ·refine Zfc <| WC.region <| Ze6 2 rfl <| Zfi 19 rfl (ZF (by omega)) ?_
    refine Ze6 1 rfl <| Ze8 ?_
    exact ⟨_, by omega, k + 1, rfl, Z, (by omega), (by rw [List.take_add_one, List.take_add_one, he, hkx, hky, Classical.not_not.1 cd3]), rfl⟩
  ·refine Zfv <| Ze7 <| WC.region ?_
   have hkk : x.keys = y.keys := by rw [← List.take_of_length_le (i := k) (l := x.keys) (by omega), he, List.take_of_length_le (by omega)]
   refine Zfd 6 [.int .i64 x.err, .int .i64 y.err] rfl (by exact ⟨Z.ld 1 rfl rfl, Z.ld 0 rfl rfl⟩) ?_
   by_cases cg1 : x.err = y.err
   ·refine Zfm 36 (.bool true) (congrArg Value.bool (decide_eq_true cg1)) <| Zfh rfl rfl rfl <| Ze6 1 rfl <| Zfh rfl rfl rfl <| Zfd 1 [.int .u64 x.handle] rfl (by exact Z.ld 1 rfl rfl) ?_
    refine Zfh rfl rfl rfl <| Ze6 1 rfl <| Zfh rfl rfl rfl <| Zfd 1 [.int .u64 y.handle] rfl (by exact Z.ld 0 rfl rfl) ?_
    refine Zfh rfl rfl rfl <| Ze6 3 rfl ?_
    by_cases cg2 : x.handle = y.handle
    ·refine Zfm 43 (.bool true) (congrArg Value.bool (decide_eq_true cg2)) <| Zfh rfl rfl rfl <| Ze6 1 rfl <| Zfh rfl rfl rfl <| Zfd 1 [.int .i64 x.value] rfl (by exact Z.ld 1 rfl rfl) ?_
     refine Zfh rfl rfl rfl <| Ze6 1 rfl <| Zfh rfl rfl rfl <| Zfd 1 [.int .i64 y.value] rfl (by exact Z.ld 0 rfl rfl) ?_
     refine Zfh rfl rfl rfl <| Ze6 3 rfl ?_
     by_cases cg3 : x.value = y.value
     ·refine Zfm 50 (.bool true) (congrArg Value.bool (decide_eq_true cg3)) <| Zfh rfl rfl rfl <| Ze6 1 rfl <| Zfh rfl rfl rfl <| Zfd 1 [.bool x.found] rfl (by exact Z.ld 1 rfl rfl) ?_
      refine Zfh rfl rfl rfl <| Ze6 1 rfl <| Zfh rfl rfl rfl <| Zfd 1 [.bool y.found] rfl (by exact Z.ld 0 rfl rfl) ?_
      refine Zfh rfl rfl rfl <| Ze6 3 rfl ?_
      by_cases cg4 : (x.found == y.found) = true
      ·refine Zfm 57 (.bool true) (congrArg Value.bool cg4) <| Zfh rfl rfl rfl <| Ze6 1 rfl <| Zfh rfl rfl rfl <| Zfd 1 [.int .i64 x.n] rfl (by exact Z.ld 1 rfl rfl) ?_
       refine Zfh rfl rfl rfl <| Ze6 1 rfl <| Zfh rfl rfl rfl <| Zfd 1 [.int .i64 y.n] rfl (by exact Z.ld 0 rfl rfl) ?_
       refine Zfh rfl rfl rfl <| Ze6 3 rfl ?_
       by_cases cg5 : x.n = y.n
       ·refine Zfm 64 (.bool true) (congrArg Value.bool (decide_eq_true cg5)) <| Zfh rfl rfl rfl <| Ze6 1 rfl <| Zfh rfl rfl rfl <| Zf9 rfl rfl [.int .i64 x.ekey, .int .i64 x.eval] Qw rfl (Z.part 1 rfl rfl) <| Zfh rfl rfl rfl <| Ze6 1 rfl <| Zfh rfl rfl rfl <| Zf9 rfl rfl [.int .i64 y.ekey, .int .i64 y.eval] Qw rfl (Z.part 0 rfl rfl) <| Zfh rfl rfl rfl <| Zgu rfl rfl Zb9 (xs := [.int .i64 x.ekey, .int .i64 x.eval]) (ys := [.int .i64 y.ekey, .int .i64 y.eval]) rfl rfl rfl rfl <| Zf4 69 rfl (Ya (dd _) (dd _)) ?_
        refine Ze6 2 rfl ?_
        by_cases cg6 : (x.ekey = y.ekey) ∧ (x.eval = y.eval)
        ·refine Zfm 71 (.bool true) (congrArg Value.bool (decide_eq_true cg6)) <| Zfh rfl rfl rfl <| Ze6 1 rfl <| Zfh rfl rfl rfl <| Zf9 rfl rfl [.int .i64 x.count, .int .i64 x.sum, .int .i64 x.mn, .int .i64 x.mx] Dk rfl (Z.part 1 rfl rfl) <| Zfh rfl rfl rfl <| Ze6 1 rfl <| Zfh rfl rfl rfl <| Zf9 rfl rfl [.int .i64 y.count, .int .i64 y.sum, .int .i64 y.mn, .int .i64 y.mx] Dk rfl (Z.part 0 rfl rfl) <| Zfh rfl rfl rfl <| Zgu rfl rfl eq_29 (xs := [.int .i64 x.count, .int .i64 x.sum, .int .i64 x.mn, .int .i64 x.mx]) (ys := [.int .i64 y.count, .int .i64 y.sum, .int .i64 y.mn, .int .i64 y.mx]) rfl rfl rfl rfl <| Zf4 76 rfl (Ya (dd _) (Ya (dd _) (Ya (dd _) (dd _)))) ?_
         refine Ze6 2 rfl ?_
         by_cases cg7 : (x.count = y.count) ∧ ((x.sum = y.sum) ∧ ((x.mn = y.mn) ∧ (x.mx = y.mx)))
         ·refine Zfm 78 (.bool true) (congrArg Value.bool (decide_eq_true cg7)) <| Zfh rfl rfl rfl <| Ze6 1 rfl <| Zfh rfl rfl rfl <| Zfd 1 [.slice ae (Zo x.ents).length ce] rfl (by exact Z.ld 1 rfl rfl) ?_
          refine Zfh rfl rfl rfl <| Ze6 1 rfl <| Zfh rfl rfl rfl <| Zfd 1 [.slice ae2 (Zo y.ents).length ce2] rfl (by exact Z.ld 0 rfl rfl) ?_
          refine Zfh rfl rfl rfl <| Zfb rfl rfl (same9 x.ents y.ents _ _ _ _ (by omega) (Z.sel 8 [3, 6, 0, 0, 0, 0, 0, 0] rfl)) rfl ?_
          clear Z; rintro _ w ⟨ok1, rfl, Z, f1⟩
          replace Z := Z.n10 L rfl
          refine Ze6 2 rfl ?_
          by_cases cg8 : ok1 = true
          ·refine Zfm 85 (.bool true) (congrArg Value.bool cg8) <| Zfh rfl rfl rfl <| Ze6 1 rfl <| Zfh rfl rfl rfl <| Zfd 1 [.slice ac (Zn x.chs).length cc] rfl (by exact Z.ld 3 rfl rfl) ?_
           refine Zfh rfl rfl rfl <| Ze6 1 rfl <| Zfh rfl rfl rfl <| Zfd 1 [.slice ac2 (Zn y.chs).length cc2] rfl (by exact Z.ld 2 rfl rfl) ?_
           refine Zfh rfl rfl rfl <| Zfb rfl rfl (Zea x.chs y.chs _ _ _ _ (by omega) (Z.sel 9 [5, 7, 0, 0, 0, 0, 0, 0, 0] rfl)) rfl ?_
           clear Z; rintro _ w ⟨ok2, rfl, Z, f2⟩
           replace Z := Z.n10 L rfl
           refine Ze6 2 rfl ?_
           by_cases cg9 : ok2 = true
           ·refine Zfm 92 (.bool true) (congrArg Value.bool cg9) <| Zfh rfl rfl rfl <| Ze6 1 rfl <| Zfh rfl rfl rfl <| Zfd 1 [.slice ab (Za x.bytes).length cb] rfl (by exact Z.ld 5 rfl rfl) ?_
            refine Zfh rfl rfl rfl <| Zfm 94 (.slice ab x.bytes.length cb) (congrArg (fun m => Value.slice ab m cb) (Zf x.bytes)) <| Zgr rfl rfl Tryz.underlying33 Tryz.underlying9 Tryz.underlying5 (Z.srcS 6 rfl) (by assumption) rfl ?_
            refine Zfh rfl rfl rfl <| Ze6 1 rfl <| Zfh rfl rfl rfl <| Zfd 1 [.slice ab2 (Za y.bytes).length cb2] rfl (by exact Z.ld 4 rfl rfl) ?_
            refine Zfh rfl rfl rfl <| Zfm 97 (.slice ab2 y.bytes.length cb2) (congrArg (fun m => Value.slice ab2 m cb2) (Zf y.bytes)) <| Zgr rfl rfl Tryz.underlying33 Tryz.underlying9 Tryz.underlying5 (Z.srcS 8 rfl) (by assumption) rfl ?_
            refine Zfh rfl rfl rfl <| Ze6 3 rfl <| Ze8 ?_
            as_aux_lemma =>
            refine Zfa ?_
            refine ⟨[.bool (decide ((Y_ x.bytes) = (Y_ y.bytes)))], rfl, ?_⟩
            replace Z := (Z.sel 9 [6, 2, 0, 4, 4, 1, 0] rfl)
            exact ⟨_, rfl, Z, ⟨fun h => AnM.ext' ⟨cg1, cg2, cg3, by simpa using cg4, cg5, cg6.1, cg6.2, cg7.1, cg7.2.1, cg7.2.2.1, cg7.2.2.2, f1.1 cg8, f2.1 cg9, hkk, Zah hbx hby (of_decide_eq_true h)⟩, fun h => decide_eq_true (by rw [h])⟩⟩
           ·refine Zfm 92 (.bool false) (congrArg Value.bool (Bool.eq_false_iff.2 cg9)) <| Ze9 rfl rfl rfl rfl <| Ze9 rfl rfl rfl rfl <| Ze9 rfl rfl rfl rfl <| Ze9 rfl rfl rfl rfl <| Ze9 rfl rfl rfl rfl <| Ze9 rfl rfl rfl rfl <| Ze9 rfl rfl rfl rfl <| Ze6 2 rfl <| Ze8 ?_
            as_aux_lemma =>
            refine Zfa ?_
            refine ⟨[.bool false], rfl, ?_⟩
            replace Z := (Z.sel 9 [6, 2, 0, 4, 4, 1, 0] rfl)
            exact ⟨_, rfl, Z, ⟨fun h => (by cases h), fun h => absurd (f2.2 (by rw [h])) cg9⟩⟩
          ·refine Zfm 85 (.bool false) (congrArg Value.bool (Bool.eq_false_iff.2 cg8)) <| Ze9 rfl rfl rfl rfl <| Ze9 rfl rfl rfl rfl <| Ze9 rfl rfl rfl rfl <| Ze9 rfl rfl rfl rfl <| Ze9 rfl rfl rfl rfl <| Ze6 2 rfl <| Ze9 rfl rfl rfl rfl <| Ze9 rfl rfl rfl rfl <| Ze9 rfl rfl rfl rfl <| Ze9 rfl rfl rfl rfl <| Ze9 rfl rfl rfl rfl ?_
           refine Ze9 rfl rfl rfl rfl <| Ze9 rfl rfl rfl rfl <| Ze6 2 rfl <| Ze8 ?_
           as_aux_lemma =>
           refine Zfa ?_
           refine ⟨[.bool false], rfl, ?_⟩
           replace Z := (Z.sel 8 [4, 0, 3, 3, 3, 0] rfl)
           exact ⟨_, rfl, Z, ⟨fun h => (by cases h), fun h => absurd (f1.2 (by rw [h])) cg8⟩⟩
         ·refine Zfm 78 (.bool false) (congrArg Value.bool (decide_eq_false cg7)) <| Ze9 rfl rfl rfl rfl <| Ze9 rfl rfl rfl rfl <| Ze9 rfl rfl rfl rfl <| Ze9 rfl rfl rfl rfl <| Ze9 rfl rfl rfl rfl <| Ze6 2 rfl <| Ze9 rfl rfl rfl rfl <| Ze9 rfl rfl rfl rfl <| Ze9 rfl rfl rfl rfl <| Ze9 rfl rfl rfl rfl <| Ze9 rfl rfl rfl rfl ?_
          refine Ze6 2 rfl <| Ze9 rfl rfl rfl rfl <| Ze9 rfl rfl rfl rfl <| Ze9 rfl rfl rfl rfl <| Ze9 rfl rfl rfl rfl <| Ze9 rfl rfl rfl rfl <| Ze9 rfl rfl rfl rfl <| Ze9 rfl rfl rfl rfl <| Ze6 2 rfl <| Ze8 ?_
          as_aux_lemma =>
          refine Zfa ?_
          refine ⟨[.bool false], rfl, ?_⟩
          replace Z := (Z.sel 2 [] rfl)
          exact ⟨_, rfl, Z, ⟨fun h => (by cases h), fun h => absurd (by subst h; simp) cg7⟩⟩
        ·refine Zfm 71 (.bool false) (congrArg Value.bool (decide_eq_false cg6)) <| Ze9 rfl rfl rfl rfl <| Ze9 rfl rfl rfl rfl <| Ze9 rfl rfl rfl rfl <| Ze9 rfl rfl rfl rfl <| Ze9 rfl rfl rfl rfl <| Ze6 2 rfl <| Ze9 rfl rfl rfl rfl <| Ze9 rfl rfl rfl rfl <| Ze9 rfl rfl rfl rfl <| Ze9 rfl rfl rfl rfl <| Ze9 rfl rfl rfl rfl ?_
         refine Ze6 2 rfl <| Ze9 rfl rfl rfl rfl <| Ze9 rfl rfl rfl rfl <| Ze9 rfl rfl rfl rfl <| Ze9 rfl rfl rfl rfl <| Ze9 rfl rfl rfl rfl <| Ze6 2 rfl <| Ze9 rfl rfl rfl rfl <| Ze9 rfl rfl rfl rfl <| Ze9 rfl rfl rfl rfl <| Ze9 rfl rfl rfl rfl <| Ze9 rfl rfl rfl rfl ?_
         refine Ze9 rfl rfl rfl rfl <| Ze9 rfl rfl rfl rfl <| Ze6 2 rfl <| Ze8 ?_
         as_aux_lemma =>
         refine Zfa ?_
         refine ⟨[.bool false], rfl, ?_⟩
         replace Z := (Z.sel 2 [] rfl)
         exact ⟨_, rfl, Z, ⟨fun h => (by cases h), fun h => absurd (by subst h; simp) cg6⟩⟩
       ·refine Zfm 64 (.bool false) (congrArg Value.bool (decide_eq_false cg5)) <| Ze9 rfl rfl rfl rfl <| Ze9 rfl rfl rfl rfl <| Ze9 rfl rfl rfl rfl <| Ze9 rfl rfl rfl rfl <| Ze9 rfl rfl rfl rfl <| Ze6 2 rfl <| Ze9 rfl rfl rfl rfl <| Ze9 rfl rfl rfl rfl <| Ze9 rfl rfl rfl rfl <| Ze9 rfl rfl rfl rfl <| Ze9 rfl rfl rfl rfl ?_
        refine Ze6 2 rfl <| Ze9 rfl rfl rfl rfl <| Ze9 rfl rfl rfl rfl <| Ze9 rfl rfl rfl rfl <| Ze9 rfl rfl rfl rfl <| Ze9 rfl rfl rfl rfl <| Ze6 2 rfl <| Ze9 rfl rfl rfl rfl <| Ze9 rfl rfl rfl rfl <| Ze9 rfl rfl rfl rfl <| Ze9 rfl rfl rfl rfl <| Ze9 rfl rfl rfl rfl ?_
        refine Ze6 2 rfl <| Ze9 rfl rfl rfl rfl <| Ze9 rfl rfl rfl rfl <| Ze9 rfl rfl rfl rfl <| Ze9 rfl rfl rfl rfl <| Ze9 rfl rfl rfl rfl <| Ze9 rfl rfl rfl rfl <| Ze9 rfl rfl rfl rfl <| Ze6 2 rfl <| Ze8 ?_
        as_aux_lemma =>
        refine Zfa ?_
        refine ⟨[.bool false], rfl, ?_⟩
        replace Z := (Z.sel 2 [] rfl)
        exact ⟨_, rfl, Z, ⟨fun h => (by cases h), fun h => absurd (by subst h; simp) cg5⟩⟩
      ·refine Zfm 57 (.bool false) (congrArg Value.bool (Bool.eq_false_iff.2 cg4)) <| Ze9 rfl rfl rfl rfl <| Ze9 rfl rfl rfl rfl <| Ze9 rfl rfl rfl rfl <| Ze9 rfl rfl rfl rfl <| Ze9 rfl rfl rfl rfl <| Ze6 2 rfl <| Ze9 rfl rfl rfl rfl <| Ze9 rfl rfl rfl rfl <| Ze9 rfl rfl rfl rfl <| Ze9 rfl rfl rfl rfl <| Ze9 rfl rfl rfl rfl ?_
       refine Ze6 2 rfl <| Ze9 rfl rfl rfl rfl <| Ze9 rfl rfl rfl rfl <| Ze9 rfl rfl rfl rfl <| Ze9 rfl rfl rfl rfl <| Ze9 rfl rfl rfl rfl <| Ze6 2 rfl <| Ze9 rfl rfl rfl rfl <| Ze9 rfl rfl rfl rfl <| Ze9 rfl rfl rfl rfl <| Ze9 rfl rfl rfl rfl <| Ze9 rfl rfl rfl rfl ?_
       refine Ze6 2 rfl <| Ze9 rfl rfl rfl rfl <| Ze9 rfl rfl rfl rfl <| Ze9 rfl rfl rfl rfl <| Ze9 rfl rfl rfl rfl <| Ze9 rfl rfl rfl rfl <| Ze6 2 rfl <| Ze9 rfl rfl rfl rfl <| Ze9 rfl rfl rfl rfl <| Ze9 rfl rfl rfl rfl <| Ze9 rfl rfl rfl rfl <| Ze9 rfl rfl rfl rfl ?_
       refine Ze9 rfl rfl rfl rfl <| Ze9 rfl rfl rfl rfl <| Ze6 2 rfl <| Ze8 ?_
       as_aux_lemma =>
       refine Zfa ?_
       refine ⟨[.bool false], rfl, ?_⟩
       replace Z := (Z.sel 2 [] rfl)
       exact ⟨_, rfl, Z, ⟨fun h => (by cases h), fun h => absurd (by subst h; simp) cg4⟩⟩
     ·refine Zfm 50 (.bool false) (congrArg Value.bool (decide_eq_false cg3)) <| Ze9 rfl rfl rfl rfl <| Ze9 rfl rfl rfl rfl <| Ze9 rfl rfl rfl rfl <| Ze9 rfl rfl rfl rfl <| Ze9 rfl rfl rfl rfl <| Ze6 2 rfl <| Ze9 rfl rfl rfl rfl <| Ze9 rfl rfl rfl rfl <| Ze9 rfl rfl rfl rfl <| Ze9 rfl rfl rfl rfl <| Ze9 rfl rfl rfl rfl ?_
      refine Ze6 2 rfl <| Ze9 rfl rfl rfl rfl <| Ze9 rfl rfl rfl rfl <| Ze9 rfl rfl rfl rfl <| Ze9 rfl rfl rfl rfl <| Ze9 rfl rfl rfl rfl <| Ze6 2 rfl <| Ze9 rfl rfl rfl rfl <| Ze9 rfl rfl rfl rfl <| Ze9 rfl rfl rfl rfl <| Ze9 rfl rfl rfl rfl <| Ze9 rfl rfl rfl rfl ?_
      refine Ze6 2 rfl <| Ze9 rfl rfl rfl rfl <| Ze9 rfl rfl rfl rfl <| Ze9 rfl rfl rfl rfl <| Ze9 rfl rfl rfl rfl <| Ze9 rfl rfl rfl rfl <| Ze6 2 rfl <| Ze9 rfl rfl rfl rfl <| Ze9 rfl rfl rfl rfl <| Ze9 rfl rfl rfl rfl <| Ze9 rfl rfl rfl rfl <| Ze9 rfl rfl rfl rfl ?_
      refine Ze6 2 rfl <| Ze9 rfl rfl rfl rfl <| Ze9 rfl rfl rfl rfl <| Ze9 rfl rfl rfl rfl <| Ze9 rfl rfl rfl rfl <| Ze9 rfl rfl rfl rfl <| Ze9 rfl rfl rfl rfl <| Ze9 rfl rfl rfl rfl <| Ze6 2 rfl <| Ze8 ?_
      as_aux_lemma =>
      refine Zfa ?_
      refine ⟨[.bool false], rfl, ?_⟩
      replace Z := (Z.sel 2 [] rfl)
      exact ⟨_, rfl, Z, ⟨fun h => (by cases h), fun h => absurd (by subst h; simp) cg3⟩⟩
    ·refine Zfm 43 (.bool false) (congrArg Value.bool (decide_eq_false cg2)) <| Ze9 rfl rfl rfl rfl <| Ze9 rfl rfl rfl rfl <| Ze9 rfl rfl rfl rfl <| Ze9 rfl rfl rfl rfl <| Ze9 rfl rfl rfl rfl <| Ze6 2 rfl <| Ze9 rfl rfl rfl rfl <| Ze9 rfl rfl rfl rfl <| Ze9 rfl rfl rfl rfl <| Ze9 rfl rfl rfl rfl <| Ze9 rfl rfl rfl rfl ?_
     refine Ze6 2 rfl <| Ze9 rfl rfl rfl rfl <| Ze9 rfl rfl rfl rfl <| Ze9 rfl rfl rfl rfl <| Ze9 rfl rfl rfl rfl <| Ze9 rfl rfl rfl rfl <| Ze6 2 rfl <| Ze9 rfl rfl rfl rfl <| Ze9 rfl rfl rfl rfl <| Ze9 rfl rfl rfl rfl <| Ze9 rfl rfl rfl rfl <| Ze9 rfl rfl rfl rfl ?_
     refine Ze6 2 rfl <| Ze9 rfl rfl rfl rfl <| Ze9 rfl rfl rfl rfl <| Ze9 rfl rfl rfl rfl <| Ze9 rfl rfl rfl rfl <| Ze9 rfl rfl rfl rfl <| Ze6 2 rfl <| Ze9 rfl rfl rfl rfl <| Ze9 rfl rfl rfl rfl <| Ze9 rfl rfl rfl rfl <| Ze9 rfl rfl rfl rfl <| Ze9 rfl rfl rfl rfl ?_
     refine Ze6 2 rfl <| Ze9 rfl rfl rfl rfl <| Ze9 rfl rfl rfl rfl <| Ze9 rfl rfl rfl rfl <| Ze9 rfl rfl rfl rfl <| Ze9 rfl rfl rfl rfl <| Ze6 2 rfl <| Ze9 rfl rfl rfl rfl <| Ze9 rfl rfl rfl rfl <| Ze9 rfl rfl rfl rfl <| Ze9 rfl rfl rfl rfl <| Ze9 rfl rfl rfl rfl ?_
     refine Ze9 rfl rfl rfl rfl <| Ze9 rfl rfl rfl rfl <| Ze6 2 rfl <| Ze8 ?_
     as_aux_lemma =>
     refine Zfa ?_
     refine ⟨[.bool false], rfl, ?_⟩
     replace Z := (Z.sel 2 [] rfl)
     exact ⟨_, rfl, Z, ⟨fun h => (by cases h), fun h => absurd (by subst h; simp) cg2⟩⟩
   ·refine Zfm 36 (.bool false) (congrArg Value.bool (decide_eq_false cg1)) <| Ze9 rfl rfl rfl rfl <| Ze9 rfl rfl rfl rfl <| Ze9 rfl rfl rfl rfl <| Ze9 rfl rfl rfl rfl <| Ze9 rfl rfl rfl rfl <| Ze6 2 rfl <| Ze9 rfl rfl rfl rfl <| Ze9 rfl rfl rfl rfl <| Ze9 rfl rfl rfl rfl <| Ze9 rfl rfl rfl rfl <| Ze9 rfl rfl rfl rfl ?_
    refine Ze6 2 rfl <| Ze9 rfl rfl rfl rfl <| Ze9 rfl rfl rfl rfl <| Ze9 rfl rfl rfl rfl <| Ze9 rfl rfl rfl rfl <| Ze9 rfl rfl rfl rfl <| Ze6 2 rfl <| Ze9 rfl rfl rfl rfl <| Ze9 rfl rfl rfl rfl <| Ze9 rfl rfl rfl rfl <| Ze9 rfl rfl rfl rfl <| Ze9 rfl rfl rfl rfl ?_
    refine Ze6 2 rfl <| Ze9 rfl rfl rfl rfl <| Ze9 rfl rfl rfl rfl <| Ze9 rfl rfl rfl rfl <| Ze9 rfl rfl rfl rfl <| Ze9 rfl rfl rfl rfl <| Ze6 2 rfl <| Ze9 rfl rfl rfl rfl <| Ze9 rfl rfl rfl rfl <| Ze9 rfl rfl rfl rfl <| Ze9 rfl rfl rfl rfl <| Ze9 rfl rfl rfl rfl ?_
    refine Ze6 2 rfl <| Ze9 rfl rfl rfl rfl <| Ze9 rfl rfl rfl rfl <| Ze9 rfl rfl rfl rfl <| Ze9 rfl rfl rfl rfl <| Ze9 rfl rfl rfl rfl <| Ze6 2 rfl <| Ze9 rfl rfl rfl rfl <| Ze9 rfl rfl rfl rfl <| Ze9 rfl rfl rfl rfl <| Ze9 rfl rfl rfl rfl <| Ze9 rfl rfl rfl rfl ?_
    refine Ze6 2 rfl <| Ze9 rfl rfl rfl rfl <| Ze9 rfl rfl rfl rfl <| Ze9 rfl rfl rfl rfl <| Ze9 rfl rfl rfl rfl <| Ze9 rfl rfl rfl rfl <| Ze9 rfl rfl rfl rfl <| Ze9 rfl rfl rfl rfl <| Ze6 2 rfl <| Ze8 ?_
    as_aux_lemma =>
    refine Zfa ?_
    refine ⟨[.bool false], rfl, ?_⟩
    replace Z := (Z.sel 2 [] rfl)
    exact ⟨_, rfl, Z, ⟨fun h => (by cases h), fun h => absurd (by subst h; simp) cg1⟩⟩
end Go.Proofs.YtlifpobidhfbfaaGreatDoor
namespace Go.Proofs.YtlifpobidhfbfaaGreatDoor
open Go Go.V
variable {g w : World} {L : List HP}
theorem X1 (x : AnM) (ab ae ac ak : Option Addr) (cb ce cc ck : Nat) (hw : AnW x) (Z : St g (Sh 5 1 (Za x.bytes) ab cb :: Sh 27 2 (Zo x.ents) ae ce :: Sh 88 4 (Zn x.chs) ac cc :: Sh 2 1 (Zb x.keys) ak ck :: L) w) :
  Sp Tryz.prog 11 [.agg #[.int .i64 x.err, .int .u64 x.handle, .int .i64 x.value, .bool x.found, .int .i64 x.n, .int .i64 x.ekey, .int .i64 x.eval, .int .i64 x.count, .int .i64 x.sum, .int .i64 x.mn, .int .i64 x.mx, .slice ae (Zo x.ents).length ce, .slice ac (Zn x.chs).length cc, .slice ak (Zb x.keys).length ck, .slice ab (Za x.bytes).length cb]] w (fun v w' => ∃ (a2 : Option Addr) (c2 : Nat), v = .slice a2 (Za (YJ x)).length c2 ∧ St g (Ze 5 1 (Za (YJ x)) a2 c2 :: Sh 5 1 (Za x.bytes) ab cb :: Sh 27 2 (Zo x.ents) ae ce :: Sh 88 4 (Zn x.chs) ac cc :: Sh 2 1 (Zb x.keys) ak ck :: L) w') := by
 refine Sp.enter Tryz.func11 rfl (by kernel_rfl) (by kernel_rfl) ?_
 refine Ze7 <| WC.region <| Zf0 rfl rfl #[.int .i64 x.err, .int .u64 x.handle, .int .i64 x.value, .bool x.found, .int .i64 x.n, .int .i64 x.ekey, .int .i64 x.eval, .int .i64 x.count, .int .i64 x.sum, .int .i64 x.mn, .int .i64 x.mx, .slice ae (Zo x.ents).length ce, .slice ac (Zn x.chs).length cc, .slice ak (Zb x.keys).length ck, .slice ab (Za x.bytes).length cb] Z rfl rfl (fun b1 w Z => ?_)
 refine Ze6 1 rfl <| Ze8 <| Ze7 <| Zfr [([0, 4, 7, 1, 5, 8, 2], some (3, [4, 5, 7, 8])), ([], some (6, [7, 8])), ([], some (9, [])), ([10], none)] (by kernel_rfl) (by kernel_rfl) ?_
 obtain ⟨w1, w2, w3, w5, w6, w7, w8, w9, w10, w11, w12, w13, w14, l1, l2, l3, l4⟩ := hw
 have hl4 := Z9 x.chs; have hl2 := Z_ x.ents; have hl1 := Zf x.bytes; have hl3 := Zh x.keys
 refine Zfp 7 [.int .i64 x.err, .int .u64 x.handle, .int .i64 x.value] rfl (by exact ⟨Z.ld 0 rfl rfl, Z.ld 0 rfl rfl, Z.ld 0 rfl rfl⟩) ?_
 refine Zf6 8 (.int .u64 (x.err % 18446744073709551616)) (congrArg (Value.int .u64) (by rfl)) ?_
 refine WQ.dn Z (fun w Z => ?_)
 replace Z := Z.nilS 5 1
 replace Z := Z.n6 L (a0 := Sh 5 1 (Za []) none 0) (a1 := Zd b1 #[.int .i64 x.err, .int .u64 x.handle, .int .i64 x.value, .bool x.found, .int .i64 x.n, .int .i64 x.ekey, .int .i64 x.eval, .int .i64 x.count, .int .i64 x.sum, .int .i64 x.mn, .int .i64 x.mx, .slice ae (Zo x.ents).length ce, .slice ac (Zn x.chs).length cc, .slice ak (Zb x.keys).length ck, .slice ab (Za x.bytes).length cb] 35) rfl
 refine Zfb rfl rfl (Xh [] _ _ (x.err % 18446744073709551616) (by first | omega | (simp <;> omega)) (by omega) Z) rfl ?_
 generalize hY1 : [] ++ eU (x.err % 18446744073709551616) = Y1
 clear Z; rintro _ w ⟨a1, c1, rfl, Z⟩
 have hY1f0 : (List.length Y1) ≤ 0 + 10 := by rw [← hY1, List.length_append]; exact Nat.add_le_add_left (ZO (by omega)) _
 replace Z := Z.n6 L (a0 := Ze 5 1 (Za Y1) a1 c1) rfl
 refine Ze8 ?_
 refine ⟨by exact ⟨Zff rfl rfl rfl rfl, Zfq rfl rfl rfl rfl (Z.ld 1 rfl rfl), Zff rfl rfl rfl rfl, Zfq rfl rfl rfl rfl (Z.ld 1 rfl rfl)⟩, ?_⟩
 refine WQ.dn Z (fun w Z => ?_)
 replace Z := (Z.at_ 0 rfl).share
 replace Z := Z.n6 L (a0 := Sh 5 1 (Za Y1) a1 c1) rfl
 refine Zfb rfl rfl (Xh _ _ _ x.handle (by first | omega | (simp <;> omega)) (by omega) Z) rfl ?_
 generalize hY2 : Y1 ++ eU x.handle = Y2
 clear Z; rintro _ w ⟨a2, c2, rfl, Z⟩
 have hY2f0 : (List.length Y2) ≤ (List.length Y1) + 10 := by rw [← hY2, List.length_append]; exact Nat.add_le_add_left (ZO (by omega)) _
 replace Z := Z.n6 L (a0 := Ze 5 1 (Za Y2) a2 c2) rfl
 refine Ze8 ?_
 refine ⟨by exact ⟨Zff rfl rfl rfl rfl, Zfq rfl rfl rfl rfl (Z.ld 1 rfl rfl)⟩, ?_⟩
 refine WQ.dn Z (fun w Z => ?_)
 replace Z := (Z.at_ 0 rfl).share
 replace Z := Z.n6 L (a0 := Sh 5 1 (Za Y2) a2 c2) rfl
 refine Zfb rfl rfl (Z2 _ _ _ x.value (by first | omega | (simp <;> omega)) (by assumption) Z) rfl ?_
 generalize hY3 : Y2 ++ eZ x.value = Y3
 clear Z; rintro _ w ⟨a3, c3, rfl, Z⟩
 have hY3f0 : (List.length Y3) ≤ (List.length Y2) + 10 := by rw [← hY3, List.length_append]; exact Nat.add_le_add_left (Zl (by assumption)) _
 replace Z := Z.n6 L (a0 := Ze 5 1 (Za Y3) a3 c3) rfl
 refine Ze8 ?_
 refine ⟨by exact trivial, ?_⟩
 refine Zfg 1 rfl <| Zfo ?_
 refine Z.dn (fun w Z => ?_)
 as_aux_lemma =>
 refine Ze7 <| Zfr [([0, 1, 4, 2, 5], some (3, [4, 5])), ([], some (6, [])), ([7], none)] (by kernel_rfl) (by kernel_rfl) ?_
 refine Zfp 5 [.bool x.found, .int .i64 x.n] rfl (by exact ⟨Z.ld 1 rfl rfl, Z.ld 1 rfl rfl⟩) ?_
 refine WQ.dn Z (fun w Z => ?_)
 refine Zfb rfl rfl (Hu _ _ _ x.found (by first | omega | (simp <;> omega)) Z) rfl ?_
 generalize hY4 : Y3 ++ eF x.found = Y4
 clear Z; rintro _ w ⟨a4, c4, rfl, Z⟩
 have hY4f0 : (List.length Y4) = (List.length Y3) + 1 := by rw [← hY4]; simp [eF]
 replace Z := Z.n6 L (a0 := Ze 5 1 (Za Y4) a4 c4) rfl
 refine Ze8 ?_
 refine ⟨by exact ⟨Zff rfl rfl rfl rfl, Zfq rfl rfl rfl rfl (Z.ld 1 rfl rfl)⟩, ?_⟩
 refine WQ.dn Z (fun w Z => ?_)
 replace Z := (Z.at_ 0 rfl).share
 replace Z := Z.n6 L (a0 := Sh 5 1 (Za Y4) a4 c4) rfl
 refine Zfb rfl rfl (Z2 _ _ _ x.n (by first | omega | (simp <;> omega)) (by assumption) Z) rfl ?_
 generalize hY5 : Y4 ++ eZ x.n = Y5
 clear Z; rintro _ w ⟨a5, c5, rfl, Z⟩
 have hY5f0 : (List.length Y5) ≤ (List.length Y4) + 10 := by rw [← hY5, List.length_append]; exact Nat.add_le_add_left (Zl (by assumption)) _
 replace Z := Z.n6 L (a0 := Ze 5 1 (Za Y5) a5 c5) rfl
 refine Ze8 ?_
 refine ⟨by exact trivial, ?_⟩
 refine Zfg 1 rfl <| Zfo ?_
 refine Z.dn (fun w Z => ?_)
 refine Ze7 <| Zfr [([0, 1, 5, 2, 6, 3, 7], some (4, [5, 6, 7])), ([], some (8, [])), ([9], none)] (by kernel_rfl) (by kernel_rfl) ?_
 refine Zfp 7 [.int .i64 x.ekey, .int .i64 x.eval] rfl (by exact ⟨Z.ld 1 rfl rfl, Z.ld 1 rfl rfl⟩) ?_
 refine WQ.dn Z (fun w Z => ?_)
 replace Z := (Z.at_ 0 rfl).share
 replace Z := Z.n6 L (a0 := Sh 5 1 (Za Y5) a5 c5) rfl
 refine Zfb rfl rfl (Z2 _ _ _ x.ekey (by first | omega | (simp <;> omega)) (by assumption) Z) rfl ?_
 generalize hY6 : Y5 ++ eZ x.ekey = Y6
 clear Z; rintro _ w ⟨a6, c6, rfl, Z⟩
 have hY6f0 : (List.length Y6) ≤ (List.length Y5) + 10 := by rw [← hY6, List.length_append]; exact Nat.add_le_add_left (Zl (by assumption)) _
 replace Z := Z.n6 L (a0 := Ze 5 1 (Za Y6) a6 c6) rfl
 refine Ze8 ?_
 refine ⟨by exact ⟨Zff rfl rfl rfl rfl, Zff rfl rfl rfl rfl, Zfq rfl rfl rfl rfl (Z.ld 1 rfl rfl)⟩, ?_⟩
 refine WQ.dn Z (fun w Z => ?_)
 replace Z := (Z.at_ 0 rfl).share
 replace Z := Z.n6 L (a0 := Sh 5 1 (Za Y6) a6 c6) rfl
 refine Zfb rfl rfl (Z2 _ _ _ x.eval (by first | omega | (simp <;> omega)) (by assumption) Z) rfl ?_
 generalize hY7 : Y6 ++ eZ x.eval = Y7
 clear Z; rintro _ w ⟨a7, c7, rfl, Z⟩
 have hY7f0 : (List.length Y7) ≤ (List.length Y6) + 10 := by rw [← hY7, List.length_append]; exact Nat.add_le_add_left (Zl (by assumption)) _
 replace Z := Z.n6 L (a0 := Ze 5 1 (Za Y7) a7 c7) rfl
 refine Ze8 ?_
 refine ⟨by exact trivial, ?_⟩
 refine Zfg 1 rfl <| Zfo ?_
 refine Z.dn (fun w Z => ?_)
 as_aux_lemma =>
 refine Ze7 <| WC.region <| Ze6 1 rfl <| Zf9 rfl rfl [.int .i64 x.count, .int .i64 x.sum, .int .i64 x.mn, .int .i64 x.mx] Dk rfl (Z.part 1 rfl rfl) <| Zf5 rfl rfl zv_29 Z (fun b2 w Z => ?_)
 refine Zfu rfl rfl rfl 0 Z rfl rfl rfl rfl rfl Dk (fun w Z => ?_)
 replace Z := Z.n7 L (a0 := Zd b2 #[.int .i64 x.count, .int .i64 x.sum, .int .i64 x.mn, .int .i64 x.mx] 29) rfl
 refine Ze8 <| Ze7 <| Zfr [([0, 1, 4, 7, 10, 2, 5, 8, 11], some (3, [4, 5, 7, 8, 10, 11])), ([], some (6, [7, 8, 10, 11])), ([], some (9, [10, 11])), ([], some (12, [])), ([13], none)] (by kernel_rfl) (by kernel_rfl) ?_
 refine Zfp 9 [.int .i64 x.count, .int .i64 x.sum, .int .i64 x.mn, .int .i64 x.mx] rfl (by exact ⟨Z.ld 0 rfl rfl, Z.ld 0 rfl rfl, Z.ld 0 rfl rfl, Z.ld 0 rfl rfl⟩) ?_
 refine WQ.dn Z (fun w Z => ?_)
 replace Z := (Z.at_ 1 rfl).share
 replace Z := Z.n7 L (a0 := Sh 5 1 (Za Y7) a7 c7) rfl
 refine Zfb rfl rfl (Z2 _ _ _ x.count (by first | omega | (simp <;> omega)) (by assumption) Z) rfl ?_
 generalize hY8 : Y7 ++ eZ x.count = Y8
 clear Z; rintro _ w ⟨a8, c8, rfl, Z⟩
 have hY8f0 : (List.length Y8) ≤ (List.length Y7) + 10 := by rw [← hY8, List.length_append]; exact Nat.add_le_add_left (Zl (by assumption)) _
 replace Z := Z.n7 L (a0 := Ze 5 1 (Za Y8) a8 c8) rfl
 refine Ze8 ?_
 refine ⟨by exact ⟨Zff rfl rfl rfl rfl, Zfq rfl rfl rfl rfl (Z.ld 1 rfl rfl), Zff rfl rfl rfl rfl, Zfq rfl rfl rfl rfl (Z.ld 1 rfl rfl), Zff rfl rfl rfl rfl, Zfq rfl rfl rfl rfl (Z.ld 1 rfl rfl)⟩, ?_⟩
 refine WQ.dn Z (fun w Z => ?_)
 replace Z := (Z.at_ 0 rfl).share
 replace Z := Z.n7 L (a0 := Sh 5 1 (Za Y8) a8 c8) rfl
 refine Zfb rfl rfl (Z2 _ _ _ x.sum (by first | omega | (simp <;> omega)) (by assumption) Z) rfl ?_
 generalize hY9 : Y8 ++ eZ x.sum = Y9
 clear Z; rintro _ w ⟨a9, c9, rfl, Z⟩
 have hY9f0 : (List.length Y9) ≤ (List.length Y8) + 10 := by rw [← hY9, List.length_append]; exact Nat.add_le_add_left (Zl (by assumption)) _
 replace Z := Z.n7 L (a0 := Ze 5 1 (Za Y9) a9 c9) rfl
 refine Ze8 ?_
 refine ⟨by exact ⟨Zff rfl rfl rfl rfl, Zfq rfl rfl rfl rfl (Z.ld 1 rfl rfl), Zff rfl rfl rfl rfl, Zfq rfl rfl rfl rfl (Z.ld 1 rfl rfl)⟩, ?_⟩
 refine WQ.dn Z (fun w Z => ?_)
 replace Z := (Z.at_ 0 rfl).share
 replace Z := Z.n7 L (a0 := Sh 5 1 (Za Y9) a9 c9) rfl
 refine Zfb rfl rfl (Z2 _ _ _ x.mn (by first | omega | (simp <;> omega)) (by assumption) Z) rfl ?_
 generalize hY10 : Y9 ++ eZ x.mn = Y10
 clear Z; rintro _ w ⟨a10, c10, rfl, Z⟩
 have hY10f0 : (List.length Y10) ≤ (List.length Y9) + 10 := by rw [← hY10, List.length_append]; exact Nat.add_le_add_left (Zl (by assumption)) _
 replace Z := Z.n7 L (a0 := Ze 5 1 (Za Y10) a10 c10) rfl
 refine Ze8 ?_
 refine ⟨by exact ⟨Zff rfl rfl rfl rfl, Zfq rfl rfl rfl rfl (Z.ld 1 rfl rfl)⟩, ?_⟩
 refine WQ.dn Z (fun w Z => ?_)
 replace Z := (Z.at_ 0 rfl).share
 replace Z := Z.n7 L (a0 := Sh 5 1 (Za Y10) a10 c10) rfl
 refine Zfb rfl rfl (Z2 _ _ _ x.mx (by first | omega | (simp <;> omega)) (by assumption) Z) rfl ?_
 generalize hY11 : Y10 ++ eZ x.mx = Y11
 clear Z; rintro _ w ⟨a11, c11, rfl, Z⟩
 have hY11f0 : (List.length Y11) ≤ (List.length Y10) + 10 := by rw [← hY11, List.length_append]; exact Nat.add_le_add_left (Zl (by assumption)) _
 replace Z := Z.n7 L (a0 := Ze 5 1 (Za Y11) a11 c11) rfl
 refine Ze8 ?_
 refine ⟨by exact trivial, ?_⟩
 refine Zfg 1 rfl <| Zfo ?_
 refine Z.dn (fun w Z => ?_)
 as_aux_lemma =>
 refine Ze7 <| Zfr [([0, 1, 4, 2, 5], some (3, [4, 5])), ([], some (6, [])), ([7], none)] (by kernel_rfl) (by kernel_rfl) ?_
 refine Zfp 5 [.slice ae (Zo x.ents).length ce, .slice ac (Zn x.chs).length cc] rfl (by exact ⟨Z.ld 2 rfl rfl, Z.ld 2 rfl rfl⟩) ?_
 refine WQ.dn Z (fun w Z => ?_)
 replace Z := (Z.at_ 0 rfl).share
 replace Z := Z.n7 L (a0 := Sh 5 1 (Za Y11) a11 c11) rfl
 refine Zfb rfl rfl (Qh _ _ _ x.ents _ _ (by first | omega | (simp <;> omega)) (by omega) (by first | omega | (simp <;> omega)) (by assumption) (Z.sel 5 [0, 3, 0, 0, 0] rfl)) rfl ?_
 generalize hY12 : Y11 ++ YF x.ents = Y12
 clear Z; rintro _ w ⟨a12, c12, rfl, Z⟩
 have hY12f0 : (List.length Y12) ≤ (List.length Y11) + (10 + 20 * (List.length x.ents)) := by rw [← hY12, List.length_append]; exact Nat.add_le_add_left (Jd (by assumption) (by omega)) _
 replace Z := Z.n7 L (a0 := Ze 5 1 (Za Y12) a12 c12) rfl
 refine Ze8 ?_
 refine ⟨by exact ⟨Zff rfl rfl rfl rfl, Zfq rfl rfl rfl rfl (Z.ld 3 rfl rfl)⟩, ?_⟩
 refine WQ.dn Z (fun w Z => ?_)
 replace Z := (Z.at_ 0 rfl).share
 replace Z := Z.n7 L (a0 := Sh 5 1 (Za Y12) a12 c12) rfl
 refine Zfb rfl rfl (Qp _ _ _ x.chs _ _ (by first | omega | (simp <;> omega)) (by omega) (by first | omega | (simp <;> omega)) (by assumption) (Z.sel 6 [0, 4, 0, 0, 0, 0] rfl)) rfl ?_
 generalize hY13 : Y12 ++ XO x.chs = Y13
 clear Z; rintro _ w ⟨a13, c13, rfl, Z⟩
 have hY13f0 : (List.length Y13) ≤ (List.length Y12) + (10 + 31 * (List.length x.chs)) := by rw [← hY13, List.length_append]; exact Nat.add_le_add_left (JY (by assumption) (by omega)) _
 replace Z := Z.n7 L (a0 := Ze 5 1 (Za Y13) a13 c13) rfl
 refine Ze8 ?_
 refine ⟨by exact trivial, ?_⟩
 refine Zfg 1 rfl <| Zfo ?_
 refine Z.dn (fun w Z => ?_)
 as_aux_lemma =>
 refine Ze7 <| WC.region <| Zfd 5 [.slice ak (Zb x.keys).length ck] rfl (by exact Z.ld 4 rfl rfl) ?_
 refine Zfi 58 rfl (Ye (by omega)) ?_
 replace Z := (Z.at_ 0 rfl).share
 replace Z := Z.n7 L (a0 := Sh 5 1 (Za Y13) a13 c13) rfl
 refine Zfb rfl rfl (Xh _ _ _ (List.length (Zb x.keys) : Int) (by first | omega | (simp <;> omega)) (by omega) Z) rfl ?_
 generalize hY14 : Y13 ++ eU (List.length (Zb x.keys) : Int) = Y14
 clear Z; rintro _ w ⟨a14, c14, rfl, Z⟩
 have hY14f0 : (List.length Y14) ≤ (List.length Y13) + 10 := by rw [← hY14, List.length_append]; exact Nat.add_le_add_left (ZO (by omega)) _
 replace Z := Z.n7 L (a0 := Ze 5 1 (Za Y14) a14 c14) rfl
 refine Ze6 1 rfl <| Ze8 <| Ze7 <| Ze7 <| WC.region <| Ze6 1 rfl <| Ze8 <| Zfj <| Zft [1, 2, 3, 5] (fun kM vs w => ∃ (k : Nat) (ys : List Int) (a3 : Option Addr) (c3 : Nat), vs = [.pointer (some ⟨b1, 0, none⟩), .slice none 0 0, .slice a3 (Za ys).length c3, .int .i64 (k : Int)] ∧ St g (Ze 5 1 (Za ys) a3 c3 :: Sh 88 4 (Zn x.chs) ac cc :: Sh 27 2 (Zo x.ents) ae ce :: Zd b2 #[.int .i64 x.count, .int .i64 x.sum, .int .i64 x.mn, .int .i64 x.mx] 29 :: Zd b1 #[.int .i64 x.err, .int .u64 x.handle, .int .i64 x.value, .bool x.found, .int .i64 x.n, .int .i64 x.ekey, .int .i64 x.eval, .int .i64 x.count, .int .i64 x.sum, .int .i64 x.mn, .int .i64 x.mx, .slice ae (Zo x.ents).length ce, .slice ac (Zn x.chs).length cc, .slice ak (Zb x.keys).length ck, .slice ab (Za x.bytes).length cb] 35 :: Sh 5 1 (Za x.bytes) ab cb :: Sh 2 1 (Zb x.keys) ak ck :: L) w ∧ (k ≤ x.keys.length) ∧ (ys = Y14 ++ (x.keys.take k).flatMap eZ) ∧ (ys.length ≤ Y14.length + 10 * k) ∧ (x.keys.length - k) = kM) ((List.length x.keys) - 0) ⟨0, Y14, _, _, rfl, Z, (Nat.zero_le _), (by simp), (by omega), rfl⟩ ?_
 clear Z; rintro _ _ w j ⟨k, ys, a3, c3, rfl, Z, hk, hys, hyl, rfl⟩
 refine Ze7 <| Ze7 <| WC.region <| Zfd 5 [.slice ak (Zb x.keys).length ck] rfl (by exact Z.ld 4 rfl rfl) ?_
 refine Ze8 ?_
 as_aux_lemma =>
 refine Zfe rfl (fun cd1 => ?_) (fun cd1 => ?_)
 ·refine Zfc <| Ze7 <| Zfj <| WC.region <| Zfd 4 [.slice ak (Zb x.keys).length ck] rfl (by exact Z.ld 4 rfl rfl) ?_
  obtain ⟨z, hx2⟩ : ∃ z, x.keys[k]? = some z := ⟨_, List.getElem?_eq_getElem (by omega)⟩; have hz := w14 z (List.mem_of_getElem? hx2)
  refine Zfw rfl rfl (i := (k : Int)) (k) el_32 rfl rfl (by omega) (Zt (Zg hx2)) (Z.rdS 6 rfl (Zg hx2)).1 ?_
  refine Zfd 1 [.int .i64 z] rfl (by exact (Z.rdS 6 rfl (Zg hx2)).2 0 _ rfl) ?_
  replace Z := (Z.at_ 0 rfl).share
  replace Z := Z.n7 L (a0 := Sh 5 1 (Za ys) a3 c3) rfl
  refine Zfb rfl rfl (Z2 _ _ _ z (by first | omega | (simp <;> omega)) (by assumption) Z) rfl ?_
  generalize hY15 : ys ++ eZ z = Y15
  clear Z; rintro _ w ⟨a15, c15, rfl, Z⟩
  have hY15f0 : (List.length Y15) ≤ (List.length ys) + 10 := by rw [← hY15, List.length_append]; exact Nat.add_le_add_left (Zl (by assumption)) _
  replace Z := Z.n7 L (a0 := Ze 5 1 (Za Y15) a15 c15) rfl
  refine Ze6 1 rfl <| Ze8 <| WC.region <| Ze6 2 rfl <| Zfi 66 rfl (ZF (by omega)) ?_
  refine Ze6 1 rfl <| Ze8 ?_
  exact ⟨_, by omega, k + 1, Y15, _, _, rfl, Z, (by omega), (by rw [Xd eZ hx2, ← hY15, hys]; simp only [List.append_assoc]), (by omega), rfl⟩
 ·refine Zfv <| Ze7 <| WC.region <| Zfd 3 [.slice ab (Za x.bytes).length cb] rfl (by exact Z.ld 4 rfl rfl) ?_
  replace Z := (Z.at_ 0 rfl).share
  replace Z := Z.n7 L (a0 := Sh 5 1 (Za ys) a3 c3) rfl
  refine Zfb rfl rfl (U2 _ _ _ x.bytes _ _ (by first | omega | (simp <;> omega)) (by omega) (Z.sel 6 [0, 4, 0, 0, 0, 0] rfl)) rfl ?_
  generalize hY15 : ys ++ Yp x.bytes = Y15
  clear Z; rintro _ w ⟨a15, c15, rfl, Z⟩
  have hY15f0 : (List.length Y15) ≤ (List.length ys) + (10 + (List.length x.bytes)) := by rw [← hY15, List.length_append]; exact Nat.add_le_add_left (XQ (by omega)) _
  replace Z := Z.n7 L (a0 := Ze 5 1 (Za Y15) a15 c15) rfl
  refine Ze6 1 rfl <| Ze8 <| Zfa ?_
  refine ⟨[.slice a15 (Za Y15).length c15], rfl, ?_⟩
  replace Z := (Z.sel 6 [0, 0, 1, 0] rfl)
  have hy : Y15 = YJ x := by
   rw [← hY15, hys, XP eZ (by omega), ← hY14, ← hY13, ← hY12, ← hY11, ← hY10, ← hY9, ← hY8, ← hY7, ← hY6, ← hY5, ← hY4, ← hY3, ← hY2, ← hY1, YJ]; simp only [List.nil_append, List.append_assoc, Zh]
  rw [← hy]; exact ⟨_, _, rfl, Z⟩
end Go.Proofs.YtlifpobidhfbfaaGreatDoor
namespace Go.Proofs.YtlifpobidhfbfaaGreatDoor
open Go Go.V Go.RowKit
variable {g w : World} {L : List HP}
theorem Ze1 (zs : List AnS) (a : Option Addr) (c : Nat) (hw : ∀ z ∈ zs, AnW z.x) (hl : zs.length ≤ 20) (Z : St g (Sh 35 15 (Z5 zs) a c :: ZP anF zs :: L) w) :
  Sp Tryz.prog 9 [.slice a (Z5 zs).length c] w (fun v w' => ∃ (a2 : Option Addr) (c2 : Nat), v = .slice a2 (List.length (Za (Zz (zs.map AnS.x)))) c2 ∧ St g (Ze 5 1 (Za (Zz (zs.map AnS.x))) a2 c2 :: Sh 35 15 (Z5 zs) a c :: ZP anF zs :: L) w') := by
 refine Sp.enter Tryz.func9 rfl (by kernel_rfl) (by kernel_rfl) ?_
 refine Ze7 <| WC.region <| Ze6 1 rfl <| Ze8 <| Ze7 <| WC.region ?_
 have hzl := Yg zs
 refine Ze6 1 rfl <| Ze8 <| Ze7 <| Ze7 <| WC.region <| Ze6 1 rfl <| Ze8 <| Zfj ?_
 replace Z := Z.nil_ 5 1
 refine Zft [0, 2, 3, 4] (fun kM vs w => ∃ (k : Nat) (acc : List Int) (u : Option Addr) (d : Nat), vs = [.slice a (Z5 zs).length c, .slice none 0 0, .slice u (Za acc).length d, .int .i64 (k : Int)] ∧ St g (Ze 5 1 (Za acc) u d :: Sh 35 15 (Z5 zs) a c :: ZP anF zs :: L) w ∧ (k ≤ zs.length) ∧ (acc = Zz ((zs.map AnS.x).take k)) ∧ (acc.length ≤ 10000 * k) ∧ (zs.length - k) = kM) ((List.length zs) - 0) ⟨0, [], none, 0, rfl, Z, (Nat.zero_le _), (rfl), (Nat.zero_le _), rfl⟩ ?_
 clear Z; rintro _ _ w j ⟨k, acc, u, d, rfl, Z, hk, ha, hal, rfl⟩
 refine Ze7 <| Ze7 <| WC.region <| Ze6 4 rfl <| Ze8 <| Zfe rfl (fun cd1 => ?_) (fun cd1 => ?_)
 ·refine Zfc ?_
  as_aux_lemma =>
  refine Ze7 <| Zfj <| WC.region ?_
  obtain ⟨z, hz⟩ : ∃ z, zs[k]? = some z := ⟨_, List.getElem?_eq_getElem (by omega)⟩; have hzw := hw z (List.mem_of_getElem? hz); have hze := Xu hzw; have hob := Zf acc; have hzm : (zs.map AnS.x)[k]? = some z.x := (by rw [List.getElem?_map, hz]; rfl)
  replace Z : St g (Sh 5 1 (Za z.x.bytes) z.ab z.cb :: Sh 27 2 (Zo z.x.ents) z.ae z.ce :: Sh 88 4 (Zn z.x.chs) z.ac z.cc :: Sh 2 1 (Zb z.x.keys) z.ak z.ck :: Ze 5 1 (Za acc) u d :: Sh 35 15 (Z5 zs) a c :: ZP anF zs :: L) w := Z.shsGet 2 rfl (List.mem_of_getElem? hz)
  refine Ze6 3 rfl <| Zfw rfl rfl (i := (k : Int)) (k) el_22 rfl rfl (by omega) (by omega) (Z.rdS 5 rfl (Z6 hz)).1 ?_
  refine Zf9 rfl rfl [.int .i64 z.x.err, .int .u64 z.x.handle, .int .i64 z.x.value, .bool z.x.found, .int .i64 z.x.n, .int .i64 z.x.ekey, .int .i64 z.x.eval, .int .i64 z.x.count, .int .i64 z.x.sum, .int .i64 z.x.mn, .int .i64 z.x.mx, .slice z.ae (Zo z.x.ents).length z.ce, .slice z.ac (Zn z.x.chs).length z.cc, .slice z.ak (Zb z.x.keys).length z.ck, .slice z.ab (Za z.x.bytes).length z.cb] ZK rfl (Z.rdS 5 rfl (Z6 hz)).2 <| Zfb rfl rfl (X1 z.x z.ab z.ae z.ac z.ak z.cb z.ce z.cc z.ck hzw Z) rfl ?_
  clear Z; rintro _ w ⟨a1, c1, rfl, Z⟩
  replace Z := Z.n8 L rfl
  replace Z := (Z.at_ 5 rfl).share
  replace Z := Z.n8 L (a0 := Sh 5 1 (Za acc) u d) rfl
  replace Z := (Z.at_ 1 rfl).share
  replace Z := Z.n8 L (a0 := Sh 5 1 (Za (YJ z.x)) a1 c1) rfl
  refine Zfb rfl rfl (C6 _ (YJ z.x) _ _ _ _ (by omega) (Z.sel 2 [1, 0] rfl)) rfl ?_
  clear Z; rintro _ w ⟨a2, c2, rfl, Z⟩
  replace Z := Z.n9 L rfl
  refine Ze6 1 rfl <| Ze8 <| WC.region <| Ze6 2 rfl <| Zfi 10 rfl (ZF (by omega)) ?_
  refine Ze6 1 rfl <| Ze8 ?_
  exact ⟨_, by omega, k + 1, acc ++ YJ z.x, _, _, rfl, (Z.sel 7 [0] rfl), (by omega), (by rw [Xp hzm, ha]), (by rw [List.length_append]; omega), rfl⟩
 ·refine Zfv ?_
  as_aux_lemma =>
  refine Ze7 <| WC.region <| Ze6 2 rfl <| Ze8 <| Zfa ?_
  refine ⟨[.slice u (Za acc).length d], rfl, ?_⟩
  have e9 : acc = Zz (zs.map AnS.x) := (by rw [ha, Q_ (by rw [List.length_map]; omega)]); rw [e9] at Z ⊢; exact ⟨_, _, rfl, Z⟩
theorem bad_k {xs : List AnM} {bs : List Int} {k : Nat} {at_ : Int} (hrd : ∀ (k : Nat) (x : AnM), xs[k]? = some x → ZH bs ((Zz (xs.take k)).length : Int) = (x, ((Zz (xs.take (k + 1))).length : Int), 0) ∧ (Zz (xs.take k)).length < bs.length) (hbad : ZH bs ((Zz xs).length : Int) = (VA, 0, 12)) (hk : k ≤ xs.length) (hat : at_ = ((Zz (xs.take k)).length : Int)) : (k = xs.length ∧ ZH bs at_ = (VA, 0, 12)) ∨ ∃ x, xs[k]? = some x ∧ ZH bs at_ = (x, ((Zz (xs.take (k + 1))).length : Int), 0) := by
 by_cases h : k < xs.length
 ·obtain ⟨x, hx⟩ : ∃ x, xs[k]? = some x := ⟨_, List.getElem?_eq_getElem h⟩
  exact .inr ⟨x, hx, by rw [hat]; exact (hrd k x hx).1⟩
 ·have e : k = xs.length := by omega
  refine .inl ⟨e, ?_⟩
  rw [hat, e, List.take_length]; exact hbad
theorem Zbj (xs : List AnM) (bs : List Int) (a : Option Addr) (c : Nat) (hl : bs.length ≤ 1000000) (hxl : xs.length ≤ 1000000) (hb : B8 bs) (hrd : ∀ (k : Nat) (x : AnM), xs[k]? = some x → ZH bs ((Zz (xs.take k)).length : Int) = (x, ((Zz (xs.take (k + 1))).length : Int), 0) ∧ (Zz (xs.take k)).length < bs.length) (hbad : ZH bs ((Zz xs).length : Int) = (VA, 0, 12) ∧ (Zz xs).length < bs.length) (Z : St g (Sh 5 1 (Za bs) a c :: L) w) :
  Sp Tryz.prog 7 [.slice a (Za bs).length c] w (fun v w' => v = .tuple #[.slice none 0 0, .int .i64 12] ∧ St g (Sh 5 1 (Za bs) a c :: L) w') := by
 refine Sp.enter Tryz.func7 rfl (by kernel_rfl) (by kernel_rfl) ?_
 refine Ze7 <| WC.region <| Ze6 2 rfl <| Ze8 <| Ze7 <| WC.region ?_
 replace Z : St g (ZP anF [] :: Sh 5 1 (Za bs) a c :: L) w := Z.shsNil anF
 refine Ze6 1 rfl <| Ze8 <| Ze7 <| Ze7 <| WC.region ?_
 have hbl := Zf bs
 refine Ze6 1 rfl <| Ze8 <| Zfj ?_
 replace Z := Z.nil_ 35 15
 refine Zft [0, 4, 5] (fun kM vs w => ∃ (k : Nat) (at_ : Int) (ms : List AnS) (acc : List (List Value)) (u : Option Addr) (d : Nat), vs = [.slice a (Za bs).length c, .slice u (List.length acc) d, .int .i64 at_] ∧ St g (Ze 35 15 acc u d :: ZP anF ms :: Sh 5 1 (Za bs) a c :: L) w ∧ (k ≤ xs.length) ∧ (at_ = ((Zz (xs.take k)).length : Int)) ∧ (acc = Z5 ms) ∧ (ms.map AnS.x = xs.take k) ∧ (xs.length - k) = kM) ((List.length xs) - 0) ⟨0, 0, [], [], none, 0, rfl, Z, (Nat.zero_le _), (rfl), (rfl), (rfl), rfl⟩ ?_
 clear Z; rintro _ _ w j ⟨k, at_, ms, acc, u, d, rfl, Z, hk, hat, hac, hms, rfl⟩
 refine Ze7 <| Ze7 <| WC.region ?_
 have hbl := Zf bs
 refine Ze6 4 rfl <| Ze8 ?_
 as_aux_lemma =>
 refine Zfe rfl (fun cd1 => ?_) (fun cd1 => ?_)
 ·refine Zfc <| Zfj <| Ze7 <| WC.region ?_
  have hbk := bad_k hrd hbad.1 hk hat; have hmk : ms.length = k := (by have := congrArg List.length hms; rw [List.length_map, List.length_take] at this; omega); have hml : acc.length = k := (by rw [hac, Yg]; exact hmk)
  refine Ze6 2 rfl <| Zfb rfl rfl (Xj _ _ _ at_ (by omega) hb (Z.sel 3 [2, 0, 0] rfl)) rfl ?_
  generalize hN1 : ZH bs at_ = N1
  clear Z; rintro _ w ⟨ab1, ae1, ac1, ak1, cb1, ce1, cc1, ck1, rfl, Z⟩
  replace Z := Z.n7 L (a1 := Ze 5 1 (Za N1.1.bytes) ab1 cb1) (a2 := Ze 27 2 (Zo N1.1.ents) ae1 ce1) (a3 := Ze 88 4 (Zn N1.1.chs) ac1 cc1) (a4 := Ze 2 1 (Zb N1.1.keys) ak1 ck1) rfl
  refine Ze6 4 rfl <| Zf5 rfl rfl Xk Z (fun b1 w Z => ?_)
  refine Zfu rfl rfl rfl 0 Z rfl rfl rfl rfl rfl ZK (fun w Z => ?_)
  replace Z := Z.n8 L (a0 := Zd b1 #[.int .i64 N1.1.err, .int .u64 N1.1.handle, .int .i64 N1.1.value, .bool N1.1.found, .int .i64 N1.1.n, .int .i64 N1.1.ekey, .int .i64 N1.1.eval, .int .i64 N1.1.count, .int .i64 N1.1.sum, .int .i64 N1.1.mn, .int .i64 N1.1.mx, .slice ae1 (Zo N1.1.ents).length ce1, .slice ac1 (Zn N1.1.chs).length cc1, .slice ak1 (Zb N1.1.keys).length ck1, .slice ab1 (Za N1.1.bytes).length cb1] 35) rfl
  refine Ze6 2 rfl <| Ze8 <| Ze7 <| Ze7 <| WC.region ?_
  rw [hN1] at hbk
  refine Ze6 2 rfl <| Ze8 <| Zfe rfl (fun herr => ?_) (fun herr => ?_)
  ·refine Ze7 <| WC.region <| Ze6 3 rfl <| Ze8 ?_
   as_aux_lemma =>
   refine Zfa ?_
   refine ⟨[.slice none 0 0, .int .i64 N1.2.2], ⟨rfl, rfl⟩, ?_⟩
   replace Z := (Z.sel 8 [1] rfl)
   have e9 : N1.2.2 = 12 := hbk.elim (fun h => by rw [h.2]) (fun ⟨x, _, h⟩ => absurd (by rw [h]) herr); exact ⟨by rw [e9]; rfl, Z⟩
  ·refine Zfc ?_
   as_aux_lemma =>
   refine Ze7 <| WC.region ?_
   obtain ⟨x, hx, hN⟩ := hbk.resolve_left (fun h => herr (by rw [h.2]; decide)); have hkl := (List.getElem?_eq_some_iff.1 hx).1
   replace Z := (Z.at_ 5 rfl).share
   replace Z := Z.n8 L (a0 := Sh 2 1 (Zb N1.1.keys) ak1 ck1) rfl
   replace Z := (Z.at_ 5 rfl).share
   replace Z := Z.n8 L (a0 := Sh 88 4 (Zn N1.1.chs) ac1 cc1) rfl
   replace Z := (Z.at_ 5 rfl).share
   replace Z := Z.n8 L (a0 := Sh 27 2 (Zo N1.1.ents) ae1 ce1) rfl
   replace Z := (Z.at_ 5 rfl).share
   replace Z := Z.n8 L (a0 := Sh 5 1 (Za N1.1.bytes) ab1 cb1) rfl
   replace Z : St g (ZP anF (ms ++ [AnS.mk N1.1 ab1 ae1 ac1 ak1 cb1 ce1 cc1 ck1]) :: Sh 5 1 (Za N1.1.bytes) ab1 cb1 :: Sh 27 2 (Zo N1.1.ents) ae1 ce1 :: Sh 88 4 (Zn N1.1.chs) ac1 cc1 :: Sh 2 1 (Zb N1.1.keys) ak1 ck1 :: Zd b1 #[.int .i64 N1.1.err, .int .u64 N1.1.handle, .int .i64 N1.1.value, .bool N1.1.found, .int .i64 N1.1.n, .int .i64 N1.1.ekey, .int .i64 N1.1.eval, .int .i64 N1.1.count, .int .i64 N1.1.sum, .int .i64 N1.1.mn, .int .i64 N1.1.mx, .slice ae1 (Zo N1.1.ents).length ce1, .slice ac1 (Zn N1.1.chs).length cc1, .slice ak1 (Zb N1.1.keys).length ck1, .slice ab1 (Za N1.1.bytes).length cb1] 35 :: Sh 5 1 (Za bs) a c :: Ze 35 15 acc u d :: ZP anF ms :: L) w := St.shsSub (zs' := ms ++ [AnS.mk N1.1 ab1 ae1 ac1 ak1 cb1 ce1 cc1 ck1]) (St.shsCons (Z.shsDup 7 rfl) (z := AnS.mk N1.1 ab1 ae1 ac1 ak1 cb1 ce1 cc1 ck1) (Ho _) [0, 0, 0, 0] rfl) (fun y hy => H5 y hy)
   refine Ze6 1 rfl <| Zfy rfl rfl 5 Z rfl rfl ZK <| Zf3 rfl rfl ([[.int .i64 N1.1.err, .int .u64 N1.1.handle, .int .i64 N1.1.value, .bool N1.1.found, .int .i64 N1.1.n, .int .i64 N1.1.ekey, .int .i64 N1.1.eval, .int .i64 N1.1.count, .int .i64 N1.1.sum, .int .i64 N1.1.mn, .int .i64 N1.1.mx, .slice ae1 (Zo N1.1.ents).length ce1, .slice ac1 (Zn N1.1.chs).length cc1, .slice ak1 (Zb N1.1.keys).length ck1, .slice ab1 (Za N1.1.bytes).length cb1]]) el_22 Z (by exact ⟨rfl, rfl⟩) (by simp [OkE, Value.oneCell']) rfl (Nat.le_of_ble_eq_true rfl) (fun b2 w Z => ?_)
   refine Zfz rfl rfl 8 (acc ++ [[.int .i64 N1.1.err, .int .u64 N1.1.handle, .int .i64 N1.1.value, .bool N1.1.found, .int .i64 N1.1.n, .int .i64 N1.1.ekey, .int .i64 N1.1.eval, .int .i64 N1.1.count, .int .i64 N1.1.sum, .int .i64 N1.1.mn, .int .i64 N1.1.mx, .slice ae1 (Zo N1.1.ents).length ce1, .slice ac1 (Zn N1.1.chs).length cc1, .slice ak1 (Zb N1.1.keys).length ck1, .slice ab1 (Za N1.1.bytes).length cb1]]) el_22 Z rfl (Z.srcO 0 rfl) rfl (Rm.of (by first | omega | (simp <;> omega)) (by decide)) rfl rfl (fun a1 c1 w Z => ?_)
   replace Z := Z.n10 L (a0 := Ze 35 15 [[.int .i64 N1.1.err, .int .u64 N1.1.handle, .int .i64 N1.1.value, .bool N1.1.found, .int .i64 N1.1.n, .int .i64 N1.1.ekey, .int .i64 N1.1.eval, .int .i64 N1.1.count, .int .i64 N1.1.sum, .int .i64 N1.1.mn, .int .i64 N1.1.mx, .slice ae1 (Zo N1.1.ents).length ce1, .slice ac1 (Zn N1.1.chs).length cc1, .slice ak1 (Zb N1.1.keys).length ck1, .slice ab1 (Za N1.1.bytes).length cb1]] (some ⟨b2, 0, none⟩) 1) (a1 := ZP anF (ms ++ [AnS.mk N1.1 ab1 ae1 ac1 ak1 cb1 ce1 cc1 ck1])) (a8 := Ze 35 15 (acc ++ [[.int .i64 N1.1.err, .int .u64 N1.1.handle, .int .i64 N1.1.value, .bool N1.1.found, .int .i64 N1.1.n, .int .i64 N1.1.ekey, .int .i64 N1.1.eval, .int .i64 N1.1.count, .int .i64 N1.1.sum, .int .i64 N1.1.mn, .int .i64 N1.1.mx, .slice ae1 (Zo N1.1.ents).length ce1, .slice ac1 (Zn N1.1.chs).length cc1, .slice ak1 (Zb N1.1.keys).length ck1, .slice ab1 (Za N1.1.bytes).length cb1]]) a1 c1) rfl
   refine Ze6 1 rfl <| Ze8 <| WC.region <| Ze6 2 rfl <| Ze8 ?_
   exact ⟨_, by omega, k + 1, N1.2.1, ms ++ [AnS.mk N1.1 ab1 ae1 ac1 ak1 cb1 ce1 cc1 ck1], acc ++ [anC (AnS.mk N1.1 ab1 ae1 ac1 ak1 cb1 ce1 cc1 ck1)], _, _, rfl, (Z.sel 10 [8, 1, 6] rfl), (by omega), (by rw [hN]), (by rw [hac, US]), (by rw [List.map_append, hms, List.take_add_one, hx, hN]; rfl), rfl⟩
 ·refine Zfv <| Ze7 <| WC.region <| Ze6 3 rfl <| Ze8 <| Zfa ?_
  refine ⟨[.slice u (List.length acc) d, .int .i64 0], ⟨rfl, rfl⟩, ?_⟩
  replace Z := (Z.sel 2 [] rfl)
  exact absurd (hbad.2) (by by_cases h : k < xs.length; (obtain ⟨x, hx⟩ : ∃ x, xs[k]? = some x := ⟨_, List.getElem?_eq_getElem h⟩; have := (hrd k x hx).2; omega); (rw [show k = xs.length by omega, List.take_length] at hat; omega))
theorem V' {zs : List AnS} : List.replicate zs.length [.int .i64 0, .int .u64 0, .int .i64 0, .bool false, .int .i64 0, .int .i64 0, .int .i64 0, .int .i64 0, .int .i64 0, .int .i64 0, .int .i64 0, .slice none 0 0, .slice none 0 0, .slice none 0 0, .slice none 0 0] = Z5 (Xq zs 0) := by rw [Zd4]; exact V3 _
theorem Qj {zs : List AnS} {k : Nat} {z : AnS} {p : AnS → Prop} (hz : zs[k]? = some z) (h : ∀ x ∈ zs.take k, p x) (hp : p z) : ∀ x ∈ zs.take (k + 1), p x := fun x hx => by
 rw [List.take_add_one, hz] at hx
 rcases List.mem_append.1 hx with h1 | h1
 ·exact h x h1
 ·rw [List.mem_singleton.1 h1]; exact hp
theorem Cy (zs : List AnS) (a : Option Addr) (c : Nat) (cut : Int) (hzs : ∀ z ∈ zs, AnB z) (hzl : zs.length ≤ maxLen) (hcut : -9223372036854775808 ≤ cut ∧ cut ≤ 9223372036854775807) (Z : St g (Sh 35 15 (Z5 zs) a c :: ZP anF zs :: L) w) :
  Sp Tryz.prog 3 [.slice a (Z5 zs).length c, .int .i64 cut] w (fun v w' => v = .bool true ∧ St g (L) w') := by
 refine Sp.enter Tryz.func3 rfl (by kernel_rfl) (by kernel_rfl) ?_
 refine Ze7 <| WC.region <| Ze6 1 rfl <| Ze8 <| Ze7 <| Ze7 <| WC.region ?_
 have hal := Yg zs; have hmx0 : zs.length ≤ 9223372036854775807 := hzl
 refine Ze6 3 rfl <| Ze8 <| Zfe rfl (fun hlen => ?_) (fun hlen => ?_)
 ·refine Ze7 <| WC.region <| Zfb rfl rfl (QP Z) rfl ?_
  clear Z; rintro _ w ⟨rfl, Z⟩
  replace Z := Z.n2 L rfl
  refine Ze6 1 rfl <| Ze8 <| Zfa ?_
  refine ⟨[.bool true], rfl, ?_⟩
  replace Z := (Z.sel 2 [] rfl)
  exact ⟨rfl, Z⟩
 ·refine Zfc <| Ze7 <| WC.region <| Ze6 2 rfl <| Zga rfl rfl (v := (List.length (Z5 zs) : Int)) (v' := (List.length (Z5 zs) : Int)) (zs.length) (zs.length) el_22 Z rfl (by omega) rfl (by omega) (by omega) (Rm.of (by omega) (by decide)) (fun b1 w Z => ?_)
  replace Z := Z.n3 L (a0 := Ze 35 15 (List.replicate (List.length zs) [.int .i64 0, .int .u64 0, .int .i64 0, .bool false, .int .i64 0, .int .i64 0, .int .i64 0, .int .i64 0, .int .i64 0, .int .i64 0, .int .i64 0, .slice none 0 0, .slice none 0 0, .slice none 0 0, .slice none 0 0]) (some ⟨b1, 0, none⟩) (List.length zs)) rfl
  refine Ze6 1 rfl <| Ze8 <| Ze7 <| Ze7 <| WC.region <| Ze6 1 rfl <| Ze8 ?_
  as_aux_lemma =>
  refine Zfj ?_
  rw [V'] at Z
  replace Z := Z.n3 L (a0 := Ze 35 15 (Z5 (Xq zs 0)) (some ⟨b1, 0, none⟩) (List.length zs)) rfl
  refine Zft [0, 1, 5, 6] (fun kM vs w => ∃ (k : Nat), vs = [.slice a (Z5 zs).length c, .int .i64 cut, .slice (some ⟨b1, 0, none⟩) (List.length zs) (List.length zs), .int .i64 (k : Int)] ∧ St g (Ze 35 15 (Z5 (Xq zs k)) (some ⟨b1, 0, none⟩) (List.length zs) :: Sh 35 15 (Z5 zs) a c :: ZP anF zs :: L) w ∧ (k ≤ zs.length) ∧ (∀ z ∈ zs.take k, smA z) ∧ (zs.length - k) = kM) ((List.length zs) - 0) ⟨0, rfl, Z, (Nat.zero_le _), (fun _ h => by cases h), rfl⟩ ?_
  clear Z; rintro _ _ w j ⟨k, rfl, Z, hk, hsm, rfl⟩
  refine Ze7 <| Ze7 <| WC.region <| Ze6 4 rfl <| Ze8 <| Zfe rfl (fun cd1 => ?_) (fun cd1 => ?_)
  ·refine Zfc <| Ze7 <| Zfj <| Ze7 <| WC.region <| Ze6 2 rfl ?_
   obtain ⟨z, hz⟩ : ∃ z, zs[k]? = some z := ⟨_, List.getElem?_eq_getElem (by omega)⟩; have hzB := hzs z (List.mem_of_getElem? hz); have hzr : -9223372036854775808 ≤ z.x.err ∧ z.x.err ≤ 9223372036854775807 := hzB.t.err; have hre : reachBytes = 140737488351232 := rfl; have hq1 := hzB.e; have hq2 := hzB.c; have hq3 := hzB.k; have hq4 := hzB.b; have hl1 := Z_ z.x.ents; have hl2 := Z9 z.x.chs; have hl3 := Zh z.x.keys; have hl4 := Zf z.x.bytes; have hkz := (List.getElem?_eq_some_iff.1 hz).1
   refine Zfw rfl rfl (i := (k : Int)) (k) el_22 rfl rfl (by omega) (by omega) (Z.rdS 1 rfl (Z6 hz)).1 ?_
   refine Zf9 rfl rfl [.int .i64 z.x.err, .int .u64 z.x.handle, .int .i64 z.x.value, .bool z.x.found, .int .i64 z.x.n, .int .i64 z.x.ekey, .int .i64 z.x.eval, .int .i64 z.x.count, .int .i64 z.x.sum, .int .i64 z.x.mn, .int .i64 z.x.mx, .slice z.ae (Zo z.x.ents).length z.ce, .slice z.ac (Zn z.x.chs).length z.cc, .slice z.ak (Zb z.x.keys).length z.ck, .slice z.ab (Za z.x.bytes).length z.cb] ZK rfl (Z.rdS 1 rfl (Z6 hz)).2 <| Zf5 rfl rfl Xk Z (fun b2 w Z => ?_)
   refine Zfu rfl rfl rfl 0 Z rfl rfl rfl rfl rfl ZK (fun w Z => ?_)
   replace Z := Z.n4 L (a0 := Zd b2 #[.int .i64 z.x.err, .int .u64 z.x.handle, .int .i64 z.x.value, .bool z.x.found, .int .i64 z.x.n, .int .i64 z.x.ekey, .int .i64 z.x.eval, .int .i64 z.x.count, .int .i64 z.x.sum, .int .i64 z.x.mn, .int .i64 z.x.mx, .slice z.ae (Zo z.x.ents).length z.ce, .slice z.ac (Zn z.x.chs).length z.cc, .slice z.ak (Zb z.x.keys).length z.ck, .slice z.ab (Za z.x.bytes).length z.cb] 35) rfl
   refine Ze8 <| Ze7 <| Ze7 <| WC.region <| Zfd 7 [.slice z.ae (Zo z.x.ents).length z.ce, .slice z.ac (Zn z.x.chs).length z.cc] rfl (by exact ⟨Z.ld 0 rfl rfl, Z.ld 0 rfl rfl⟩) ?_
   refine Zfi 38 rfl (ZF (by omega)) ?_
   refine Zfd 4 [.slice z.ak (Zb z.x.keys).length z.ck] rfl (by exact Z.ld 0 rfl rfl) ?_
   refine Zfi 42 rfl (ZF (by omega)) ?_
   refine Zfd 4 [.slice z.ab (Za z.x.bytes).length z.cb] rfl (by exact Z.ld 0 rfl rfl) ?_
   refine Zfi 46 rfl (ZF (by omega)) ?_
   refine Ze6 1 rfl <| Ze8 ?_
   as_aux_lemma =>
   refine Zfe rfl (fun hbig => ?_) (fun hbig => ?_)
   ·refine Ze7 <| WC.region <| Zfb rfl rfl (QP Z) rfl ?_
    clear Z; rintro _ w ⟨rfl, Z⟩
    replace Z := Z.n4 L rfl
    refine Ze6 1 rfl <| Ze8 <| Zfa ?_
    refine ⟨[.bool true], rfl, ?_⟩
    replace Z := (Z.sel 4 [] rfl)
    exact ⟨rfl, Z⟩
   ·refine Zfc <| Ze7 <| WC.region <| Zfd 2 [.int .i64 z.x.err] rfl (by exact Z.ld 0 rfl rfl) ?_
    refine Zfb rfl rfl (HJ z.x.err 256 hzr (by decide) Z) rfl ?_
    clear Z; rintro _ w ⟨rfl, Z⟩
    replace Z := Z.n4 L rfl
    refine Ze6 1 rfl <| Zfn rfl rfl rfl 0 Z rfl rfl rfl rfl rfl rfl (fun w Z => ?_)
    replace Z := Z.n4 L (a0 := Zd b2 #[.int .i64 (z.x.err % 256), .int .u64 z.x.handle, .int .i64 z.x.value, .bool z.x.found, .int .i64 z.x.n, .int .i64 z.x.ekey, .int .i64 z.x.eval, .int .i64 z.x.count, .int .i64 z.x.sum, .int .i64 z.x.mn, .int .i64 z.x.mx, .slice z.ae (Zo z.x.ents).length z.ce, .slice z.ac (Zn z.x.chs).length z.cc, .slice z.ak (Zb z.x.keys).length z.ck, .slice z.ab (Za z.x.bytes).length z.cb] 35) rfl
    refine Ze8 <| Ze7 <| WC.region <| Ze6 1 rfl <| Zfn rfl rfl rfl 0 Z rfl rfl rfl rfl rfl rfl (fun w Z => ?_)
    replace Z := Z.n4 L (a0 := Zd b2 #[.int .i64 (z.x.err % 256), .int .u64 z.x.handle, .int .i64 z.x.value, .bool z.x.found, .int .i64 z.x.n, .int .i64 z.x.ekey, .int .i64 z.x.eval, .int .i64 z.x.count, .int .i64 z.x.sum, .int .i64 z.x.mn, .int .i64 z.x.mx, .slice z.ae (Zo z.x.ents).length z.ce, .slice none 0 0, .slice z.ak (Zb z.x.keys).length z.ck, .slice z.ab (Za z.x.bytes).length z.cb] 35) rfl
    refine Ze8 <| WC.region <| Ze6 2 rfl <| Zfy rfl rfl 0 Z rfl rfl ZK <| Zfw rfl rfl (i := (k : Int)) (k) el_22 rfl rfl (by omega) (by have := CS (zs := zs) (k := k) (by omega); have := Yg (Xq zs k); omega) (Z.rdO 1 rfl (Z6 (HM hkz))).1 ?_
    refine Zg5 rfl rfl rfl 1 (k) [.int .i64 0, .int .u64 0, .int .i64 0, .bool false, .int .i64 0, .int .i64 0, .int .i64 0, .int .i64 0, .int .i64 0, .int .i64 0, .int .i64 0, .slice none 0 0, .slice none 0 0, .slice none 0 0, .slice none 0 0] (Z5 (Xq zs (k + 1))) Z rfl (Z6 (HM hkz)) rfl rfl rfl rfl ZK (by rw [← CU hz]; exact Zbb _ _ (Zr z)) (fun w Z => ?_)
    replace Z := Z.n4 L (a1 := Ze 35 15 (Z5 (Xq zs (k + 1))) (some ⟨b1, 0, none⟩) (List.length zs)) rfl
    refine Ze8 ?_
    as_aux_lemma =>
    refine WC.region <| Ze6 2 rfl <| Zfi 27 rfl (ZF (by omega)) ?_
    refine Ze6 1 rfl <| Ze8 ?_
    exact ⟨_, by omega, k + 1, rfl, (Z.sel 1 [] rfl), (by omega), (Qj hz hsm (by unfold smA; omega)), rfl⟩
  ·refine Zfv <| Ze7 <| WC.region ?_
   have hk9 : k = zs.length := (by omega)
   have hyl : ((zs.map Zr).map AnS.x).length = zs.length := (by simp); have hok : ∀ x ∈ (zs.map Zr).map AnS.x, AnOk x := Zas hzs (by rw [← hk9]; exact hsm); have hB := C9 (l := (zs.map Zr).map AnS.x) (fun x hx => (hok x hx).t.by_); have htl := Dn (l := (zs.map Zr).map AnS.x) (fun x hx => (hok x hx).w); have htb := Zf (Zz ((zs.map Zr).map AnS.x))
   subst hk9; rw [Zcp] at Z; replace Z := (Z.at_ 2 rfl).tidS
   replace Z := Z.n3 L (a0 := ZP anF (zs.map Zr)) (a1 := Ze 35 15 (Z5 (zs.map Zr)) (some ⟨b1, 0, none⟩) (List.length zs)) rfl
   refine Zfm 5 (.slice (some ⟨b1, 0, none⟩) (Z5 (zs.map Zr)).length zs.length) (congrArg (fun m => Value.slice (some ⟨b1, 0, none⟩) m zs.length) (by simp)) ?_
   refine Ze6 1 rfl ?_
   replace Z := (Z.at_ 1 rfl).share
   replace Z := Z.n3 L (a0 := Sh 35 15 (Z5 (zs.map Zr)) (some ⟨b1, 0, none⟩) (List.length zs)) rfl
   refine Zfb rfl rfl (tr_n (zs.map Zr) (some ⟨b1, 0, none⟩) (List.length zs) (fun z hz => (hok z.x (List.mem_map.2 ⟨z, hz, rfl⟩)).w) (by simp; omega) Z) rfl ?_
   clear Z; rintro _ w ⟨a1, c1, rfl, Z⟩
   replace Z := Z.n4 L rfl
   refine Ze6 1 rfl <| Ze8 ?_
   as_aux_lemma =>
   refine Ze7 <| WC.region <| Ze6 1 rfl ?_
   replace Z := (Z.at_ 0 rfl).share
   replace Z := Z.n4 L (a0 := Sh 5 1 (Za (Zz ((zs.map Zr).map AnS.x))) a1 c1) rfl
   refine Zfb rfl rfl (Vu ((zs.map Zr).map AnS.x) (Zz ((zs.map Zr).map AnS.x)) _ _ (by omega) (by omega) hB (HL hok) rfl Z) rfl ?_
   clear Z; rintro _ w ⟨ms1, a2, c2, rfl, Z, f1⟩
   replace Z := Z.n6 L rfl
   refine Ze6 5 rfl <| Ze8 <| Ze7 <| Ze7 <| WC.region ?_
   have hml : ms1.length = zs.length := (by rw [← hyl, ← f1, List.length_map])
   refine Zfb rfl rfl (QP Z) rfl ?_
   clear Z; rintro _ w ⟨rfl, Z⟩
   replace Z := Z.n6 L rfl
   refine Ze6 2 rfl <| Zfh rfl rfl rfl <| Ze6 1 rfl <| Zfh rfl rfl rfl <| Ze6 3 rfl <| Zfm 71 (.bool false) (congrArg Value.bool (decide_eq_false (by decide))) ?_
   refine Zfh rfl rfl rfl <| Ze6 1 rfl <| Zfh rfl rfl rfl <| Ze6 1 rfl <| Zfh rfl rfl rfl <| Ze6 1 rfl <| Zfh rfl rfl rfl <| Ze6 1 rfl <| Zfh rfl rfl rfl <| Ze6 3 rfl <| Zfm 78 (.bool false) (congrArg Value.bool (decide_eq_false ((by rw [Yg, Yg, hml]; simp)))) ?_
   refine Zfh rfl rfl rfl <| Ze6 1 rfl <| Zfh rfl rfl rfl <| Ze6 1 rfl <| Zfh rfl rfl rfl <| Zfb rfl rfl (Ze1 (zs.map Zr) (some ⟨b1, 0, none⟩) (List.length zs) (fun z hz => (hok z.x (List.mem_map.2 ⟨z, hz, rfl⟩)).w) (by simp; omega) (Z.sel 5 [3, 3, 0, 0, 0] rfl)) rfl ?_
   clear Z; rintro _ w ⟨a3, c3, rfl, Z⟩
   replace Z := Z.n7 L rfl
   refine Zfh rfl rfl rfl ?_
   replace Z := (Z.at_ 0 rfl).share
   replace Z := Z.n7 L (a0 := Sh 5 1 (Za (Zz ((zs.map Zr).map AnS.x))) a3 c3) rfl
   refine Zfb rfl rfl (sameB (Zz ((zs.map Zr).map AnS.x)) (Zz ((zs.map Zr).map AnS.x)) _ _ _ _ (by omega) (Z.sel 6 [5, 0, 0, 0, 0, 0] rfl)) rfl ?_
   clear Z; rintro _ w ⟨ok1, rfl, Z, f2⟩
   replace Z := Z.n7 L rfl
   refine Zfh rfl rfl rfl <| Ze6 1 rfl <| Ze6 1 rfl <| Ze8 ?_
   as_aux_lemma =>
   refine Zfl rfl (by rw [f2.2 rfl]; decide) ?_
   refine Zfc <| Ze7 <| Ze7 <| WC.region <| Ze6 1 rfl <| Ze8 <| Zfj <| Zft [1, 5, 8, 9, 11] (fun kM vs w => ∃ (k2 : Nat), vs = [.int .i64 cut, .slice (some ⟨b1, 0, none⟩) (Z5 (zs.map Zr)).length (List.length zs), .slice a1 (List.length (Za (Zz ((zs.map Zr).map AnS.x)))) c1, .slice a2 (Z5 ms1).length c2, .int .i64 (k2 : Int)] ∧ St g (Sh 5 1 (Za (Zz ((zs.map Zr).map AnS.x))) a1 c1 :: Sh 5 1 (Za (Zz ((zs.map Zr).map AnS.x))) a3 c3 :: Sh 35 15 (Z5 (zs.map Zr)) (some ⟨b1, 0, none⟩) (List.length zs) :: ZP anF (zs.map Zr) :: Ze 35 15 (Z5 ms1) a2 c2 :: ZP anF ms1 :: Sh 35 15 (Z5 zs) a c :: L) w ∧ (k2 ≤ zs.length) ∧ (zs.length - k2) = kM) ((List.length zs) - 0) ⟨0, rfl, Z, (Nat.zero_le _), rfl⟩ ?_
   clear Z; rintro _ _ w j ⟨k2, rfl, Z, hk2, rfl⟩
   refine Ze7 <| Ze7 <| WC.region <| Ze6 4 rfl <| Ze8 <| Zfe rfl (fun cd2 => ?_) (fun cd2 => ?_)
   ·refine Zfc <| Ze7 <| Zfj <| Ze7 <| Zfr [([0, 1, 4, 5, 2, 6, 3, 7], some (8, [])), ([9], none)] (by kernel_rfl) (by kernel_rfl) ?_
    have hal1 := Yg ms1; have hal2 := Yg (zs.map Zr); have hal3 : (zs.map Zr).length = zs.length := List.length_map ..; obtain ⟨m2, hm⟩ : ∃ z, ms1[k2]? = some z := ⟨_, List.getElem?_eq_getElem (by omega)⟩; obtain ⟨y2, hy⟩ : ∃ z, (zs.map Zr)[k2]? = some z := ⟨_, List.getElem?_eq_getElem (by omega)⟩; have hxy : m2.x = y2.x := Zbd f1 hm hy; have hyo := hok y2.x (List.mem_map.2 ⟨y2, List.mem_of_getElem? hy, rfl⟩); have hyw := hyo.w; have hw1 := hyw.le; have hw2 := hyw.lc; have hw3 := hyw.lk
    replace Z : St g (Sh 5 1 (Za y2.x.bytes) y2.ab y2.cb :: Sh 27 2 (Zo y2.x.ents) y2.ae y2.ce :: Sh 88 4 (Zn y2.x.chs) y2.ac y2.cc :: Sh 2 1 (Zb y2.x.keys) y2.ak y2.ck :: Sh 5 1 (Za (Zz ((zs.map Zr).map AnS.x))) a1 c1 :: Sh 5 1 (Za (Zz ((zs.map Zr).map AnS.x))) a3 c3 :: Sh 35 15 (Z5 (zs.map Zr)) (some ⟨b1, 0, none⟩) (List.length zs) :: ZP anF (zs.map Zr) :: Ze 35 15 (Z5 ms1) a2 c2 :: ZP anF ms1 :: Sh 35 15 (Z5 zs) a c :: L) w := Z.shsGet 3 rfl (List.mem_of_getElem? hy)
    replace Z : St g (Sh 5 1 (Za m2.x.bytes) m2.ab m2.cb :: Sh 27 2 (Zo m2.x.ents) m2.ae m2.ce :: Sh 88 4 (Zn m2.x.chs) m2.ac m2.cc :: Sh 2 1 (Zb m2.x.keys) m2.ak m2.ck :: Sh 5 1 (Za y2.x.bytes) y2.ab y2.cb :: Sh 27 2 (Zo y2.x.ents) y2.ae y2.ce :: Sh 88 4 (Zn y2.x.chs) y2.ac y2.cc :: Sh 2 1 (Zb y2.x.keys) y2.ak y2.ck :: Sh 5 1 (Za (Zz ((zs.map Zr).map AnS.x))) a1 c1 :: Sh 5 1 (Za (Zz ((zs.map Zr).map AnS.x))) a3 c3 :: Sh 35 15 (Z5 (zs.map Zr)) (some ⟨b1, 0, none⟩) (List.length zs) :: ZP anF (zs.map Zr) :: Ze 35 15 (Z5 ms1) a2 c2 :: ZP anF ms1 :: Sh 35 15 (Z5 zs) a c :: L) w := Z.shsGet 9 rfl (List.mem_of_getElem? hm)
    refine Zfg 4 rfl <| Zf1 rfl rfl (i := (k2 : Int)) (k2) el_22 rfl rfl (by omega) (by omega) (Z.rdO 12 rfl (Z6 hm)).1 ?_
    refine Zf1 rfl rfl (i := (k2 : Int)) (k2) el_22 rfl rfl (by omega) (by omega) (Z.rdS 10 rfl (Z6 hy)).1 ?_
    refine Zgh rfl rfl [.int .i64 m2.x.err, .int .u64 m2.x.handle, .int .i64 m2.x.value, .bool m2.x.found, .int .i64 m2.x.n, .int .i64 m2.x.ekey, .int .i64 m2.x.eval, .int .i64 m2.x.count, .int .i64 m2.x.sum, .int .i64 m2.x.mn, .int .i64 m2.x.mx, .slice m2.ae (Zo m2.x.ents).length m2.ce, .slice m2.ac (Zn m2.x.chs).length m2.cc, .slice m2.ak (Zb m2.x.keys).length m2.ck, .slice m2.ab (Za m2.x.bytes).length m2.cb] ZK rfl (Z.rdO 12 rfl (Z6 hm)).2 <| Zgh rfl rfl [.int .i64 y2.x.err, .int .u64 y2.x.handle, .int .i64 y2.x.value, .bool y2.x.found, .int .i64 y2.x.n, .int .i64 y2.x.ekey, .int .i64 y2.x.eval, .int .i64 y2.x.count, .int .i64 y2.x.sum, .int .i64 y2.x.mn, .int .i64 y2.x.mx, .slice y2.ae (Zo y2.x.ents).length y2.ce, .slice y2.ac (Zn y2.x.chs).length y2.cc, .slice y2.ak (Zb y2.x.keys).length y2.ck, .slice y2.ab (Za y2.x.bytes).length y2.cb] ZK rfl (Z.rdS 10 rfl (Z6 hy)).2 <| WQ.dn Z (fun w Z => ?_)
    refine Zfb rfl rfl (QJ m2.x y2.x m2.ab m2.ae m2.ac m2.ak y2.ab y2.ae y2.ac y2.ak m2.cb m2.ce m2.cc m2.ck y2.cb y2.ce y2.cc y2.ck (by rw [hxy]; omega) (by rw [hxy]; omega) (by rw [hxy]; omega) (by rw [hxy]; exact hyo.t.by_) hyo.t.by_ Z) rfl ?_
    clear Z; rintro _ w ⟨ok2, rfl, Z, f3⟩
    replace Z := Z.n15 L rfl
    refine Ze8 ?_
    refine ⟨by exact trivial, ?_⟩
    refine Zfg 1 rfl <| Zfo ?_
    refine Z.dn (fun w Z => ?_)
    as_aux_lemma =>
    refine Zfl rfl (by rw [f3.2 hxy]; decide) ?_
    refine Zfc <| WC.region <| Ze6 2 rfl <| Zfi 90 rfl (ZF (by omega)) ?_
    refine Ze6 1 rfl <| Ze8 ?_
    exact ⟨_, by omega, k2 + 1, rfl, (Z.sel 8 [] rfl), (by omega), rfl⟩
   ·refine Zfv <| Ze7 <| Ze7 <| WC.region <| Ze6 3 rfl <| Ze8 <| Zfe rfl (fun h0 => ?_) (fun h0 => ?_)
    ·refine Ze7 <| WC.region <| Ze6 1 rfl <| Ze8 ?_
     as_aux_lemma =>
     refine Zfa ?_
     refine ⟨[.bool true], rfl, ?_⟩
     replace Z := (Z.sel 7 [] rfl)
     exact ⟨rfl, Z⟩
    ·refine Zfc <| Ze7 <| WC.region ?_
     have hal2 := Yg (zs.map Zr); have hal3 : (zs.map Zr).length = zs.length := List.length_map ..; obtain ⟨n9, hn9⟩ : ∃ n9, zs.length = n9 + 1 := ⟨zs.length - 1, by omega⟩; obtain ⟨y9, hy9⟩ : ∃ z, (zs.map Zr)[n9]? = some z := ⟨_, List.getElem?_eq_getElem (by omega)⟩; have hX9 : ((zs.map Zr).map AnS.x)[n9]? = some y9.x := (by rw [List.getElem?_map, hy9]; rfl); have hyo := hok y9.x (List.mem_of_getElem? hX9); have hyw := hyo.w; have hyl2 := Xu hyw; have hb9 := Zf (YJ y9.x); have ht9 := congrArg List.length (Xp hX9); rw [List.take_of_length_le (by omega), List.length_append] at ht9
     replace Z : St g (Sh 5 1 (Za y9.x.bytes) y9.ab y9.cb :: Sh 27 2 (Zo y9.x.ents) y9.ae y9.ce :: Sh 88 4 (Zn y9.x.chs) y9.ac y9.cc :: Sh 2 1 (Zb y9.x.keys) y9.ak y9.ck :: Sh 5 1 (Za (Zz ((zs.map Zr).map AnS.x))) a1 c1 :: Sh 5 1 (Za (Zz ((zs.map Zr).map AnS.x))) a3 c3 :: Sh 35 15 (Z5 (zs.map Zr)) (some ⟨b1, 0, none⟩) (List.length zs) :: ZP anF (zs.map Zr) :: Ze 35 15 (Z5 ms1) a2 c2 :: ZP anF ms1 :: Sh 35 15 (Z5 zs) a c :: L) w := Z.shsGet 3 rfl (List.mem_of_getElem? hy9)
     refine Ze6 4 rfl <| Zfi 107 rfl (ZF (by omega)) ?_
     refine Zfw rfl rfl (i := (List.length (Z5 (zs.map Zr)) : Int) - 1) (n9) el_22 rfl rfl (by omega) (by omega) (Z.rdS 6 rfl (Z6 hy9)).1 ?_
     refine Zf9 rfl rfl [.int .i64 y9.x.err, .int .u64 y9.x.handle, .int .i64 y9.x.value, .bool y9.x.found, .int .i64 y9.x.n, .int .i64 y9.x.ekey, .int .i64 y9.x.eval, .int .i64 y9.x.count, .int .i64 y9.x.sum, .int .i64 y9.x.mn, .int .i64 y9.x.mx, .slice y9.ae (Zo y9.x.ents).length y9.ce, .slice y9.ac (Zn y9.x.chs).length y9.cc, .slice y9.ak (Zb y9.x.keys).length y9.ck, .slice y9.ab (Za y9.x.bytes).length y9.cb] ZK rfl (Z.rdS 6 rfl (Z6 hy9)).2 <| Zfb rfl rfl (X1 y9.x y9.ab y9.ae y9.ac y9.ak y9.cb y9.ce y9.cc y9.ck hyw Z) rfl ?_
     clear Z; rintro _ w ⟨a4, c4, rfl, Z⟩
     replace Z := Z.n12 L rfl
     refine Ze6 2 rfl <| Ze8 ?_
     as_aux_lemma =>
     refine Ze7 <| WC.region ?_
     have hr1 := Int.emod_nonneg cut (b := (List.length (Za (YJ y9.x)) : Int) - 1) (by omega); have hr2 := Int.emod_lt_of_pos cut (b := (List.length (Za (YJ y9.x)) : Int) - 1) (by omega); obtain ⟨q9, hq9⟩ : ∃ q9 : Nat, (q9 : Int) = (List.length (Za (Zz ((zs.map Zr).map AnS.x))) : Int) - 1 - cut % ((List.length (Za (YJ y9.x)) : Int) - 1) := ⟨((List.length (Za (Zz ((zs.map Zr).map AnS.x))) : Int) - 1 - cut % ((List.length (Za (YJ y9.x)) : Int) - 1)).toNat, by omega⟩; obtain ⟨hc1, hc2, hc3⟩ := Zc9 hok (by omega) hX9 (q := q9) (by omega) (by omega); have hql := List.length_take_le q9 (Zz ((zs.map Zr).map AnS.x)); have hxl9 := List.length_take_le n9 ((zs.map Zr).map AnS.x)
     refine Ze6 4 rfl <| Zfi 116 rfl (ZF (by omega)) ?_
     refine Ze6 3 rfl <| Zfi 119 rfl (ZF (by omega)) ?_
     refine Zfb rfl rfl (HJ cut ((List.length (Za (YJ y9.x)) : Int) - 1) hcut (by omega) Z) rfl ?_
     clear Z; rintro _ w ⟨rfl, Z⟩
     replace Z := Z.n12 L rfl
     refine Ze6 1 rfl <| Zfi 121 rfl (ZF (by omega)) ?_
     refine Zg1 rfl rfl (v := ((List.length (Za (Zz ((zs.map Zr).map AnS.x))) : Int) - 1) - (cut % ((List.length (Za (YJ y9.x)) : Int) - 1))) 5 (q9) (Za ((Zz ((zs.map Zr).map AnS.x)).take q9)) el_33 Z rfl rfl rfl (by omega) (by omega) (UV _ _) (fun a5 Z => ?_)
     replace Z := Z.n13 L (a0 := Sh 5 1 (Za ((Zz ((zs.map Zr).map AnS.x)).take q9)) a5 c1) rfl
     refine Zfb rfl rfl (Zbj (((zs.map Zr).map AnS.x).take n9) ((Zz ((zs.map Zr).map AnS.x)).take q9) _ _ (by omega) (by omega) (fun x hx => hB x (List.mem_of_mem_take hx)) hc1 ⟨hc2, hc3⟩ Z) rfl ?_
     clear Z; rintro _ w ⟨rfl, Z⟩
     replace Z := Z.n13 L rfl
     refine Ze6 5 rfl <| Ze8 <| Ze7 <| WC.region <| Ze6 3 rfl <| Zgd 5 rfl (fun j => ?_)
     refine Zf4 132 rfl (Ya (dd _) (dd _)) <| Ze8 ?_
     as_aux_lemma =>
     refine Zfa ?_
     refine ⟨[.bool (bif (decide (0 = 0)) then (decide (12 = 12)) else false)], rfl, ?_⟩
     replace Z := (Z.sel 13 [] rfl)
     exact ⟨rfl, Z⟩
end Go.Proofs.YtlifpobidhfbfaaGreatDoor
namespace Go.Proofs.YtlifpobidhfbfaaGreatDoor
open Go Go.V Go.RowKit
set_option maxRecDepth 100000
theorem Zcs {H : Type} {enc : TypeId × Value → H} {w : World} {cs : List Value} (h : Rdc enc Tryz.prog w 27 cs) : ∃ c0 c1 : Value, cs = [c0, c1] ∧ Rdc enc Tryz.prog w 2 [c0] ∧ Rdc enc Tryz.prog w 2 [c1] := by
 obtain ⟨hl, hf⟩ := Rdc.struct h Tryz.underlying27
 rw [show Tryz.prog.cellsOf 27 = 2 by kernel_rfl] at hl
 match cs, hl with
 | [c0, c1], _ =>
  have f0 : Rdc enc Tryz.prog w 2 (([c0, c1].drop 0).take (Tryz.prog.cellsOf 2)) := hf 0 _ rfl
  rw [show Tryz.prog.cellsOf 2 = 1 by kernel_rfl] at f0
  have f1 : Rdc enc Tryz.prog w 2 (([c0, c1].drop 1).take (Tryz.prog.cellsOf 2)) := hf 1 _ rfl
  rw [show Tryz.prog.cellsOf 2 = 1 by kernel_rfl] at f1
  exact ⟨c0, c1, rfl, f0, f1⟩
theorem Zdp {H : Type} {enc : TypeId × Value → H} {w : World} {cs : List Value} (h : Rdc enc Tryz.prog w 88 cs) : ∃ c0 c1 c2 c3 : Value, cs = [c0, c1, c2, c3] ∧ Rdc enc Tryz.prog w 3 [c0] ∧ Rdc enc Tryz.prog w 2 [c1] ∧ Rdc enc Tryz.prog w 2 [c2] ∧ Rdc enc Tryz.prog w 2 [c3] := by
 obtain ⟨hl, hf⟩ := Rdc.struct h Tryz.underlying88
 rw [show Tryz.prog.cellsOf 88 = 4 by kernel_rfl] at hl
 match cs, hl with
 | [c0, c1, c2, c3], _ =>
  have f0 : Rdc enc Tryz.prog w 3 (([c0, c1, c2, c3].drop 0).take (Tryz.prog.cellsOf 3)) := hf 0 _ rfl
  rw [show Tryz.prog.cellsOf 3 = 1 by kernel_rfl] at f0
  have f1 : Rdc enc Tryz.prog w 2 (([c0, c1, c2, c3].drop 1).take (Tryz.prog.cellsOf 2)) := hf 1 _ rfl
  rw [show Tryz.prog.cellsOf 2 = 1 by kernel_rfl] at f1
  have f2 : Rdc enc Tryz.prog w 2 (([c0, c1, c2, c3].drop 2).take (Tryz.prog.cellsOf 2)) := hf 2 _ rfl
  rw [show Tryz.prog.cellsOf 2 = 1 by kernel_rfl] at f2
  have f3 : Rdc enc Tryz.prog w 2 (([c0, c1, c2, c3].drop 3).take (Tryz.prog.cellsOf 2)) := hf 3 _ rfl
  rw [show Tryz.prog.cellsOf 2 = 1 by kernel_rfl] at f3
  exact ⟨c0, c1, c2, c3, rfl, f0, f1, f2, f3⟩
section
variable {H : Type} {enc : TypeId × Value → H} {w : World} {cs : List Value}
theorem YH (h : Rdc enc Tryz.prog w 2 cs) : ∃ n, cs = [.int .i64 n] ∧ Z8 n := by
 obtain ⟨n, h1, h2, h3⟩ := h.int (k := .i64) (by kernel_rfl)
 exact ⟨n, h1, h2, h3⟩
theorem Ud (h : Rdc enc Tryz.prog w 3 cs) : ∃ n, cs = [.int .i64 n] ∧ Z8 n := by
 obtain ⟨n, h1, h2, h3⟩ := h.int (k := .i64) (by kernel_rfl)
 exact ⟨n, h1, h2, h3⟩
theorem Zc5 (h : Rdc enc Tryz.prog w 25 cs) : ∃ n, cs = [.int .u64 n] ∧ 0 ≤ n ∧ n ≤ 18446744073709551615 := by
 obtain ⟨n, h1, h2, h3⟩ := h.int (k := .u64) (by kernel_rfl)
 exact ⟨n, h1, h2, h3⟩
theorem Zb3 (h : Rdc enc Tryz.prog w 5 cs) : ∃ n, cs = [.int .u8 n] ∧ 0 ≤ n ∧ n ≤ 255 := by
 obtain ⟨n, h1, h2, h3⟩ := h.int (k := .u8) (by kernel_rfl)
 exact ⟨n, h1, h2, h3⟩
theorem Zaq (h : Rdc enc Tryz.prog w 4 cs) : ∃ b, cs = [.bool b] := h.bool (by kernel_rfl)
theorem U3 (h : Rdc enc Tryz.prog w 27 cs) : ∃ x : Int × Int, cs = [.int .i64 x.1, .int .i64 x.2] ∧ Z8 x.1 ∧ Z8 x.2 := by
 obtain ⟨c0, c1, rfl, h0, h1⟩ := Zcs h
 obtain ⟨a, e0, w0⟩ := YH h0
 obtain ⟨b, e1, w1⟩ := YH h1
 cases e0; cases e1
 exact ⟨(a, b), rfl, w0, w1⟩
theorem Co (h : Rdc enc Tryz.prog w 88 cs) : ∃ x : Int × Int × Int × Int, cs = [.int .i64 x.1, .int .i64 x.2.1, .int .i64 x.2.2.1, .int .i64 x.2.2.2] ∧ Z8 x.1 ∧ Z8 x.2.1 ∧ Z8 x.2.2.1 ∧ Z8 x.2.2.2 := by
 obtain ⟨c0, c1, c2, c3, rfl, h0, h1, h2, h3⟩ := Zdp h
 obtain ⟨a, e0, w0⟩ := Ud h0
 obtain ⟨b, e1, w1⟩ := YH h1
 obtain ⟨c, e2, w2⟩ := YH h2
 obtain ⟨d, e3, w3⟩ := YH h3
 cases e0; cases e1; cases e2; cases e3
 exact ⟨(a, b, c, d), rfl, w0, w1, w2, w3⟩
theorem one1 {x : List Value} {v : Value} (h : x = [v]) (h1 : v.oneCell' = true) : x.length = 1 ∧ ∀ u ∈ x, u.oneCell' = true := by
 subst h; exact ⟨rfl, fun u hu => by simp at hu; subst hu; exact h1⟩
theorem C0 (h : Rdc enc Tryz.prog w 33 cs) : ∃ (l : List Int) (a : Option Addr) (c : Nat), cs = [.slice a (Za l).length c] ∧ B8 l ∧ l.length ≤ maxLen ∧ ∀ e, Hw w (Sh e 1 (Za l) a c) := by
 obtain ⟨a, c, ls, h1, h2, h3, h4⟩ := Rdc.slice (e := 5) (size := 1) h (by kernel_rfl) (by kernel_rfl) (by decide) (fun x hx => by
  obtain ⟨n, hn, _⟩ := Zb3 hx
  exact one1 hn rfl)
 obtain ⟨m, rfl, hm⟩ := Ji (fun x : Int => [Value.int .u8 x]) (fun x => 0 ≤ x ∧ x ≤ 255) ls (fun x hx => by
  obtain ⟨n, hn, hb⟩ := Zb3 (h3 x hx)
  exact ⟨n, hn, hb⟩)
 exact ⟨m, a, c, h1, hm, by simpa using h2, h4⟩
theorem Zby (h : Rdc enc Tryz.prog w 30 cs) : ∃ (l : List (Int × Int)) (a : Option Addr) (c : Nat), cs = [.slice a (Zo l).length c] ∧ Ua l ∧ l.length ≤ maxLen ∧ ∀ e, Hw w (Sh e 2 (Zo l) a c) := by
 obtain ⟨a, c, ls, h1, h2, h3, h4⟩ := Rdc.slice (e := 27) (size := 2) h (by kernel_rfl) (by kernel_rfl) (by decide) (fun x hx => by
  obtain ⟨n, hn, _⟩ := U3 hx
  subst hn; exact ⟨rfl, fun u hu => by simp at hu; rcases hu with rfl | rfl <;> rfl⟩)
 obtain ⟨m, rfl, hm⟩ := Ji (fun x : Int × Int => [Value.int .i64 x.1, Value.int .i64 x.2]) (fun x => Z8 x.1 ∧ Z8 x.2) ls (fun x hx => by
  obtain ⟨n, hn, hb⟩ := U3 (h3 x hx)
  exact ⟨n, hn, hb⟩)
 exact ⟨m, a, c, h1, hm, by simpa using h2, h4⟩
theorem Zcr (h : Rdc enc Tryz.prog w 31 cs) : ∃ (l : List (Int × Int × Int × Int)) (a : Option Addr) (c : Nat), cs = [.slice a (Zn l).length c] ∧ Qm l ∧ l.length ≤ maxLen ∧ ∀ e, Hw w (Sh e 4 (Zn l) a c) := by
 obtain ⟨a, c, ls, h1, h2, h3, h4⟩ := Rdc.slice (e := 88) (size := 4) h (by kernel_rfl) (by kernel_rfl) (by decide) (fun x hx => by
  obtain ⟨n, hn, _⟩ := Co hx
  subst hn; exact ⟨rfl, fun u hu => by simp at hu; rcases hu with rfl | rfl | rfl | rfl <;> rfl⟩)
 obtain ⟨m, rfl, hm⟩ := Ji (fun x : Int × Int × Int × Int => [Value.int .i64 x.1, Value.int .i64 x.2.1, Value.int .i64 x.2.2.1, Value.int .i64 x.2.2.2]) (fun x => Z8 x.1 ∧ Z8 x.2.1 ∧ Z8 x.2.2.1 ∧ Z8 x.2.2.2) ls (fun x hx => by
  obtain ⟨n, hn, hb⟩ := Co (h3 x hx)
  exact ⟨n, hn, hb⟩)
 exact ⟨m, a, c, h1, hm, by simpa using h2, h4⟩
end
end Go.Proofs.YtlifpobidhfbfaaGreatDoor
namespace Go.Proofs.YtlifpobidhfbfaaGreatDoor
open Go Go.V Go.RowKit
set_option maxRecDepth 100000
theorem Zev {H : Type} {enc : TypeId × Value → H} {w : World} {cs : List Value} (h : Rdc enc Tryz.prog w 29 cs) : ∃ c0 c1 c2 c3 : Value, cs = [c0, c1, c2, c3] ∧ Rdc enc Tryz.prog w 3 [c0] ∧ Rdc enc Tryz.prog w 2 [c1] ∧ Rdc enc Tryz.prog w 2 [c2] ∧ Rdc enc Tryz.prog w 2 [c3] := by
 obtain ⟨hl, hf⟩ := Rdc.struct h Tryz.underlying29
 rw [show Tryz.prog.cellsOf 29 = 4 by kernel_rfl] at hl
 match cs, hl with
 | [c0, c1, c2, c3], _ =>
  have f0 : Rdc enc Tryz.prog w 3 (([c0, c1, c2, c3].drop 0).take (Tryz.prog.cellsOf 3)) := hf 0 _ rfl
  rw [show Tryz.prog.cellsOf 3 = 1 by kernel_rfl] at f0
  have f1 : Rdc enc Tryz.prog w 2 (([c0, c1, c2, c3].drop 1).take (Tryz.prog.cellsOf 2)) := hf 1 _ rfl
  rw [show Tryz.prog.cellsOf 2 = 1 by kernel_rfl] at f1
  have f2 : Rdc enc Tryz.prog w 2 (([c0, c1, c2, c3].drop 2).take (Tryz.prog.cellsOf 2)) := hf 2 _ rfl
  rw [show Tryz.prog.cellsOf 2 = 1 by kernel_rfl] at f2
  have f3 : Rdc enc Tryz.prog w 2 (([c0, c1, c2, c3].drop 3).take (Tryz.prog.cellsOf 2)) := hf 3 _ rfl
  rw [show Tryz.prog.cellsOf 2 = 1 by kernel_rfl] at f3
  exact ⟨c0, c1, c2, c3, rfl, f0, f1, f2, f3⟩
theorem Ze5 {H : Type} {enc : TypeId × Value → H} {w : World} {cs : List Value} (h : Rdc enc Tryz.prog w 35 cs) : ∃ c0 c1 c2 c3 c4 c5 c6 c7 c8 c9 c10 c11 c12 c13 c14 : Value, cs = [c0, c1, c2, c3, c4, c5, c6, c7, c8, c9, c10, c11, c12, c13, c14] ∧ Rdc enc Tryz.prog w 24 [c0] ∧ Rdc enc Tryz.prog w 25 [c1] ∧ Rdc enc Tryz.prog w 2 [c2] ∧ Rdc enc Tryz.prog w 4 [c3] ∧ Rdc enc Tryz.prog w 3 [c4] ∧ Rdc enc Tryz.prog w 27 [c5, c6] ∧ Rdc enc Tryz.prog w 29 [c7, c8, c9, c10] ∧ Rdc enc Tryz.prog w 30 [c11] ∧ Rdc enc Tryz.prog w 31 [c12] ∧ Rdc enc Tryz.prog w 32 [c13] ∧ Rdc enc Tryz.prog w 33 [c14] := by
 obtain ⟨hl, hf⟩ := Rdc.struct h Tryz.underlying35
 rw [show Tryz.prog.cellsOf 35 = 15 by kernel_rfl] at hl
 match cs, hl with
 | [c0, c1, c2, c3, c4, c5, c6, c7, c8, c9, c10, c11, c12, c13, c14], _ =>
  have f0 : Rdc enc Tryz.prog w 24 (([c0, c1, c2, c3, c4, c5, c6, c7, c8, c9, c10, c11, c12, c13, c14].drop 0).take (Tryz.prog.cellsOf 24)) := hf 0 _ rfl
  rw [show Tryz.prog.cellsOf 24 = 1 by kernel_rfl] at f0
  have f1 : Rdc enc Tryz.prog w 25 (([c0, c1, c2, c3, c4, c5, c6, c7, c8, c9, c10, c11, c12, c13, c14].drop 1).take (Tryz.prog.cellsOf 25)) := hf 1 _ rfl
  rw [show Tryz.prog.cellsOf 25 = 1 by kernel_rfl] at f1
  have f2 : Rdc enc Tryz.prog w 2 (([c0, c1, c2, c3, c4, c5, c6, c7, c8, c9, c10, c11, c12, c13, c14].drop 2).take (Tryz.prog.cellsOf 2)) := hf 2 _ rfl
  rw [show Tryz.prog.cellsOf 2 = 1 by kernel_rfl] at f2
  have f3 : Rdc enc Tryz.prog w 4 (([c0, c1, c2, c3, c4, c5, c6, c7, c8, c9, c10, c11, c12, c13, c14].drop 3).take (Tryz.prog.cellsOf 4)) := hf 3 _ rfl
  rw [show Tryz.prog.cellsOf 4 = 1 by kernel_rfl] at f3
  have f4 : Rdc enc Tryz.prog w 3 (([c0, c1, c2, c3, c4, c5, c6, c7, c8, c9, c10, c11, c12, c13, c14].drop 4).take (Tryz.prog.cellsOf 3)) := hf 4 _ rfl
  rw [show Tryz.prog.cellsOf 3 = 1 by kernel_rfl] at f4
  have f5 : Rdc enc Tryz.prog w 27 (([c0, c1, c2, c3, c4, c5, c6, c7, c8, c9, c10, c11, c12, c13, c14].drop 5).take (Tryz.prog.cellsOf 27)) := hf 5 _ rfl
  rw [show Tryz.prog.cellsOf 27 = 2 by kernel_rfl] at f5
  have f6 : Rdc enc Tryz.prog w 29 (([c0, c1, c2, c3, c4, c5, c6, c7, c8, c9, c10, c11, c12, c13, c14].drop 7).take (Tryz.prog.cellsOf 29)) := hf 6 _ rfl
  rw [show Tryz.prog.cellsOf 29 = 4 by kernel_rfl] at f6
  have f7 : Rdc enc Tryz.prog w 30 (([c0, c1, c2, c3, c4, c5, c6, c7, c8, c9, c10, c11, c12, c13, c14].drop 11).take (Tryz.prog.cellsOf 30)) := hf 7 _ rfl
  rw [show Tryz.prog.cellsOf 30 = 1 by kernel_rfl] at f7
  have f8 : Rdc enc Tryz.prog w 31 (([c0, c1, c2, c3, c4, c5, c6, c7, c8, c9, c10, c11, c12, c13, c14].drop 12).take (Tryz.prog.cellsOf 31)) := hf 8 _ rfl
  rw [show Tryz.prog.cellsOf 31 = 1 by kernel_rfl] at f8
  have f9 : Rdc enc Tryz.prog w 32 (([c0, c1, c2, c3, c4, c5, c6, c7, c8, c9, c10, c11, c12, c13, c14].drop 13).take (Tryz.prog.cellsOf 32)) := hf 9 _ rfl
  rw [show Tryz.prog.cellsOf 32 = 1 by kernel_rfl] at f9
  have f10 : Rdc enc Tryz.prog w 33 (([c0, c1, c2, c3, c4, c5, c6, c7, c8, c9, c10, c11, c12, c13, c14].drop 14).take (Tryz.prog.cellsOf 33)) := hf 10 _ rfl
  rw [show Tryz.prog.cellsOf 33 = 1 by kernel_rfl] at f10
  exact ⟨c0, c1, c2, c3, c4, c5, c6, c7, c8, c9, c10, c11, c12, c13, c14, rfl, f0, f1, f2, f3, f4, f5, f6, f7, f8, f9, f10⟩
structure AnZ where
 m : AnM
 ab : Option Addr
 ae : Option Addr
 ac : Option Addr
 ak : Option Addr
 cb : Nat
 ce : Nat
 cc : Nat
 ck : Nat
def anC (z : AnZ) : List Value := [.int .i64 z.m.err, .int .u64 z.m.handle, .int .i64 z.m.value, .bool z.m.found, .int .i64 z.m.n, .int .i64 z.m.ekey, .int .i64 z.m.eval, .int .i64 z.m.count, .int .i64 z.m.sum, .int .i64 z.m.mn, .int .i64 z.m.mx, .slice z.ae (Zo z.m.ents).length z.ce, .slice z.ac (Zn z.m.chs).length z.cc, .slice z.ak (Zb z.m.keys).length z.ck, .slice z.ab (Za z.m.bytes).length z.cb]
def anF (z : AnZ) : List HP := [Sh 5 1 (Za z.m.bytes) z.ab z.cb, Sh 27 2 (Zo z.m.ents) z.ae z.ce, Sh 88 4 (Zn z.m.chs) z.ac z.cc, Sh 2 1 (Zb z.m.keys) z.ak z.ck]
section
variable {H : Type} {enc : TypeId × Value → H} {w : World} {cs : List Value}
theorem Zek (h : Rdc enc Tryz.prog w 24 cs) : ∃ n, cs = [.int .i64 n] ∧ Z8 n := by
 obtain ⟨n, h1, h2, h3⟩ := h.int (k := .i64) (by kernel_rfl)
 exact ⟨n, h1, h2, h3⟩
theorem Zal (h : Rdc enc Tryz.prog w 32 cs) : ∃ (l : List Int) (a : Option Addr) (c : Nat), cs = [.slice a (Zb l).length c] ∧ DF l ∧ l.length ≤ maxLen ∧ ∀ e, Hw w (Sh e 1 (Zb l) a c) := by
 obtain ⟨a, c, ls, h1, h2, h3, h4⟩ := Rdc.slice (e := 2) (size := 1) h (by kernel_rfl) (by kernel_rfl) (by decide) (fun x hx => by
  obtain ⟨n, hn, _⟩ := YH hx
  exact one1 hn rfl)
 obtain ⟨m, rfl, hm⟩ := Ji (fun x : Int => [Value.int .i64 x]) (fun x => Z8 x) ls (fun x hx => by
  obtain ⟨n, hn, hb⟩ := YH (h3 x hx)
  exact ⟨n, hn, hb⟩)
 exact ⟨m, a, c, h1, hm, by simpa using h2, h4⟩
theorem CI (h : Rdc enc Tryz.prog w 35 cs) : ∃ z : AnZ, cs = anC z ∧ AnT z.m ∧ ∀ A ∈ anF z, Hw w A := by
 obtain ⟨c0, c1, c2, c3, c4, c5, c6, c7, c8, c9, c10, c11, c12, c13, c14, rfl, h0, h1, h2, h3, h4, h5, h6, h7, h8, h9, h10⟩ := Ze5 h
 obtain ⟨err, e0, w0⟩ := Zek h0
 obtain ⟨hd, e1, w1⟩ := Zc5 h1
 obtain ⟨val, e2, w2⟩ := YH h2
 obtain ⟨fd, e3⟩ := Zaq h3
 obtain ⟨n, e4, w4⟩ := Ud h4
 obtain ⟨en, e5, w5, w5'⟩ := U3 h5
 obtain ⟨s0, s1, s2, s3, es, g0, g1, g2, g3⟩ := Zev h6
 obtain ⟨cnt, i0, u0⟩ := Ud g0
 obtain ⟨sm, i1, u1⟩ := YH g1
 obtain ⟨mn, i2, u2⟩ := YH g2
 obtain ⟨mx, i3, u3⟩ := YH g3
 obtain ⟨le, ae, ce, e7, w7, _, s7⟩ := Zby h7
 obtain ⟨lc, ac, cc, e8, w8, _, s8⟩ := Zcr h8
 obtain ⟨lk, ak, ck, e9, w9, _, s9⟩ := Zal h9
 obtain ⟨l, ab, cb, e10, w10, _, s10⟩ := C0 h10
 cases e0; cases e1; cases e2; cases e3; cases e4; cases e5; cases es; cases i0; cases i1; cases i2; cases i3; cases e7; cases e8; cases e9; cases e10
 refine ⟨⟨⟨err, hd, val, fd, n, en.1, en.2, cnt, sm, mn, mx, le, lc, lk, l⟩, ab, ae, ac, ak, cb, ce, cc, ck⟩, rfl, ⟨w0, w1, w2, w4, w5, w5', u0, u1, u2, u3, w7, w8, w9, w10⟩, fun A hA => ?_⟩
 simp only [anF, List.mem_cons, List.not_mem_nil, or_false] at hA
 rcases hA with rfl | rfl | rfl | rfl
 ·exact s10 _
 ·exact s7 _
 ·exact s8 _
 ·exact s9 _
end
end Go.Proofs.YtlifpobidhfbfaaGreatDoor
namespace Go.V
open Go Go.RowKit Go.ChangeShapes Go.WideShapes
section
variable {H : Type} {enc : TypeId × Value → H} {P : Program}
def Rds (enc : TypeId × Value → H) (P : Program) (w : World) (t : TypeId) (cs : List Value) : Prop := ∃ n x, DataW.trod enc P w 0 (fun _ => true) true n t cs = some x ∧ ∀ m ∈ x.1.weights P t, m ≤ reachBytes
variable {w : World} {t e : TypeId} {cs : List Value}
theorem Rds.rdc (h : Rds enc P w t cs) : Rdc enc P w t cs := by
 obtain ⟨n, x, h, _⟩ := h; exact ⟨n, x, h⟩
theorem Rds.struct {fs : Array Field} (h : Rds enc P w t cs) (ht : P.underlying t = some (.struct fs)) {i : Nat} {f : Field} (hi : fs[i]? = some f) : Rds enc P w f.type ((cs.drop f.offset).take (P.cellsOf f.type)) := by
 obtain ⟨m, x, hx, hw⟩ := h
 obtain ⟨xs, n, _, rfl, hl, hlen, hf⟩ := DataW.trod_struct ht hx
 have hlt : i < xs.length := by rw [hlen]; exact (Array.getElem?_eq_some_iff.1 hi).1
 refine ⟨n, xs[i], by rw [hf i f hi, List.getElem?_eq_getElem hlt], fun k hk => hw k ?_⟩
 unfold DataW.weights
 rw [ht]
 exact DataW.weights_mem_each (j := i) (t := f.type) (d := xs[i].1) (by rw [List.getElem?_map, Array.getElem?_toList, hi]; rfl) (by rw [List.getElem?_map, List.getElem?_eq_getElem hlt]; rfl) k hk
theorem Zbs {ds : List (DataW H)} {d : DataW H} (hd : d ∈ ds) {k : Nat} (hk : k ∈ d.weights P e) : k ∈ DataW.weightsAll P e ds := by
 induction ds with
 | nil => cases hd
 | cons x ds ih =>
  unfold DataW.weightsAll
  rcases List.mem_cons.1 hd with rfl | hd
  ·exact List.mem_append_left _ hk
  ·exact List.mem_append_right _ (ih hd)
theorem Rds.len {a : Option Addr} {l c : Nat} (h : Rds enc P w t [.slice a l c]) (ht : P.underlying t = some (.slice e)) (hb : 1 ≤ P.bytesOf e) : l ≤ reachBytes := by
 obtain ⟨m, x, hx, hw⟩ := h
 rcases Go.Deep.open_slice ht hx with ⟨h1, _⟩ | ⟨a, len, cap, mm, n, D, Pl, h1, _, hlc, hcm, hmm, rfl, hel⟩
 ·cases h1; exact Nat.zero_le _
 ·cases h1
  have h2 := hw ((((List.range l).map D).length + ((List.range (mm - l)).map fun j => D (l + j)).length) * P.bytesOf e) (by unfold DataW.weights; rw [ht]; exact List.mem_cons_self ..)
  simp only [List.length_map, List.length_range] at h2
  have h3 : l * 1 ≤ (l + (mm - l)) * P.bytesOf e := Nat.mul_le_mul (by omega) hb
  omega
theorem Rds.slice {size : Nat} (h : Rds enc P w t cs) (ht : P.underlying t = some (.slice e)) (hc : P.cellsOf e = size) (hp : 0 < size) (ho : ∀ x, Rds enc P w e x → x.length = size ∧ ∀ u ∈ x, u.oneCell' = true) :
  ∃ a c ls, cs = [.slice a ls.length c] ∧ ls.length ≤ maxLen ∧ (∀ x ∈ ls, Rds enc P w e x) ∧ ∀ e', Hw w (Sh e' size ls a c) := by
 obtain ⟨m, x, hx, hw⟩ := h
 rcases Go.Deep.open_slice ht hx with ⟨h1, _⟩ | ⟨a, len, cap, mm, n, D, Pl, h1, _, hlc, hcm, hmm, rfl, hel⟩
 ·exact ⟨none, 0, [], h1, Nat.zero_le _, (fun _ h => by cases h), fun _ _ _ => ⟨OkE.nil _, Nat.zero_le _, fun h => by simp at h⟩⟩
 ·simp only [if_true] at hmm
  subst hmm
  rw [hc] at hel
  obtain ⟨ls, h2, h3, h4⟩ := Zca (w := w) (Rp := Rds enc P w e) hlc (fun i hi => by
   obtain ⟨cs', q1, q2⟩ := hel i (by omega)
   refine ⟨cs', q1, n, _, q2, fun k hk => hw k ?_⟩
   unfold DataW.weights
   rw [ht]
   exact List.mem_cons_of_mem _ (List.mem_append_left _ (Zbs (List.mem_map.2 ⟨i, List.mem_range.2 hi, rfl⟩) hk))) hp ho
  exact ⟨some a, mm, ls, by rw [h2]; exact h1, by rw [h2]; omega, h3, h4⟩
theorem Rds.arg {ts : List TypeId} {vs : List Value} {ds gs : List (DataW H)} {us : List TypeId} {p : List MemPlace} (hA : DataW.TrodAll enc P w 0 (fun _ => true) true ts vs ds p) (hz : (DataW.weightsEach P (ts ++ us) (ds ++ gs)).all (· ≤ reachBytes) = true) :
  ∀ (j : Nat) (t : TypeId) (v : Value), ts[j]? = some t → vs[j]? = some v → Rds enc P w t v.cells.toList := by
 have key : ∀ {ts : List TypeId} {vs : List Value} {ds : List (DataW H)} {p : List MemPlace}, DataW.TrodAll enc P w 0 (fun _ => true) true ts vs ds p → ∀ (j : Nat) (t : TypeId) (v : Value), ts[j]? = some t → vs[j]? = some v → ∃ d n q, ds[j]? = some d ∧ DataW.trod enc P w 0 (fun _ => true) true n t v.cells.toList = some (d, q) := by
  intro ts
  induction ts with
  | nil => intro vs ds p _ j t v h; simp at h
  | cons t0 ts ih =>
   intro vs ds p hA j t v ht hv
   match vs, ds, hA with
   | v0 :: vs, d0 :: ds, ⟨p1, p2, h1, h2, _⟩ =>
    cases j with
    | zero =>
     simp only [List.getElem?_cons_zero, Option.some.injEq] at ht hv
     subst ht; subst hv
     obtain ⟨n, hn⟩ := h1
     exact ⟨d0, n, p1, rfl, hn⟩
    | succ j => exact ih h2 j t v (by simpa using ht) (by simpa using hv)
 intro j t v ht hv
 obtain ⟨d, n, q, hd, hn⟩ := key hA j t v ht hv
 refine ⟨n, (d, q), hn, fun k hk => ?_⟩
 have h1 : (ts ++ us)[j]? = some t := by rw [List.getElem?_append_left (List.getElem?_eq_some_iff.1 ht).1]; exact ht
 have h2 : (ds ++ gs)[j]? = some d := by rw [List.getElem?_append_left (List.getElem?_eq_some_iff.1 hd).1]; exact hd
 exact of_decide_eq_true (List.all_eq_true.1 hz k (DataW.weights_mem_each h1 h2 k hk))
end
end Go.V
namespace Go.Proofs.YtlifpobidhfbfaaGreatDoor
open Go Go.V Go.RowKit
set_option maxRecDepth 100000
variable {H : Type} {enc : TypeId × Value → H} {w : World} {cs : List Value}
def toS (z : AnZ) : AnS := ⟨z.m, z.ab, z.ae, z.ac, z.ak, z.cb, z.ce, z.cc, z.ck⟩
theorem Zdg {z : AnZ} (h : Rds enc Tryz.prog w 35 (anC z)) : z.m.ents.length ≤ reachBytes ∧ z.m.chs.length ≤ reachBytes ∧ z.m.keys.length ≤ reachBytes ∧ z.m.bytes.length ≤ reachBytes := by
 have q : ∀ {i : Nat} {f : Field} {fs : Array Field} {a : Option Addr} {l c : Nat} {e : TypeId}, Tryz.prog.underlying 35 = some (.struct fs) → fs[i]? = some f → ((anC z).drop f.offset).take (Tryz.prog.cellsOf f.type) = [.slice a l c] → Tryz.prog.underlying f.type = some (.slice e) → 1 ≤ Tryz.prog.bytesOf e → l ≤ reachBytes := fun h1 h2 h3 h4 h5 => by
  have h6 := h.struct h1 h2
  rw [h3] at h6
  exact h6.len h4 h5
 obtain ⟨fs, hfs⟩ : ∃ fs, Tryz.prog.underlying 35 = some (.struct fs) := ⟨_, Tryz.underlying35⟩
 cases (Tryz.underlying35).symm.trans hfs
 have b7 := q (i := 7) (e := 27) (l := (Zo z.m.ents).length) (a := z.ae) (c := z.ce) hfs rfl rfl (by kernel_rfl) (of_decide_eq_true (by kernel_rfl))
 rw [Z_] at b7
 have b8 := q (i := 8) (e := 88) (l := (Zn z.m.chs).length) (a := z.ac) (c := z.cc) hfs rfl rfl (by kernel_rfl) (of_decide_eq_true (by kernel_rfl))
 rw [Z9] at b8
 have b9 := q (i := 9) (e := 2) (l := (Zb z.m.keys).length) (a := z.ak) (c := z.ck) hfs rfl rfl (by kernel_rfl) (of_decide_eq_true (by kernel_rfl))
 rw [Zh] at b9
 have b10 := q (i := 10) (e := 5) (l := (Za z.m.bytes).length) (a := z.ab) (c := z.cb) hfs rfl rfl (by kernel_rfl) (of_decide_eq_true (by kernel_rfl))
 rw [Zf] at b10
 exact ⟨b7, b8, b9, b10⟩
theorem Zdf (h : Rds enc Tryz.prog w 22 cs) : ∃ (zs : List AnS) (a : Option Addr) (c : Nat), cs = [.slice a (Z5 zs).length c] ∧ (∀ z ∈ zs, AnB z) ∧ zs.length ≤ maxLen ∧ (∀ e, Hw w (Sh e 15 (Z5 zs) a c)) ∧ Hw w (ZP Go.V.anF zs) := by
 obtain ⟨a, c, ls, h1, h2, h3, h4⟩ := Rds.slice (e := 35) (size := 15) h (by kernel_rfl) (by kernel_rfl) (by decide) (fun x hx => by
  obtain ⟨n, hn, _⟩ := CI hx.rdc
  subst hn; exact Zdc [toS n] _ (List.mem_singleton.2 rfl))
 obtain ⟨m, rfl, hm⟩ := Ji Go.V.anC (fun z => AnB z ∧ ∀ A ∈ Go.V.anF z, Hw w A) ls (fun x hx => by
  obtain ⟨n, hn, hb, hA⟩ := CI (h3 x hx).rdc
  have h5 := h3 x hx
  rw [hn] at h5
  obtain ⟨s1, s2, s3, s4⟩ := Zdg h5
  exact ⟨toS n, hn, ⟨hb, s1, s2, s3, s4⟩, hA⟩)
 refine ⟨m, a, c, h1, fun z hz => (hm z hz).1, by simpa using h2, h4, fun r hr z hz => ?_⟩
 have h5 := (hm z hz).2
 have : ∀ M : List HP, (∀ A ∈ M, Hw w A) → All M (fun _ => none) r := by
  intro M
  induction M with
  | nil => exact fun _ => trivial
  | cons A M ih => exact fun hM => ⟨fun _ => none, fun _ => none, Sub.refl _, Sub.refl _, Dj.none _, hM A (List.mem_cons_self ..) r hr, ih fun B hB => hM B (List.mem_cons_of_mem _ hB)⟩
 exact this _ h5
end Go.Proofs.YtlifpobidhfbfaaGreatDoor
namespace Go.Proofs.YtlifpobidhfbfaaGreatDoor
open Go Go.V Go.RowKit Go.ChangeShapes Go.WideShapes
set_option maxRecDepth 100000
theorem sans_calls {H : Type} {enc : TypeId × Value → H} {W : World} {base : Nat} {args : List Value} (h : AOk enc Tryz.prog W base [22, 3] args) (hz : ∀ (j : Nat) (t : TypeId) (v : Value), [22, 3][j]? = some t → args[j]? = some v → Rds enc Tryz.prog W t v.cells.toList) :
  Calls Tryz.prog 3 args.toArray W fun e W' => e = .returned (.bool true) ∧ Below W.heap.size W W' := by
 obtain ⟨v0, vs0, rfl, k0, r0, h⟩ := h.cons
 obtain ⟨v1, vs1, rfl, k1, r1, h⟩ := h.cons
 obtain rfl := h.nil
 have z0 := hz 0 22 v0 rfl rfl
 obtain ⟨l0, a0, c0, e0, h0, m0, s0, t0⟩ := Zdf z0
 obtain ⟨n1, e1, h1⟩ := Ud r1
 obtain rfl := HQ (D5 k0 Tryz.underlying22) e0
 obtain rfl := HQ (Zao k1 Tryz.underlying3) e1
 have Z := St.start W
 have Z := t0.add Z
 have Z := (s0 35).add Z
 exact Dy (Cy l0 a0 c0 n1 h0 m0 h1 Z)
theorem sans_own : ownKnob Tryz.prog.godebug = none := by kernel_rfl
theorem sans_lifted (os : Os) (started : os.Started) (H : Type) (enc : TypeId × Value → H) :
  ReturnsInHanded {} Tryz.checked os 3 .any (fun w args => (Rows.scriptAnswersSpec.pre enc Tryz.prog Tryz.f3 Rows.scriptAnswersRow.domain false w args ∧ laidMetH Tryz.prog Rows.scriptAnswersRow.laid w) ∧ sizedMet enc Tryz.prog Tryz.f3 (OpenSpec.ofChange Rows.scriptAnswersSpec) false w args)
   (Rows.scriptAnswersSpec.post enc Tryz.prog Tryz.f3 false true false false) := by
 refine returnsInHanded_of_change_and (C := Tryz.checked) (X := fun w _ => laidMetH Tryz.prog Rows.scriptAnswersRow.laid w) (fun _ _ _ hh h => h.of_heap hh) sans_own started (by kernel_rfl) Tryz.func3
  (ChangeSpec.witness_shaped (enc := enc) (C := Tryz.checked) (os := os) (X := fun w _ => laidMetH Tryz.prog Rows.scriptAnswersRow.laid w) false (World.laidAll Tryz.prog os Rows.scriptAnswersRow.laid) #[.slice none 0 0, .int .i64 0] 8 (World.laidAll_os _ _ _)
   (World.shaped_of_ZipB (by kernel_rfl) (by kernel_rfl)) (by kernel_rfl) (by kernel_rfl) (by kernel_rfl)
   (by rw [MakeChecks.laidMetH_plain _ _ _ (by kernel_rfl)]; exact laidMet_laidAll _ (by kernel_rfl) (by kernel_rfl))) ?_
 intro W base args ds gs before hval0 hW _ hwt0 hL _
 have hval : ∀ (j : Nat) t v, Tryz.f3.params[j]? = some t → args[j]? = some v → Value.okWide Tryz.prog W .any base t v := hval0
 have hW0 := hW
 obtain ⟨p, q, hA0, _⟩ := hW
 have hA : DataW.TrodAll enc Tryz.prog W 0 (fun _ => true) true Tryz.f3.params.toList args.toList ds p := hA0
 have hwt : (DataW.weightsEach Tryz.prog (Tryz.f3.params.toList ++ Rows.scriptAnswersSpec.plain.varTypes Tryz.prog) (ds ++ gs)).all (· ≤ reachBytes) = true := hwt0
 have hz := Rds.arg hA hwt
 rw [Tryz.params3] at hz
 rw [Tryz.params3] at hA hval
 clear hA0 hval0 hL hwt0 hwt
 have hc := sans_calls (AOk.args hA hval) (fun j t v ht hv => hz j t v (by simpa using ht) (by simpa using hv))
 rw [Array.toArray_toList] at hc
 refine hc.mono fun e W' ⟨he, hb⟩ => ⟨_, he, ?_⟩
 refine CP rfl hW0 (by kernel_rfl) ?_ (by kernel_rfl) Tryz.underlying4 ?_ hb
 ·exact fun t ht => by
   simp only [Tryz.params3, List.mem_cons, List.not_mem_nil, or_false] at ht
   rcases ht with rfl | rfl <;> exact ⟨by kernel_rfl, of_decide_eq_true (by kernel_rfl)⟩
 ·intro hd
  match ds, hd with
  | [d1, d2], _ => exact ⟨rfl, rfl, rfl⟩
theorem sans_row : Rows.ScriptAnswersSaid :=
 OpenClaim.holds_of_wide 3 Tryz.f3 rfl rfl rfl rfl rfl rfl rfl ⟨rfl, rfl, rfl, rfl, rfl⟩ rfl rfl rfl rfl rfl (by kernel_rfl) Tryz.func3 sans_closed
  (of_decide_eq_true (by kernel_rfl)) (by unfold Func.isWrapper; first | (rw [if_pos (by decide +kernel)]; kernel_rfl) | (rw [if_neg (by decide +kernel)]; exact ⟨rfl, rfl⟩))
  (fun os started H enc _ => sans_lifted os started H enc)
theorem sans_holds : Rows.ScriptAnswersCardSaid :=
 Claim7.holds_tied_plain_at .later [] [.data, .pinned] true (true, "caff79977a71195ad39dd20c99d916773379b558335d3ce915311e26ab011e00") false sans_row (fun _ h => by cases h) (by kernel_rfl) (fun _ h => by cases h) scriptAnswers_row_tie rfl ⟨rfl, rfl⟩ (by kernel_rfl) rfl
  (fun f fn hf hfn => by
   obtain rfl : f = 3 := Option.some.inj ((show Tryz.prog.funcNamed "versionmap/versionmaplaw32.ScriptAnswers" = some 3 by kernel_rfl).symm.trans hf) |>.symm
   obtain rfl : fn = Tryz.f3 := (Option.some.inj (Tryz.func3.symm.trans hfn)).symm
   exact ⟨sans_looks, fun j t ht => by
    rw [Tryz.params3] at ht
    have hm : t ∈ [22, 3] := by simpa using Array.mem_of_getElem? ht
    have hall : ([22, 3].all fun u => !Tryz.prog.wantsStandIn u) = true := by kernel_rfl
    exact (show Tryz.prog.wantsStandIn t = false by simpa using List.all_eq_true.1 hall t hm)⟩)
  sans_goes
end Go.Proofs.YtlifpobidhfbfaaGreatDoor
