/-
  The row of VersionsAgree: for every input the law returns true, and the arguments read as before.
  Conditions: none.
-/
import Derived.Test.YtbeacjcmdijdmaaGreatZvaE
set_option maxRecDepth 8192
namespace Go.Proofs.YtbeacjcmdijdmaaGreat
open Go Go.V Go.RowKit
def ZG (A : AM) (i : Int) : Nd := if A.s.ok i = true then A.nd i else Nd.zero
theorem Zen {A : AM} {i : Int} (h : A.s.ok i = true) : ZG A i = A.nd i := if_pos h
theorem Zfm {A : AM} (i : Int) : (ZG A i).size = A.sz i := by
 unfold ZG AM.sz
 split <;> rfl
theorem Xd {A : AM} {R : List Int} (h : ARf A R) {t : Tr} {i : Int} (hi : Is A t i) : 0 ≤ i ∧ i ≤ 65536 := by
 have := h.okrng hi.ref; omega
theorem Zkv {A : AM} {R : List Int} (h : ARf A R) {t : Tr} {i : Int} (hi : Is A t i) (hs : Srt t.ls) : (t.n : Int) ≤ A.s.cap := by
 have h1 := X3 A.s.cap.toNat (ixs A t i) (Zau hi hs) fun j hj => by
  have h2 := Zb7 A t i hi j hj
  have h3 := SM.ok_rng h.s (i := j) (by omega) h2.2
  have := Yj h; omega
 rw [Zbp A hi] at h1
 have := Yj h; omega
theorem is_n {A : AM} {R : List Int} (h : ARf A R) {t : Tr} {i : Int} (hi : Is A t i) : (t.n : Int) ≤ 2147483647 := by
 rw [← Is.sz h t i hi]
 rcases hi.ref with e | ⟨e1, e2⟩
 ·subst e; rw [sz_0 h.s]; decide
 ·rw [Zc1 e2]; exact (h.sz i e2 (by omega)).2
theorem Jw {l r : Tr} {k v : Int} (h : Srt (Tr.node l k v r).ls) : Srt l.ls ∧ Srt r.ls ∧ (∀ x ∈ l.ls, x.1 < k) ∧ ∀ x ∈ r.ls, k < x.1 := by
 have h1 := Srt.app (a := l.ls) (b := (k, v) :: r.ls) h
 have h2 := List.pairwise_cons.1 h1.2.1
 exact ⟨h1.1, h2.2, fun x hx => h1.2.2 x hx (k, v) (by simp), fun x hx => h2.1 x hx⟩
theorem X4 {g w : World} {L : List HP} (A : AM) (R : List Int) (da fa : Option Addr) (dc fc : Nat) (i : Int) (hA : ARf A R) (hi : 0 ≤ i ∧ i ≤ 4294967295) (Z : St g (Sh 174 11 (Zo (AM.dmp A)) da dc :: L) w) :
  Sp Tryz.prog 86 [.agg #[.slice da (Zo (AM.dmp A)).length dc, .slice fa (Za (SM.order A.s)).length fc], .int .u32 i] w (fun v w' => v = .agg #[.int .i64 (ZG A i).key, .int .i64 (ZG A i).val, .int .u32 (ZG A i).lf, .int .u32 (ZG A i).rg, .int .i64 (ZG A i).size, .int .i64 (ZG A i).sum, .int .i64 (ZG A i).mn, .int .i64 (ZG A i).mx] ∧ St g (Sh 174 11 (Zo (AM.dmp A)) da dc :: L) w') := by
 refine Sp.enter Tryz.func86 rfl (by kernel_rfl) (by kernel_rfl) ?_
 refine WC.seq <| WC.region <| WL.box rfl rfl #[.slice da (Zo (AM.dmp A)).length dc, .slice fa (Za (SM.order A.s)).length fc] Z rfl rfl (fun b1 w Z => ?_)
 refine WL.new rfl rfl YS Z (fun b2 w Z => ?_)
 refine WL.nil <| WC.seq <| WC.seq <| WC.region ?_
 have hn := Zac A; have hcr := Yj hA
 refine WL.ldF rfl rfl 1 Z rfl rfl ZA <| WL.r 1 rfl <| WL.call rfl rfl (XQ (A := A) (fa := fa) (fc := fc) (i := i) (hA := hA) (hi := hi) (Z := (Z.sel 3 [2, 0, 0] rfl))) rfl ?_
 clear Z; rintro _ w ⟨b3, rfl, Z, f1⟩
 replace Z := Z.n3 L (a1 := Ze b2 #[.int .i64 0, .int .i64 0, .int .u32 0, .int .u32 0, .int .i64 0, .int .i64 0, .int .i64 0, .int .i64 0] 172) (a2 := Ze b1 #[.slice da (Zo (AM.dmp A)).length dc, .slice fa (Za (SM.order A.s)).length fc] 62) rfl
 refine WL.r 1 rfl <| WL.nil <| WC.if_ rfl (fun cd1 => ?_) (fun cd1 => ?_)
 ·refine WC.seq <| WC.region <| WL.build rfl rfl (cs := [.int .i64 0, .int .i64 0, .int .u32 0, .int .u32 0, .int .i64 0, .int .i64 0, .int .i64 0, .int .i64 0]) YS rfl rfl <| WL.stF rfl rfl rfl 1 Z rfl rfl rfl rfl rfl ZY (fun w Z => ?_)
  replace Z := Z.n3 L rfl
  refine WL.nil <| WC.ret ?_
  refine ⟨[.agg #[.int .i64 0, .int .i64 0, .int .u32 0, .int .u32 0, .int .i64 0, .int .i64 0, .int .i64 0, .int .i64 0]], ⟨⟨_, rfl, Z.lvF 1 rfl ZY⟩, trivial⟩, ?_⟩
  replace Z := (Z.sel 3 [0] rfl)
  exact ⟨by have h9 : ¬ A.s.ok i = true := (by rw [← f1]; simpa using cd1); unfold ZG; rw [if_neg h9]; rfl, Z⟩
 ·refine WC.skip <| WC.seq <| WC.region ?_
  have hok : A.s.ok i = true := (by rw [← f1]; simpa using cd1); have hor := SM.ok_rng hA.s (i := i) hi.1 hok; have hfr := hA.s.fr
  refine WL.run 4 [.slice da (Zo (AM.dmp A)).length dc] rfl (by exact Z.ld 2 rfl rfl) ?_
  refine WL.nw 13 rfl (Yq (by omega)) ?_
  refine WL.ix rfl rfl (i := i - 1) (i.toNat - 1) el_60 rfl rfl (by omega) (by omega) (Z.rdS 0 rfl (Yd (AM.dmp_at (A := A) (k := i.toNat - 1) (by omega)))).1 ?_
  refine WL.r 1 rfl <| WL.ldC rfl rfl [.int .i64 (A.dmpAt (((i.toNat - 1 : Nat) : Int) + 1)).nd.key, .int .i64 (A.dmpAt (((i.toNat - 1 : Nat) : Int) + 1)).nd.val, .int .u32 (A.dmpAt (((i.toNat - 1 : Nat) : Int) + 1)).nd.lf, .int .u32 (A.dmpAt (((i.toNat - 1 : Nat) : Int) + 1)).nd.rg, .int .i64 (A.dmpAt (((i.toNat - 1 : Nat) : Int) + 1)).nd.size, .int .i64 (A.dmpAt (((i.toNat - 1 : Nat) : Int) + 1)).nd.sum, .int .i64 (A.dmpAt (((i.toNat - 1 : Nat) : Int) + 1)).nd.mn, .int .i64 (A.dmpAt (((i.toNat - 1 : Nat) : Int) + 1)).nd.mx] ZY rfl (RdE.sub (Z.rdS 0 rfl (Yd (AM.dmp_at (A := A) (k := i.toNat - 1) (by omega)))).2 3 [.int .i64 (A.dmpAt (((i.toNat - 1 : Nat) : Int) + 1)).nd.key, .int .i64 (A.dmpAt (((i.toNat - 1 : Nat) : Int) + 1)).nd.val, .int .u32 (A.dmpAt (((i.toNat - 1 : Nat) : Int) + 1)).nd.lf, .int .u32 (A.dmpAt (((i.toNat - 1 : Nat) : Int) + 1)).nd.rg, .int .i64 (A.dmpAt (((i.toNat - 1 : Nat) : Int) + 1)).nd.size, .int .i64 (A.dmpAt (((i.toNat - 1 : Nat) : Int) + 1)).nd.sum, .int .i64 (A.dmpAt (((i.toNat - 1 : Nat) : Int) + 1)).nd.mn, .int .i64 (A.dmpAt (((i.toNat - 1 : Nat) : Int) + 1)).nd.mx] rfl) ?_
  refine WL.stF rfl rfl rfl 1 Z rfl rfl rfl rfl rfl ZY (fun w Z => ?_)
  replace Z := Z.n3 L (a1 := Ze b2 #[.int .i64 (A.dmpAt (((i.toNat - 1 : Nat) : Int) + 1)).nd.key, .int .i64 (A.dmpAt (((i.toNat - 1 : Nat) : Int) + 1)).nd.val, .int .u32 (A.dmpAt (((i.toNat - 1 : Nat) : Int) + 1)).nd.lf, .int .u32 (A.dmpAt (((i.toNat - 1 : Nat) : Int) + 1)).nd.rg, .int .i64 (A.dmpAt (((i.toNat - 1 : Nat) : Int) + 1)).nd.size, .int .i64 (A.dmpAt (((i.toNat - 1 : Nat) : Int) + 1)).nd.sum, .int .i64 (A.dmpAt (((i.toNat - 1 : Nat) : Int) + 1)).nd.mn, .int .i64 (A.dmpAt (((i.toNat - 1 : Nat) : Int) + 1)).nd.mx] 172) rfl
  refine WL.nil ?_
  as_aux_lemma =>
  refine WC.ret ?_
  refine ⟨[.agg #[.int .i64 (A.dmpAt (((i.toNat - 1 : Nat) : Int) + 1)).nd.key, .int .i64 (A.dmpAt (((i.toNat - 1 : Nat) : Int) + 1)).nd.val, .int .u32 (A.dmpAt (((i.toNat - 1 : Nat) : Int) + 1)).nd.lf, .int .u32 (A.dmpAt (((i.toNat - 1 : Nat) : Int) + 1)).nd.rg, .int .i64 (A.dmpAt (((i.toNat - 1 : Nat) : Int) + 1)).nd.size, .int .i64 (A.dmpAt (((i.toNat - 1 : Nat) : Int) + 1)).nd.sum, .int .i64 (A.dmpAt (((i.toNat - 1 : Nat) : Int) + 1)).nd.mn, .int .i64 (A.dmpAt (((i.toNat - 1 : Nat) : Int) + 1)).nd.mx]], ⟨⟨_, rfl, Z.lvF 1 rfl ZY⟩, trivial⟩, ?_⟩
  replace Z := (Z.sel 3 [0] rfl)
  exact ⟨by have h8 : ((i.toNat - 1 : Nat) : Int) + 1 = i := (by omega); rw [h8]; unfold ZG; rw [if_pos hok]; rfl, Z⟩
set_option maxHeartbeats 1000000 in
theorem Zd6 (nM : Nat) (ih : ∀ mM : Nat, mM < nM → ∀ (g w : World) (L : List HP) (A : AM) (R : List Int) (da fa : Option Addr) (dc fc : Nat) (p : Nat) (i last most : Int) (any : Bool) (t : Tr), (ARf A R) → (Is A t i) → (Srt t.ls) → (any = true → ∀ x ∈ t.ls, last < x.1) → ((t.n : Int) ≤ most ∧ most ≤ 1000000) → t.n = mM → St g (Ze p #[.slice da (Zo (AM.dmp A)).length dc, .slice fa (Za (SM.order A.s)).length fc, .int .i64 last, .bool any, .int .i64 most] 257 :: Sh 174 11 (Zo (AM.dmp A)) da dc :: L) w → Sp Tryz.prog 152 [.pointer (some ⟨p, 0, none⟩), .int .u32 i] w (fun v w' => ∃ (last2 : Int) (any2 : Bool), v = .bool true ∧ St g (Ze p #[.slice da (Zo (AM.dmp A)).length dc, .slice fa (Za (SM.order A.s)).length fc, .int .i64 last2, .bool any2, .int .i64 (most - (t.n : Int))] 257 :: Sh 174 11 (Zo (AM.dmp A)) da dc :: L) w' ∧ (any2 = true → (any = true ∧ last2 = last) ∨ ∃ x ∈ t.ls, x.1 = last2))) {g w : World} {L : List HP} (A : AM) (R : List Int) (da fa : Option Addr) (dc fc : Nat) (p : Nat) (i last most : Int) (any : Bool) (t : Tr) (hA : ARf A R) (hi : Is A t i) (hs : Srt t.ls) (hl : any = true → ∀ x ∈ t.ls, last < x.1) (hm : (t.n : Int) ≤ most ∧ most ≤ 1000000) (hM : t.n = nM) (Z : St g (Ze p #[.slice da (Zo (AM.dmp A)).length dc, .slice fa (Za (SM.order A.s)).length fc, .int .i64 last, .bool any, .int .i64 most] 257 :: Sh 174 11 (Zo (AM.dmp A)) da dc :: L) w) :
  Sp Tryz.prog 152 [.pointer (some ⟨p, 0, none⟩), .int .u32 i] w (fun v w' => ∃ (last2 : Int) (any2 : Bool), v = .bool true ∧ St g (Ze p #[.slice da (Zo (AM.dmp A)).length dc, .slice fa (Za (SM.order A.s)).length fc, .int .i64 last2, .bool any2, .int .i64 (most - (t.n : Int))] 257 :: Sh 174 11 (Zo (AM.dmp A)) da dc :: L) w' ∧ (any2 = true → (any = true ∧ last2 = last) ∨ ∃ x ∈ t.ls, x.1 = last2)) := by
 refine Sp.enter Tryz.func152 rfl (by kernel_rfl) (by kernel_rfl) ?_
 have _ := hm
 refine WC.seq <| WC.region <| WL.r 1 rfl <| WL.nil <| WC.seq <| WC.seq <| WC.region ?_
 have hx0 := Is.nil_iff hi; have hir := Xd hA hi
 refine WL.r 2 rfl <| WL.nil <| WC.ifP rfl (fun hx => ?_) (fun hx => ?_)
 ·refine WC.seq <| WC.region <| WL.r 1 rfl <| WL.nil <| WC.ret ?_
  refine ⟨[.bool true], rfl, ?_⟩
  have h9 := hx0.1 hx; subst h9; rw [show most = most - ((Tr.n .nil : Nat) : Int) from (Int.sub_zero _).symm] at Z; exact ⟨last, any, rfl, Z, fun h => .inl ⟨h, rfl⟩⟩
 ·refine WC.skip <| WC.seq <| WC.seq <| WC.region ?_
  obtain ⟨tl, k, z, tr, ht⟩ := Qr (t := t) (fun e => hx (hx0.2 e)); have htn : t.n = tl.n + tr.n + 1 := (by rw [ht]; rfl); have hi2 : Is A (.node tl k z tr) i := ht ▸ hi; have e7 : ZG A i = A.nd i := Zen hi2.2.1; have hk7 : (ZG A i).key = k := (by rw [e7]; exact hi2.2.2.1); have hs7 := Jw (ht ▸ hs); have hls : t.ls = tl.ls ++ (k, z) :: tr.ls := (by rw [ht]; rfl); have hl7 : Is A tl (ZG A i).lf := (by rw [e7]; exact hi2.2.2.2.2.1); have hr7 : Is A tr (ZG A i).rg := (by rw [e7]; exact hi2.2.2.2.2.2); have hlr := Xd hA hl7; have hrr := Xd hA hr7
  refine WL.run 5 [.int .i64 most] rfl (by exact Z.ld 0 rfl rfl) ?_
  refine WL.nil <| WC.ifF rfl (decide_eq_false ((by omega))) ?_
  refine WC.skip <| WC.seq <| WC.region <| WL.run 5 [.int .i64 most] rfl (by exact Z.ld 0 rfl rfl) ?_
  refine WL.nw 17 rfl (Zr (by omega)) ?_
  refine WL.r 2 rfl <| WL.st rfl rfl rfl 0 Z rfl rfl rfl rfl rfl rfl (fun w Z => ?_)
  replace Z := Z.n2 L (a0 := Ze p #[.slice da (Zo (AM.dmp A)).length dc, .slice fa (Za (SM.order A.s)).length fc, .int .i64 last, .bool any, .int .i64 (most - 1)] 257) rfl
  refine WL.nil ?_
  as_aux_lemma =>
  refine WC.seq <| WC.region <| WL.r 3 rfl <| WL.ldC rfl rfl [.slice da (Zo (AM.dmp A)).length dc, .slice fa (Za (SM.order A.s)).length fc] ZA rfl (Z.part 0 rfl rfl) <| WL.r 1 rfl <| WL.call rfl rfl (X4 (A := A) (fa := fa) (fc := fc) (i := i) (hA := hA) (hi := (by omega)) (Z := (Z.sel 2 [1, 0] rfl))) rfl ?_
  clear Z; rintro _ w ⟨rfl, Z⟩
  replace Z := Z.n2 L rfl
  refine WL.new rfl rfl YS Z (fun b1 w Z => ?_)
  refine WL.stF rfl rfl rfl 0 Z rfl rfl rfl rfl rfl ZY (fun w Z => ?_)
  replace Z := Z.n3 L (a0 := Ze b1 #[.int .i64 (ZG A i).key, .int .i64 (ZG A i).val, .int .u32 (ZG A i).lf, .int .u32 (ZG A i).rg, .int .i64 (ZG A i).size, .int .i64 (ZG A i).sum, .int .i64 (ZG A i).mn, .int .i64 (ZG A i).mx] 172) rfl
  refine WL.nil <| WC.seq <| WC.seq <| WC.region <| WL.run 3 [.int .u32 (ZG A i).lf] rfl (by exact Z.ld 0 rfl rfl) ?_
  refine WL.call rfl rfl (ih (tl.n) (by omega) _ _ _ A R da fa dc fc p (ZG A i).lf last (most - 1) any tl (hA) (hl7) (hs7.1) ((fun h x hx => hl h x (by rw [hls]; exact List.mem_append_left _ hx))) ((by omega)) rfl (Z.sel 3 [2, 1, 0] rfl)) rfl ?_
  clear Z; rintro _ w ⟨last1, any1, rfl, Z, f1⟩
  replace Z := Z.n3 L (a0 := Ze p #[.slice da (Zo (AM.dmp A)).length dc, .slice fa (Za (SM.order A.s)).length fc, .int .i64 last1, .bool any1, .int .i64 ((most - 1) - (tl.n : Int))] 257) rfl
  refine WL.r 1 rfl <| WL.nil <| WC.ifF rfl rfl <| WC.skip <| WC.seq <| WC.seq <| WC.plan [([0, 1, 2, 3, 4, 5, 7, 6, 8, 9, 10, 11, 12], none)] (by kernel_rfl) (by kernel_rfl) ?_
  refine WQ.run 4 [.bool any1] rfl (by exact Z.ld 0 rfl rfl) ?_
  refine WQ.runG 9 [.int .i64 (ZG A i).key, .int .i64 last1] rfl (by exact ⟨fun _ => Z.ld 2 rfl rfl, fun _ => Z.ld 0 rfl rfl⟩) (fun j => ?_)
  refine WQ.prop 43 rfl (Qd (dv _) (dd _)) <| WQ.nil ?_
  intro m1
  replace Z := Z.drewN m1; generalize hwm1 : World.drewN _ _ = w at *; clear hwm1
  as_aux_lemma =>
  refine WC.ifF rfl (decide_eq_false ((fun h9 => by rw [hk7] at h9; exact (f1 h9.1).elim (fun ⟨h1, h2⟩ => by have h3 : last < k := hl h1 (k, z) (by rw [hls]; simp); omega) (fun ⟨x, hx, h2⟩ => by have := hs7.2.2.1 x hx; omega)))) ?_
  refine WC.skip <| WC.seq <| WC.region <| WL.run 6 [.int .i64 (ZG A i).key] rfl (by exact Z.ld 2 rfl rfl) ?_
  refine WL.st rfl rfl rfl 0 Z rfl rfl rfl rfl rfl rfl (fun w Z => ?_)
  replace Z := Z.n3 L (a0 := Ze p #[.slice da (Zo (AM.dmp A)).length dc, .slice fa (Za (SM.order A.s)).length fc, .int .i64 (ZG A i).key, .bool any1, .int .i64 ((most - 1) - (tl.n : Int))] 257) rfl
  refine WL.r 2 rfl <| WL.st rfl rfl rfl 0 Z rfl rfl rfl rfl rfl rfl (fun w Z => ?_)
  replace Z := Z.n3 L (a0 := Ze p #[.slice da (Zo (AM.dmp A)).length dc, .slice fa (Za (SM.order A.s)).length fc, .int .i64 (ZG A i).key, .bool true, .int .i64 ((most - 1) - (tl.n : Int))] 257) rfl
  refine WL.nil <| WC.seq <| WC.region <| WL.run 3 [.int .u32 (ZG A i).rg] rfl (by exact Z.ld 2 rfl rfl) ?_
  refine WL.call rfl rfl (ih (tr.n) (by omega) _ _ _ A R da fa dc fc p (ZG A i).rg (ZG A i).key ((most - 1) - (tl.n : Int)) true tr (hA) (hr7) (hs7.2.1) ((fun _ x hx => by rw [hk7]; exact hs7.2.2.2 x hx)) ((by omega)) rfl Z) rfl ?_
  clear Z; rintro _ w ⟨last2, any2, rfl, Z, f2⟩
  replace Z := Z.n3 L (a0 := Ze p #[.slice da (Zo (AM.dmp A)).length dc, .slice fa (Za (SM.order A.s)).length fc, .int .i64 last2, .bool any2, .int .i64 (((most - 1) - (tl.n : Int)) - (tr.n : Int))] 257) rfl
  refine WL.r 1 rfl <| WL.nil <| WC.ret ?_
  refine ⟨[.bool true], rfl, ?_⟩
  replace Z := (Z.sel 3 [0, 0] rfl)
  rw [show most - 1 - (tl.n : Int) - (tr.n : Int) = most - (t.n : Int) by omega] at Z; exact ⟨_, _, rfl, Z, fun h => .inr ((f2 h).elim (fun ⟨_, h2⟩ => ⟨(k, z), by rw [hls]; simp, by rw [h2, hk7]⟩) (fun ⟨x, hx, h2⟩ => ⟨x, by rw [hls]; exact List.mem_append_right _ (List.mem_cons_of_mem _ hx), h2⟩))⟩
theorem Zeo (nM : Nat) : ∀ (g w : World) (L : List HP) (A : AM) (R : List Int) (da fa : Option Addr) (dc fc : Nat) (p : Nat) (i last most : Int) (any : Bool) (t : Tr), (ARf A R) → (Is A t i) → (Srt t.ls) → (any = true → ∀ x ∈ t.ls, last < x.1) → ((t.n : Int) ≤ most ∧ most ≤ 1000000) → t.n = nM → St g (Ze p #[.slice da (Zo (AM.dmp A)).length dc, .slice fa (Za (SM.order A.s)).length fc, .int .i64 last, .bool any, .int .i64 most] 257 :: Sh 174 11 (Zo (AM.dmp A)) da dc :: L) w → Sp Tryz.prog 152 [.pointer (some ⟨p, 0, none⟩), .int .u32 i] w (fun v w' => ∃ (last2 : Int) (any2 : Bool), v = .bool true ∧ St g (Ze p #[.slice da (Zo (AM.dmp A)).length dc, .slice fa (Za (SM.order A.s)).length fc, .int .i64 last2, .bool any2, .int .i64 (most - (t.n : Int))] 257 :: Sh 174 11 (Zo (AM.dmp A)) da dc :: L) w' ∧ (any2 = true → (any = true ∧ last2 = last) ∨ ∃ x ∈ t.ls, x.1 = last2)) := by
 induction nM using Nat.strongRecOn with
 | _ nM ih => intro g w L A R da fa dc fc p i last most any t hA hi hs hl hm hM Z; exact Zd6 nM ih A R da fa dc fc p i last most any t hA hi hs hl hm hM Z
theorem Zkx {g w : World} {L : List HP} (A : AM) (R : List Int) (da fa : Option Addr) (dc fc : Nat) (p : Nat) (i last most : Int) (any : Bool) (t : Tr) (hA : ARf A R) (hi : Is A t i) (hs : Srt t.ls) (hl : any = true → ∀ x ∈ t.ls, last < x.1) (hm : (t.n : Int) ≤ most ∧ most ≤ 1000000) (Z : St g (Ze p #[.slice da (Zo (AM.dmp A)).length dc, .slice fa (Za (SM.order A.s)).length fc, .int .i64 last, .bool any, .int .i64 most] 257 :: Sh 174 11 (Zo (AM.dmp A)) da dc :: L) w) :
  Sp Tryz.prog 152 [.pointer (some ⟨p, 0, none⟩), .int .u32 i] w (fun v w' => ∃ (last2 : Int) (any2 : Bool), v = .bool true ∧ St g (Ze p #[.slice da (Zo (AM.dmp A)).length dc, .slice fa (Za (SM.order A.s)).length fc, .int .i64 last2, .bool any2, .int .i64 (most - (t.n : Int))] 257 :: Sh 174 11 (Zo (AM.dmp A)) da dc :: L) w' ∧ (any2 = true → (any = true ∧ last2 = last) ∨ ∃ x ∈ t.ls, x.1 = last2)) := Zeo _ g w L A R da fa dc fc p i last most any t hA hi hs hl hm rfl Z
set_option maxHeartbeats 1000000 in
theorem Zd9 (nM : Nat) (ih : ∀ mM : Nat, mM < nM → ∀ (g w : World) (L : List HP) (A : AM) (R : List Int) (da fa : Option Addr) (dc fc : Nat) (i : Int) (t : Tr), (ARf A R) → (Is A t i) → (t.ok) → t.n = mM → St g (Sh 174 11 (Zo (AM.dmp A)) da dc :: L) w → Sp Tryz.prog 153 [.agg #[.slice da (Zo (AM.dmp A)).length dc, .slice fa (Za (SM.order A.s)).length fc], .int .u32 i] w (fun v w' => v = .bool true ∧ St g (Sh 174 11 (Zo (AM.dmp A)) da dc :: L) w')) {g w : World} {L : List HP} (A : AM) (R : List Int) (da fa : Option Addr) (dc fc : Nat) (i : Int) (t : Tr) (hA : ARf A R) (hi : Is A t i) (hb : t.ok) (hM : t.n = nM) (Z : St g (Sh 174 11 (Zo (AM.dmp A)) da dc :: L) w) :
  Sp Tryz.prog 153 [.agg #[.slice da (Zo (AM.dmp A)).length dc, .slice fa (Za (SM.order A.s)).length fc], .int .u32 i] w (fun v w' => v = .bool true ∧ St g (Sh 174 11 (Zo (AM.dmp A)) da dc :: L) w') := by
 refine Sp.enter Tryz.func153 rfl (by kernel_rfl) (by kernel_rfl) ?_
 refine WC.seq <| WC.region <| WL.box rfl rfl #[.slice da (Zo (AM.dmp A)).length dc, .slice fa (Za (SM.order A.s)).length fc] Z rfl rfl (fun b1 w Z => ?_)
 refine WL.r 1 rfl <| WL.nil <| WC.seq <| WC.seq <| WC.region ?_
 have hx0 := Is.nil_iff hi; have hir := Xd hA hi
 refine WL.r 2 rfl <| WL.nil <| WC.ifP rfl (fun hx => ?_) (fun hx => ?_)
 ·refine WC.seq <| WC.region <| WL.r 1 rfl <| WL.nil <| WC.ret ?_
  refine ⟨[.bool true], rfl, ?_⟩
  replace Z := (Z.sel 1 [] rfl)
  exact ⟨rfl, Z⟩
 ·refine WC.skip <| WC.seq <| WC.region ?_
  obtain ⟨tl, k, z, tr, ht⟩ := Qr (t := t) (fun e => hx (hx0.2 e)); have htn : t.n = tl.n + tr.n + 1 := (by rw [ht]; rfl); have hi2 : Is A (.node tl k z tr) i := ht ▸ hi; have e7 : ZG A i = A.nd i := Zen hi2.2.1; have hl7 : Is A tl (ZG A i).lf := (by rw [e7]; exact hi2.2.2.2.2.1); have hr7 : Is A tr (ZG A i).rg := (by rw [e7]; exact hi2.2.2.2.2.2); have hlr := Xd hA hl7; have hrr := Xd hA hr7; have hb7 : Xs tl.n tr.n ∧ tl.ok ∧ tr.ok := (by rw [ht] at hb; exact hb); have hlz : (ZG A (ZG A i).lf).size = (tl.n : Int) := (by rw [Zfm, Is.sz hA tl _ hl7]); have hrz : (ZG A (ZG A i).rg).size = (tr.n : Int) := (by rw [Zfm, Is.sz hA tr _ hr7]); have hnn := is_n hA hi
  refine WL.ldF rfl rfl 0 Z rfl rfl ZA <| WL.r 1 rfl <| WL.call rfl rfl (X4 (A := A) (fa := fa) (fc := fc) (i := i) (hA := hA) (hi := (by omega)) (Z := (Z.sel 2 [1, 0] rfl))) rfl ?_
  clear Z; rintro _ w ⟨rfl, Z⟩
  replace Z := Z.n2 L (a1 := Ze b1 #[.slice da (Zo (AM.dmp A)).length dc, .slice fa (Za (SM.order A.s)).length fc] 62) rfl
  refine WL.new rfl rfl YS Z (fun b2 w Z => ?_)
  refine WL.stF rfl rfl rfl 0 Z rfl rfl rfl rfl rfl ZY (fun w Z => ?_)
  replace Z := Z.n3 L (a0 := Ze b2 #[.int .i64 (ZG A i).key, .int .i64 (ZG A i).val, .int .u32 (ZG A i).lf, .int .u32 (ZG A i).rg, .int .i64 (ZG A i).size, .int .i64 (ZG A i).sum, .int .i64 (ZG A i).mn, .int .i64 (ZG A i).mx] 172) rfl
  refine WL.nil ?_
  as_aux_lemma =>
  refine WC.seq <| WC.plan [([0, 1, 5, 6, 2, 7], some (3, [5, 6, 7])), ([4], some (8, [4])), ([9], some (10, [])), ([11, 12, 13, 14], some (15, [])), ([16, 17, 18, 19, 20], some (21, [])), ([22, 23], none)] (by kernel_rfl) (by kernel_rfl) ?_
  refine WQ.ldF rfl rfl 2 Z rfl rfl ZA <| WQ.r 1 rfl <| WQ.ldF rfl rfl 2 Z rfl rfl ZA <| WQ.run 3 [.int .u32 (ZG A i).lf, .int .u32 (ZG A i).rg] rfl (by exact ⟨Z.ld 0 rfl rfl, Z.ld 0 rfl rfl⟩) ?_
  refine WQ.nil ?_
  intro m1
  replace Z := Z.drewN m1; generalize hwm1 : World.drewN _ _ = w at *; clear hwm1
  refine WL.call rfl rfl (X4 (A := A) (R := R) (fa := fa) (fc := fc) (i := (ZG A i).lf) (hA := hA) (hi := (by omega)) (Z := (Z.sel 2 [1, 0] rfl))) rfl ?_
  clear Z; rintro _ w ⟨rfl, Z⟩
  replace Z := Z.n3 L rfl
  refine WL.nil ?_
  refine ⟨by exact ⟨RQ.ldF rfl rfl 2 Z rfl rfl ZA rfl rfl, RQ.pure rfl rfl rfl rfl, RQ.load rfl rfl rfl rfl (Z.ld 1 rfl rfl)⟩, ?_⟩
  refine WQ.r 1 rfl <| WQ.nil ?_
  intro m2
  replace Z := Z.drewN m2; generalize hwm2 : World.drewN _ _ = w at *; clear hwm2
  refine WL.call rfl rfl (X4 (A := A) (R := R) (fa := fa) (fc := fc) (i := (ZG A i).rg) (hA := hA) (hi := (by omega)) (Z := Z)) rfl ?_
  clear Z; rintro _ w ⟨rfl, Z⟩
  replace Z := Z.n3 L rfl
  refine WL.nil ?_
  refine ⟨by exact RQ.pure rfl rfl rfl rfl, ?_⟩
  refine WQ.r 1 rfl <| WQ.nil ?_
  intro m3
  replace Z := Z.drewN m3; generalize hwm3 : World.drewN _ _ = w at *; clear hwm3
  refine WL.call rfl rfl (Zo2 (x := (ZG A (ZG A i).lf).size) (y := (ZG A (ZG A i).rg).size) (hx := (by omega)) (hy := (by omega)) (Z := Z)) rfl ?_
  clear Z; rintro _ w ⟨rfl, Z⟩
  replace Z := Z.n3 L rfl
  refine WL.nil ?_
  refine ⟨by exact trivial, ?_⟩
  refine WQ.r 1 rfl <| WQ.reb 22 (.bool true) (congrArg Value.bool (decide_eq_true ((by rw [hlz, hrz]; have h8 := hb7.1; unfold Xs at h8; omega)))) ?_
  refine WQ.ung rfl rfl rfl <| WQ.ldF rfl rfl 2 Z rfl rfl ZA <| WQ.ung rfl rfl rfl <| WQ.r 1 rfl <| WQ.ung rfl rfl rfl <| WQ.run 1 [.int .u32 (ZG A i).lf] rfl (by exact Z.ld 1 rfl rfl) ?_
  refine WQ.nil ?_
  intro m4
  replace Z := Z.drewN m4; generalize hwm4 : World.drewN _ _ = w at *; clear hwm4
  refine WL.ung rfl rfl rfl <| WL.call rfl rfl (ih (tl.n) (by omega) _ _ _ A R da fa dc fc (ZG A i).lf tl (hA) (hl7) (hb7.2.1) rfl Z) rfl ?_
  clear Z; rintro _ w ⟨rfl, Z⟩
  replace Z := Z.n3 L rfl
  refine WL.nil ?_
  refine ⟨by exact trivial, ?_⟩
  refine WQ.r 2 rfl <| WQ.ung rfl rfl rfl <| WQ.ldF rfl rfl 2 Z rfl rfl ZA <| WQ.ung rfl rfl rfl <| WQ.r 1 rfl <| WQ.ung rfl rfl rfl <| WQ.run 1 [.int .u32 (ZG A i).rg] rfl (by exact Z.ld 1 rfl rfl) ?_
  refine WQ.nil ?_
  intro m5
  replace Z := Z.drewN m5; generalize hwm5 : World.drewN _ _ = w at *; clear hwm5
  refine WL.ung rfl rfl rfl <| WL.call rfl rfl (ih (tr.n) (by omega) _ _ _ A R da fa dc fc (ZG A i).rg tr (hA) (hr7) (hb7.2.2) rfl Z) rfl ?_
  clear Z; rintro _ w ⟨rfl, Z⟩
  replace Z := Z.n3 L rfl
  refine WL.nil ?_
  refine ⟨by exact trivial, ?_⟩
  refine WQ.r 2 rfl <| WQ.nil ?_
  intro m6
  replace Z := Z.drewN m6; generalize hwm6 : World.drewN _ _ = w at *; clear hwm6
  as_aux_lemma =>
  refine WC.ret ?_
  refine ⟨[.bool true], rfl, ?_⟩
  replace Z := (Z.sel 3 [0] rfl)
  exact ⟨rfl, Z⟩
theorem Zfq (nM : Nat) : ∀ (g w : World) (L : List HP) (A : AM) (R : List Int) (da fa : Option Addr) (dc fc : Nat) (i : Int) (t : Tr), (ARf A R) → (Is A t i) → (t.ok) → t.n = nM → St g (Sh 174 11 (Zo (AM.dmp A)) da dc :: L) w → Sp Tryz.prog 153 [.agg #[.slice da (Zo (AM.dmp A)).length dc, .slice fa (Za (SM.order A.s)).length fc], .int .u32 i] w (fun v w' => v = .bool true ∧ St g (Sh 174 11 (Zo (AM.dmp A)) da dc :: L) w') := by
 induction nM using Nat.strongRecOn with
 | _ nM ih => intro g w L A R da fa dc fc i t hA hi hb hM Z; exact Zd9 nM ih A R da fa dc fc i t hA hi hb hM Z
theorem Zjp {g w : World} {L : List HP} (A : AM) (R : List Int) (da fa : Option Addr) (dc fc : Nat) (i : Int) (t : Tr) (hA : ARf A R) (hi : Is A t i) (hb : t.ok) (Z : St g (Sh 174 11 (Zo (AM.dmp A)) da dc :: L) w) :
  Sp Tryz.prog 153 [.agg #[.slice da (Zo (AM.dmp A)).length dc, .slice fa (Za (SM.order A.s)).length fc], .int .u32 i] w (fun v w' => v = .bool true ∧ St g (Sh 174 11 (Zo (AM.dmp A)) da dc :: L) w') := Zfq _ g w L A R da fa dc fc i t hA hi hb rfl Z
theorem Zje {g w : World} {L : List HP} (A : AM) (R : List Int) (da fa : Option Addr) (dc fc : Nat) (i : Int) (t : Tr) (hA : ARf A R) (hi : Is A t i) (hs : Srt t.ls) (hb : t.ok) (Z : St g (Sh 174 11 (Zo (AM.dmp A)) da dc :: L) w) :
  Sp Tryz.prog 85 [.agg #[.slice da (Zo (AM.dmp A)).length dc, .slice fa (Za (SM.order A.s)).length fc], .int .u32 i] w (fun v w' => v = .int .i64 0 ∧ St g (Sh 174 11 (Zo (AM.dmp A)) da dc :: L) w') := by
 refine Sp.enter Tryz.func85 rfl (by kernel_rfl) (by kernel_rfl) ?_
 refine WC.seq <| WC.region <| WL.box rfl rfl #[.slice da (Zo (AM.dmp A)).length dc, .slice fa (Za (SM.order A.s)).length fc] Z rfl rfl (fun b1 w Z => ?_)
 refine WL.r 1 rfl <| WL.nil <| WC.seq <| WC.seq <| WC.region ?_
 have hir := Xd hA hi; have hn := Zac A; have hcr := Yj hA; have htc := Zkv hA hi hs; have hrf := hi.ref
 refine WL.r 3 rfl ?_
 by_cases cg1 : i ≠ 0
 ·refine WL.reb 8 (.bool true) (congrArg Value.bool (decide_eq_true cg1)) <| WL.ung rfl rfl rfl <| WL.ldF rfl rfl 0 Z rfl rfl ZA <| WL.ung rfl rfl rfl <| WL.r 1 rfl <| WL.ung rfl rfl rfl <| WL.call rfl rfl (XQ (A := A) (fa := fa) (fc := fc) (i := i) (hA := hA) (hi := (by omega)) (Z := (Z.sel 2 [1, 0] rfl))) rfl ?_
  clear Z; rintro _ w ⟨b2, rfl, Z, f1⟩
  replace Z := Z.n2 L (a1 := Ze b1 #[.slice da (Zo (AM.dmp A)).length dc, .slice fa (Za (SM.order A.s)).length fc] 62) rfl
  refine WL.ung rfl rfl rfl <| WL.r 1 rfl <| WL.r 1 rfl <| WL.nil ?_
  as_aux_lemma =>
  refine WC.ifF rfl (by have h9 := (hrf.resolve_left cg1).2; rw [← f1] at h9; rw [h9]; rfl) ?_
  refine WC.skip <| WC.seq <| WC.region <| WL.ldF rfl rfl 1 Z rfl rfl ZA <| WL.run 4 [.slice da (Zo (AM.dmp A)).length dc] rfl (by exact Z.ld 1 rfl rfl) ?_
  refine WL.nw 18 rfl (Zr (by omega)) ?_
  refine WL.r 1 rfl <| WL.nw 19 rfl (Zr (by omega)) ?_
  refine WL.build rfl rfl (cs := [.slice da (Zo (AM.dmp A)).length dc, .slice fa (Za (SM.order A.s)).length fc, .int .i64 0, .bool false, .int .i64 ((2 * (List.length (Zo (AM.dmp A)) : Int)) + 2)]) Zlj rfl rfl <| WL.box rfl rfl #[.slice da (Zo (AM.dmp A)).length dc, .slice fa (Za (SM.order A.s)).length fc, .int .i64 0, .bool false, .int .i64 ((2 * (List.length (Zo (AM.dmp A)) : Int)) + 2)] Z rfl rfl (fun b3 w Z => ?_)
  refine WL.r 1 rfl <| WL.nil <| WC.seq <| WC.seq <| WC.region <| WL.r 2 rfl <| WL.call rfl rfl (Zkx (A := A) (R := R) (fa := fa) (fc := fc) (i := i) (last := 0) (most := (2 * (List.length (Zo (AM.dmp A)) : Int)) + 2) (any := false) (t := t) (hA := hA) (hi := hi) (hs := hs) (hl := (fun h => by cases h)) (hm := (by omega)) (Z := Z)) rfl ?_
  clear Z; rintro _ w ⟨last1, any1, rfl, Z, f2⟩
  replace Z := Z.n3 L (a0 := Ze b3 #[.slice da (Zo (AM.dmp A)).length dc, .slice fa (Za (SM.order A.s)).length fc, .int .i64 last1, .bool any1, .int .i64 (((2 * (List.length (Zo (AM.dmp A)) : Int)) + 2) - (t.n : Int))] 257) rfl
  refine WL.r 1 rfl <| WL.nil <| WC.ifF rfl rfl <| WC.skip <| WC.seq <| WC.seq <| WC.region <| WL.ldF rfl rfl 2 Z rfl rfl ZA <| WL.r 1 rfl <| WL.call rfl rfl (Zjp (A := A) (fa := fa) (fc := fc) (i := i) (t := t) (hA := hA) (hi := hi) (hb := hb) (Z := (Z.sel 2 [1, 0] rfl))) rfl ?_
  clear Z; rintro _ w ⟨rfl, Z⟩
  replace Z := Z.n3 L rfl
  refine WL.r 1 rfl <| WL.nil ?_
  as_aux_lemma =>
  refine WC.ifF rfl rfl <| WC.skip <| WC.seq <| WC.region <| WL.r 1 rfl <| WL.nil <| WC.ret ?_
  refine ⟨[.int .i64 0], rfl, ?_⟩
  replace Z := (Z.sel 3 [0] rfl)
  exact ⟨rfl, Z⟩
 ·refine WL.reb 8 (.bool false) (congrArg Value.bool (decide_eq_false cg1)) <| WL.skp rfl rfl rfl rfl <| WL.skp rfl rfl rfl rfl <| WL.skp rfl rfl rfl rfl <| WL.skp rfl rfl rfl rfl <| WL.r 1 rfl <| WL.nil <| WC.ifF rfl rfl <| WC.skip <| WC.seq <| WC.region <| WL.ldF rfl rfl 0 Z rfl rfl ZA ?_
  refine WL.run 4 [.slice da (Zo (AM.dmp A)).length dc] rfl (by exact Z.ld 0 rfl rfl) ?_
  refine WL.nw 18 rfl (Zr (by omega)) ?_
  refine WL.r 1 rfl <| WL.nw 19 rfl (Zr (by omega)) ?_
  refine WL.build rfl rfl (cs := [.slice da (Zo (AM.dmp A)).length dc, .slice fa (Za (SM.order A.s)).length fc, .int .i64 0, .bool false, .int .i64 ((2 * (List.length (Zo (AM.dmp A)) : Int)) + 2)]) Zlj rfl rfl <| WL.box rfl rfl #[.slice da (Zo (AM.dmp A)).length dc, .slice fa (Za (SM.order A.s)).length fc, .int .i64 0, .bool false, .int .i64 ((2 * (List.length (Zo (AM.dmp A)) : Int)) + 2)] Z rfl rfl (fun b2 w Z => ?_)
  refine WL.r 1 rfl <| WL.nil ?_
  as_aux_lemma =>
  refine WC.seq <| WC.seq <| WC.region <| WL.r 2 rfl <| WL.call rfl rfl (Zkx (A := A) (R := R) (fa := fa) (fc := fc) (i := i) (last := 0) (most := (2 * (List.length (Zo (AM.dmp A)) : Int)) + 2) (any := false) (t := t) (hA := hA) (hi := hi) (hs := hs) (hl := (fun h => by cases h)) (hm := (by omega)) (Z := (Z.sel 3 [0, 1, 0] rfl))) rfl ?_
  clear Z; rintro _ w ⟨last1, any1, rfl, Z, f1⟩
  replace Z := Z.n3 L (a0 := Ze b2 #[.slice da (Zo (AM.dmp A)).length dc, .slice fa (Za (SM.order A.s)).length fc, .int .i64 last1, .bool any1, .int .i64 (((2 * (List.length (Zo (AM.dmp A)) : Int)) + 2) - (t.n : Int))] 257) (a2 := Ze b1 #[.slice da (Zo (AM.dmp A)).length dc, .slice fa (Za (SM.order A.s)).length fc] 62) rfl
  refine WL.r 1 rfl <| WL.nil <| WC.ifF rfl rfl <| WC.skip <| WC.seq <| WC.seq <| WC.region <| WL.ldF rfl rfl 2 Z rfl rfl ZA <| WL.r 1 rfl <| WL.call rfl rfl (Zjp (A := A) (fa := fa) (fc := fc) (i := i) (t := t) (hA := hA) (hi := hi) (hb := hb) (Z := (Z.sel 2 [1, 0] rfl))) rfl ?_
  clear Z; rintro _ w ⟨rfl, Z⟩
  replace Z := Z.n3 L rfl
  refine WL.r 1 rfl <| WL.nil <| WC.ifF rfl rfl <| WC.skip <| WC.seq <| WC.region <| WL.r 1 rfl <| WL.nil ?_
  as_aux_lemma =>
  refine WC.ret ?_
  refine ⟨[.int .i64 0], rfl, ?_⟩
  replace Z := (Z.sel 3 [0] rfl)
  exact ⟨rfl, Z⟩
set_option maxHeartbeats 1000000 in
theorem Za2 (nM : Nat) (ih : ∀ mM : Nat, mM < nM → ∀ (g w : World) (L : List HP) (A : AM) (R : List Int) (da fa : Option Addr) (dc fc : Nat) (i : Int) (t : Tr), (ARf A R) → (Is A t i) → (t.n ≤ 1000000) → t.n = mM → St g (Sh 174 11 (Zo (AM.dmp A)) da dc :: L) w → Sp Tryz.prog 87 [.agg #[.slice da (Zo (AM.dmp A)).length dc, .slice fa (Za (SM.order A.s)).length fc], .int .u32 i] w (fun v w' => ∃ (u : Option Addr) (d : Nat), v = .slice u (Zq t.ls).length d ∧ St g (Zf 121 2 (Zq t.ls) u d :: Sh 174 11 (Zo (AM.dmp A)) da dc :: L) w')) {g w : World} {L : List HP} (A : AM) (R : List Int) (da fa : Option Addr) (dc fc : Nat) (i : Int) (t : Tr) (hA : ARf A R) (hi : Is A t i) (hn : t.n ≤ 1000000) (hM : t.n = nM) (Z : St g (Sh 174 11 (Zo (AM.dmp A)) da dc :: L) w) :
  Sp Tryz.prog 87 [.agg #[.slice da (Zo (AM.dmp A)).length dc, .slice fa (Za (SM.order A.s)).length fc], .int .u32 i] w (fun v w' => ∃ (u : Option Addr) (d : Nat), v = .slice u (Zq t.ls).length d ∧ St g (Zf 121 2 (Zq t.ls) u d :: Sh 174 11 (Zo (AM.dmp A)) da dc :: L) w') := by
 refine Sp.enter Tryz.func87 rfl (by kernel_rfl) (by kernel_rfl) ?_
 have _ := hn
 refine WC.seq <| WC.region <| WL.box rfl rfl #[.slice da (Zo (AM.dmp A)).length dc, .slice fa (Za (SM.order A.s)).length fc] Z rfl rfl (fun b1 w Z => ?_)
 refine WL.r 1 rfl <| WL.nil <| WC.seq <| WC.seq <| WC.region ?_
 have hx0 := Is.nil_iff hi; have hir := Xd hA hi
 refine WL.r 2 rfl <| WL.nil <| WC.ifP rfl (fun hx => ?_) (fun hx => ?_)
 ·refine WC.seq <| WC.region ?_
  replace Z : St g (Zf 121 2 (Zq []) none 0 :: Ze b1 #[.slice da (Zo (AM.dmp A)).length dc, .slice fa (Za (SM.order A.s)).length fc] 62 :: Sh 174 11 (Zo (AM.dmp A)) da dc :: L) w := Z.nil_ 121 2
  refine WL.r 1 rfl <| WL.nil <| WC.ret ?_
  refine ⟨[.slice none 0 0], rfl, ?_⟩
  replace Z := (Z.sel 2 [0] rfl)
  have h9 := hx0.1 hx; subst h9; exact ⟨none, 0, rfl, Z⟩
 ·refine WC.skip <| WC.seq <| WC.region ?_
  obtain ⟨tl, k, z, tr, ht⟩ := Qr (t := t) (fun e => hx (hx0.2 e)); have htn : t.n = tl.n + tr.n + 1 := (by rw [ht]; rfl); have hi2 : Is A (.node tl k z tr) i := ht ▸ hi; have e7 : ZG A i = A.nd i := Zen hi2.2.1; have hl7 : Is A tl (ZG A i).lf := (by rw [e7]; exact hi2.2.2.2.2.1); have hr7 : Is A tr (ZG A i).rg := (by rw [e7]; exact hi2.2.2.2.2.2); have hlr := Xd hA hl7; have hrr := Xd hA hr7; have hle := Ym tl.ls; have hll := Tr.ls_len tl; have hre := Ym tr.ls; have hrl := Tr.ls_len tr
  refine WL.ldF rfl rfl 0 Z rfl rfl ZA <| WL.r 1 rfl <| WL.call rfl rfl (X4 (A := A) (fa := fa) (fc := fc) (i := i) (hA := hA) (hi := (by omega)) (Z := (Z.sel 2 [1, 0] rfl))) rfl ?_
  clear Z; rintro _ w ⟨rfl, Z⟩
  replace Z := Z.n2 L (a1 := Ze b1 #[.slice da (Zo (AM.dmp A)).length dc, .slice fa (Za (SM.order A.s)).length fc] 62) rfl
  refine WL.new rfl rfl YS Z (fun b2 w Z => ?_)
  refine WL.stF rfl rfl rfl 0 Z rfl rfl rfl rfl rfl ZY (fun w Z => ?_)
  replace Z := Z.n3 L (a0 := Ze b2 #[.int .i64 (ZG A i).key, .int .i64 (ZG A i).val, .int .u32 (ZG A i).lf, .int .u32 (ZG A i).rg, .int .i64 (ZG A i).size, .int .i64 (ZG A i).sum, .int .i64 (ZG A i).mn, .int .i64 (ZG A i).mx] 172) rfl
  refine WL.nil ?_
  as_aux_lemma =>
  refine WC.seq <| WC.tree (.two [0, 1, 4, 6, 2, 5, 7, 8] 3 [4, 5, 6, 7, 8] (.one [] 9 [0, 1, 2] (.one [] 10 [] (.seg [11] .nil))) 9 [0, 1, 2] (.one [] 3 [4, 5, 6, 7, 8] (.one [] 10 [] (.seg [11] .nil)))) (by kernel_rfl) (by kernel_rfl) ?_
  refine WQ.ldF rfl rfl 2 Z rfl rfl ZA <| WQ.run 6 [.int .u32 (ZG A i).lf, .int .i64 (ZG A i).key, .int .i64 (ZG A i).val] rfl (by exact ⟨Z.ld 0 rfl rfl, Z.ld 0 rfl rfl, Z.ld 0 rfl rfl⟩) ?_
  refine WQ.build rfl rfl (cs := [.int .i64 (ZG A i).key, .int .i64 (ZG A i).val]) YR rfl rfl <| WQ.nil ?_
  intro m1
  replace Z := Z.drewN m1; generalize hwm1 : World.drewN _ _ = w at *; clear hwm1
  refine ⟨?_, ?_⟩
  ·refine WL.call rfl rfl (ih (tl.n) (by omega) _ _ _ A R da fa dc fc (ZG A i).lf tl (hA) (hl7) ((by omega)) rfl (Z.sel 2 [1, 0] rfl)) rfl ?_
   clear Z; rintro _ w ⟨u1, d1, rfl, Z⟩
   replace Z := Z.n4 L (a0 := Zf 121 2 (Zq tl.ls) u1 d1) rfl
   refine WL.nil ?_
   refine ⟨by exact ⟨RQ.pure rfl rfl rfl rfl, RQ.load rfl rfl rfl rfl (Z.ld 2 rfl rfl), RQ.pure rfl rfl rfl rfl, RQ.load rfl rfl rfl rfl (Z.ld 2 rfl rfl), RQ.build rfl rfl (cs := [.int .i64 (ZG A i).key, .int .i64 (ZG A i).val]) YR rfl rfl rfl rfl⟩, ?_⟩
   refine WQ.nil ?_
   intro m2
   replace Z := Z.drewN m2; generalize hwm2 : World.drewN _ _ = w at *; clear hwm2
   refine WL.lit rfl rfl (Zq [((ZG A i).key, (ZG A i).val)]) el_49 Z (by exact ⟨rfl, rfl⟩) (Jp _) rfl (Nat.le_of_ble_eq_true rfl) (fun b3 w Z => ?_)
   refine WL.nil ?_
   refine ⟨by exact ⟨RQ.ldF rfl rfl 4 Z rfl rfl ZA rfl rfl, RQ.pure rfl rfl rfl rfl, RQ.load rfl rfl rfl rfl (Z.ld 3 rfl rfl)⟩, ?_⟩
   refine WQ.nil ?_
   intro m3
   replace Z := Z.drewN m3; generalize hwm3 : World.drewN _ _ = w at *; clear hwm3
   refine WL.app rfl rfl 1 (Zq (tl.ls ++ [((ZG A i).key, (ZG A i).val)])) el_49 Z rfl (Z.srcO 0 rfl) (YY _ _).symm (Rm.of (by first | omega | (simp <;> omega)) (by decide)) rfl rfl (fun a1 c1 w Z => ?_)
   replace Z := Z.n5 L (a0 := Zf 121 2 (Zq [((ZG A i).key, (ZG A i).val)]) (some ⟨b3, 0, none⟩) (List.length (Zq [((ZG A i).key, (ZG A i).val)]))) (a1 := Zf 121 2 (Zq (tl.ls ++ [((ZG A i).key, (ZG A i).val)])) a1 c1) rfl
   refine WL.nil ?_
   refine ⟨by exact trivial, ?_⟩
   refine WQ.r 1 rfl <| WQ.nil ?_
   intro m4
   replace Z := Z.drewN m4; generalize hwm4 : World.drewN _ _ = w at *; clear hwm4
   as_aux_lemma =>
   refine WC.seq <| WC.region <| WL.r 1 rfl <| WL.ldF rfl rfl 4 Z rfl rfl ZA <| WL.run 2 [.int .u32 (ZG A i).rg] rfl (by exact Z.ld 3 rfl rfl) ?_
   refine WL.call rfl rfl (ih (tr.n) (by omega) _ _ _ A R da fa dc fc (ZG A i).rg tr (hA) (hr7) ((by omega)) rfl (Z.sel 3 [2, 0, 0] rfl)) rfl ?_
   clear Z; rintro _ w ⟨u2, d2, rfl, Z⟩
   replace Z := Z.n6 L (a0 := Zf 121 2 (Zq tr.ls) u2 d2) rfl
   refine WL.app rfl rfl 3 (Zq ((tl.ls ++ [((ZG A i).key, (ZG A i).val)]) ++ tr.ls)) el_49 Z rfl (Z.srcO 0 rfl) (YY _ _).symm (Rm.of (by first | omega | (simp <;> omega)) (by decide)) rfl rfl (fun a2 c2 w Z => ?_)
   replace Z := Z.n6 L (a3 := Zf 121 2 (Zq ((tl.ls ++ [((ZG A i).key, (ZG A i).val)]) ++ tr.ls)) a2 c2) rfl
   refine WL.r 1 rfl <| WL.nil <| WC.ret ?_
   refine ⟨[.slice a2 (List.length (Zq ((tl.ls ++ [((ZG A i).key, (ZG A i).val)]) ++ tr.ls))) c2], rfl, ?_⟩
   replace Z := (Z.sel 6 [3, 1] rfl)
   have e9 : tl.ls ++ [((ZG A i).key, (ZG A i).val)] ++ tr.ls = t.ls := (by rw [ht, e7, hi2.2.2.1, hi2.2.2.2.1]; show _ = tl.ls ++ (k, z) :: tr.ls; simp); rw [e9] at Z ⊢; exact ⟨_, _, rfl, Z⟩
  ·refine WL.lit rfl rfl (Zq [((ZG A i).key, (ZG A i).val)]) el_49 Z (by exact ⟨rfl, rfl⟩) (Jp _) rfl (Nat.le_of_ble_eq_true rfl) (fun b3 w Z => ?_)
   refine WL.nil ?_
   refine ⟨by exact ⟨RQ.ldF rfl rfl 3 Z rfl rfl ZA rfl rfl, RQ.pure rfl rfl rfl rfl, RQ.load rfl rfl rfl rfl (Z.ld 1 rfl rfl)⟩, ?_⟩
   refine WQ.nil ?_
   intro m2
   replace Z := Z.drewN m2; generalize hwm2 : World.drewN _ _ = w at *; clear hwm2
   refine WL.call rfl rfl (ih (tl.n) (by omega) _ _ _ A R da fa dc fc (ZG A i).lf tl (hA) (hl7) ((by omega)) rfl (Z.sel 3 [2, 0, 0] rfl)) rfl ?_
   clear Z; rintro _ w ⟨u1, d1, rfl, Z⟩
   replace Z := Z.n5 L (a0 := Zf 121 2 (Zq tl.ls) u1 d1) (a2 := Zf 121 2 (Zq [((ZG A i).key, (ZG A i).val)]) (some ⟨b3, 0, none⟩) (List.length (Zq [((ZG A i).key, (ZG A i).val)]))) rfl
   refine WL.nil ?_
   refine ⟨by exact ⟨RQ.pure rfl rfl rfl rfl, RQ.load rfl rfl rfl rfl (Z.ld 3 rfl rfl), RQ.pure rfl rfl rfl rfl, RQ.load rfl rfl rfl rfl (Z.ld 3 rfl rfl), RQ.build rfl rfl (cs := [.int .i64 (ZG A i).key, .int .i64 (ZG A i).val]) YR rfl rfl rfl rfl⟩, ?_⟩
   refine WQ.nil ?_
   intro m3
   replace Z := Z.drewN m3; generalize hwm3 : World.drewN _ _ = w at *; clear hwm3
   refine WL.app rfl rfl 0 (Zq (tl.ls ++ [((ZG A i).key, (ZG A i).val)])) el_49 Z rfl (Z.srcO 2 rfl) (YY _ _).symm (Rm.of (by first | omega | (simp <;> omega)) (by decide)) rfl rfl (fun a1 c1 w Z => ?_)
   replace Z := Z.n5 L (a0 := Zf 121 2 (Zq (tl.ls ++ [((ZG A i).key, (ZG A i).val)])) a1 c1) rfl
   refine WL.nil ?_
   refine ⟨by exact trivial, ?_⟩
   refine WQ.r 1 rfl <| WQ.nil ?_
   intro m4
   replace Z := Z.drewN m4; generalize hwm4 : World.drewN _ _ = w at *; clear hwm4
   as_aux_lemma =>
   refine WC.seq <| WC.region <| WL.r 1 rfl <| WL.ldF rfl rfl 4 Z rfl rfl ZA <| WL.run 2 [.int .u32 (ZG A i).rg] rfl (by exact Z.ld 3 rfl rfl) ?_
   refine WL.call rfl rfl (ih (tr.n) (by omega) _ _ _ A R da fa dc fc (ZG A i).rg tr (hA) (hr7) ((by omega)) rfl (Z.sel 2 [1, 0] rfl)) rfl ?_
   clear Z; rintro _ w ⟨u2, d2, rfl, Z⟩
   replace Z := Z.n6 L (a0 := Zf 121 2 (Zq tr.ls) u2 d2) rfl
   refine WL.app rfl rfl 2 (Zq ((tl.ls ++ [((ZG A i).key, (ZG A i).val)]) ++ tr.ls)) el_49 Z rfl (Z.srcO 0 rfl) (YY _ _).symm (Rm.of (by first | omega | (simp <;> omega)) (by decide)) rfl rfl (fun a2 c2 w Z => ?_)
   replace Z := Z.n6 L (a2 := Zf 121 2 (Zq ((tl.ls ++ [((ZG A i).key, (ZG A i).val)]) ++ tr.ls)) a2 c2) rfl
   refine WL.r 1 rfl <| WL.nil <| WC.ret ?_
   refine ⟨[.slice a2 (List.length (Zq ((tl.ls ++ [((ZG A i).key, (ZG A i).val)]) ++ tr.ls))) c2], rfl, ?_⟩
   replace Z := (Z.sel 6 [2, 1] rfl)
   have e9 : tl.ls ++ [((ZG A i).key, (ZG A i).val)] ++ tr.ls = t.ls := (by rw [ht, e7, hi2.2.2.1, hi2.2.2.2.1]; show _ = tl.ls ++ (k, z) :: tr.ls; simp); rw [e9] at Z ⊢; exact ⟨_, _, rfl, Z⟩
theorem Zd0 (nM : Nat) : ∀ (g w : World) (L : List HP) (A : AM) (R : List Int) (da fa : Option Addr) (dc fc : Nat) (i : Int) (t : Tr), (ARf A R) → (Is A t i) → (t.n ≤ 1000000) → t.n = nM → St g (Sh 174 11 (Zo (AM.dmp A)) da dc :: L) w → Sp Tryz.prog 87 [.agg #[.slice da (Zo (AM.dmp A)).length dc, .slice fa (Za (SM.order A.s)).length fc], .int .u32 i] w (fun v w' => ∃ (u : Option Addr) (d : Nat), v = .slice u (Zq t.ls).length d ∧ St g (Zf 121 2 (Zq t.ls) u d :: Sh 174 11 (Zo (AM.dmp A)) da dc :: L) w') := by
 induction nM using Nat.strongRecOn with
 | _ nM ih => intro g w L A R da fa dc fc i t hA hi hn hM Z; exact Za2 nM ih A R da fa dc fc i t hA hi hn hM Z
theorem Znd {g w : World} {L : List HP} (A : AM) (R : List Int) (da fa : Option Addr) (dc fc : Nat) (i : Int) (t : Tr) (hA : ARf A R) (hi : Is A t i) (hn : t.n ≤ 1000000) (Z : St g (Sh 174 11 (Zo (AM.dmp A)) da dc :: L) w) :
  Sp Tryz.prog 87 [.agg #[.slice da (Zo (AM.dmp A)).length dc, .slice fa (Za (SM.order A.s)).length fc], .int .u32 i] w (fun v w' => ∃ (u : Option Addr) (d : Nat), v = .slice u (Zq t.ls).length d ∧ St g (Zf 121 2 (Zq t.ls) u d :: Sh 174 11 (Zo (AM.dmp A)) da dc :: L) w') := Zd0 _ g w L A R da fa dc fc i t hA hi hn rfl Z
theorem Zf5 {g w : World} {L : List HP} (A : AM) (R : List Int) (da fa : Option Addr) (dc fc : Nat) (i : Int) (t : Tr) (l : Z2) (u : Option Addr) (d : Nat) (hA : ARf A R) (hi : Is A t i) (hs : Srt t.ls) (hb : t.ok) (hl : t.ls = l) (Z : St g (Sh 174 11 (Zo (AM.dmp A)) da dc :: Sh 121 2 (Zq l) u d :: L) w) :
  Sp Tryz.prog 23 [.agg #[.slice da (Zo (AM.dmp A)).length dc, .slice fa (Za (SM.order A.s)).length fc], .int .u32 i, .slice u (Zq l).length d] w (fun v w' => v = .bool true ∧ St g (Sh 174 11 (Zo (AM.dmp A)) da dc :: Sh 121 2 (Zq l) u d :: L) w') := by
 refine Sp.enter Tryz.func23 rfl (by kernel_rfl) (by kernel_rfl) ?_
 refine WC.seq <| WC.region <| WL.box rfl rfl #[.slice da (Zo (AM.dmp A)).length dc, .slice fa (Za (SM.order A.s)).length fc] Z rfl rfl (fun b1 w Z => ?_)
 refine WL.r 1 rfl <| WL.nil <| WC.seq <| WC.seq <| WC.region ?_
 have hir := Xd hA hi; have hll := Tr.ls_len t; have hel := Ym l; have hlt : l.length = t.n := (by rw [← hl]; exact hll); have htc := Zkv hA hi hs; have hcr := Yj hA; have hz : (ZG A i).size = (t.n : Int) := (by rw [Zfm, Is.sz hA t _ hi]); have htl := Ym t.ls
 refine WL.ldF rfl rfl 0 Z rfl rfl ZA <| WL.r 1 rfl <| WL.call rfl rfl (Zje (A := A) (fa := fa) (fc := fc) (i := i) (t := t) (hA := hA) (hi := hi) (hs := hs) (hb := hb) (Z := (Z.sel 2 [1, 0] rfl))) rfl ?_
 clear Z; rintro _ w ⟨rfl, Z⟩
 replace Z := Z.n3 L (a1 := Ze b1 #[.slice da (Zo (AM.dmp A)).length dc, .slice fa (Za (SM.order A.s)).length fc] 62) rfl
 refine WL.r 2 rfl <| WL.reb 13 (.bool false) (congrArg Value.bool (decide_eq_false (by decide))) ?_
 refine WL.ung rfl rfl rfl <| WL.ldF rfl rfl 1 Z rfl rfl ZA <| WL.ung rfl rfl rfl <| WL.r 1 rfl <| WL.ung rfl rfl rfl <| WL.call rfl rfl (X4 (A := A) (R := R) (fa := fa) (fc := fc) (i := i) (hA := hA) (hi := (by omega)) (Z := Z)) rfl ?_
 clear Z; rintro _ w ⟨rfl, Z⟩
 replace Z := Z.n3 L rfl
 refine WL.ung rfl rfl rfl <| WL.r 1 rfl <| WL.ung rfl rfl rfl <| WL.r 1 rfl <| WL.ung rfl rfl rfl <| WL.r 1 rfl <| WL.ung rfl rfl rfl <| WL.r 2 rfl <| WL.nil ?_
 as_aux_lemma =>
 refine WC.ifF rfl (decide_eq_false ((by omega))) ?_
 refine WC.skip <| WC.seq <| WC.region <| WL.ldF rfl rfl 1 Z rfl rfl ZA <| WL.r 1 rfl <| WL.call rfl rfl (Znd (A := A) (fa := fa) (fc := fc) (i := i) (t := t) (hA := hA) (hi := hi) (hn := (by omega)) (Z := Z)) rfl ?_
 clear Z; rintro _ w ⟨u1, d1, rfl, Z⟩
 replace Z := Z.n4 L (a0 := Zf 121 2 (Zq t.ls) u1 d1) rfl
 refine WL.r 1 rfl <| WL.nil <| WC.seq <| WC.seq <| WC.region <| WL.r 5 rfl <| WL.nil <| WC.ifF rfl (decide_eq_false ((by omega))) ?_
 refine WC.skip <| WC.seq <| WC.seq <| WC.region <| WL.r 1 rfl <| WL.nil <| WC.block <| WC.loop [2, 7, 8] (fun kM vs w => ∃ (k : Nat), vs = [.slice u (Zq l).length d, .slice u1 (Zq t.ls).length d1, .int .i64 (k : Int)] ∧ St g (Zf 121 2 (Zq t.ls) u1 d1 :: Sh 174 11 (Zo (AM.dmp A)) da dc :: Ze b1 #[.slice da (Zo (AM.dmp A)).length dc, .slice fa (Za (SM.order A.s)).length fc] 62 :: Sh 121 2 (Zq l) u d :: L) w ∧ (k ≤ l.length) ∧ (l.length - k) = kM) ((List.length l) - 0) ⟨0, rfl, Z, (Nat.zero_le _), rfl⟩ ?_
 clear Z; rintro _ _ w j ⟨k, rfl, Z, hk, rfl⟩
 refine WC.seq <| WC.seq <| WC.region <| WL.r 4 rfl <| WL.nil ?_
 as_aux_lemma =>
 refine WC.ifP rfl (fun cd1 => ?_) (fun cd1 => ?_)
 ·refine WC.skip <| WC.seq <| WC.block <| WC.seq <| WC.plan [([0, 1, 4, 5, 2, 6, 3, 7, 8], none)] (by kernel_rfl) (by kernel_rfl) ?_
  refine WQ.r 4 rfl ?_
  obtain ⟨x, hx⟩ : ∃ x, l[k]? = some x := ⟨_, List.getElem?_eq_getElem (by omega)⟩; have hx2 : t.ls[k]? = some x := (by rw [hl]; exact hx)
  refine WQ.ix rfl rfl (i := (k : Int)) (k) el_49 rfl rfl (by omega) (by omega) (Z.rdS 3 rfl (ZC hx)).1 ?_
  refine WQ.ix rfl rfl (i := (k : Int)) (k) el_49 rfl rfl (by omega) (by omega) (Z.rdO 0 rfl (ZC hx2)).1 ?_
  refine WQ.ldC rfl rfl [.int .i64 x.1, .int .i64 x.2] Zp rfl (Z.rdS 3 rfl (ZC hx)).2 <| WQ.ldC rfl rfl [.int .i64 x.1, .int .i64 x.2] Zp rfl (Z.rdO 0 rfl (ZC hx2)).2 <| WQ.neS rfl rfl Zpe (xs := [.int .i64 x.1, .int .i64 x.2]) (ys := [.int .i64 x.1, .int .i64 x.2]) rfl rfl rfl rfl <| WQ.prop 44 rfl (bnot (Qd (dd _) (dd _))) <| WQ.nil ?_
  intro m1
  replace Z := Z.drewN m1; generalize hwm1 : World.drewN _ _ = w at *; clear hwm1
  refine WC.ifF rfl (decide_eq_false ((by simp))) ?_
  refine WC.skip <| WC.region <| WL.r 2 rfl <| WL.nw 35 rfl (Zr (by omega)) ?_
  refine WL.r 1 rfl <| WL.nil ?_
  exact ⟨_, by omega, k + 1, rfl, Z, (by omega), rfl⟩
 ·refine WC.exit <| WC.seq <| WC.region <| WL.r 1 rfl <| WL.nil <| WC.ret ?_
  refine ⟨[.bool true], rfl, ?_⟩
  replace Z := (Z.sel 3 [1] rfl)
  exact ⟨rfl, Z⟩
end Go.Proofs.YtbeacjcmdijdmaaGreat
namespace Go.Proofs.YtbeacjcmdijdmaaGreat
open Go Go.V Go.RowKit
theorem X6 {g w : World} {L : List HP} (T : TM) (ra ga oa va : Option Addr) (rc gc oc vc : Nat) (hT : TOk T) (hc : T.s.cap ≤ 4096) (Z : St g (Sh 64 1 (Za (T.s.gen.drop 1)) ga gc :: Sh 4 1 (Zc (T.s.used.drop 1)) oa oc :: L) w) :
  Sp Tryz.prog 88 [.agg #[.int .i64 T.s.cap, .slice ra (Za T.s.rel).length rc, .int .i64 (T.s.fresh + 1), .slice ga (Za (T.s.gen.drop 1)).length gc, .slice oa (Zc (T.s.used.drop 1)).length oc, .slice va (Za (T.vals.drop 1)).length vc]] w (fun v w' => ∃ (a2 : Option Addr) (c2 : Nat), v = .slice a2 (Zg T.handles).length c2 ∧ St g (Zf 23 1 (Zg T.handles) a2 c2 :: Sh 64 1 (Za (T.s.gen.drop 1)) ga gc :: Sh 4 1 (Zc (T.s.used.drop 1)) oa oc :: L) w') := by
 refine Sp.enter Tryz.func88 rfl (by kernel_rfl) (by kernel_rfl) ?_
 have _ := hc
 refine WC.seq <| WC.region <| WL.box rfl rfl #[.int .i64 T.s.cap, .slice ra (Za T.s.rel).length rc, .int .i64 (T.s.fresh + 1), .slice ga (Za (T.s.gen.drop 1)).length gc, .slice oa (Zc (T.s.used.drop 1)).length oc, .slice va (Za (T.vals.drop 1)).length vc] Z rfl rfl (fun b1 w Z => ?_)
 refine WL.r 1 rfl <| WL.nil <| WC.seq <| WC.region ?_
 have hTs := hT.s; have hcp := hTs.cap; have hce : T.s.cap = (T.s.used.length : Int) - 1 := rfl
 refine WL.r 1 rfl <| WL.nil <| WC.seq <| WC.seq <| WC.region <| WL.r 1 rfl <| WL.nil <| WC.block ?_
 replace Z := Z.nil_ 23 1
 refine WC.loop [1, 2, 3, 4] (fun kM vs w => ∃ (k : Nat) (acc : List Int) (u : Option Addr) (d : Nat), vs = [.pointer (some ⟨b1, 0, none⟩), .slice none 0 0, .slice u (Zg acc).length d, .int .u32 (k : Int)] ∧ St g (Zf 23 1 (Zg acc) u d :: Ze b1 #[.int .i64 T.s.cap, .slice ra (Za T.s.rel).length rc, .int .i64 (T.s.fresh + 1), .slice ga (Za (T.s.gen.drop 1)).length gc, .slice oa (Zc (T.s.used.drop 1)).length oc, .slice va (Za (T.vals.drop 1)).length vc] 37 :: Sh 64 1 (Za (T.s.gen.drop 1)) ga gc :: Sh 4 1 (Zc (T.s.used.drop 1)) oa oc :: L) w ∧ (1 ≤ k ∧ k ≤ T.s.used.length) ∧ (acc = hup T k) ∧ (T.s.used.length - k) = kM) ((List.length T.s.used) - 1) ⟨1, [], none, 0, rfl, Z, (by omega), (Zn9 hTs.u0).symm, rfl⟩ ?_
 clear Z; rintro _ _ w j ⟨k, acc, u, d, rfl, Z, hk, ha, rfl⟩
 refine WC.seq <| WC.seq <| WC.region <| WL.r 2 rfl <| WL.nw 6 rfl (Zr (by omega)) ?_
 refine WL.run 4 [.int .i64 T.s.cap] rfl (by exact Z.ld 1 rfl rfl) ?_
 refine WL.nil ?_
 as_aux_lemma =>
 refine WC.ifP rfl (fun cd1 => ?_) (fun cd1 => ?_)
 ·refine WC.skip <| WC.seq <| WC.block <| WC.seq <| WC.region ?_
  have hule := Zi9 T k; rw [← ha] at hule; have hul2 := Zz acc; have hgr := hTs.gen_rng k
  refine WL.r 1 rfl <| WL.ldC rfl rfl [.int .i64 T.s.cap, .slice ra (Za T.s.rel).length rc, .int .i64 (T.s.fresh + 1), .slice ga (Za (T.s.gen.drop 1)).length gc, .slice oa (Zc (T.s.used.drop 1)).length oc] Z0 rfl (Z.part 1 rfl rfl) <| WL.r 1 rfl <| WL.call rfl rfl (Zo1 (S := T.s) (ra := ra) (ga := ga) (rc := rc) (gc := gc) (i := (k : Int)) (hO := hTs) (hi := (by omega)) (Z := (Z.sel 4 [3, 0, 0, 0] rfl))) rfl ?_
  clear Z; rintro _ w ⟨rfl, Z⟩
  replace Z := Z.n4 L rfl
  refine WL.nil <| WC.if_ rfl (fun cd2 => ?_) (fun cd2 => ?_)
  ·refine WC.region <| WL.r 3 rfl <| WL.ldC rfl rfl [.int .i64 T.s.cap, .slice ra (Za T.s.rel).length rc, .int .i64 (T.s.fresh + 1), .slice ga (Za (T.s.gen.drop 1)).length gc, .slice oa (Zc (T.s.used.drop 1)).length oc] Z0 rfl (Z.part 2 rfl rfl) <| WL.r 1 rfl <| WL.call rfl rfl (Zh8 (S := T.s) (ra := ra) (oa := oa) (rc := rc) (oc := oc) (i := (k : Int)) (hO := hTs) (hi := (by omega)) (hi0 := (by omega)) (Z := (Z.sel 4 [3, 0, 0, 0] rfl))) rfl ?_
   clear Z; rintro _ w ⟨rfl, Z⟩
   replace Z := Z.n4 L rfl
   refine WL.call rfl rfl (Zjd (i := (k : Int)) (n := T.s.genOf (k : Int)) (hi := (by omega)) (hn := hgr) (Z := Z)) rfl ?_
   clear Z; rintro _ w ⟨rfl, Z⟩
   replace Z := Z.n4 L rfl
   refine WL.lit rfl rfl (Zg [(T.s.genOf (k : Int)) * 4294967296 + (k : Int)]) el_45 Z (by exact ⟨rfl, rfl⟩) (YZ _) rfl (Nat.le_of_ble_eq_true rfl) (fun b2 w Z => ?_)
   refine WL.app rfl rfl 3 (Zg (acc ++ [(T.s.genOf (k : Int)) * 4294967296 + (k : Int)])) el_45 Z rfl (Z.srcO 0 rfl) (JB _ _).symm (Rm.of (by first | omega | (simp <;> omega)) (by decide)) rfl rfl (fun a1 c1 w Z => ?_)
   replace Z := Z.n5 L (a0 := Zf 23 1 (Zg [(T.s.genOf (k : Int)) * 4294967296 + (k : Int)]) (some ⟨b2, 0, none⟩) (List.length (Zg [(T.s.genOf (k : Int)) * 4294967296 + (k : Int)]))) (a3 := Zf 23 1 (Zg (acc ++ [(T.s.genOf (k : Int)) * 4294967296 + (k : Int)])) a1 c1) rfl
   refine WL.r 1 rfl <| WL.nil ?_
   as_aux_lemma =>
   refine WC.region <| WL.r 2 rfl <| WL.nw 12 rfl (Yq (by omega)) ?_
   refine WL.r 1 rfl <| WL.nil ?_
   exact ⟨_, by omega, k + 1, acc ++ [T.s.hd k], a1, c1, rfl, (Z.sel 5 [3, 3, 1, 1] rfl), (by omega), (by rw [Zjt cd2, ha]), rfl⟩
  ·refine WC.skip <| WC.region <| WL.r 2 rfl <| WL.nw 12 rfl (Yq (by omega)) ?_
   refine WL.r 1 rfl <| WL.nil ?_
   exact ⟨_, by omega, k + 1, acc, u, d, rfl, (Z.sel 4 [1, 1, 1, 0] rfl), (by omega), (by rw [Zb9 (by simpa using cd2), ha]), rfl⟩
 ·refine WC.exit <| WC.seq <| WC.region <| WL.r 2 rfl <| WL.nil <| WC.ret ?_
  refine ⟨[.slice u (Zg acc).length d], rfl, ?_⟩
  replace Z := (Z.sel 2 [0] rfl)
  have hke : k = T.s.used.length := (by omega); subst hke; subst ha; exact ⟨_, _, rfl, Z⟩
theorem sameU {g w : World} {L : List HP} (xs ys : List Int) (a b : Option Addr) (c d : Nat) (hl : xs.length ≤ 1000000000) (Z : St g (Sh 23 1 (Zg xs) a c :: Sh 23 1 (Zg ys) b d :: L) w) :
  Sp Tryz.prog 90 [.slice a (Zg xs).length c, .slice b (Zg ys).length d] w (fun v w' => ∃ (ok : Bool), v = .bool ok ∧ St g (Sh 23 1 (Zg xs) a c :: Sh 23 1 (Zg ys) b d :: L) w' ∧ (ok = true ↔ xs = ys)) := by
 refine Sp.enter Tryz.func90 rfl (by kernel_rfl) (by kernel_rfl) ?_
 have _ := hl
 refine WC.seq <| WC.region <| WL.r 1 rfl <| WL.nil <| WC.seq <| WC.seq <| WC.region ?_
 have h1 := Zz xs; have h2 := Zz ys
 refine WL.r 5 rfl <| WL.nil <| WC.ifP rfl (fun cd1 => ?_) (fun cd1 => ?_)
 ·refine WC.seq <| WC.region <| WL.r 1 rfl <| WL.nil <| WC.ret ?_
  refine ⟨[.bool false], rfl, ?_⟩
  exact ⟨_, rfl, Z, ⟨fun h => (by cases h), fun h => by rw [h1, h2, h] at cd1; exact absurd rfl cd1⟩⟩
 ·refine WC.skip <| WC.seq <| WC.seq <| WC.region <| WL.r 1 rfl <| WL.nil <| WC.block <| WC.loop [0, 1, 5] (fun kM vs w => ∃ (k : Nat), vs = [.slice a (Zg xs).length c, .slice b (Zg ys).length d, .int .i64 (k : Int)] ∧ St g (Sh 23 1 (Zg xs) a c :: Sh 23 1 (Zg ys) b d :: L) w ∧ (k ≤ xs.length) ∧ (xs.take k = ys.take k) ∧ (xs.length - k) = kM) ((List.length xs) - 0) ⟨0, rfl, Z, (Nat.zero_le _), (rfl), rfl⟩ ?_
  clear Z; rintro _ _ w j ⟨k, rfl, Z, hk, he, rfl⟩
  refine WC.seq <| WC.seq <| WC.region <| WL.r 4 rfl <| WL.nil ?_
  as_aux_lemma =>
  refine WC.ifP rfl (fun cd2 => ?_) (fun cd2 => ?_)
  ·refine WC.skip <| WC.seq <| WC.block <| WC.seq <| WC.plan [([0, 1, 4, 5, 2, 6, 3, 7, 8], none)] (by kernel_rfl) (by kernel_rfl) ?_
   refine WQ.r 4 rfl ?_
   obtain ⟨x, hx⟩ : ∃ x, xs[k]? = some x := ⟨_, List.getElem?_eq_getElem (by omega)⟩
   refine WQ.ix rfl rfl (i := (k : Int)) (k) el_45 rfl rfl (by omega) (Zbg (Zm hx)) (Z.rdS 0 rfl (Zm hx)).1 ?_
   obtain ⟨y, hy⟩ : ∃ y, ys[k]? = some y := ⟨_, List.getElem?_eq_getElem (by omega)⟩
   refine WQ.ix rfl rfl (i := (k : Int)) (k) el_45 rfl rfl (by omega) (Zbg (Zm hy)) (Z.rdS 1 rfl (Zm hy)).1 ?_
   refine WQ.run 3 [.int .u64 x, .int .u64 y] rfl (by exact ⟨(Z.rdS 0 rfl (Zm hx)).2 0 _ rfl, (Z.rdS 1 rfl (Zm hy)).2 0 _ rfl⟩) ?_
   refine WQ.nil ?_
   intro m1
   replace Z := Z.drewN m1; generalize hwm1 : World.drewN _ _ = w at *; clear hwm1
   refine WC.ifP rfl (fun cd3 => ?_) (fun cd3 => ?_)
   ·refine WC.seq <| WC.region <| WL.r 1 rfl <| WL.nil <| WC.ret ?_
    refine ⟨[.bool false], rfl, ?_⟩
    exact ⟨_, rfl, Z, ⟨fun h => (by cases h), fun h => by subst h; rw [hx] at hy; cases hy; exact absurd rfl cd3⟩⟩
   ·refine WC.skip <| WC.region <| WL.r 2 rfl <| WL.nw 16 rfl (Zr (by omega)) ?_
    refine WL.r 1 rfl <| WL.nil ?_
    exact ⟨_, by omega, k + 1, rfl, Z, (by omega), (by rw [List.take_add_one, List.take_add_one, he, hx, hy, Classical.not_not.1 cd3]), rfl⟩
  ·refine WC.exit <| WC.seq <| WC.region <| WL.r 1 rfl <| WL.nil <| WC.ret ?_
   refine ⟨[.bool true], rfl, ?_⟩
   exact ⟨_, rfl, Z, ⟨fun _ => by rw [← List.take_of_length_le (i := k) (l := xs) (by omega), he, List.take_of_length_le (by omega)], fun _ => rfl⟩⟩
theorem Zjn {g w : World} {L : List HP} (a : Nat) (A : AM) (R : List Int) (ra : Option Addr) (rc : Nat) (hA : ARf A R) (hRl : R.length ≤ 1000000) (Z : St g (Zs a A :: Sh 64 1 (Za R) ra rc :: L) w) :
  Sp Tryz.prog 43 [.pointer (some ⟨a, 0, none⟩), .slice ra (Za R).length rc] w (fun v w' => v = .bool true ∧ St g (Zs a A :: Sh 64 1 (Za R) ra rc :: L) w') := by
 refine Sp.enter Tryz.func43 rfl (by kernel_rfl) (by kernel_rfl) ?_
 refine WC.seq <| WC.region <| WL.r 1 rfl <| WL.nil <| WC.seq <| WC.region <| WL.r 1 rfl <| WL.call rfl rfl (Qj  (hA := hA.toAWf) (Z := Z)) rfl ?_
 clear Z; rintro _ w ⟨a1, c1, a2, c2, rfl, Z⟩
 replace Z := Z.n4 L (a0 := Zf 174 11 (Zo (AM.dmp A)) a1 c1) (a1 := Zf 64 1 (Za (SM.order A.s)) a2 c2) rfl
 refine WL.r 1 rfl ?_
 replace Z := (Z.at_ 0 rfl).share
 replace Z := Z.n4 L (a0 := Sh 174 11 (Zo (AM.dmp A)) a1 c1) rfl
 replace Z := (Z.at_ 1 rfl).share
 replace Z := Z.n4 L (a0 := Sh 64 1 (Za (SM.order A.s)) a2 c2) rfl
 refine WL.call rfl rfl (Zij (A := A) (hA := hA) (hRl := hRl) (Z := (Z.sel 4 [1, 0, 1, 0] rfl))) rfl ?_
 clear Z; rintro _ w ⟨rfl, Z⟩
 replace Z := Z.n4 L rfl
 refine WL.r 1 rfl <| WL.nil <| WC.ret ?_
 refine ⟨[.bool true], rfl, ?_⟩
 replace Z := (Z.sel 4 [3, 2] rfl)
 exact ⟨rfl, Z⟩
theorem WR.need {V : VM} {A : AM} {R : List Int} {z : RSt} {m : Nat} (h : WR V A R z m) {ss : List Int} (hs : Keys V.xs ss) : ss = ZU (Z1 z.P z.B) ∧ ss.Perm (V.rs.map RN.n) := by
 refine ⟨h.ra.vers h.vi.g.ok h.ko hs, ?_⟩
 have hu : (V.rs.map RN.n).Nodup := List.pairwise_map.2 h.vi.k.uniq
 refine (List.perm_ext_iff_of_nodup hs.asc.nodup hu).2 fun z => ?_
 rw [hs.mem, ← h.vi.pre z, List.mem_map]
theorem WR.needAt {V : VM} {A : AM} {R : List Int} {z : RSt} {m : Nat} (h : WR V A R z m) {ss : List Int} (hp : ss.Perm (V.rs.map RN.n)) {k : Nat} {n : Int} (hn : ss[k]? = some n) : 1 ≤ n ∧ n ≤ z.LL.length ∧ ∃ l, z.LL[(n - 1).toNat]? = some l ∧ TrL A (V.rootOf n) l.es := by
 obtain ⟨r, hr, e⟩ := List.mem_map.1 (hp.mem_iff.1 (List.mem_of_getElem? hn))
 obtain ⟨j, hj⟩ := List.mem_iff_getElem?.1 hr
 obtain ⟨l, hl, ht⟩ := h.tr r hr
 have h1 := h.vi.g.ok.pos r.n (by rw [← ZX]; exact (h.vi.pre r.n).1 ⟨r, hr, rfl⟩)
 have h2 := VM.rootOf_at h.vi.k.uniq hj
 have h3 := (List.getElem?_eq_some_iff.1 hl).1
 subst e
 exact ⟨h1, by omega, l, hl, by rw [h2]; exact ht⟩
theorem Zg3 {ss : List Int} {V : VM} (h : ss.Perm (V.rs.map RN.n)) : ss.length = V.rs.length := by rw [h.length_eq, List.length_map]
theorem Zfa {V : VM} {A : AM} {R : List Int} (hV : VI V A R) {ss : List Int} (hp : ss.Perm (V.rs.map RN.n)) : (ss.map V.rootOf).Perm (V.rs.map RN.root) := by
 have h1 := hp.map V.rootOf
 rw [List.map_map] at h1
 refine h1.trans (List.Perm.of_eq (List.map_congr_left fun r hr => ?_))
 obtain ⟨j, hj⟩ := List.mem_iff_getElem?.1 hr
 exact VM.rootOf_at hV.k.uniq hj
set_option maxHeartbeats 3000000 in
theorem Zqd {g w : World} {L : List HP} (p s a : Nat) (V : VM) (A : AM) (z : RSt) (m : Nat) (hs : List Int) (u : Option Addr) (d : Nat) (hW : WR V A [] z m) (hm : m ≤ 1000) (Z : St g (Ze p #[.pointer (some ⟨s, 0, none⟩), .int .i64 z.cap, .int .i64 z.T.s.cap, .slice z.ra (Za z.T.s.rel).length z.rc, .int .i64 (z.T.s.fresh + 1), .slice z.ga (Za (z.T.s.gen.drop 1)).length z.gc, .slice z.oa (Zc (z.T.s.used.drop 1)).length z.oc, .slice z.va (Za (z.T.vals.drop 1)).length z.vc, .int .i64 z.cap, .slice z.pa (Zt z.P).length z.pc, .slice z.ba (Zc z.B).length z.bc, .slice z.la (ZI z.LL).length z.lc, .slice u (Zg hs).length d] 47 :: Zf 23 1 (Zg hs) u d :: ZP s a V :: Zs a A :: Zn Z6 [z] :: L) w) :
  Sp Tryz.prog 25 [.pointer (some ⟨p, 0, none⟩)] w (fun v w' => v = .bool true ∧ St g (Ze p #[.pointer (some ⟨s, 0, none⟩), .int .i64 z.cap, .int .i64 z.T.s.cap, .slice z.ra (Za z.T.s.rel).length z.rc, .int .i64 (z.T.s.fresh + 1), .slice z.ga (Za (z.T.s.gen.drop 1)).length z.gc, .slice z.oa (Zc (z.T.s.used.drop 1)).length z.oc, .slice z.va (Za (z.T.vals.drop 1)).length z.vc, .int .i64 z.cap, .slice z.pa (Zt z.P).length z.pc, .slice z.ba (Zc z.B).length z.bc, .slice z.la (ZI z.LL).length z.lc, .slice u (Zg hs).length d] 47 :: Zf 23 1 (Zg hs) u d :: ZP s a V :: Zs a A :: Zn Z6 [z] :: L) w') := by
 refine Sp.enter Tryz.func25 rfl (by kernel_rfl) (by kernel_rfl) ?_
 have _ := hm
 refine WC.seq <| WC.region ?_
 have hrk := hW.rok; have hzl := hrk.l; obtain ⟨ss, hss⟩ := JF hW.vi.g.ok.uniq; obtain ⟨hsn, hsp⟩ := hW.need hss; have hzn := hrk.n; have hrl := hW.rl; have hsl := Zg3 hsp; have hil := Zh ss; have hT := hW.vi.t; have hcp := hW.vi.cp; have hcg := hW.vi.g.cp; have hhl := Zmp hT.s; have hul := Zz V.T.handles; have hfr := hT.s.free_rng; have htt := hW.tt; have hel := Zf9 z.LL; have hal : (ss.map V.rootOf).length = ss.length := List.length_map ..; have hul2 := Zk (ss.map V.rootOf)
 replace Z : St g (Sh 64 1 (Za z.T.s.rel) z.ra z.rc :: Sh 64 1 (Za (z.T.s.gen.drop 1)) z.ga z.gc :: Sh 4 1 (Zc (z.T.s.used.drop 1)) z.oa z.oc :: Sh 64 1 (Za (z.T.vals.drop 1)) z.va z.vc :: Sh 56 1 (Zt z.P) z.pa z.pc :: Zn YO z.P :: Sh 4 1 (Zc z.B) z.ba z.bc :: Sh 49 1 (ZI z.LL) z.la z.lc :: Zn Jk z.LL :: Ze p #[.pointer (some ⟨s, 0, none⟩), .int .i64 z.cap, .int .i64 z.T.s.cap, .slice z.ra (Za z.T.s.rel).length z.rc, .int .i64 (z.T.s.fresh + 1), .slice z.ga (Za (z.T.s.gen.drop 1)).length z.gc, .slice z.oa (Zc (z.T.s.used.drop 1)).length z.oc, .slice z.va (Za (z.T.vals.drop 1)).length z.vc, .int .i64 z.cap, .slice z.pa (Zt z.P).length z.pc, .slice z.ba (Zc z.B).length z.bc, .slice z.la (ZI z.LL).length z.lc, .slice u (Zg hs).length d] 47 :: Zf 23 1 (Zg hs) u d :: ZP s a V :: Zs a A :: Zn Z6 [z] :: L) w := Z.rsGet 4 rfl
 refine WL.r 1 rfl <| WL.nil <| WC.seq <| WC.cut [0, 2, 3, 4] (fun vs w => ∃ (b : Nat) (da fa : Option Addr) (dc fc : Nat) (ha : Option Addr) (hc : Nat), vs = [.pointer (some ⟨p, 0, none⟩), .bool false, .pointer (some ⟨b, 0, none⟩), .slice ha (Zg z.T.handles).length hc] ∧ St g (Ze b #[.slice da (Zo (AM.dmp A)).length dc, .slice fa (Za (SM.order A.s)).length fc] 62 :: Zf 174 11 (Zo (AM.dmp A)) da dc :: Zf 64 1 (Za (SM.order A.s)) fa fc :: Zf 23 1 (Zg z.T.handles) ha hc :: Sh 64 1 (Za z.T.s.rel) z.ra z.rc :: Sh 64 1 (Za (z.T.s.gen.drop 1)) z.ga z.gc :: Sh 4 1 (Zc (z.T.s.used.drop 1)) z.oa z.oc :: Sh 64 1 (Za (z.T.vals.drop 1)) z.va z.vc :: Sh 56 1 (Zt z.P) z.pa z.pc :: Zn YO z.P :: Sh 4 1 (Zc z.B) z.ba z.bc :: Sh 49 1 (ZI z.LL) z.la z.lc :: Zn Jk z.LL :: Ze p #[.pointer (some ⟨s, 0, none⟩), .int .i64 z.cap, .int .i64 z.T.s.cap, .slice z.ra (Za z.T.s.rel).length z.rc, .int .i64 (z.T.s.fresh + 1), .slice z.ga (Za (z.T.s.gen.drop 1)).length z.gc, .slice z.oa (Zc (z.T.s.used.drop 1)).length z.oc, .slice z.va (Za (z.T.vals.drop 1)).length z.vc, .int .i64 z.cap, .slice z.pa (Zt z.P).length z.pc, .slice z.ba (Zc z.B).length z.bc, .slice z.la (ZI z.LL).length z.lc, .slice u (Zg hs).length d] 47 :: Zf 23 1 (Zg hs) u d :: ZP s a V :: Zs a A :: Zn Z6 [z] :: L) w) ?_ ?_
 ·refine WC.tree (.two [0, 6, 1, 7, 2, 8, 3, 9, 10] 4 [6, 7, 8, 9, 10] (.two [] 5 [6, 7, 8, 9, 10] (.two [] 11 [] (.one [] 12 [0, 1, 2, 3, 6, 7, 8, 9, 10] (.one [] 13 [] (.seg [14] .nil))) 12 [0, 1, 2, 3, 6, 7, 8, 9, 10] (.one [] 11 [] (.one [] 13 [] (.seg [14] .nil)))) 12 [0, 1, 2, 3, 6, 7, 8, 9, 10] (.one [] 5 [6, 7, 8, 9, 10] (.one [] 11 [] (.one [] 13 [] (.seg [14] .nil))))) 12 [0, 1, 2, 3, 6, 7, 8, 9, 10] (.one [] 4 [6, 7, 8, 9, 10] (.one [] 5 [6, 7, 8, 9, 10] (.one [] 11 [] (.one [] 13 [] (.seg [14] .nil)))))) (by kernel_rfl) (by kernel_rfl) ?_
  refine WQ.run 8 [.pointer (some ⟨s, 0, none⟩)] rfl (by exact Z.ld 9 rfl rfl) ?_
  refine WQ.ldC rfl rfl [.int .i64 z.T.s.cap, .slice z.ra (Za z.T.s.rel).length z.rc, .int .i64 (z.T.s.fresh + 1), .slice z.ga (Za (z.T.s.gen.drop 1)).length z.gc, .slice z.oa (Zc (z.T.s.used.drop 1)).length z.oc, .slice z.va (Za (z.T.vals.drop 1)).length z.vc] ZD rfl (Z.part 9 rfl rfl) <| WQ.nil ?_
  intro m1
  replace Z := Z.drewN m1; generalize hwm1 : World.drewN _ _ = w at *; clear hwm1
  refine ⟨?_, ?_⟩
  ·refine WL.call rfl rfl (Xc   (Z := (Z.sel 12 [11, 0, 0, 0, 0, 0, 0, 0, 0, 0, 0, 0] rfl))) rfl ?_
   clear Z; rintro _ w ⟨rfl, Z⟩
   replace Z := Z.n14 L (a1 := Sh 64 1 (Za z.T.s.rel) z.ra z.rc) (a2 := Sh 64 1 (Za (z.T.s.gen.drop 1)) z.ga z.gc) (a3 := Sh 4 1 (Zc (z.T.s.used.drop 1)) z.oa z.oc) (a4 := Sh 64 1 (Za (z.T.vals.drop 1)) z.va z.vc) (a5 := Sh 56 1 (Zt z.P) z.pa z.pc) (a6 := Zn YO z.P) (a7 := Sh 4 1 (Zc z.B) z.ba z.bc) (a8 := Sh 49 1 (ZI z.LL) z.la z.lc) (a9 := Zn Jk z.LL) rfl
   refine WL.nil ?_
   refine ⟨by exact ⟨RQ.pure rfl rfl rfl rfl, RQ.pure rfl rfl rfl rfl, RQ.pure rfl rfl rfl rfl, RQ.pure rfl rfl rfl rfl, RQ.ldC rfl rfl [.int .i64 z.T.s.cap, .slice z.ra (Za z.T.s.rel).length z.rc, .int .i64 (z.T.s.fresh + 1), .slice z.ga (Za (z.T.s.gen.drop 1)).length z.gc, .slice z.oa (Zc (z.T.s.used.drop 1)).length z.oc, .slice z.va (Za (z.T.vals.drop 1)).length z.vc] ZD rfl (Z.part 10 rfl rfl) rfl rfl⟩, ?_⟩
   refine WQ.nil ?_
   intro m2
   replace Z := Z.drewN m2; generalize hwm2 : World.drewN _ _ = w at *; clear hwm2
   refine ⟨?_, ?_⟩
   ·refine WL.call rfl rfl (Qj  (hA := hW.vi.ref.toAWf) (Z := (Z.selU [12] rfl))) rfl ?_
    clear Z; rintro _ w ⟨a1, c1, a2, c2, rfl, Z⟩
    replace Z := Z.n16 L (a0 := Zf 174 11 (Zo (AM.dmp A)) a1 c1) (a1 := Zf 64 1 (Za (SM.order A.s)) a2 c2) rfl
    refine WL.nil ?_
    refine ⟨by exact ⟨RQ.pure rfl rfl rfl rfl, RQ.pure rfl rfl rfl rfl, RQ.pure rfl rfl rfl rfl, RQ.pure rfl rfl rfl rfl, RQ.ldC rfl rfl [.int .i64 z.T.s.cap, .slice z.ra (Za z.T.s.rel).length z.rc, .int .i64 (z.T.s.fresh + 1), .slice z.ga (Za (z.T.s.gen.drop 1)).length z.gc, .slice z.oa (Zc (z.T.s.used.drop 1)).length z.oc, .slice z.va (Za (z.T.vals.drop 1)).length z.vc] ZD rfl (Z.part 13 rfl rfl) rfl rfl⟩, ?_⟩
    refine WQ.nil ?_
    intro m3
    replace Z := Z.drewN m3; generalize hwm3 : World.drewN _ _ = w at *; clear hwm3
    refine ⟨?_, ?_⟩
    ·refine WL.call rfl rfl (X6 (T := z.T) (ra := z.ra) (ga := z.ga) (oa := z.oa) (va := z.va) (rc := z.rc) (gc := z.gc) (oc := z.oc) (vc := z.vc) (hT := hrk.t) (hc := (by rw [htt]; omega)) (Z := (Z.sel 7 [5, 5, 0, 0, 0, 0, 0] rfl))) rfl ?_
     clear Z; rintro _ w ⟨a3, c3, rfl, Z⟩
     replace Z := Z.n17 L (a0 := Zf 23 1 (Zg z.T.handles) a3 c3) rfl
     refine WL.nil ?_
     refine ⟨by exact trivial, ?_⟩
     refine WQ.nil ?_
     intro m4
     replace Z := Z.drewN m4; generalize hwm4 : World.drewN _ _ = w at *; clear hwm4
     refine WL.new rfl rfl Yk Z (fun b1 w Z => ?_)
     refine WL.nil ?_
     refine ⟨by exact ⟨RQ.pure rfl rfl rfl rfl, RQ.pure rfl rfl rfl rfl, RQ.pure rfl rfl rfl rfl, RQ.load rfl rfl rfl rfl (Z.ld 15 rfl rfl), RQ.pure rfl rfl rfl rfl, RQ.pure rfl rfl rfl rfl, RQ.pure rfl rfl rfl rfl, RQ.pure rfl rfl rfl rfl, RQ.ldC rfl rfl [.int .i64 z.T.s.cap, .slice z.ra (Za z.T.s.rel).length z.rc, .int .i64 (z.T.s.fresh + 1), .slice z.ga (Za (z.T.s.gen.drop 1)).length z.gc, .slice z.oa (Zc (z.T.s.used.drop 1)).length z.oc, .slice z.va (Za (z.T.vals.drop 1)).length z.vc] ZD rfl (Z.part 15 rfl rfl) rfl rfl⟩, ?_⟩
     refine WQ.nil ?_
     intro m5
     replace Z := Z.drewN m5; generalize hwm5 : World.drewN _ _ = w at *; clear hwm5
     refine WL.stF rfl rfl rfl 0 Z rfl rfl rfl rfl rfl ZA (fun w Z => ?_)
     replace Z := Z.n18 L (a0 := Ze b1 #[.slice a1 (Zo (AM.dmp A)).length c1, .slice a2 (Za (SM.order A.s)).length c2] 62) rfl
     refine WL.nil ?_
     refine ⟨by exact trivial, ?_⟩
     refine WQ.r 1 rfl <| WQ.nil ?_
     intro m6
     replace Z := Z.drewN m6; generalize hwm6 : World.drewN _ _ = w at *; clear hwm6
     exact ⟨b1, a1, a2, c1, c2, a3, c3, rfl, (Z.selU [0, 3, 3, 0, 4, 0, 0, 2, 2, 2, 2, 2, 2, 2, 2, 1] rfl)⟩
    ·refine WL.new rfl rfl Yk Z (fun b1 w Z => ?_)
     refine WL.nil ?_
     refine ⟨by exact ⟨RQ.pure rfl rfl rfl rfl, RQ.pure rfl rfl rfl rfl, RQ.pure rfl rfl rfl rfl, RQ.load rfl rfl rfl rfl (Z.ld 14 rfl rfl), RQ.pure rfl rfl rfl rfl, RQ.pure rfl rfl rfl rfl, RQ.pure rfl rfl rfl rfl, RQ.pure rfl rfl rfl rfl, RQ.ldC rfl rfl [.int .i64 z.T.s.cap, .slice z.ra (Za z.T.s.rel).length z.rc, .int .i64 (z.T.s.fresh + 1), .slice z.ga (Za (z.T.s.gen.drop 1)).length z.gc, .slice z.oa (Zc (z.T.s.used.drop 1)).length z.oc, .slice z.va (Za (z.T.vals.drop 1)).length z.vc] ZD rfl (Z.part 14 rfl rfl) rfl rfl⟩, ?_⟩
     refine WQ.nil ?_
     intro m4
     replace Z := Z.drewN m4; generalize hwm4 : World.drewN _ _ = w at *; clear hwm4
     refine WL.call rfl rfl (X6 (T := z.T) (ra := z.ra) (ga := z.ga) (oa := z.oa) (va := z.va) (rc := z.rc) (gc := z.gc) (oc := z.oc) (vc := z.vc) (hT := hrk.t) (hc := (by rw [htt]; omega)) (Z := (Z.sel 8 [6, 6, 0, 0, 0, 0, 0, 0] rfl))) rfl ?_
     clear Z; rintro _ w ⟨a3, c3, rfl, Z⟩
     replace Z := Z.n18 L (a0 := Zf 23 1 (Zg z.T.handles) a3 c3) (a3 := Ze b1 #[.slice none 0 0, .slice none 0 0] 62) rfl
     refine WL.nil ?_
     refine ⟨by exact trivial, ?_⟩
     refine WQ.nil ?_
     intro m5
     replace Z := Z.drewN m5; generalize hwm5 : World.drewN _ _ = w at *; clear hwm5
     refine WL.stF rfl rfl rfl 3 Z rfl rfl rfl rfl rfl ZA (fun w Z => ?_)
     replace Z := Z.n18 L (a3 := Ze b1 #[.slice a1 (Zo (AM.dmp A)).length c1, .slice a2 (Za (SM.order A.s)).length c2] 62) rfl
     refine WL.nil ?_
     refine ⟨by exact trivial, ?_⟩
     refine WQ.r 1 rfl <| WQ.nil ?_
     intro m6
     replace Z := Z.drewN m6; generalize hwm6 : World.drewN _ _ = w at *; clear hwm6
     exact ⟨b1, a1, a2, c1, c2, a3, c3, rfl, (Z.selU [3, 3, 3, 0, 4, 0, 0, 2, 2, 2, 2, 2, 2, 2, 2, 1] rfl)⟩
   ·refine WL.new rfl rfl Yk Z (fun b1 w Z => ?_)
    refine WL.nil ?_
    refine ⟨by exact ⟨RQ.pure rfl rfl rfl rfl, RQ.pure rfl rfl rfl rfl, RQ.pure rfl rfl rfl rfl, RQ.load rfl rfl rfl rfl (Z.ld 11 rfl rfl), RQ.pure rfl rfl rfl rfl, RQ.pure rfl rfl rfl rfl, RQ.pure rfl rfl rfl rfl, RQ.pure rfl rfl rfl rfl, RQ.ldC rfl rfl [.int .i64 z.T.s.cap, .slice z.ra (Za z.T.s.rel).length z.rc, .int .i64 (z.T.s.fresh + 1), .slice z.ga (Za (z.T.s.gen.drop 1)).length z.gc, .slice z.oa (Zc (z.T.s.used.drop 1)).length z.oc, .slice z.va (Za (z.T.vals.drop 1)).length z.vc] ZD rfl (Z.part 11 rfl rfl) rfl rfl⟩, ?_⟩
    refine WQ.nil ?_
    intro m3
    replace Z := Z.drewN m3; generalize hwm3 : World.drewN _ _ = w at *; clear hwm3
    refine WL.call rfl rfl (Qj  (hA := hW.vi.ref.toAWf) (Z := (Z.selU [13] rfl))) rfl ?_
    clear Z; rintro _ w ⟨a1, c1, a2, c2, rfl, Z⟩
    replace Z := Z.n17 L (a0 := Zf 174 11 (Zo (AM.dmp A)) a1 c1) (a1 := Zf 64 1 (Za (SM.order A.s)) a2 c2) (a3 := Ze b1 #[.slice none 0 0, .slice none 0 0] 62) rfl
    refine WL.nil ?_
    refine ⟨by exact ⟨RQ.pure rfl rfl rfl rfl, RQ.pure rfl rfl rfl rfl, RQ.pure rfl rfl rfl rfl, RQ.pure rfl rfl rfl rfl, RQ.ldC rfl rfl [.int .i64 z.T.s.cap, .slice z.ra (Za z.T.s.rel).length z.rc, .int .i64 (z.T.s.fresh + 1), .slice z.ga (Za (z.T.s.gen.drop 1)).length z.gc, .slice z.oa (Zc (z.T.s.used.drop 1)).length z.oc, .slice z.va (Za (z.T.vals.drop 1)).length z.vc] ZD rfl (Z.part 14 rfl rfl) rfl rfl⟩, ?_⟩
    refine WQ.nil ?_
    intro m4
    replace Z := Z.drewN m4; generalize hwm4 : World.drewN _ _ = w at *; clear hwm4
    refine WL.call rfl rfl (X6 (T := z.T) (ra := z.ra) (ga := z.ga) (oa := z.oa) (va := z.va) (rc := z.rc) (gc := z.gc) (oc := z.oc) (vc := z.vc) (hT := hrk.t) (hc := (by rw [htt]; omega)) (Z := (Z.sel 8 [6, 6, 0, 0, 0, 0, 0, 0] rfl))) rfl ?_
    clear Z; rintro _ w ⟨a3, c3, rfl, Z⟩
    replace Z := Z.n18 L (a0 := Zf 23 1 (Zg z.T.handles) a3 c3) rfl
    refine WL.nil ?_
    refine ⟨by exact trivial, ?_⟩
    refine WQ.nil ?_
    intro m5
    replace Z := Z.drewN m5; generalize hwm5 : World.drewN _ _ = w at *; clear hwm5
    refine WL.stF rfl rfl rfl 6 Z rfl rfl rfl rfl rfl ZA (fun w Z => ?_)
    replace Z := Z.n18 L (a6 := Ze b1 #[.slice a1 (Zo (AM.dmp A)).length c1, .slice a2 (Za (SM.order A.s)).length c2] 62) rfl
    refine WL.nil ?_
    refine ⟨by exact trivial, ?_⟩
    refine WQ.r 1 rfl <| WQ.nil ?_
    intro m6
    replace Z := Z.drewN m6; generalize hwm6 : World.drewN _ _ = w at *; clear hwm6
    exact ⟨b1, a1, a2, c1, c2, a3, c3, rfl, (Z.selU [6, 3, 3, 0, 4, 0, 0, 2, 2, 2, 2, 2, 2, 2, 2, 1] rfl)⟩
  ·refine WL.new rfl rfl Yk Z (fun b1 w Z => ?_)
   refine WL.nil ?_
   refine ⟨by exact ⟨RQ.pure rfl rfl rfl rfl, RQ.pure rfl rfl rfl rfl, RQ.pure rfl rfl rfl rfl, RQ.load rfl rfl rfl rfl (Z.ld 10 rfl rfl), RQ.pure rfl rfl rfl rfl, RQ.pure rfl rfl rfl rfl, RQ.pure rfl rfl rfl rfl, RQ.pure rfl rfl rfl rfl, RQ.ldC rfl rfl [.int .i64 z.T.s.cap, .slice z.ra (Za z.T.s.rel).length z.rc, .int .i64 (z.T.s.fresh + 1), .slice z.ga (Za (z.T.s.gen.drop 1)).length z.gc, .slice z.oa (Zc (z.T.s.used.drop 1)).length z.oc, .slice z.va (Za (z.T.vals.drop 1)).length z.vc] ZD rfl (Z.part 10 rfl rfl) rfl rfl⟩, ?_⟩
   refine WQ.nil ?_
   intro m2
   replace Z := Z.drewN m2; generalize hwm2 : World.drewN _ _ = w at *; clear hwm2
   refine WL.call rfl rfl (Xc   (Z := (Z.selU [12] rfl))) rfl ?_
   clear Z; rintro _ w ⟨rfl, Z⟩
   replace Z := Z.n15 L (a1 := Ze b1 #[.slice none 0 0, .slice none 0 0] 62) (a2 := Sh 64 1 (Za z.T.s.rel) z.ra z.rc) (a3 := Sh 64 1 (Za (z.T.s.gen.drop 1)) z.ga z.gc) (a4 := Sh 4 1 (Zc (z.T.s.used.drop 1)) z.oa z.oc) (a5 := Sh 64 1 (Za (z.T.vals.drop 1)) z.va z.vc) (a6 := Sh 56 1 (Zt z.P) z.pa z.pc) (a7 := Zn YO z.P) (a8 := Sh 4 1 (Zc z.B) z.ba z.bc) (a9 := Sh 49 1 (ZI z.LL) z.la z.lc) (a10 := Zn Jk z.LL) rfl
   refine WL.nil ?_
   refine ⟨by exact ⟨RQ.pure rfl rfl rfl rfl, RQ.pure rfl rfl rfl rfl, RQ.pure rfl rfl rfl rfl, RQ.pure rfl rfl rfl rfl, RQ.ldC rfl rfl [.int .i64 z.T.s.cap, .slice z.ra (Za z.T.s.rel).length z.rc, .int .i64 (z.T.s.fresh + 1), .slice z.ga (Za (z.T.s.gen.drop 1)).length z.gc, .slice z.oa (Zc (z.T.s.used.drop 1)).length z.oc, .slice z.va (Za (z.T.vals.drop 1)).length z.vc] ZD rfl (Z.part 11 rfl rfl) rfl rfl⟩, ?_⟩
   refine WQ.nil ?_
   intro m3
   replace Z := Z.drewN m3; generalize hwm3 : World.drewN _ _ = w at *; clear hwm3
   refine WL.call rfl rfl (Qj  (hA := hW.vi.ref.toAWf) (Z := (Z.selU [13] rfl))) rfl ?_
   clear Z; rintro _ w ⟨a1, c1, a2, c2, rfl, Z⟩
   replace Z := Z.n17 L (a0 := Zf 174 11 (Zo (AM.dmp A)) a1 c1) (a1 := Zf 64 1 (Za (SM.order A.s)) a2 c2) rfl
   refine WL.nil ?_
   refine ⟨by exact ⟨RQ.pure rfl rfl rfl rfl, RQ.pure rfl rfl rfl rfl, RQ.pure rfl rfl rfl rfl, RQ.pure rfl rfl rfl rfl, RQ.ldC rfl rfl [.int .i64 z.T.s.cap, .slice z.ra (Za z.T.s.rel).length z.rc, .int .i64 (z.T.s.fresh + 1), .slice z.ga (Za (z.T.s.gen.drop 1)).length z.gc, .slice z.oa (Zc (z.T.s.used.drop 1)).length z.oc, .slice z.va (Za (z.T.vals.drop 1)).length z.vc] ZD rfl (Z.part 14 rfl rfl) rfl rfl⟩, ?_⟩
   refine WQ.nil ?_
   intro m4
   replace Z := Z.drewN m4; generalize hwm4 : World.drewN _ _ = w at *; clear hwm4
   refine WL.call rfl rfl (X6 (T := z.T) (ra := z.ra) (ga := z.ga) (oa := z.oa) (va := z.va) (rc := z.rc) (gc := z.gc) (oc := z.oc) (vc := z.vc) (hT := hrk.t) (hc := (by rw [htt]; omega)) (Z := (Z.sel 8 [6, 6, 0, 0, 0, 0, 0, 0] rfl))) rfl ?_
   clear Z; rintro _ w ⟨a3, c3, rfl, Z⟩
   replace Z := Z.n18 L (a0 := Zf 23 1 (Zg z.T.handles) a3 c3) rfl
   refine WL.nil ?_
   refine ⟨by exact trivial, ?_⟩
   refine WQ.nil ?_
   intro m5
   replace Z := Z.drewN m5; generalize hwm5 : World.drewN _ _ = w at *; clear hwm5
   refine WL.stF rfl rfl rfl 7 Z rfl rfl rfl rfl rfl ZA (fun w Z => ?_)
   replace Z := Z.n18 L (a7 := Ze b1 #[.slice a1 (Zo (AM.dmp A)).length c1, .slice a2 (Za (SM.order A.s)).length c2] 62) rfl
   refine WL.nil ?_
   refine ⟨by exact trivial, ?_⟩
   refine WQ.r 1 rfl <| WQ.nil ?_
   intro m6
   replace Z := Z.drewN m6; generalize hwm6 : World.drewN _ _ = w at *; clear hwm6
   exact ⟨b1, a1, a2, c1, c2, a3, c3, rfl, (Z.selU [7, 3, 3, 0, 4, 0, 0, 2, 2, 2, 2, 2, 2, 2, 2, 1] rfl)⟩
 clear Z; rintro _ w j ⟨b, da, fa, dc, fc, ha, hc, rfl, Z⟩
 refine WC.seq <| WC.region ?_
 replace Z := (Z.at_ 1 rfl).share
 replace Z := Z.n18 L (a0 := Sh 174 11 (Zo (AM.dmp A)) da dc) rfl
 replace Z := (Z.at_ 2 rfl).share
 replace Z := Z.n18 L (a0 := Sh 64 1 (Za (SM.order A.s)) fa fc) rfl
 refine WL.r 4 rfl <| WL.ldC rfl rfl [.int .i64 z.cap, .slice z.pa (Zt z.P).length z.pc, .slice z.ba (Zc z.B).length z.bc] Z4 rfl (Z.part 13 rfl rfl) <| WL.call rfl rfl (Je (cap := z.cap) (P := z.P) (a := z.pa) (c := z.pc) (B := z.B) (b := z.ba) (d := z.bc) (hP := hrk.p) (hl := (by omega)) (hB := hrk.b) (Z := (Z.sel 11 [8, 8, 8, 0, 0, 0, 0, 0, 0, 0, 0] rfl))) rfl ?_
 clear Z; rintro _ w ⟨a1, c1, rfl, Z⟩
 replace Z := Z.n19 L (a0 := Zf 3 1 (Zb (ZU (Z1 z.P z.B))) a1 c1) rfl
 refine WL.r 1 rfl <| WL.nil <| WC.seq <| WC.region <| WL.run 4 [.pointer (some ⟨s, 0, none⟩)] rfl (by exact Z.ld 14 rfl rfl) ?_
 refine WL.call rfl rfl (Znk (ss := ss) (hk := hW.vi.k) (hp := hsp) (hs := hss.le) (hl := (by omega)) (Z := (Z.selU [16] rfl))) rfl ?_
 clear Z; rintro _ w ⟨a2, c2, rfl, Z⟩
 replace Z := Z.n20 L (a0 := Zf 64 1 (Za (ss.map V.rootOf)) a2 c2) rfl
 refine WL.r 1 rfl <| WL.nil ?_
 as_aux_lemma =>
 refine WC.seq <| WC.seq <| WC.plan [([0, 5, 1, 2, 3], some (4, [5])), ([], some (6, [])), ([7, 8, 9, 14, 10, 11, 12], some (13, [14])), ([], some (15, [])), ([16, 17, 18, 19, 24, 20, 25, 21, 26, 22, 27], some (23, [24, 25, 26, 27])), ([], some (28, [])), ([29, 30, 31, 32, 34, 33, 35, 36, 37], none)] (by kernel_rfl) (by kernel_rfl) ?_
 have hnl := Zh (ZU (Z1 z.P z.B)); have hsn2 : (ZU (Z1 z.P z.B)).length = ss.length := (by rw [← hsn])
 refine WQ.run 5 [.pointer (some ⟨s, 0, none⟩)] rfl (by exact Z.ld 16 rfl rfl) ?_
 refine WQ.nil ?_
 intro m1
 replace Z := Z.drewN m1; generalize hwm1 : World.drewN _ _ = w at *; clear hwm1
 refine WL.call rfl rfl (Ze4  (hT := hT) (Z := (Z.sel 2 [1, 0] rfl))) rfl ?_
 clear Z; rintro _ w ⟨a3, c3, rfl, Z⟩
 replace Z := Z.n21 L (a0 := Zf 23 1 (Zg V.T.handles) a3 c3) rfl
 refine WL.nil ?_
 refine ⟨by exact RQ.pure rfl rfl rfl rfl, ?_⟩
 refine WQ.nil ?_
 intro m2
 replace Z := Z.drewN m2; generalize hwm2 : World.drewN _ _ = w at *; clear hwm2
 replace Z := (Z.at_ 0 rfl).share
 replace Z := Z.n21 L (a0 := Sh 23 1 (Zg V.T.handles) a3 c3) rfl
 replace Z := (Z.at_ 10 rfl).share
 replace Z := Z.n21 L (a0 := Sh 23 1 (Zg z.T.handles) ha hc) rfl
 refine WL.call rfl rfl (sameU (xs := V.T.handles) (ys := z.T.handles) (hl := (by omega)) (Z := (Z.sel 2 [1, 0] rfl))) rfl ?_
 clear Z; rintro _ w ⟨ok1, rfl, Z, f1⟩
 replace Z := Z.n21 L rfl
 refine WL.nil ?_
 refine ⟨by exact trivial, ?_⟩
 refine WQ.r 1 rfl <| WQ.r 1 rfl <| WQ.reb 44 (.bool false) (congrArg Value.bool (Bool.eq_false_iff.2 ((by rw [f1.2 (by rw [htt])]; decide)))) ?_
 refine WQ.ung rfl rfl rfl <| WQ.r 1 rfl <| WQ.ung rfl rfl rfl <| WQ.r 1 rfl <| WQ.ung rfl rfl rfl <| WQ.r 1 rfl <| WQ.ung rfl rfl rfl <| WQ.r 1 rfl <| WQ.ung rfl rfl rfl <| WQ.run 1 [.pointer (some ⟨s, 0, none⟩)] rfl (by exact Z.ld 17 rfl rfl) ?_
 refine WQ.nil ?_
 intro m3
 replace Z := Z.drewN m3; generalize hwm3 : World.drewN _ _ = w at *; clear hwm3
 refine WL.ung rfl rfl rfl <| WL.call rfl rfl (QV (ss := ss) (hk := hW.vi.k) (hp := hsp) (hs := hss.le) (Z := (Z.sel 3 [2, 0, 0] rfl))) rfl ?_
 clear Z; rintro _ w ⟨a4, c4, rfl, Z⟩
 replace Z := Z.n22 L (a0 := Zf 3 1 (Zb ss) a4 c4) rfl
 refine WL.nil ?_
 refine ⟨by exact RQ.ung rfl rfl rfl (RQ.pure rfl rfl rfl rfl), ?_⟩
 refine WQ.nil ?_
 intro m4
 replace Z := Z.drewN m4; generalize hwm4 : World.drewN _ _ = w at *; clear hwm4
 refine WL.ung rfl rfl rfl ?_
 replace Z := (Z.at_ 0 rfl).share
 replace Z := Z.n22 L (a0 := Sh 3 1 (Zb ss) a4 c4) rfl
 replace Z := (Z.at_ 5 rfl).share
 replace Z := Z.n22 L (a0 := Sh 3 1 (Zb (ZU (Z1 z.P z.B))) a1 c1) rfl
 refine WL.call rfl rfl (Zkj (ys := ZU (Z1 z.P z.B)) (hl := (by omega)) (Z := (Z.sel 2 [1, 0] rfl))) rfl ?_
 clear Z; rintro _ w ⟨ok2, rfl, Z, f2⟩
 replace Z := Z.n22 L rfl
 refine WL.nil ?_
 refine ⟨by exact trivial, ?_⟩
 refine WQ.ung rfl rfl rfl <| WQ.r 1 rfl <| WQ.r 2 rfl <| WQ.reb 54 (.bool false) (congrArg Value.bool (Bool.eq_false_iff.2 ((by rw [f2.2 hsn]; decide)))) ?_
 refine WQ.ung rfl rfl rfl <| WQ.r 1 rfl <| WQ.ung rfl rfl rfl <| WQ.r 1 rfl <| WQ.ung rfl rfl rfl <| WQ.r 1 rfl <| WQ.ung rfl rfl rfl <| WQ.r 1 rfl <| WQ.ung rfl rfl rfl <| WQ.r 1 rfl <| WQ.ung rfl rfl rfl <| WQ.r 1 rfl ?_
 refine WQ.ung rfl rfl rfl <| WQ.run 1 [.pointer (some ⟨s, 0, none⟩)] rfl (by exact Z.ld 18 rfl rfl) ?_
 refine WQ.ung rfl rfl rfl <| WQ.ldC rfl rfl [.int .i64 z.cap, .int .i64 z.T.s.cap, .slice z.ra (Za z.T.s.rel).length z.rc, .int .i64 (z.T.s.fresh + 1), .slice z.ga (Za (z.T.s.gen.drop 1)).length z.gc, .slice z.oa (Zc (z.T.s.used.drop 1)).length z.oc, .slice z.va (Za (z.T.vals.drop 1)).length z.vc, .int .i64 z.cap, .slice z.pa (Zt z.P).length z.pc, .slice z.ba (Zc z.B).length z.bc, .slice z.la (ZI z.LL).length z.lc] Zy rfl (Z.part 18 rfl rfl) <| WQ.nil ?_
 intro m5
 replace Z := Z.drewN m5; generalize hwm5 : World.drewN _ _ = w at *; clear hwm5
 refine WL.ung rfl rfl rfl <| WL.call rfl rfl (Za7 (ss := ss) (hT := hT) (hG := hW.vi.g) (hp := hss.perm) (hs := hss.le) (Z := (Z.sel 3 [2, 0, 0] rfl))) rfl ?_
 clear Z; rintro _ w ⟨rfl, Z⟩
 replace Z := Z.n22 L rfl
 refine WL.nil ?_
 refine ⟨by exact ⟨RQ.ung rfl rfl rfl (RQ.pure rfl rfl rfl rfl), RQ.ung rfl rfl rfl (RQ.pure rfl rfl rfl rfl), RQ.ung rfl rfl rfl (RQ.pure rfl rfl rfl rfl), RQ.ung rfl rfl rfl (RQ.ldC rfl rfl [.int .i64 z.cap, .int .i64 z.T.s.cap, .slice z.ra (Za z.T.s.rel).length z.rc, .int .i64 (z.T.s.fresh + 1), .slice z.ga (Za (z.T.s.gen.drop 1)).length z.gc, .slice z.oa (Zc (z.T.s.used.drop 1)).length z.oc, .slice z.va (Za (z.T.vals.drop 1)).length z.vc, .int .i64 z.cap, .slice z.pa (Zt z.P).length z.pc, .slice z.ba (Zc z.B).length z.bc, .slice z.la (ZI z.LL).length z.lc] Zy rfl (Z.part 18 rfl rfl) rfl rfl)⟩, ?_⟩
 refine WQ.nil ?_
 intro m6
 replace Z := Z.drewN m6; generalize hwm6 : World.drewN _ _ = w at *; clear hwm6
 refine WL.ung rfl rfl rfl <| WL.call rfl rfl (Zci (z := z) (hz := hrk) (Z := (Z.selU [21] rfl))) rfl ?_
 clear Z; rintro _ w ⟨rfl, Z⟩
 replace Z := Z.n22 L rfl
 refine WL.nil ?_
 refine ⟨by exact trivial, ?_⟩
 refine WQ.ung rfl rfl rfl <| WQ.r 3 rfl <| WQ.reb 67 (.bool false) (congrArg Value.bool (decide_eq_false ((fun h => h hW.room.symm)))) <| WQ.ung rfl rfl rfl <| WQ.r 1 rfl <| WQ.ung rfl rfl rfl <| WQ.r 1 rfl <| WQ.ung rfl rfl rfl <| WQ.r 1 rfl <| WQ.ung rfl rfl rfl <| WQ.r 1 rfl <| WQ.ung rfl rfl rfl ?_
 refine WQ.r 2 rfl <| WQ.nil ?_
 intro m7
 replace Z := Z.drewN m7; generalize hwm7 : World.drewN _ _ = w at *; clear hwm7
 as_aux_lemma =>
 refine WC.ifF rfl (decide_eq_false ((by omega))) ?_
 refine WC.skip <| WC.seq <| WC.seq <| WC.region <| WL.r 1 rfl <| WL.nil <| WC.block <| WC.loop [0, 3, 4, 5, 6, 7] (fun kM vs w => ∃ (k : Nat), vs = [.pointer (some ⟨p, 0, none⟩), .pointer (some ⟨b, 0, none⟩), .slice ha (Zg z.T.handles).length hc, .slice a1 (List.length (Zb (ZU (Z1 z.P z.B)))) c1, .slice a2 (Za (ss.map V.rootOf)).length c2, .int .i64 (k : Int)] ∧ St g (Zn Z6 [z] :: ZP s a V :: Sh 3 1 (Zb ss) a4 c4 :: Sh 3 1 (Zb (ZU (Z1 z.P z.B))) a1 c1 :: Sh 23 1 (Zg V.T.handles) a3 c3 :: Sh 23 1 (Zg z.T.handles) ha hc :: Zf 64 1 (Za (ss.map V.rootOf)) a2 c2 :: Sh 56 1 (Zt z.P) z.pa z.pc :: Zn YO z.P :: Sh 4 1 (Zc z.B) z.ba z.bc :: Sh 64 1 (Za (SM.order A.s)) fa fc :: Sh 174 11 (Zo (AM.dmp A)) da dc :: Ze b #[.slice da (Zo (AM.dmp A)).length dc, .slice fa (Za (SM.order A.s)).length fc] 62 :: Sh 64 1 (Za z.T.s.rel) z.ra z.rc :: Sh 64 1 (Za (z.T.s.gen.drop 1)) z.ga z.gc :: Sh 4 1 (Zc (z.T.s.used.drop 1)) z.oa z.oc :: Sh 64 1 (Za (z.T.vals.drop 1)) z.va z.vc :: Sh 49 1 (ZI z.LL) z.la z.lc :: Zn Jk z.LL :: Ze p #[.pointer (some ⟨s, 0, none⟩), .int .i64 z.cap, .int .i64 z.T.s.cap, .slice z.ra (Za z.T.s.rel).length z.rc, .int .i64 (z.T.s.fresh + 1), .slice z.ga (Za (z.T.s.gen.drop 1)).length z.gc, .slice z.oa (Zc (z.T.s.used.drop 1)).length z.oc, .slice z.va (Za (z.T.vals.drop 1)).length z.vc, .int .i64 z.cap, .slice z.pa (Zt z.P).length z.pc, .slice z.ba (Zc z.B).length z.bc, .slice z.la (ZI z.LL).length z.lc, .slice u (Zg hs).length d] 47 :: Zf 23 1 (Zg hs) u d :: Zs a A :: L) w ∧ (k ≤ ss.length) ∧ (ss.length - k) = kM) ((List.length ss) - 0) ⟨0, rfl, Z, (Nat.zero_le _), rfl⟩ ?_
 clear Z; rintro _ _ w j ⟨k, rfl, Z, hk, rfl⟩
 refine WC.seq <| WC.seq <| WC.region <| WL.r 4 rfl <| WL.nil <| WC.ifP rfl (fun cd1 => ?_) (fun cd1 => ?_)
 ·refine WC.skip <| WC.seq <| WC.block <| WC.seq <| WC.plan [([0, 1, 2, 5, 10, 11, 3, 6, 12, 4, 7, 13, 8, 14, 9, 15, 16], some (17, [])), ([18], none)] (by kernel_rfl) (by kernel_rfl) ?_
  obtain ⟨n, hn⟩ : ∃ n, ss[k]? = some n := ⟨_, List.getElem?_eq_getElem (by omega)⟩; obtain ⟨hn1, hn2, l, hll, t, t1, t2, t3, t4⟩ := hW.needAt hsp hn; have hre : (ss.map V.rootOf)[k]? = some (V.rootOf n) := (by rw [List.getElem?_map, hn]; rfl); have hnn : (ZU (Z1 z.P z.B))[k]? = some n := (by rw [← hsn]; exact hn)
  replace Z : St g (Sh 121 2 (Zq l.es) l.a l.c :: Zn Z6 [z] :: ZP s a V :: Sh 3 1 (Zb ss) a4 c4 :: Sh 3 1 (Zb (ZU (Z1 z.P z.B))) a1 c1 :: Sh 23 1 (Zg V.T.handles) a3 c3 :: Sh 23 1 (Zg z.T.handles) ha hc :: Zf 64 1 (Za (ss.map V.rootOf)) a2 c2 :: Sh 56 1 (Zt z.P) z.pa z.pc :: Zn YO z.P :: Sh 4 1 (Zc z.B) z.ba z.bc :: Sh 64 1 (Za (SM.order A.s)) fa fc :: Sh 174 11 (Zo (AM.dmp A)) da dc :: Ze b #[.slice da (Zo (AM.dmp A)).length dc, .slice fa (Za (SM.order A.s)).length fc] 62 :: Sh 64 1 (Za z.T.s.rel) z.ra z.rc :: Sh 64 1 (Za (z.T.s.gen.drop 1)) z.ga z.gc :: Sh 4 1 (Zc (z.T.s.used.drop 1)) z.oa z.oc :: Sh 64 1 (Za (z.T.vals.drop 1)) z.va z.vc :: Sh 49 1 (ZI z.LL) z.la z.lc :: Zn Jk z.LL :: Ze p #[.pointer (some ⟨s, 0, none⟩), .int .i64 z.cap, .int .i64 z.T.s.cap, .slice z.ra (Za z.T.s.rel).length z.rc, .int .i64 (z.T.s.fresh + 1), .slice z.ga (Za (z.T.s.gen.drop 1)).length z.gc, .slice z.oa (Zc (z.T.s.used.drop 1)).length z.oc, .slice z.va (Za (z.T.vals.drop 1)).length z.vc, .int .i64 z.cap, .slice z.pa (Zt z.P).length z.pc, .slice z.ba (Zc z.B).length z.bc, .slice z.la (ZI z.LL).length z.lc, .slice u (Zg hs).length d] 47 :: Zf 23 1 (Zg hs) u d :: Zs a A :: L) w := Z.shsGet 18 rfl (List.mem_of_getElem? hll)
  refine WQ.ldF rfl rfl 13 Z rfl rfl ZA <| WQ.r 5 rfl <| WQ.ix rfl rfl (i := (k : Int)) (k) el_32 rfl rfl (by omega) (by omega) (Z.rdO 7 rfl (Zl hre)).1 ?_
  refine WQ.r 1 rfl <| WQ.ix rfl rfl (i := (k : Int)) (k) el_56 rfl rfl (by omega) (by omega) (Z.rdS 4 rfl (Zd hnn)).1 ?_
  refine WQ.run 5 [.int .u32 (V.rootOf n), .int .i64 n] rfl (by exact ⟨(Z.rdO 7 rfl (Zl hre)).2 0 _ rfl, (Z.rdS 4 rfl (Zd hnn)).2 0 _ rfl⟩) ?_
  refine WQ.nw 94 rfl (Zr (by omega)) ?_
  refine WQ.run 1 [.slice z.la (ZI z.LL).length z.lc] rfl (by exact Z.ld 20 rfl rfl) ?_
  refine WQ.ix rfl rfl (i := n - 1) ((n - 1).toNat) el_41 rfl rfl (by omega) (by omega) (Z.rdS 18 rfl (Zba hll)).1 ?_
  refine WQ.run 1 [.slice l.a (Zq l.es).length l.c] rfl (by exact (Z.rdS 18 rfl (Zba hll)).2 0 _ rfl) ?_
  refine WQ.nil ?_
  intro m8
  replace Z := Z.drewN m8; generalize hwm8 : World.drewN _ _ = w at *; clear hwm8
  refine WL.call rfl rfl (Zf5 (A := A) (R := List.map RN.root V.rs ++ []) (fa := fa) (fc := fc) (i := V.rootOf n) (t := t) (l := l.es) (u := l.a) (d := l.c) (hA := hW.vi.ref) (hi := t1) (hs := t3) (hb := t2) (hl := t4) (Z := (Z.selU [12] rfl))) rfl ?_
  clear Z; rintro _ w ⟨rfl, Z⟩
  replace Z := Z.n23 L (a1 := Sh 121 2 (Zq l.es) l.a l.c) rfl
  refine WL.nil ?_
  refine ⟨by exact trivial, ?_⟩
  refine WQ.r 1 rfl <| WQ.nil ?_
  intro m9
  replace Z := Z.drewN m9; generalize hwm9 : World.drewN _ _ = w at *; clear hwm9
  as_aux_lemma =>
  refine WC.ifF rfl rfl <| WC.skip <| WC.region <| WL.r 2 rfl <| WL.nw 79 rfl (Zr (by omega)) ?_
  refine WL.r 1 rfl <| WL.nil ?_
  exact ⟨_, by omega, k + 1, rfl, (Z.sel 13 [2, 2, 2, 2, 2, 2, 2, 2, 2, 2, 2, 0] rfl), (by omega), rfl⟩
 ·refine WC.exit <| WC.seq <| WC.seq <| WC.region ?_
  have hzh := Zz z.T.handles; have hze : z.T.handles.length = V.T.handles.length := (by rw [htt])
  refine WL.r 1 rfl <| WL.nil <| WC.block <| WC.loop [0, 3, 4, 6, 8] (fun kM vs w => ∃ (k2 : Nat), vs = [.pointer (some ⟨p, 0, none⟩), .pointer (some ⟨b, 0, none⟩), .slice ha (Zg z.T.handles).length hc, .slice a2 (Za (ss.map V.rootOf)).length c2, .int .i64 (k2 : Int)] ∧ St g (Zn Z6 [z] :: ZP s a V :: Sh 3 1 (Zb ss) a4 c4 :: Sh 3 1 (Zb (ZU (Z1 z.P z.B))) a1 c1 :: Sh 23 1 (Zg V.T.handles) a3 c3 :: Sh 23 1 (Zg z.T.handles) ha hc :: Zf 64 1 (Za (ss.map V.rootOf)) a2 c2 :: Sh 56 1 (Zt z.P) z.pa z.pc :: Zn YO z.P :: Sh 4 1 (Zc z.B) z.ba z.bc :: Sh 64 1 (Za (SM.order A.s)) fa fc :: Sh 174 11 (Zo (AM.dmp A)) da dc :: Ze b #[.slice da (Zo (AM.dmp A)).length dc, .slice fa (Za (SM.order A.s)).length fc] 62 :: Sh 64 1 (Za z.T.s.rel) z.ra z.rc :: Sh 64 1 (Za (z.T.s.gen.drop 1)) z.ga z.gc :: Sh 4 1 (Zc (z.T.s.used.drop 1)) z.oa z.oc :: Sh 64 1 (Za (z.T.vals.drop 1)) z.va z.vc :: Sh 49 1 (ZI z.LL) z.la z.lc :: Zn Jk z.LL :: Ze p #[.pointer (some ⟨s, 0, none⟩), .int .i64 z.cap, .int .i64 z.T.s.cap, .slice z.ra (Za z.T.s.rel).length z.rc, .int .i64 (z.T.s.fresh + 1), .slice z.ga (Za (z.T.s.gen.drop 1)).length z.gc, .slice z.oa (Zc (z.T.s.used.drop 1)).length z.oc, .slice z.va (Za (z.T.vals.drop 1)).length z.vc, .int .i64 z.cap, .slice z.pa (Zt z.P).length z.pc, .slice z.ba (Zc z.B).length z.bc, .slice z.la (ZI z.LL).length z.lc, .slice u (Zg hs).length d] 47 :: Zf 23 1 (Zg hs) u d :: Zs a A :: L) w ∧ (k2 ≤ z.T.handles.length) ∧ (z.T.handles.length - k2) = kM) ((List.length z.T.handles) - 0) ⟨0, rfl, Z, (Nat.zero_le _), rfl⟩ ?_
  clear Z; rintro _ _ w j ⟨k2, rfl, Z, hk2, rfl⟩
  refine WC.seq <| WC.seq <| WC.region ?_
  have hzh := Zz z.T.handles; have hze : z.T.handles.length = V.T.handles.length := (by rw [htt])
  refine WL.r 4 rfl <| WL.nil ?_
  as_aux_lemma =>
  refine WC.ifP rfl (fun cd2 => ?_) (fun cd2 => ?_)
  ·refine WC.skip <| WC.seq <| WC.block <| WC.seq <| WC.plan [([0, 4, 5, 1, 2, 3], some (6, [0, 1, 2, 3])), ([7], some (8, [])), ([9, 10, 11, 12, 13], none)] (by kernel_rfl) (by kernel_rfl) ?_
   obtain ⟨x, hx⟩ : ∃ n, z.T.handles[k2]? = some n := ⟨_, List.getElem?_eq_getElem (by omega)⟩; obtain ⟨hxo, hxr⟩ := Zn3 hrk.t (List.mem_of_getElem? hx); have hxv : V.T.s.opn x = true := (by rw [← htt]; exact hxo)
   refine WQ.run 6 [.pointer (some ⟨s, 0, none⟩)] rfl (by exact Z.ld 19 rfl rfl) ?_
   refine WQ.nil ?_
   intro m8
   replace Z := Z.drewN m8; generalize hwm8 : World.drewN _ _ = w at *; clear hwm8
   refine WL.ix rfl rfl (i := (k2 : Int)) (k2) el_45 rfl rfl (by omega) (by omega) (Z.rdS 5 rfl (Zm hx)).1 ?_
   refine WL.nil ?_
   refine ⟨by exact ⟨RQ.pure rfl rfl rfl rfl, RQ.pure rfl rfl rfl rfl, RQ.pure rfl rfl rfl rfl, RQ.load rfl rfl rfl rfl (Z.ld 19 rfl rfl)⟩, ?_⟩
   refine WQ.run 1 [.int .u64 x] rfl (by exact (Z.rdS 5 rfl (Zm hx)).2 0 _ rfl) ?_
   refine WQ.nil ?_
   intro m9
   replace Z := Z.drewN m9; generalize hwm9 : World.drewN _ _ = w at *; clear hwm9
   refine WL.call rfl rfl (Zof (A := A) (R := []) (h := x) (hV := hW.vi) (hh := hxr) (Z := (Z.sel 2 [1, 0] rfl))) rfl ?_
   clear Z; rintro _ w ⟨rfl, Z⟩
   replace Z := Z.n22 L rfl
   refine WL.nil ?_
   refine ⟨by exact trivial, ?_⟩
   refine WQ.r 5 rfl <| WQ.nil ?_
   intro m10
   replace Z := Z.drewN m10; generalize hwm10 : World.drewN _ _ = w at *; clear hwm10
   as_aux_lemma =>
   refine WC.seq <| WC.plan [([0, 4, 5, 1, 6, 2, 7, 3], some (8, [])), ([9, 10, 11, 12, 13], none)] (by kernel_rfl) (by kernel_rfl) ?_
   refine WQ.r 4 rfl <| WQ.ix rfl rfl (i := (k2 : Int)) (k2) el_45 rfl rfl (by omega) (by omega) (Z.rdS 5 rfl (Zm hx)).1 ?_
   refine WQ.run 2 [.int .u64 x] rfl (by exact (Z.rdS 5 rfl (Zm hx)).2 0 _ rfl) ?_
   refine WQ.ldC rfl rfl [.int .i64 z.cap, .int .i64 z.T.s.cap, .slice z.ra (Za z.T.s.rel).length z.rc, .int .i64 (z.T.s.fresh + 1), .slice z.ga (Za (z.T.s.gen.drop 1)).length z.gc, .slice z.oa (Zc (z.T.s.used.drop 1)).length z.oc, .slice z.va (Za (z.T.vals.drop 1)).length z.vc, .int .i64 z.cap, .slice z.pa (Zt z.P).length z.pc, .slice z.ba (Zc z.B).length z.bc, .slice z.la (ZI z.LL).length z.lc] Zy rfl (Z.part 19 rfl rfl) <| WQ.nil ?_
   intro m11
   replace Z := Z.drewN m11; generalize hwm11 : World.drewN _ _ = w at *; clear hwm11
   refine WL.call rfl rfl (Zgg (z := z) (h := x) (hz := hrk) (hh := hxr) (hx := (fun h => hW.opl h)) (Z := (Z.sel 2 [1, 0] rfl))) rfl ?_
   clear Z; rintro _ w ⟨x1, rfl, Z, f3⟩
   replace Z := Z.n23 L (a1 := Sh 121 2 (Zq x1.es) x1.a x1.c) rfl
   refine WL.nil ?_
   refine ⟨by exact trivial, ?_⟩
   refine WQ.r 5 rfl <| WQ.nil ?_
   intro m12
   replace Z := Z.drewN m12; generalize hwm12 : World.drewN _ _ = w at *; clear hwm12
   refine WC.seq <| WC.region ?_
   obtain ⟨hl1, hl2, hl3⟩ := hW.lst f3; obtain ⟨t, t1, t2, t3, t4⟩ := hl3 hxv
   refine WL.r 3 rfl <| WL.reb 131 (.bool false) (congrArg Value.bool (decide_eq_false ((fun h => h (if_pos hxv))))) <| WL.ung rfl rfl rfl <| WL.ldF rfl rfl 13 Z rfl rfl ZA <| WL.ung rfl rfl rfl <| WL.r 1 rfl <| WL.ung rfl rfl rfl <| WL.r 1 rfl <| WL.ung rfl rfl rfl <| WL.call rfl rfl (Zf5 (A := A) (R := List.map RN.root V.rs ++ []) (fa := fa) (fc := fc) (i := if V.T.s.opn x = true then V.rootOf (V.T.val x) else 0) (t := t) (l := x1.es) (u := x1.a) (d := x1.c) (hA := hW.vi.ref) (hi := (by rw [if_pos hxv]; exact t1)) (hs := t3) (hb := t2) (hl := t4) (Z := (Z.selU [12, 1] rfl))) rfl ?_
   clear Z; rintro _ w ⟨rfl, Z⟩
   replace Z := Z.n23 L rfl
   refine WL.ung rfl rfl rfl <| WL.r 2 rfl <| WL.nil ?_
   as_aux_lemma =>
   refine WC.ifF rfl rfl <| WC.skip <| WC.region <| WL.r 2 rfl <| WL.nw 104 rfl (Zr (by omega)) ?_
   refine WL.r 1 rfl <| WL.nil ?_
   exact ⟨_, by omega, k2 + 1, rfl, (Z.sel 13 [2, 2, 2, 2, 2, 2, 2, 2, 2, 2, 2, 0] rfl), (by omega), rfl⟩
  ·refine WC.exit <| WC.seq <| WC.region <| WL.run 4 [.pointer (some ⟨s, 0, none⟩)] rfl (by exact Z.ld 19 rfl rfl) ?_
   refine WL.call rfl rfl (Xc   (Z := (Z.sel 2 [1, 0] rfl))) rfl ?_
   clear Z; rintro _ w ⟨rfl, Z⟩
   replace Z := Z.n22 L rfl
   refine WL.r 1 rfl ?_
   replace Z := (Z.at_ 6 rfl).share
   replace Z := Z.n22 L (a0 := Sh 64 1 (Za (ss.map V.rootOf)) a2 c2) rfl
   refine WL.call rfl rfl (Zjn (R := ss.map V.rootOf) (hA := hW.vi.ref.perm (by rw [List.append_nil]; exact (Zfa hW.vi hsp).symm)) (hRl := (by omega)) (Z := (Z.selU [21] rfl))) rfl ?_
   clear Z; rintro _ w ⟨rfl, Z⟩
   replace Z := Z.n22 L rfl
   refine WL.r 1 rfl <| WL.nil <| WC.ret ?_
   refine ⟨[.bool true], rfl, ?_⟩
   replace Z := (Z.sel 22 [20, 20, 2, 0, 1] rfl)
   exact ⟨rfl, Z⟩
set_option maxHeartbeats 2000000 in
theorem Zfp {g w : World} {L : List HP} (cap : Int) (ls : List Vc) (la : Option Addr) (lc : Nat) (hcap : -9223372036854775808 ≤ cap ∧ cap ≤ 9223372036854775807) (hls : ∀ z ∈ ls, VcOk z) (hll : ls.length ≤ maxLen) (Z : St g (Sh 51 5 (enV ls) la lc :: Zn vcF ls :: L) w) :
  Sp Tryz.prog 5 [.int .i64 cap, .slice la (enV ls).length lc] w (fun v w' => v = .bool true ∧ St g (L) w') := by
 refine Sp.enter Tryz.func5 rfl (by kernel_rfl) (by kernel_rfl) ?_
 refine WC.seq <| WC.region <| WL.r 1 rfl <| WL.nil <| WC.seq <| WC.seq <| WC.region ?_
 have hel := Zgh ls; have hmx0 : ls.length ≤ 9223372036854775807 := hll; obtain ⟨nc, hnc, hnc1, hnc2⟩ : ∃ n : Nat, 1 + cap % 16 = (n : Int) ∧ 1 ≤ n ∧ n ≤ 16 := ⟨(1 + cap % 16).toNat, by omega, by omega, by omega⟩
 refine WL.r 3 rfl <| WL.nil <| WC.ifP rfl (fun cd1 => ?_) (fun cd1 => ?_)
 ·refine WC.seq <| WC.region <| WL.call rfl rfl (JK   (Z := Z)) rfl ?_
  clear Z; rintro _ w ⟨rfl, Z⟩
  replace Z := Z.n2 L rfl
  refine WL.r 1 rfl <| WL.nil <| WC.ret ?_
  refine ⟨[.bool true], rfl, ?_⟩
  replace Z := (Z.sel 2 [] rfl)
  exact ⟨rfl, Z⟩
 ·refine WC.skip <| WC.seq <| WC.region <| WL.r 1 rfl <| WL.call rfl rfl (Zgf (k := cap) (n := 16) (hk := hcap) (hn := (by decide)) (Z := Z)) rfl ?_
  clear Z; rintro _ w ⟨rfl, Z⟩
  replace Z := Z.n2 L rfl
  refine WL.r 1 rfl <| WL.nw 16 rfl (Zr (by omega)) ?_
  refine WL.r 1 rfl <| WL.nil <| WC.seq <| WC.region <| WL.r 1 rfl <| WL.call rfl rfl (Zan (sl := 2500) (cap := 1 + (cap % 16)) (hc := (by omega)) (hs := (by decide)) (Z := Z)) rfl ?_
  clear Z; rintro _ w ⟨s1, a1, rfl, Z⟩
  replace Z := Z.n4 L (a0 := ZP s1 a1 (VM.new (1 + (cap % 16)).toNat)) (a1 := Zs a1 (AM.new 2500)) rfl
  refine WL.r 5 rfl <| WL.nil ?_
  as_aux_lemma =>
  refine WC.seq <| WC.seq <| WC.region <| WL.call rfl rfl (JK   (Z := Z)) rfl ?_
  clear Z; rintro _ w ⟨rfl, Z⟩
  replace Z := Z.n4 L rfl
  refine WL.r 2 rfl <| WL.ung rfl rfl rfl <| WL.r 1 rfl <| WL.ung rfl rfl rfl <| WL.r 3 rfl <| WL.reb 28 (.bool false) (congrArg Value.bool (decide_eq_false (by decide))) ?_
  refine WL.ung rfl rfl rfl <| WL.r 1 rfl <| WL.ung rfl rfl rfl <| WL.r 3 rfl <| WL.ung rfl rfl rfl <| WL.r 1 rfl <| WL.ung rfl rfl rfl <| WL.call rfl rfl (Xc (V := VM.new (1 + (cap % 16)).toNat)  (Z := Z)) rfl ?_
  clear Z; rintro _ w ⟨rfl, Z⟩
  replace Z := Z.n4 L rfl
  refine WL.ung rfl rfl rfl <| WL.r 2 rfl <| WL.nil ?_
  as_aux_lemma =>
  refine WC.ifF rfl rfl <| WC.skip <| WC.seq <| WC.region <| WL.r 2 rfl <| WL.call rfl rfl (Zqg (n := nc) (cz := 1 + (cap % 16)) (hc := hnc) (hn := (by omega)) (Z := Z)) rfl ?_
  clear Z; rintro _ w ⟨z1, rfl, Z, f1⟩
  replace Z := Z.n5 L (a0 := Zn Z6 [z1]) rfl
  refine WL.build rfl rfl (cs := [.pointer (some ⟨s1, 0, none⟩), .int .i64 z1.cap, .int .i64 z1.T.s.cap, .slice z1.ra (Za z1.T.s.rel).length z1.rc, .int .i64 (z1.T.s.fresh + 1), .slice z1.ga (Za (z1.T.s.gen.drop 1)).length z1.gc, .slice z1.oa (Zc (z1.T.s.used.drop 1)).length z1.oc, .slice z1.va (Za (z1.T.vals.drop 1)).length z1.vc, .int .i64 z1.cap, .slice z1.pa (Zt z1.P).length z1.pc, .slice z1.ba (Zc z1.B).length z1.bc, .slice z1.la (ZI z1.LL).length z1.lc, .slice none 0 0]) zv_47 rfl rfl <| WL.box rfl rfl #[.pointer (some ⟨s1, 0, none⟩), .int .i64 z1.cap, .int .i64 z1.T.s.cap, .slice z1.ra (Za z1.T.s.rel).length z1.rc, .int .i64 (z1.T.s.fresh + 1), .slice z1.ga (Za (z1.T.s.gen.drop 1)).length z1.gc, .slice z1.oa (Zc (z1.T.s.used.drop 1)).length z1.oc, .slice z1.va (Za (z1.T.vals.drop 1)).length z1.vc, .int .i64 z1.cap, .slice z1.pa (Zt z1.P).length z1.pc, .slice z1.ba (Zc z1.B).length z1.bc, .slice z1.la (ZI z1.LL).length z1.lc, .slice none 0 0] Z rfl rfl (fun b1 w Z => ?_)
  refine WL.r 1 rfl <| WL.nil <| WC.seq <| WC.seq <| WC.region <| WL.r 1 rfl <| WL.nil <| WC.block ?_
  rw [show (1 + cap % 16).toNat = nc by omega] at Z; replace Z := Z.nil_ 23 1
  replace Z := Z.n7 L (a0 := Zf 23 1 (Zg []) none 0) (a1 := Ze b1 #[.pointer (some ⟨s1, 0, none⟩), .int .i64 z1.cap, .int .i64 z1.T.s.cap, .slice z1.ra (Za z1.T.s.rel).length z1.rc, .int .i64 (z1.T.s.fresh + 1), .slice z1.ga (Za (z1.T.s.gen.drop 1)).length z1.gc, .slice z1.oa (Zc (z1.T.s.used.drop 1)).length z1.oc, .slice z1.va (Za (z1.T.vals.drop 1)).length z1.vc, .int .i64 z1.cap, .slice z1.pa (Zt z1.P).length z1.pc, .slice z1.ba (Zc z1.B).length z1.bc, .slice z1.la (ZI z1.LL).length z1.lc, .slice none (Zg []).length 0] 47) (a3 := ZP s1 a1 (VM.new nc)) rfl
  refine WC.loop [1, 8, 9] (fun kM vs w => ∃ (k : Nat) (V : VM) (A : AM) (y : RSt) (hs : List Int) (u : Option Addr) (d : Nat), vs = [.slice la (enV ls).length lc, .pointer (some ⟨b1, 0, none⟩), .int .i64 (k : Int)] ∧ St g (Zf 23 1 (Zg hs) u d :: Ze b1 #[.pointer (some ⟨s1, 0, none⟩), .int .i64 y.cap, .int .i64 y.T.s.cap, .slice y.ra (Za y.T.s.rel).length y.rc, .int .i64 (y.T.s.fresh + 1), .slice y.ga (Za (y.T.s.gen.drop 1)).length y.gc, .slice y.oa (Zc (y.T.s.used.drop 1)).length y.oc, .slice y.va (Za (y.T.vals.drop 1)).length y.vc, .int .i64 y.cap, .slice y.pa (Zt y.P).length y.pc, .slice y.ba (Zc y.B).length y.bc, .slice y.la (ZI y.LL).length y.lc, .slice u (Zg hs).length d] 47 :: Zn Z6 [y] :: ZP s1 a1 V :: Zs a1 A :: Sh 51 5 (enV ls) la lc :: Zn vcF ls :: L) w ∧ (k ≤ ls.length) ∧ (WR V A [] y (12 + k)) ∧ (StB V A hs k) ∧ (ls.length - k) = kM) ((List.length ls) - 0) ⟨0, VM.new nc, AM.new 2500, z1, [], none, 0, rfl, Z, (Nat.zero_le _), (WR.new (by omega) f1 12), (⟨Int.le_refl 0, Nat.zero_le _, fun _ h => (by cases h), List.length_replicate⟩), rfl⟩ ?_
  clear Z; rintro _ _ w j ⟨k, V, A, y, hs, u, d, rfl, Z, hk, hW, hB, rfl⟩
  refine WC.seq <| WC.seq <| WC.region <| WL.r 4 rfl <| WL.nil ?_
  as_aux_lemma =>
  refine WC.ifP rfl (fun cd2 => ?_) (fun cd2 => ?_)
  ·refine WC.skip <| WC.seq <| WC.block <| WC.seq <| WC.region ?_
   obtain ⟨z, hz⟩ : ∃ z, ls[k]? = some z := ⟨_, List.getElem?_eq_getElem (by omega)⟩; have hzk := hls z (List.mem_of_getElem? hz)
   replace Z : St g (Sh 121 2 (Zq z.es) z.a z.c :: Zf 23 1 (Zg hs) u d :: Ze b1 #[.pointer (some ⟨s1, 0, none⟩), .int .i64 y.cap, .int .i64 y.T.s.cap, .slice y.ra (Za y.T.s.rel).length y.rc, .int .i64 (y.T.s.fresh + 1), .slice y.ga (Za (y.T.s.gen.drop 1)).length y.gc, .slice y.oa (Zc (y.T.s.used.drop 1)).length y.oc, .slice y.va (Za (y.T.vals.drop 1)).length y.vc, .int .i64 y.cap, .slice y.pa (Zt y.P).length y.pc, .slice y.ba (Zc y.B).length y.bc, .slice y.la (ZI y.LL).length y.lc, .slice u (Zg hs).length d] 47 :: Zn Z6 [y] :: ZP s1 a1 V :: Zs a1 A :: Sh 51 5 (enV ls) la lc :: Zn vcF ls :: L) w := Z.shsGet 6 rfl (List.mem_of_getElem? hz)
   refine WL.r 3 rfl <| WL.ix rfl rfl (i := (k : Int)) (k) el_22 rfl rfl (by omega) (by omega) (Z.rdS 6 rfl (Zk7 hz)).1 ?_
   refine WL.ldC rfl rfl [.int .i64 z.kd, .int .u64 z.ca, .int .u64 z.cb, .slice z.a (Zq z.es).length z.c, .bool z.rb] Zgt rfl (Z.rdS 6 rfl (Zk7 hz)).2 <| WL.call rfl rfl (wstep (z := y) (n := k) (kd := z.kd) (ca := z.ca) (cb := z.cb) (es := z.es) (ea := z.a) (ec := z.c) (rb := z.rb) (hW := hW) (hB := hB) (hn := (by omega)) (hkd := hzk.kd) (hca := hzk.ca) (hcb := hzk.cb) (hel := hzk.es) (Z := (Z.sel 6 [2, 1, 2, 2, 1, 0] rfl))) rfl ?_
   clear Z; rintro _ w ⟨V1, A1, z2, hs1, u1, d1, rfl, Z, f2, f3⟩
   replace Z := Z.n8 L (a0 := Ze b1 #[.pointer (some ⟨s1, 0, none⟩), .int .i64 z2.cap, .int .i64 z2.T.s.cap, .slice z2.ra (Za z2.T.s.rel).length z2.rc, .int .i64 (z2.T.s.fresh + 1), .slice z2.ga (Za (z2.T.s.gen.drop 1)).length z2.gc, .slice z2.oa (Zc (z2.T.s.used.drop 1)).length z2.oc, .slice z2.va (Za (z2.T.vals.drop 1)).length z2.vc, .int .i64 z2.cap, .slice z2.pa (Zt z2.P).length z2.pc, .slice z2.ba (Zc z2.B).length z2.bc, .slice z2.la (ZI z2.LL).length z2.lc, .slice u1 (Zg hs1).length d1] 47) (a1 := Zf 23 1 (Zg hs1) u1 d1) (a2 := ZP s1 a1 V1) (a3 := Zs a1 A1) (a4 := Zn Z6 [z2]) (a5 := Sh 121 2 (Zq z.es) z.a z.c) rfl
   refine WL.r 2 rfl <| WL.ung rfl rfl rfl <| WL.r 1 rfl <| WL.ung rfl rfl rfl <| WL.call rfl rfl (Zqd (z := z2) (hW := f2) (hm := (by omega)) (Z := Z)) rfl ?_
   clear Z; rintro _ w ⟨rfl, Z⟩
   replace Z := Z.n8 L rfl
   refine WL.ung rfl rfl rfl <| WL.r 2 rfl <| WL.nil <| WC.ifF rfl rfl <| WC.skip ?_
   as_aux_lemma =>
   refine WC.region <| WL.r 2 rfl <| WL.nw 47 rfl (Zr (by omega)) ?_
   refine WL.r 1 rfl <| WL.nil ?_
   exact ⟨_, by omega, k + 1, V1, A1, z2, hs1, u1, d1, rfl, (Z.sel 6 [1, 0, 2, 0, 0] rfl), (by omega), (f2), (f3.1), rfl⟩
  ·refine WC.exit <| WC.seq <| WC.region <| WL.r 1 rfl <| WL.nil <| WC.ret ?_
   refine ⟨[.bool true], rfl, ?_⟩
   replace Z := (Z.sel 7 [] rfl)
   exact ⟨rfl, Z⟩
end Go.Proofs.YtbeacjcmdijdmaaGreat
namespace Go.Proofs.YtbeacjcmdijdmaaGreat
open Go Go.V Go.RowKit
set_option maxRecDepth 100000
section
variable {H : Type} {enc : TypeId × Value → H} {w : World} {cs : List Value}
theorem Zj5 (h : Rdc enc Tryz.prog w 3 cs) : ∃ n, cs = [.int .i64 n] ∧ (-9223372036854775808 ≤ n ∧ n ≤ 9223372036854775807) := by
 obtain ⟨n, h1, h2, h3⟩ := h.int (k := .i64) (by kernel_rfl)
 exact ⟨n, h1, h2, h3⟩
theorem Zlt (h : Rdc enc Tryz.prog w 4 cs) : ∃ b, cs = [.bool b] := h.bool (by kernel_rfl)
theorem one1 {x : List Value} {v : Value} (h : x = [v]) (h1 : v.oneCell' = true) : x.length = 1 ∧ ∀ u ∈ x, u.oneCell' = true := by
 subst h; exact ⟨rfl, fun u hu => by simp at hu; subst hu; exact h1⟩
end
end Go.Proofs.YtbeacjcmdijdmaaGreat
namespace Go.Proofs.YtbeacjcmdijdmaaGreat
open Go Go.V Go.RowKit
set_option maxRecDepth 100000
theorem Zm5 {H : Type} {enc : TypeId × Value → H} {w : World} {cs : List Value} (h : Rdc enc Tryz.prog w 121 cs) : ∃ c0 c1 : Value, cs = [c0, c1] ∧ Rdc enc Tryz.prog w 2 [c0] ∧ Rdc enc Tryz.prog w 2 [c1] := by
 obtain ⟨hl, hf⟩ := Rdc.struct h Tryz.underlying121
 rw [show Tryz.prog.cellsOf 121 = 2 by kernel_rfl] at hl
 match cs, hl with
 | [c0, c1], _ =>
  have f0 : Rdc enc Tryz.prog w 2 (([c0, c1].drop 0).take (Tryz.prog.cellsOf 2)) := hf 0 _ rfl
  rw [show Tryz.prog.cellsOf 2 = 1 by kernel_rfl] at f0
  have f1 : Rdc enc Tryz.prog w 2 (([c0, c1].drop 1).take (Tryz.prog.cellsOf 2)) := hf 1 _ rfl
  rw [show Tryz.prog.cellsOf 2 = 1 by kernel_rfl] at f1
  exact ⟨c0, c1, rfl, f0, f1⟩
section
variable {H : Type} {enc : TypeId × Value → H} {w : World} {cs : List Value}
theorem Zi1 (h : Rdc enc Tryz.prog w 2 cs) : ∃ n, cs = [.int .i64 n] ∧ Ir n := by
 obtain ⟨n, h1, h2, h3⟩ := h.int (k := .i64) (by kernel_rfl)
 exact ⟨n, h1, h2, h3⟩
theorem Zie (h : Rdc enc Tryz.prog w 23 cs) : ∃ n, cs = [.int .u64 n] ∧ 0 ≤ n ∧ n ≤ 18446744073709551615 := by
 obtain ⟨n, h1, h2, h3⟩ := h.int (k := .u64) (by kernel_rfl)
 exact ⟨n, h1, h2, h3⟩
theorem Zju (h : Rdc enc Tryz.prog w 121 cs) : ∃ x : Int × Int, cs = [.int .i64 x.1, .int .i64 x.2] ∧ Ir x.1 ∧ Ir x.2 := by
 obtain ⟨c0, c1, rfl, h0, h1⟩ := Zm5 h
 obtain ⟨a, e0, w0⟩ := Zi1 h0
 obtain ⟨b, e1, w1⟩ := Zi1 h1
 cases e0; cases e1
 exact ⟨(a, b), rfl, w0, w1⟩
theorem Zl2 (h : Rdc enc Tryz.prog w 49 cs) : ∃ (l : List (Int × Int)) (a : Option Addr) (c : Nat), cs = [.slice a (Zq l).length c] ∧ (∀ x ∈ l, Ir x.1 ∧ Ir x.2) ∧ l.length ≤ maxLen ∧ ∀ e, Hw w (Sh e 2 (Zq l) a c) := by
 obtain ⟨a, c, ls, h1, h2, h3, h4⟩ := Rdc.slice (e := 121) (size := 2) h (by kernel_rfl) (by kernel_rfl) (by decide) (fun x hx => by
  obtain ⟨n, hn, _⟩ := Zju hx
  subst hn; exact ⟨rfl, fun u hu => by simp at hu; rcases hu with rfl | rfl <;> rfl⟩)
 obtain ⟨m, rfl, hm⟩ := Ze9 (fun x : Int × Int => [Value.int .i64 x.1, Value.int .i64 x.2]) (fun x => Ir x.1 ∧ Ir x.2) ls (fun x hx => by
  obtain ⟨n, hn, hb⟩ := Zju (h3 x hx)
  exact ⟨n, hn, hb⟩)
 exact ⟨m, a, c, h1, hm, by simpa using h2, h4⟩
end
end Go.Proofs.YtbeacjcmdijdmaaGreat
namespace Go.Proofs.YtbeacjcmdijdmaaGreat
open Go Go.V Go.RowKit
set_option maxRecDepth 100000
theorem Zpb {H : Type} {enc : TypeId × Value → H} {w : World} {cs : List Value} (h : Rdc enc Tryz.prog w 51 cs) : ∃ c0 c1 c2 c3 c4 : Value, cs = [c0, c1, c2, c3, c4] ∧ Rdc enc Tryz.prog w 3 [c0] ∧ Rdc enc Tryz.prog w 23 [c1] ∧ Rdc enc Tryz.prog w 23 [c2] ∧ Rdc enc Tryz.prog w 49 [c3] ∧ Rdc enc Tryz.prog w 4 [c4] := by
 obtain ⟨hl, hf⟩ := Rdc.struct h Tryz.underlying51
 rw [show Tryz.prog.cellsOf 51 = 5 by kernel_rfl] at hl
 match cs, hl with
 | [c0, c1, c2, c3, c4], _ =>
  have f0 : Rdc enc Tryz.prog w 3 (([c0, c1, c2, c3, c4].drop 0).take (Tryz.prog.cellsOf 3)) := hf 0 _ rfl
  rw [show Tryz.prog.cellsOf 3 = 1 by kernel_rfl] at f0
  have f1 : Rdc enc Tryz.prog w 23 (([c0, c1, c2, c3, c4].drop 1).take (Tryz.prog.cellsOf 23)) := hf 1 _ rfl
  rw [show Tryz.prog.cellsOf 23 = 1 by kernel_rfl] at f1
  have f2 : Rdc enc Tryz.prog w 23 (([c0, c1, c2, c3, c4].drop 2).take (Tryz.prog.cellsOf 23)) := hf 2 _ rfl
  rw [show Tryz.prog.cellsOf 23 = 1 by kernel_rfl] at f2
  have f3 : Rdc enc Tryz.prog w 49 (([c0, c1, c2, c3, c4].drop 3).take (Tryz.prog.cellsOf 49)) := hf 3 _ rfl
  rw [show Tryz.prog.cellsOf 49 = 1 by kernel_rfl] at f3
  have f4 : Rdc enc Tryz.prog w 4 (([c0, c1, c2, c3, c4].drop 4).take (Tryz.prog.cellsOf 4)) := hf 4 _ rfl
  rw [show Tryz.prog.cellsOf 4 = 1 by kernel_rfl] at f4
  exact ⟨c0, c1, c2, c3, c4, rfl, f0, f1, f2, f3, f4⟩
section
variable {H : Type} {enc : TypeId × Value → H} {w : World} {cs : List Value}
theorem Zgj (h : Rdc enc Tryz.prog w 51 cs) : ∃ z : Vc, cs = vcC z ∧ VcOk z ∧ ∀ A ∈ vcF z, Hw w A := by
 obtain ⟨c0, c1, c2, c3, c4, rfl, h0, h1, h2, h3, h4⟩ := Zpb h
 obtain ⟨kd, e0, w0⟩ := Zj5 h0
 obtain ⟨ca, e1, w1⟩ := Zie h1
 obtain ⟨cb, e2, w2⟩ := Zie h2
 obtain ⟨l, a, c, e3, w3, m3, s3⟩ := Zl2 h3
 obtain ⟨rb, e4⟩ := Zlt h4
 cases e0; cases e1; cases e2; cases e3; cases e4
 refine ⟨⟨kd, ca, cb, l, a, c, rb⟩, rfl, ⟨w0, w1, w2, m3⟩, fun A hA => ?_⟩
 simp only [vcF, List.mem_singleton] at hA
 subst hA; exact s3 _
theorem Zpo (h : Rdc enc Tryz.prog w 22 cs) : ∃ (l : List Vc) (a : Option Addr) (c : Nat), cs = [.slice a (enV l).length c] ∧ (∀ z ∈ l, VcOk z) ∧ l.length ≤ maxLen ∧ (∀ e, Hw w (Sh e 5 (enV l) a c)) ∧ Hw w (Zn vcF l) := by
 obtain ⟨a, c, ls, h1, h2, h3, h4⟩ := Rdc.slice (e := 51) (size := 5) h (by kernel_rfl) (by kernel_rfl) (by decide) (fun x hx => by
  obtain ⟨n, hn, _⟩ := Zgj hx
  subst hn; exact Zot [n] _ (List.mem_singleton.2 rfl))
 obtain ⟨m, rfl, hm⟩ := Ze9 vcC (fun z => VcOk z ∧ ∀ A ∈ vcF z, Hw w A) ls (fun x hx => by
  obtain ⟨n, hn, hb⟩ := Zgj (h3 x hx)
  exact ⟨n, hn, hb⟩)
 refine ⟨m, a, c, ?_, fun z hz => (hm z hz).1, by simpa using h2, h4, fun r hr z hz => ?_⟩
 ·rw [h1, Zgh, List.length_map]
 have h5 := (hm z hz).2
 have : ∀ M : List HP, (∀ A ∈ M, Hw w A) → All M (fun _ => none) r := by
  intro M
  induction M with
  | nil => exact fun _ => trivial
  | cons A M ih => exact fun hM => ⟨fun _ => none, fun _ => none, Sub.refl _, Sub.refl _, Dj.none _, hM A (List.mem_cons_self ..) r hr, ih fun B hB => hM B (List.mem_cons_of_mem _ hB)⟩
 exact this _ h5
end
end Go.Proofs.YtbeacjcmdijdmaaGreat
namespace Go.Proofs.YtbeacjcmdijdmaaGreat
open Go Go.V Go.RowKit Go.ChangeShapes Go.WideShapes
set_option maxRecDepth 100000
theorem vagr_calls {H : Type} {enc : TypeId × Value → H} {W : World} {base : Nat} {args : List Value} (h : AOk enc Tryz.prog W base [3, 22] args) :
  Calls Tryz.prog 5 args.toArray W fun e W' => e = .returned (.bool true) ∧ Below W.heap.size W W' := by
 obtain ⟨v0, vs0, rfl, k0, r0, h⟩ := h.cons
 obtain ⟨v1, vs1, rfl, k1, r1, h⟩ := h.cons
 obtain rfl := h.nil
 obtain ⟨n0, e0, h0⟩ := Zj5 r0
 obtain ⟨l1, a1, c1, e1, h1, m1, s1, t1⟩ := Zpo r1
 obtain rfl := Zge (Zlu k0 Tryz.underlying3) e0
 obtain rfl := Zge (Zhp k1 Tryz.underlying22) e1
 have Z := St.start W
 have Z := t1.add Z
 have Z := (s1 51).add Z
 exact Zg8 (Zfp n0 l1 a1 c1 h0 h1 m1 Z)
theorem vagr_lifted (os : Os) (started : os.Started) (H : Type) (enc : TypeId × Value → H) :
  ReturnsInHanded {} Tryz.checked os 5 .any (Rows.versionsAgreeSpec.pre6 enc Tryz.prog Tryz.f5 Rows.versionsAgreeRow.domain false) (Rows.versionsAgreeSpec.post enc Tryz.prog Tryz.f5 false true false false) := by
 refine returnsInHanded_of_change (C := Tryz.checked) (by kernel_rfl) started (by kernel_rfl) Tryz.func5
  (ChangeSpec.witness6 (enc := enc) (C := Tryz.checked) false ⟨#[], #[.int .i64 0, .slice none 0 0], []⟩ 8 (by kernel_rfl) (by kernel_rfl) (by kernel_rfl) (by kernel_rfl)) ?_
 intro W base args ds gs before hval0 hW _ _
 have hval : ∀ (j : Nat) t v, Tryz.f5.params[j]? = some t → args[j]? = some v → Value.okWide Tryz.prog W .any base t v := hval0
 have hW0 := hW
 obtain ⟨p, q, hA0, _⟩ := hW
 have hA : DataW.TrodAll enc Tryz.prog W 0 (fun _ => true) true Tryz.f5.params.toList args.toList ds p := hA0
 rw [Tryz.params5] at hA hval
 clear hA0 hval0
 have hc := vagr_calls (AOk.args hA hval)
 rw [Array.toArray_toList] at hc
 refine hc.mono fun e W' ⟨he, hb⟩ => ⟨_, he, ?_⟩
 refine Zkc rfl hW0 (by kernel_rfl) ?_ (by kernel_rfl) Tryz.underlying4 ?_ hb
 ·exact fun t ht => by
   simp only [Tryz.params5, List.mem_cons, List.not_mem_nil, or_false] at ht
   rcases ht with rfl | rfl <;> exact ⟨by kernel_rfl, of_decide_eq_true (by kernel_rfl)⟩
 ·intro hd
  match ds, hd with
  | [d1, d2], _ => exact ⟨rfl, rfl, rfl⟩
theorem vagr_holds : Rows.VersionsAgreeSaid :=
 OpenClaim.holds_of_wide 5 Tryz.f5 rfl rfl rfl rfl rfl rfl rfl ⟨rfl, rfl, rfl, rfl, rfl⟩ rfl rfl rfl rfl rfl (by kernel_rfl) Tryz.func5 (by kernel_rfl)
  (of_decide_eq_true (by kernel_rfl)) (by unfold Func.isWrapper; first | (rw [if_pos (by decide +kernel)]; kernel_rfl) | (rw [if_neg (by decide +kernel)]; exact ⟨rfl, rfl⟩))
  (fun os started H enc _ => vagr_lifted os started H enc)
end Go.Proofs.YtbeacjcmdijdmaaGreat
