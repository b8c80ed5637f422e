/-
  The row of TopBranchesConfluent: for every input the law returns true, and the arguments read as before.
  Conditions: none.
-/
import Derived.Test.YtpebgkkmgffmaaaGreatDoorZtaP
import Derived.Test.YtpebgkkmgffmaaaGreatDoorJtbg
import Derived.Test.YtpebgkkmgffmaaaGreatDoorJtbq
set_option maxRecDepth 8192
namespace Go.Proofs.YtpebgkkmgffmaaaGreatDoor
open Go Go.V Go.RowKit Go.ChangeShapes Go.WideShapes
set_option maxRecDepth 100000
theorem topbr_calls{H:Type}{enc:TypeId×Value→H}{W:World}{base:Nat}{args:List Value}(h:AOk enc Tryz.prog W base [22,22,23] args) :
  Calls Tryz.prog 3 args.toArray W fun e W'=>e=.returned (.bool true)∧Below W.heap.size W W':=by
 obtain⟨v0,vs0,rfl,k0,r0,h⟩:=h.cons
 obtain⟨v1,vs1,rfl,k1,r1,h⟩:=h.cons
 obtain⟨v2,vs2,rfl,k2,r2,h⟩:=h.cons
 obtain rfl:=h.nil
 obtain⟨l0,a0,c0,e0,h0,m0,s0⟩:=Zb3 r0
 obtain⟨l1,a1,c1,e1,h1,m1,s1⟩:=Zb3 r1
 obtain⟨n2,e2,h2⟩:=Zrw r2
 obtain rfl:=Ck (Dp k0 Tryz.underlying22) e0
 obtain rfl:=Ck (Dp k1 Tryz.underlying22) e1
 obtain rfl:=Ck (Zmv k2 Tryz.underlying23) e2
 have Z:=St.start W
 have Z:=(s1 32).add Z
 have Z:=(s0 32).add Z
 exact Zff (Zlf l0 l1 a0 a1 c0 c1 n2 (fun x hx=>(h0 x hx).1) (fun x hx=>(h1 x hx).1) m0 m1 h2 Z)
theorem topbr_own:ownKnob Tryz.prog.godebug=none:=by kernel_rfl
theorem topbr_lifted(os:Os)(started:os.Started)(H:Type)(enc:TypeId×Value→H) :
  ReturnsInHanded {} Tryz.checked os 3 .any (fun w args=>(Rows.topBranchesConfluentSpec.pre enc Tryz.prog Tryz.f3 Rows.topBranchesConfluentRow.domain false w args∧laidMetH Tryz.prog Rows.topBranchesConfluentRow.laid w)∧sizedMet enc Tryz.prog Tryz.f3 (OpenSpec.ofChange Rows.topBranchesConfluentSpec) false w args)
   (Rows.topBranchesConfluentSpec.post enc Tryz.prog Tryz.f3 false true false false):=by
 refine returnsInHanded_of_change_and (C:=Tryz.checked) (X:=fun w _=>laidMetH Tryz.prog Rows.topBranchesConfluentRow.laid w) (fun _ _ _ hh h=>h.of_heap hh) topbr_own started (by kernel_rfl) Tryz.func3
  (ChangeSpec.witness_shaped (enc:=enc) (C:=Tryz.checked) (os:=os) (X:=fun w _=>laidMetH Tryz.prog Rows.topBranchesConfluentRow.laid w) false (World.laidAll Tryz.prog os Rows.topBranchesConfluentRow.laid) #[.slice none 0 0,.slice none 0 0,.int .u64 0] 8 (World.laidAll_os _ _ _)
   (World.shaped_of_ZipB (by kernel_rfl) (by kernel_rfl)) (by kernel_rfl) (by kernel_rfl) (by kernel_rfl)
   (by rw[MakeChecks.laidMetH_plain _ _ _ (by kernel_rfl)];exact laidMet_laidAll _ (by kernel_rfl) (by kernel_rfl))) ?_
 intro W base args ds gs before hval0 hW _ _ hL _
 have hval:∀(j:Nat) t v,Tryz.f3.params[j]?=some t→args[j]?=some v→Value.okWide Tryz.prog W .any base t v:=hval0
 have hW0:=hW
 obtain⟨p,q,hA0,_⟩:=hW
 have hA:DataW.TrodAll enc Tryz.prog W 0 (fun _=>true) true Tryz.f3.params.toList args.toList ds p:=hA0
 rw[Tryz.params3] at hA hval
 clear hA0 hval0 hL
 have hc:=topbr_calls (AOk.args hA hval)
 rw[Array.toArray_toList] at hc
 refine hc.mono fun e W' ⟨he,hb⟩=>⟨_,he,?_⟩
 refine Zh8 rfl hW0 (by kernel_rfl) ?_ (by kernel_rfl) Tryz.underlying4 ?_ hb
 ·exact fun t ht=>by
   simp only[Tryz.params3,List.mem_cons,List.not_mem_nil,or_false] at ht
   rcases ht with rfl|rfl|rfl<;>exact⟨by kernel_rfl,of_decide_eq_true (by kernel_rfl)⟩
 intro hd
 match ds,hd with
 |[d1,d2,d3],_=>exact⟨rfl,rfl,rfl⟩
theorem topbr_row:Rows.TopBranchesConfluentSaid :=
 OpenClaim.holds_of_wide 3 Tryz.f3 rfl rfl rfl rfl rfl rfl rfl ⟨rfl,rfl,rfl,rfl,rfl⟩ rfl rfl rfl rfl rfl (by kernel_rfl) Tryz.func3 topbr_closed
  (of_decide_eq_true (by kernel_rfl)) (by unfold Func.isWrapper;first|(rw[if_pos (by decide +kernel)];kernel_rfl)|(rw[if_neg (by decide +kernel)];exact⟨rfl,rfl⟩))
  (fun os started H enc _=>topbr_lifted os started H enc)
theorem topbr_holds : Rows.TopBranchesConfluentCardSaid :=
 Claim7.holds_tied_plain_at .later [] [.data, .pinned] true (true, "3861c33a280e6d2a5ae272fb7bd70dd0663395a7eb23c0a9f17bfbb8c9f7f162") false topbr_row (fun _ h => by cases h) (by kernel_rfl) (fun _ h => by cases h) topBranchesConfluent_row_tie rfl ⟨rfl, rfl⟩ (by kernel_rfl) rfl
  (fun f fn hf hfn => by
   obtain rfl : f = 3 := Option.some.inj ((show Tryz.prog.funcNamed "versionmap/versionmaptop.TopBranchesConfluent" = some 3 by kernel_rfl).symm.trans hf) |>.symm
   obtain rfl : fn = Tryz.f3 := (Option.some.inj (Tryz.func3.symm.trans hfn)).symm
   exact ⟨topbr_looks, fun j t ht => by
    rw [Tryz.params3] at ht
    have hm : t ∈ [22, 22, 23] := by simpa using Array.mem_of_getElem? ht
    have hall : ([22, 22, 23].all fun u => !Tryz.prog.wantsStandIn u) = true := by kernel_rfl
    exact (show Tryz.prog.wantsStandIn t = false by simpa using List.all_eq_true.1 hall t hm)⟩)
  topbr_goes
end Go.Proofs.YtpebgkkmgffmaaaGreatDoor
