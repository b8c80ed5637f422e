/-
  Which fields a code has.
  Conditions: none.
-/
import Derived.Test.YtofnoopjlmdelaaTypes
import Derived.Test.YtofnoopjlmdelaaOpx
namespace Go.Proofs.Ytofnoopjlmdelaa
open Go Go.V

theorem fields_spec {g w : World} {L : List HP} (c : Int) (hS : St g (L) w) :
    Sp Try.prog 31 [.int .i64 c] w (fun v w' => v = .tuple #[.string (mkS (fs c)), .bool (isOp c)] ∧ St g (L) w') := by
  refine Sp.enter Try.func31 rfl (by kernel_rfl) (by kernel_rfl) ?_
  refine WC.seq ?_
  refine WC.region ?_
  refine WL.r 2 rfl ?_
  refine WL.nil ?_
  refine WC.seq ?_
  refine WC.seq ?_
  refine WC.region ?_
  refine WL.r 1 rfl ?_
  refine WL.nil ?_
  refine WC.block ?_
  refine WC.seq ?_
  refine WC.seq ?_
  refine WC.region ?_
  refine WL.r 2 rfl ?_
  refine WL.nil ?_
  refine WC.ifP rfl (fun cd1 => ?_) (fun cd1 => ?_)
  · refine WC.skip ?_
    refine WC.ifT rfl (decide_eq_true cd1) ?_
    refine WC.seq ?_
    refine WC.region ?_
    refine WL.r 2 rfl ?_
    refine WL.nil ?_
    refine WC.ret ?_
    refine ⟨[.string ⟨#[]⟩, .bool true], ⟨rfl, rfl⟩, ?_⟩
    subst cd1; exact ⟨rfl, hS⟩
  · refine WC.region ?_
    refine WL.r 2 rfl ?_
    refine WL.nil ?_
    refine WC.ifP rfl (fun cd2 => ?_) (fun cd2 => ?_)
    · refine WC.seq ?_
      refine WC.region ?_
      refine WL.r 2 rfl ?_
      refine WL.nil ?_
      as_aux_lemma =>
        refine WC.ret ?_
        refine ⟨[.string ⟨#[]⟩, .bool true], ⟨rfl, rfl⟩, ?_⟩
        subst cd2; exact ⟨rfl, hS⟩
    · refine WC.seq ?_
      refine WC.seq ?_
      refine WC.region ?_
      refine WL.r 2 rfl ?_
      refine WL.nil ?_
      as_aux_lemma =>
        refine WC.ifP rfl (fun cd3 => ?_) (fun cd3 => ?_)
        · refine WC.skip ?_
          refine WC.ifT rfl (decide_eq_true cd3) ?_
          refine WC.seq ?_
          refine WC.region ?_
          refine WL.r 2 rfl ?_
          refine WL.nil ?_
          refine WC.ret ?_
          refine ⟨[.string ⟨#[65, 75]⟩, .bool true], ⟨rfl, rfl⟩, ?_⟩
          subst cd3; exact ⟨rfl, hS⟩
        · refine WC.seq ?_
          refine WC.region ?_
          refine WL.r 2 rfl ?_
          refine WL.nil ?_
          refine WC.ifP rfl (fun cd4 => ?_) (fun cd4 => ?_)
          · refine WC.skip ?_
            refine WC.ifT rfl (decide_eq_true cd4) ?_
            refine WC.seq ?_
            refine WC.region ?_
            refine WL.r 2 rfl ?_
            refine WL.nil ?_
            refine WC.ret ?_
            refine ⟨[.string ⟨#[65, 75]⟩, .bool true], ⟨rfl, rfl⟩, ?_⟩
            subst cd4; exact ⟨rfl, hS⟩
          · refine WC.seq ?_
            refine WC.region ?_
            refine WL.r 2 rfl ?_
            refine WL.nil ?_
            refine WC.ifP rfl (fun cd5 => ?_) (fun cd5 => ?_)
            · refine WC.skip ?_
              refine WC.ifT rfl (decide_eq_true cd5) ?_
              refine WC.seq ?_
              refine WC.region ?_
              refine WL.r 2 rfl ?_
              refine WL.nil ?_
              refine WC.ret ?_
              refine ⟨[.string ⟨#[65, 75]⟩, .bool true], ⟨rfl, rfl⟩, ?_⟩
              subst cd5; exact ⟨rfl, hS⟩
            · refine WC.seq ?_
              refine WC.region ?_
              refine WL.r 2 rfl ?_
              refine WL.nil ?_
              refine WC.ifP rfl (fun cd6 => ?_) (fun cd6 => ?_)
              · refine WC.skip ?_
                refine WC.ifT rfl (decide_eq_true cd6) ?_
                refine WC.seq ?_
                refine WC.region ?_
                refine WL.r 2 rfl ?_
                refine WL.nil ?_
                refine WC.ret ?_
                refine ⟨[.string ⟨#[65, 75]⟩, .bool true], ⟨rfl, rfl⟩, ?_⟩
                subst cd6; exact ⟨rfl, hS⟩
              · refine WC.region ?_
                refine WL.r 2 rfl ?_
                refine WL.nil ?_
                refine WC.ifP rfl (fun cd7 => ?_) (fun cd7 => ?_)
                · refine WC.seq ?_
                  refine WC.region ?_
                  refine WL.r 2 rfl ?_
                  refine WL.nil ?_
                  refine WC.ret ?_
                  refine ⟨[.string ⟨#[65, 75]⟩, .bool true], ⟨rfl, rfl⟩, ?_⟩
                  subst cd7; exact ⟨rfl, hS⟩
                · refine WC.seq ?_
                  refine WC.seq ?_
                  refine WC.region ?_
                  refine WL.r 2 rfl ?_
                  refine WL.nil ?_
                  as_aux_lemma =>
                    refine WC.ifP rfl (fun cd8 => ?_) (fun cd8 => ?_)
                    · refine WC.skip ?_
                      refine WC.ifT rfl (decide_eq_true cd8) ?_
                      refine WC.seq ?_
                      refine WC.region ?_
                      refine WL.r 2 rfl ?_
                      refine WL.nil ?_
                      refine WC.ret ?_
                      refine ⟨[.string ⟨#[65, 75, 86]⟩, .bool true], ⟨rfl, rfl⟩, ?_⟩
                      subst cd8; exact ⟨rfl, hS⟩
                    · refine WC.seq ?_
                      refine WC.region ?_
                      refine WL.r 2 rfl ?_
                      refine WL.nil ?_
                      refine WC.ifP rfl (fun cd9 => ?_) (fun cd9 => ?_)
                      · refine WC.skip ?_
                        refine WC.ifT rfl (decide_eq_true cd9) ?_
                        refine WC.seq ?_
                        refine WC.region ?_
                        refine WL.r 2 rfl ?_
                        refine WL.nil ?_
                        refine WC.ret ?_
                        refine ⟨[.string ⟨#[65, 75, 86]⟩, .bool true], ⟨rfl, rfl⟩, ?_⟩
                        subst cd9; exact ⟨rfl, hS⟩
                      · refine WC.region ?_
                        refine WL.r 2 rfl ?_
                        refine WL.nil ?_
                        refine WC.ifP rfl (fun cd10 => ?_) (fun cd10 => ?_)
                        · refine WC.seq ?_
                          refine WC.region ?_
                          refine WL.r 2 rfl ?_
                          refine WL.nil ?_
                          refine WC.ret ?_
                          refine ⟨[.string ⟨#[65, 75, 86]⟩, .bool true], ⟨rfl, rfl⟩, ?_⟩
                          subst cd10; exact ⟨rfl, hS⟩
                        · refine WC.seq ?_
                          refine WC.region ?_
                          refine WL.r 2 rfl ?_
                          refine WL.nil ?_
                          refine WC.ifP rfl (fun cd11 => ?_) (fun cd11 => ?_)
                          · refine WC.seq ?_
                            refine WC.region ?_
                            refine WL.r 2 rfl ?_
                            refine WL.nil ?_
                            refine WC.ret ?_
                            refine ⟨[.string ⟨#[65, 67]⟩, .bool true], ⟨rfl, rfl⟩, ?_⟩
                            subst cd11; exact ⟨rfl, hS⟩
                          · refine WC.seq ?_
                            refine WC.region ?_
                            refine WL.r 2 rfl ?_
                            refine WL.nil ?_
                            refine WC.ifP rfl (fun cd12 => ?_) (fun cd12 => ?_)
                            · refine WC.seq ?_
                              refine WC.region ?_
                              refine WL.r 2 rfl ?_
                              refine WL.nil ?_
                              refine WC.ret ?_
                              refine ⟨[.string ⟨#[69]⟩, .bool true], ⟨rfl, rfl⟩, ?_⟩
                              subst cd12; exact ⟨rfl, hS⟩
                            · refine WC.seq ?_
                              refine WC.seq ?_
                              refine WC.region ?_
                              refine WL.r 2 rfl ?_
                              refine WL.nil ?_
                              as_aux_lemma =>
                                refine WC.ifP rfl (fun cd13 => ?_) (fun cd13 => ?_)
                                · refine WC.skip ?_
                                  refine WC.ifT rfl (decide_eq_true cd13) ?_
                                  refine WC.seq ?_
                                  refine WC.region ?_
                                  refine WL.r 2 rfl ?_
                                  refine WL.nil ?_
                                  refine WC.ret ?_
                                  refine ⟨[.string ⟨#[65]⟩, .bool true], ⟨rfl, rfl⟩, ?_⟩
                                  subst cd13; exact ⟨rfl, hS⟩
                                · refine WC.seq ?_
                                  refine WC.region ?_
                                  refine WL.r 2 rfl ?_
                                  refine WL.nil ?_
                                  refine WC.ifP rfl (fun cd14 => ?_) (fun cd14 => ?_)
                                  · refine WC.skip ?_
                                    refine WC.ifT rfl (decide_eq_true cd14) ?_
                                    refine WC.seq ?_
                                    refine WC.region ?_
                                    refine WL.r 2 rfl ?_
                                    refine WL.nil ?_
                                    refine WC.ret ?_
                                    refine ⟨[.string ⟨#[65]⟩, .bool true], ⟨rfl, rfl⟩, ?_⟩
                                    subst cd14; exact ⟨rfl, hS⟩
                                  · refine WC.seq ?_
                                    refine WC.region ?_
                                    refine WL.r 2 rfl ?_
                                    refine WL.nil ?_
                                    refine WC.ifP rfl (fun cd15 => ?_) (fun cd15 => ?_)
                                    · refine WC.skip ?_
                                      refine WC.ifT rfl (decide_eq_true cd15) ?_
                                      refine WC.seq ?_
                                      refine WC.region ?_
                                      refine WL.r 2 rfl ?_
                                      refine WL.nil ?_
                                      refine WC.ret ?_
                                      refine ⟨[.string ⟨#[65]⟩, .bool true], ⟨rfl, rfl⟩, ?_⟩
                                      subst cd15; exact ⟨rfl, hS⟩
                                    · refine WC.seq ?_
                                      refine WC.region ?_
                                      refine WL.r 2 rfl ?_
                                      refine WL.nil ?_
                                      refine WC.ifP rfl (fun cd16 => ?_) (fun cd16 => ?_)
                                      · refine WC.skip ?_
                                        refine WC.ifT rfl (decide_eq_true cd16) ?_
                                        refine WC.seq ?_
                                        refine WC.region ?_
                                        refine WL.r 2 rfl ?_
                                        refine WL.nil ?_
                                        refine WC.ret ?_
                                        refine ⟨[.string ⟨#[65]⟩, .bool true], ⟨rfl, rfl⟩, ?_⟩
                                        subst cd16; exact ⟨rfl, hS⟩
                                      · refine WC.region ?_
                                        refine WL.r 2 rfl ?_
                                        refine WL.nil ?_
                                        refine WC.ifP rfl (fun cd17 => ?_) (fun cd17 => ?_)
                                        · refine WC.seq ?_
                                          refine WC.region ?_
                                          refine WL.r 2 rfl ?_
                                          refine WL.nil ?_
                                          refine WC.ret ?_
                                          refine ⟨[.string ⟨#[65]⟩, .bool true], ⟨rfl, rfl⟩, ?_⟩
                                          subst cd17; exact ⟨rfl, hS⟩
                                        · refine WC.seq ?_
                                          refine WC.region ?_
                                          refine WL.r 2 rfl ?_
                                          refine WL.nil ?_
                                          refine WC.ifP rfl (fun cd18 => ?_) (fun cd18 => ?_)
                                          · refine WC.seq ?_
                                            refine WC.region ?_
                                            refine WL.r 2 rfl ?_
                                            refine WL.nil ?_
                                            as_aux_lemma =>
                                              refine WC.ret ?_
                                              refine ⟨[.string ⟨#[65, 66, 78]⟩, .bool true], ⟨rfl, rfl⟩, ?_⟩
                                              subst cd18; exact ⟨rfl, hS⟩
                                          · refine WC.seq ?_
                                            refine WC.region ?_
                                            refine WL.r 2 rfl ?_
                                            refine WL.nil ?_
                                            as_aux_lemma =>
                                              refine WC.ifP rfl (fun cd19 => ?_) (fun cd19 => ?_)
                                              · refine WC.seq ?_
                                                refine WC.region ?_
                                                refine WL.r 2 rfl ?_
                                                refine WL.nil ?_
                                                refine WC.ret ?_
                                                refine ⟨[.string ⟨#[65, 66, 78, 86]⟩, .bool true], ⟨rfl, rfl⟩, ?_⟩
                                                subst cd19; exact ⟨rfl, hS⟩
                                              · refine WC.seq ?_
                                                refine WC.seq ?_
                                                refine WC.region ?_
                                                refine WL.r 2 rfl ?_
                                                refine WL.nil ?_
                                                refine WC.ifP rfl (fun cd20 => ?_) (fun cd20 => ?_)
                                                · refine WC.skip ?_
                                                  refine WC.ifT rfl (decide_eq_true cd20) ?_
                                                  refine WC.seq ?_
                                                  refine WC.region ?_
                                                  refine WL.r 2 rfl ?_
                                                  refine WL.nil ?_
                                                  refine WC.ret ?_
                                                  refine ⟨[.string ⟨#[65, 76, 72, 78]⟩, .bool true], ⟨rfl, rfl⟩, ?_⟩
                                                  subst cd20; exact ⟨rfl, hS⟩
                                                · refine WC.region ?_
                                                  refine WL.r 2 rfl ?_
                                                  refine WL.nil ?_
                                                  refine WC.ifP rfl (fun cd21 => ?_) (fun cd21 => ?_)
                                                  · refine WC.seq ?_
                                                    refine WC.region ?_
                                                    refine WL.r 2 rfl ?_
                                                    refine WL.nil ?_
                                                    refine WC.ret ?_
                                                    refine ⟨[.string ⟨#[65, 76, 72, 78]⟩, .bool true], ⟨rfl, rfl⟩, ?_⟩
                                                    subst cd21; exact ⟨rfl, hS⟩
                                                  · refine WC.seq ?_
                                                    refine WC.seq ?_
                                                    refine WC.region ?_
                                                    refine WL.r 2 rfl ?_
                                                    refine WL.nil ?_
                                                    refine WC.ifP rfl (fun cd22 => ?_) (fun cd22 => ?_)
                                                    · refine WC.skip ?_
                                                      refine WC.ifT rfl (decide_eq_true cd22) ?_
                                                      refine WC.seq ?_
                                                      refine WC.region ?_
                                                      refine WL.r 2 rfl ?_
                                                      refine WL.nil ?_
                                                      refine WC.ret ?_
                                                      refine ⟨[.string ⟨#[65, 66]⟩, .bool true], ⟨rfl, rfl⟩, ?_⟩
                                                      subst cd22; exact ⟨rfl, hS⟩
                                                    · refine WC.seq ?_
                                                      refine WC.region ?_
                                                      refine WL.r 2 rfl ?_
                                                      refine WL.nil ?_
                                                      refine WC.ifP rfl (fun cd23 => ?_) (fun cd23 => ?_)
                                                      · refine WC.skip ?_
                                                        refine WC.ifT rfl (decide_eq_true cd23) ?_
                                                        refine WC.seq ?_
                                                        refine WC.region ?_
                                                        refine WL.r 2 rfl ?_
                                                        refine WL.nil ?_
                                                        as_aux_lemma =>
                                                          refine WC.ret ?_
                                                          refine ⟨[.string ⟨#[65, 66]⟩, .bool true], ⟨rfl, rfl⟩, ?_⟩
                                                          subst cd23; exact ⟨rfl, hS⟩
                                                      · refine WC.seq ?_
                                                        refine WC.region ?_
                                                        refine WL.r 2 rfl ?_
                                                        refine WL.nil ?_
                                                        as_aux_lemma =>
                                                          refine WC.ifP rfl (fun cd24 => ?_) (fun cd24 => ?_)
                                                          · refine WC.skip ?_
                                                            refine WC.ifT rfl (decide_eq_true cd24) ?_
                                                            refine WC.seq ?_
                                                            refine WC.region ?_
                                                            refine WL.r 2 rfl ?_
                                                            refine WL.nil ?_
                                                            refine WC.ret ?_
                                                            refine ⟨[.string ⟨#[65, 66]⟩, .bool true], ⟨rfl, rfl⟩, ?_⟩
                                                            subst cd24; exact ⟨rfl, hS⟩
                                                          · refine WC.region ?_
                                                            refine WL.r 2 rfl ?_
                                                            refine WL.nil ?_
                                                            refine WC.ifP rfl (fun cd25 => ?_) (fun cd25 => ?_)
                                                            · refine WC.seq ?_
                                                              refine WC.region ?_
                                                              refine WL.r 2 rfl ?_
                                                              refine WL.nil ?_
                                                              refine WC.ret ?_
                                                              refine ⟨[.string ⟨#[65, 66]⟩, .bool true], ⟨rfl, rfl⟩, ?_⟩
                                                              subst cd25; exact ⟨rfl, hS⟩
                                                            · refine WC.seq ?_
                                                              refine WC.seq ?_
                                                              refine WC.region ?_
                                                              refine WL.r 2 rfl ?_
                                                              refine WL.nil ?_
                                                              refine WC.ifP rfl (fun cd26 => ?_) (fun cd26 => ?_)
                                                              · refine WC.skip ?_
                                                                refine WC.ifT rfl (decide_eq_true cd26) ?_
                                                                refine WC.seq ?_
                                                                refine WC.region ?_
                                                                refine WL.r 2 rfl ?_
                                                                refine WL.nil ?_
                                                                refine WC.ret ?_
                                                                refine ⟨[.string ⟨#[65, 75, 78]⟩, .bool true], ⟨rfl, rfl⟩, ?_⟩
                                                                subst cd26; exact ⟨rfl, hS⟩
                                                              · refine WC.region ?_
                                                                refine WL.r 2 rfl ?_
                                                                refine WL.nil ?_
                                                                refine WC.ifP rfl (fun cd27 => ?_) (fun cd27 => ?_)
                                                                · refine WC.seq ?_
                                                                  refine WC.region ?_
                                                                  refine WL.r 2 rfl ?_
                                                                  refine WL.nil ?_
                                                                  refine WC.ret ?_
                                                                  refine ⟨[.string ⟨#[65, 75, 78]⟩, .bool true], ⟨rfl, rfl⟩, ?_⟩
                                                                  subst cd27; exact ⟨rfl, hS⟩
                                                                · refine WC.seq ?_
                                                                  refine WC.region ?_
                                                                  refine WL.r 2 rfl ?_
                                                                  refine WL.nil ?_
                                                                  refine WC.ifP rfl (fun cd28 => ?_) (fun cd28 => ?_)
                                                                  · refine WC.seq ?_
                                                                    refine WC.region ?_
                                                                    refine WL.r 2 rfl ?_
                                                                    refine WL.nil ?_
                                                                    refine WC.ret ?_
                                                                    refine ⟨[.string ⟨#[65, 78]⟩, .bool true], ⟨rfl, rfl⟩, ?_⟩
                                                                    subst cd28; exact ⟨rfl, hS⟩
                                                                  · refine WC.seq ?_
                                                                    refine WC.seq ?_
                                                                    refine WC.region ?_
                                                                    refine WL.r 2 rfl ?_
                                                                    refine WL.nil ?_
                                                                    as_aux_lemma =>
                                                                      refine WC.ifP rfl (fun cd29 => ?_) (fun cd29 => ?_)
                                                                      · refine WC.skip ?_
                                                                        refine WC.ifT rfl (decide_eq_true cd29) ?_
                                                                        refine WC.seq ?_
                                                                        refine WC.region ?_
                                                                        refine WL.r 2 rfl ?_
                                                                        refine WL.nil ?_
                                                                        refine WC.ret ?_
                                                                        refine ⟨[.string ⟨#[65, 76, 72]⟩, .bool true], ⟨rfl, rfl⟩, ?_⟩
                                                                        subst cd29; exact ⟨rfl, hS⟩
                                                                      · refine WC.seq ?_
                                                                        refine WC.region ?_
                                                                        refine WL.r 2 rfl ?_
                                                                        refine WL.nil ?_
                                                                        refine WC.ifP rfl (fun cd30 => ?_) (fun cd30 => ?_)
                                                                        · refine WC.skip ?_
                                                                          refine WC.ifT rfl (decide_eq_true cd30) ?_
                                                                          refine WC.seq ?_
                                                                          refine WC.region ?_
                                                                          refine WL.r 2 rfl ?_
                                                                          refine WL.nil ?_
                                                                          refine WC.ret ?_
                                                                          refine ⟨[.string ⟨#[65, 76, 72]⟩, .bool true], ⟨rfl, rfl⟩, ?_⟩
                                                                          subst cd30; exact ⟨rfl, hS⟩
                                                                        · refine WC.region ?_
                                                                          refine WL.r 2 rfl ?_
                                                                          refine WL.nil ?_
                                                                          refine WC.ifP rfl (fun cd31 => ?_) (fun cd31 => ?_)
                                                                          · refine WC.seq ?_
                                                                            refine WC.region ?_
                                                                            refine WL.r 2 rfl ?_
                                                                            refine WL.nil ?_
                                                                            refine WC.ret ?_
                                                                            refine ⟨[.string ⟨#[65, 76, 72]⟩, .bool true], ⟨rfl, rfl⟩, ?_⟩
                                                                            subst cd31; exact ⟨rfl, hS⟩
                                                                          · refine WC.seq ?_
                                                                            refine WC.region ?_
                                                                            refine WL.r 2 rfl ?_
                                                                            refine WL.nil ?_
                                                                            refine WC.ifP rfl (fun cd32 => ?_) (fun cd32 => ?_)
                                                                            · refine WC.seq ?_
                                                                              refine WC.region ?_
                                                                              refine WL.r 2 rfl ?_
                                                                              refine WL.nil ?_
                                                                              refine WC.ret ?_
                                                                              refine ⟨[.string ⟨#[65, 76, 72, 78, 70, 89]⟩, .bool true], ⟨rfl, rfl⟩, ?_⟩
                                                                              subst cd32; exact ⟨rfl, hS⟩
                                                                            · refine WC.seq ?_
                                                                              refine WC.region ?_
                                                                              refine WL.r 2 rfl ?_
                                                                              refine WL.nil ?_
                                                                              refine WC.ifP rfl (fun cd33 => ?_) (fun cd33 => ?_)
                                                                              · refine WC.seq ?_
                                                                                refine WC.region ?_
                                                                                refine WL.r 2 rfl ?_
                                                                                refine WL.nil ?_
                                                                                refine WC.ret ?_
                                                                                refine ⟨[.string ⟨#[65, 66, 83]⟩, .bool true], ⟨rfl, rfl⟩, ?_⟩
                                                                                subst cd33; exact ⟨rfl, hS⟩
                                                                              · refine WC.seq ?_
                                                                                refine WC.region ?_
                                                                                refine WL.r 2 rfl ?_
                                                                                refine WL.nil ?_
                                                                                refine WC.ifP rfl (fun cd34 => ?_) (fun cd34 => ?_)
                                                                                · refine WC.seq ?_
                                                                                  refine WC.region ?_
                                                                                  refine WL.r 2 rfl ?_
                                                                                  refine WL.nil ?_
                                                                                  as_aux_lemma =>
                                                                                    refine WC.ret ?_
                                                                                    refine ⟨[.string ⟨#[83]⟩, .bool true], ⟨rfl, rfl⟩, ?_⟩
                                                                                    subst cd34; exact ⟨rfl, hS⟩
                                                                                · refine WC.seq ?_
                                                                                  refine WC.region ?_
                                                                                  refine WL.r 2 rfl ?_
                                                                                  refine WL.nil ?_
                                                                                  as_aux_lemma =>
                                                                                    refine WC.ifP rfl (fun cd35 => ?_) (fun cd35 => ?_)
                                                                                    · refine WC.seq ?_
                                                                                      refine WC.region ?_
                                                                                      refine WL.r 2 rfl ?_
                                                                                      refine WL.nil ?_
                                                                                      refine WC.ret ?_
                                                                                      refine ⟨[.string ⟨#[66, 89]⟩, .bool true], ⟨rfl, rfl⟩, ?_⟩
                                                                                      subst cd35; exact ⟨rfl, hS⟩
                                                                                    · refine WC.skip ?_
                                                                                      refine WC.seq ?_
                                                                                      refine WC.region ?_
                                                                                      refine WL.r 2 rfl ?_
                                                                                      refine WL.nil ?_
                                                                                      refine WC.ret ?_
                                                                                      refine ⟨[.string ⟨#[]⟩, .bool false], ⟨rfl, rfl⟩, ?_⟩
                                                                                      have h0 : ¬ (1 ≤ c ∧ c ≤ 35) := by omega
                                                                                      rw [fs_none h0, isOp, decide_eq_false h0]; exact ⟨rfl, hS⟩

theorem Fields_spec {g w : World} {L : List HP} (c : Int) (hS : St g (L) w) :
    Sp Try.prog 30 [.int .i64 c] w (fun v w' => v = .tuple #[.string (mkS ((fs c).map (· + 32))), .bool (isOp c)] ∧ St g (L) w') := by
  refine Sp.enter Try.func30 rfl (by kernel_rfl) (by kernel_rfl) ?_
  refine WC.seq ?_
  refine WC.region ?_
  refine WL.r 2 rfl ?_
  refine WL.nil ?_
  refine WC.seq ?_
  refine WC.seq ?_
  refine WC.region ?_
  refine WL.r 1 rfl ?_
  refine WL.nil ?_
  refine WC.block ?_
  refine WC.seq ?_
  refine WC.seq ?_
  refine WC.region ?_
  refine WL.r 2 rfl ?_
  refine WL.nil ?_
  refine WC.ifP rfl (fun cd1 => ?_) (fun cd1 => ?_)
  · refine WC.skip ?_
    refine WC.ifT rfl (decide_eq_true cd1) ?_
    refine WC.seq ?_
    refine WC.region ?_
    refine WL.r 2 rfl ?_
    refine WL.nil ?_
    refine WC.ret ?_
    refine ⟨[.string ⟨#[]⟩, .bool true], ⟨rfl, rfl⟩, ?_⟩
    subst cd1; exact ⟨rfl, hS⟩
  · refine WC.region ?_
    refine WL.r 2 rfl ?_
    refine WL.nil ?_
    refine WC.ifP rfl (fun cd2 => ?_) (fun cd2 => ?_)
    · refine WC.seq ?_
      refine WC.region ?_
      refine WL.r 2 rfl ?_
      refine WL.nil ?_
      as_aux_lemma =>
        refine WC.ret ?_
        refine ⟨[.string ⟨#[]⟩, .bool true], ⟨rfl, rfl⟩, ?_⟩
        subst cd2; exact ⟨rfl, hS⟩
    · refine WC.seq ?_
      refine WC.seq ?_
      refine WC.region ?_
      refine WL.r 2 rfl ?_
      refine WL.nil ?_
      as_aux_lemma =>
        refine WC.ifP rfl (fun cd3 => ?_) (fun cd3 => ?_)
        · refine WC.skip ?_
          refine WC.ifT rfl (decide_eq_true cd3) ?_
          refine WC.seq ?_
          refine WC.region ?_
          refine WL.r 2 rfl ?_
          refine WL.nil ?_
          refine WC.ret ?_
          refine ⟨[.string ⟨#[97, 107]⟩, .bool true], ⟨rfl, rfl⟩, ?_⟩
          subst cd3; exact ⟨rfl, hS⟩
        · refine WC.seq ?_
          refine WC.region ?_
          refine WL.r 2 rfl ?_
          refine WL.nil ?_
          refine WC.ifP rfl (fun cd4 => ?_) (fun cd4 => ?_)
          · refine WC.skip ?_
            refine WC.ifT rfl (decide_eq_true cd4) ?_
            refine WC.seq ?_
            refine WC.region ?_
            refine WL.r 2 rfl ?_
            refine WL.nil ?_
            refine WC.ret ?_
            refine ⟨[.string ⟨#[97, 107]⟩, .bool true], ⟨rfl, rfl⟩, ?_⟩
            subst cd4; exact ⟨rfl, hS⟩
          · refine WC.seq ?_
            refine WC.region ?_
            refine WL.r 2 rfl ?_
            refine WL.nil ?_
            refine WC.ifP rfl (fun cd5 => ?_) (fun cd5 => ?_)
            · refine WC.skip ?_
              refine WC.ifT rfl (decide_eq_true cd5) ?_
              refine WC.seq ?_
              refine WC.region ?_
              refine WL.r 2 rfl ?_
              refine WL.nil ?_
              refine WC.ret ?_
              refine ⟨[.string ⟨#[97, 107]⟩, .bool true], ⟨rfl, rfl⟩, ?_⟩
              subst cd5; exact ⟨rfl, hS⟩
            · refine WC.seq ?_
              refine WC.region ?_
              refine WL.r 2 rfl ?_
              refine WL.nil ?_
              refine WC.ifP rfl (fun cd6 => ?_) (fun cd6 => ?_)
              · refine WC.skip ?_
                refine WC.ifT rfl (decide_eq_true cd6) ?_
                refine WC.seq ?_
                refine WC.region ?_
                refine WL.r 2 rfl ?_
                refine WL.nil ?_
                refine WC.ret ?_
                refine ⟨[.string ⟨#[97, 107]⟩, .bool true], ⟨rfl, rfl⟩, ?_⟩
                subst cd6; exact ⟨rfl, hS⟩
              · refine WC.region ?_
                refine WL.r 2 rfl ?_
                refine WL.nil ?_
                refine WC.ifP rfl (fun cd7 => ?_) (fun cd7 => ?_)
                · refine WC.seq ?_
                  refine WC.region ?_
                  refine WL.r 2 rfl ?_
                  refine WL.nil ?_
                  refine WC.ret ?_
                  refine ⟨[.string ⟨#[97, 107]⟩, .bool true], ⟨rfl, rfl⟩, ?_⟩
                  subst cd7; exact ⟨rfl, hS⟩
                · refine WC.seq ?_
                  refine WC.seq ?_
                  refine WC.region ?_
                  refine WL.r 2 rfl ?_
                  refine WL.nil ?_
                  as_aux_lemma =>
                    refine WC.ifP rfl (fun cd8 => ?_) (fun cd8 => ?_)
                    · refine WC.skip ?_
                      refine WC.ifT rfl (decide_eq_true cd8) ?_
                      refine WC.seq ?_
                      refine WC.region ?_
                      refine WL.r 2 rfl ?_
                      refine WL.nil ?_
                      refine WC.ret ?_
                      refine ⟨[.string ⟨#[97, 107, 118]⟩, .bool true], ⟨rfl, rfl⟩, ?_⟩
                      subst cd8; exact ⟨rfl, hS⟩
                    · refine WC.seq ?_
                      refine WC.region ?_
                      refine WL.r 2 rfl ?_
                      refine WL.nil ?_
                      refine WC.ifP rfl (fun cd9 => ?_) (fun cd9 => ?_)
                      · refine WC.skip ?_
                        refine WC.ifT rfl (decide_eq_true cd9) ?_
                        refine WC.seq ?_
                        refine WC.region ?_
                        refine WL.r 2 rfl ?_
                        refine WL.nil ?_
                        refine WC.ret ?_
                        refine ⟨[.string ⟨#[97, 107, 118]⟩, .bool true], ⟨rfl, rfl⟩, ?_⟩
                        subst cd9; exact ⟨rfl, hS⟩
                      · refine WC.region ?_
                        refine WL.r 2 rfl ?_
                        refine WL.nil ?_
                        refine WC.ifP rfl (fun cd10 => ?_) (fun cd10 => ?_)
                        · refine WC.seq ?_
                          refine WC.region ?_
                          refine WL.r 2 rfl ?_
                          refine WL.nil ?_
                          refine WC.ret ?_
                          refine ⟨[.string ⟨#[97, 107, 118]⟩, .bool true], ⟨rfl, rfl⟩, ?_⟩
                          subst cd10; exact ⟨rfl, hS⟩
                        · refine WC.seq ?_
                          refine WC.region ?_
                          refine WL.r 2 rfl ?_
                          refine WL.nil ?_
                          refine WC.ifP rfl (fun cd11 => ?_) (fun cd11 => ?_)
                          · refine WC.seq ?_
                            refine WC.region ?_
                            refine WL.r 2 rfl ?_
                            refine WL.nil ?_
                            refine WC.ret ?_
                            refine ⟨[.string ⟨#[97, 99]⟩, .bool true], ⟨rfl, rfl⟩, ?_⟩
                            subst cd11; exact ⟨rfl, hS⟩
                          · refine WC.seq ?_
                            refine WC.region ?_
                            refine WL.r 2 rfl ?_
                            refine WL.nil ?_
                            refine WC.ifP rfl (fun cd12 => ?_) (fun cd12 => ?_)
                            · refine WC.seq ?_
                              refine WC.region ?_
                              refine WL.r 2 rfl ?_
                              refine WL.nil ?_
                              refine WC.ret ?_
                              refine ⟨[.string ⟨#[101]⟩, .bool true], ⟨rfl, rfl⟩, ?_⟩
                              subst cd12; exact ⟨rfl, hS⟩
                            · refine WC.seq ?_
                              refine WC.seq ?_
                              refine WC.region ?_
                              refine WL.r 2 rfl ?_
                              refine WL.nil ?_
                              as_aux_lemma =>
                                refine WC.ifP rfl (fun cd13 => ?_) (fun cd13 => ?_)
                                · refine WC.skip ?_
                                  refine WC.ifT rfl (decide_eq_true cd13) ?_
                                  refine WC.seq ?_
                                  refine WC.region ?_
                                  refine WL.r 2 rfl ?_
                                  refine WL.nil ?_
                                  refine WC.ret ?_
                                  refine ⟨[.string ⟨#[97]⟩, .bool true], ⟨rfl, rfl⟩, ?_⟩
                                  subst cd13; exact ⟨rfl, hS⟩
                                · refine WC.seq ?_
                                  refine WC.region ?_
                                  refine WL.r 2 rfl ?_
                                  refine WL.nil ?_
                                  refine WC.ifP rfl (fun cd14 => ?_) (fun cd14 => ?_)
                                  · refine WC.skip ?_
                                    refine WC.ifT rfl (decide_eq_true cd14) ?_
                                    refine WC.seq ?_
                                    refine WC.region ?_
                                    refine WL.r 2 rfl ?_
                                    refine WL.nil ?_
                                    refine WC.ret ?_
                                    refine ⟨[.string ⟨#[97]⟩, .bool true], ⟨rfl, rfl⟩, ?_⟩
                                    subst cd14; exact ⟨rfl, hS⟩
                                  · refine WC.seq ?_
                                    refine WC.region ?_
                                    refine WL.r 2 rfl ?_
                                    refine WL.nil ?_
                                    refine WC.ifP rfl (fun cd15 => ?_) (fun cd15 => ?_)
                                    · refine WC.skip ?_
                                      refine WC.ifT rfl (decide_eq_true cd15) ?_
                                      refine WC.seq ?_
                                      refine WC.region ?_
                                      refine WL.r 2 rfl ?_
                                      refine WL.nil ?_
                                      refine WC.ret ?_
                                      refine ⟨[.string ⟨#[97]⟩, .bool true], ⟨rfl, rfl⟩, ?_⟩
                                      subst cd15; exact ⟨rfl, hS⟩
                                    · refine WC.seq ?_
                                      refine WC.region ?_
                                      refine WL.r 2 rfl ?_
                                      refine WL.nil ?_
                                      refine WC.ifP rfl (fun cd16 => ?_) (fun cd16 => ?_)
                                      · refine WC.skip ?_
                                        refine WC.ifT rfl (decide_eq_true cd16) ?_
                                        refine WC.seq ?_
                                        refine WC.region ?_
                                        refine WL.r 2 rfl ?_
                                        refine WL.nil ?_
                                        refine WC.ret ?_
                                        refine ⟨[.string ⟨#[97]⟩, .bool true], ⟨rfl, rfl⟩, ?_⟩
                                        subst cd16; exact ⟨rfl, hS⟩
                                      · refine WC.region ?_
                                        refine WL.r 2 rfl ?_
                                        refine WL.nil ?_
                                        refine WC.ifP rfl (fun cd17 => ?_) (fun cd17 => ?_)
                                        · refine WC.seq ?_
                                          refine WC.region ?_
                                          refine WL.r 2 rfl ?_
                                          refine WL.nil ?_
                                          refine WC.ret ?_
                                          refine ⟨[.string ⟨#[97]⟩, .bool true], ⟨rfl, rfl⟩, ?_⟩
                                          subst cd17; exact ⟨rfl, hS⟩
                                        · refine WC.seq ?_
                                          refine WC.region ?_
                                          refine WL.r 2 rfl ?_
                                          refine WL.nil ?_
                                          refine WC.ifP rfl (fun cd18 => ?_) (fun cd18 => ?_)
                                          · refine WC.seq ?_
                                            refine WC.region ?_
                                            refine WL.r 2 rfl ?_
                                            refine WL.nil ?_
                                            as_aux_lemma =>
                                              refine WC.ret ?_
                                              refine ⟨[.string ⟨#[97, 98, 110]⟩, .bool true], ⟨rfl, rfl⟩, ?_⟩
                                              subst cd18; exact ⟨rfl, hS⟩
                                          · refine WC.seq ?_
                                            refine WC.region ?_
                                            refine WL.r 2 rfl ?_
                                            refine WL.nil ?_
                                            as_aux_lemma =>
                                              refine WC.ifP rfl (fun cd19 => ?_) (fun cd19 => ?_)
                                              · refine WC.seq ?_
                                                refine WC.region ?_
                                                refine WL.r 2 rfl ?_
                                                refine WL.nil ?_
                                                refine WC.ret ?_
                                                refine ⟨[.string ⟨#[97, 98, 110, 118]⟩, .bool true], ⟨rfl, rfl⟩, ?_⟩
                                                subst cd19; exact ⟨rfl, hS⟩
                                              · refine WC.seq ?_
                                                refine WC.seq ?_
                                                refine WC.region ?_
                                                refine WL.r 2 rfl ?_
                                                refine WL.nil ?_
                                                refine WC.ifP rfl (fun cd20 => ?_) (fun cd20 => ?_)
                                                · refine WC.skip ?_
                                                  refine WC.ifT rfl (decide_eq_true cd20) ?_
                                                  refine WC.seq ?_
                                                  refine WC.region ?_
                                                  refine WL.r 2 rfl ?_
                                                  refine WL.nil ?_
                                                  refine WC.ret ?_
                                                  refine ⟨[.string ⟨#[97, 108, 104, 110]⟩, .bool true], ⟨rfl, rfl⟩, ?_⟩
                                                  subst cd20; exact ⟨rfl, hS⟩
                                                · refine WC.region ?_
                                                  refine WL.r 2 rfl ?_
                                                  refine WL.nil ?_
                                                  refine WC.ifP rfl (fun cd21 => ?_) (fun cd21 => ?_)
                                                  · refine WC.seq ?_
                                                    refine WC.region ?_
                                                    refine WL.r 2 rfl ?_
                                                    refine WL.nil ?_
                                                    refine WC.ret ?_
                                                    refine ⟨[.string ⟨#[97, 108, 104, 110]⟩, .bool true], ⟨rfl, rfl⟩, ?_⟩
                                                    subst cd21; exact ⟨rfl, hS⟩
                                                  · refine WC.seq ?_
                                                    refine WC.seq ?_
                                                    refine WC.region ?_
                                                    refine WL.r 2 rfl ?_
                                                    refine WL.nil ?_
                                                    refine WC.ifP rfl (fun cd22 => ?_) (fun cd22 => ?_)
                                                    · refine WC.skip ?_
                                                      refine WC.ifT rfl (decide_eq_true cd22) ?_
                                                      refine WC.seq ?_
                                                      refine WC.region ?_
                                                      refine WL.r 2 rfl ?_
                                                      refine WL.nil ?_
                                                      refine WC.ret ?_
                                                      refine ⟨[.string ⟨#[97, 98]⟩, .bool true], ⟨rfl, rfl⟩, ?_⟩
                                                      subst cd22; exact ⟨rfl, hS⟩
                                                    · refine WC.seq ?_
                                                      refine WC.region ?_
                                                      refine WL.r 2 rfl ?_
                                                      refine WL.nil ?_
                                                      refine WC.ifP rfl (fun cd23 => ?_) (fun cd23 => ?_)
                                                      · refine WC.skip ?_
                                                        refine WC.ifT rfl (decide_eq_true cd23) ?_
                                                        refine WC.seq ?_
                                                        refine WC.region ?_
                                                        refine WL.r 2 rfl ?_
                                                        refine WL.nil ?_
                                                        as_aux_lemma =>
                                                          refine WC.ret ?_
                                                          refine ⟨[.string ⟨#[97, 98]⟩, .bool true], ⟨rfl, rfl⟩, ?_⟩
                                                          subst cd23; exact ⟨rfl, hS⟩
                                                      · refine WC.seq ?_
                                                        refine WC.region ?_
                                                        refine WL.r 2 rfl ?_
                                                        refine WL.nil ?_
                                                        as_aux_lemma =>
                                                          refine WC.ifP rfl (fun cd24 => ?_) (fun cd24 => ?_)
                                                          · refine WC.skip ?_
                                                            refine WC.ifT rfl (decide_eq_true cd24) ?_
                                                            refine WC.seq ?_
                                                            refine WC.region ?_
                                                            refine WL.r 2 rfl ?_
                                                            refine WL.nil ?_
                                                            refine WC.ret ?_
                                                            refine ⟨[.string ⟨#[97, 98]⟩, .bool true], ⟨rfl, rfl⟩, ?_⟩
                                                            subst cd24; exact ⟨rfl, hS⟩
                                                          · refine WC.region ?_
                                                            refine WL.r 2 rfl ?_
                                                            refine WL.nil ?_
                                                            refine WC.ifP rfl (fun cd25 => ?_) (fun cd25 => ?_)
                                                            · refine WC.seq ?_
                                                              refine WC.region ?_
                                                              refine WL.r 2 rfl ?_
                                                              refine WL.nil ?_
                                                              refine WC.ret ?_
                                                              refine ⟨[.string ⟨#[97, 98]⟩, .bool true], ⟨rfl, rfl⟩, ?_⟩
                                                              subst cd25; exact ⟨rfl, hS⟩
                                                            · refine WC.seq ?_
                                                              refine WC.seq ?_
                                                              refine WC.region ?_
                                                              refine WL.r 2 rfl ?_
                                                              refine WL.nil ?_
                                                              refine WC.ifP rfl (fun cd26 => ?_) (fun cd26 => ?_)
                                                              · refine WC.skip ?_
                                                                refine WC.ifT rfl (decide_eq_true cd26) ?_
                                                                refine WC.seq ?_
                                                                refine WC.region ?_
                                                                refine WL.r 2 rfl ?_
                                                                refine WL.nil ?_
                                                                refine WC.ret ?_
                                                                refine ⟨[.string ⟨#[97, 107, 110]⟩, .bool true], ⟨rfl, rfl⟩, ?_⟩
                                                                subst cd26; exact ⟨rfl, hS⟩
                                                              · refine WC.region ?_
                                                                refine WL.r 2 rfl ?_
                                                                refine WL.nil ?_
                                                                refine WC.ifP rfl (fun cd27 => ?_) (fun cd27 => ?_)
                                                                · refine WC.seq ?_
                                                                  refine WC.region ?_
                                                                  refine WL.r 2 rfl ?_
                                                                  refine WL.nil ?_
                                                                  refine WC.ret ?_
                                                                  refine ⟨[.string ⟨#[97, 107, 110]⟩, .bool true], ⟨rfl, rfl⟩, ?_⟩
                                                                  subst cd27; exact ⟨rfl, hS⟩
                                                                · refine WC.seq ?_
                                                                  refine WC.region ?_
                                                                  refine WL.r 2 rfl ?_
                                                                  refine WL.nil ?_
                                                                  refine WC.ifP rfl (fun cd28 => ?_) (fun cd28 => ?_)
                                                                  · refine WC.seq ?_
                                                                    refine WC.region ?_
                                                                    refine WL.r 2 rfl ?_
                                                                    refine WL.nil ?_
                                                                    refine WC.ret ?_
                                                                    refine ⟨[.string ⟨#[97, 110]⟩, .bool true], ⟨rfl, rfl⟩, ?_⟩
                                                                    subst cd28; exact ⟨rfl, hS⟩
                                                                  · refine WC.seq ?_
                                                                    refine WC.seq ?_
                                                                    refine WC.region ?_
                                                                    refine WL.r 2 rfl ?_
                                                                    refine WL.nil ?_
                                                                    as_aux_lemma =>
                                                                      refine WC.ifP rfl (fun cd29 => ?_) (fun cd29 => ?_)
                                                                      · refine WC.skip ?_
                                                                        refine WC.ifT rfl (decide_eq_true cd29) ?_
                                                                        refine WC.seq ?_
                                                                        refine WC.region ?_
                                                                        refine WL.r 2 rfl ?_
                                                                        refine WL.nil ?_
                                                                        refine WC.ret ?_
                                                                        refine ⟨[.string ⟨#[97, 108, 104]⟩, .bool true], ⟨rfl, rfl⟩, ?_⟩
                                                                        subst cd29; exact ⟨rfl, hS⟩
                                                                      · refine WC.seq ?_
                                                                        refine WC.region ?_
                                                                        refine WL.r 2 rfl ?_
                                                                        refine WL.nil ?_
                                                                        refine WC.ifP rfl (fun cd30 => ?_) (fun cd30 => ?_)
                                                                        · refine WC.skip ?_
                                                                          refine WC.ifT rfl (decide_eq_true cd30) ?_
                                                                          refine WC.seq ?_
                                                                          refine WC.region ?_
                                                                          refine WL.r 2 rfl ?_
                                                                          refine WL.nil ?_
                                                                          refine WC.ret ?_
                                                                          refine ⟨[.string ⟨#[97, 108, 104]⟩, .bool true], ⟨rfl, rfl⟩, ?_⟩
                                                                          subst cd30; exact ⟨rfl, hS⟩
                                                                        · refine WC.region ?_
                                                                          refine WL.r 2 rfl ?_
                                                                          refine WL.nil ?_
                                                                          refine WC.ifP rfl (fun cd31 => ?_) (fun cd31 => ?_)
                                                                          · refine WC.seq ?_
                                                                            refine WC.region ?_
                                                                            refine WL.r 2 rfl ?_
                                                                            refine WL.nil ?_
                                                                            refine WC.ret ?_
                                                                            refine ⟨[.string ⟨#[97, 108, 104]⟩, .bool true], ⟨rfl, rfl⟩, ?_⟩
                                                                            subst cd31; exact ⟨rfl, hS⟩
                                                                          · refine WC.seq ?_
                                                                            refine WC.region ?_
                                                                            refine WL.r 2 rfl ?_
                                                                            refine WL.nil ?_
                                                                            refine WC.ifP rfl (fun cd32 => ?_) (fun cd32 => ?_)
                                                                            · refine WC.seq ?_
                                                                              refine WC.region ?_
                                                                              refine WL.r 2 rfl ?_
                                                                              refine WL.nil ?_
                                                                              refine WC.ret ?_
                                                                              refine ⟨[.string ⟨#[97, 108, 104, 110, 102, 121]⟩, .bool true], ⟨rfl, rfl⟩, ?_⟩
                                                                              subst cd32; exact ⟨rfl, hS⟩
                                                                            · refine WC.seq ?_
                                                                              refine WC.region ?_
                                                                              refine WL.r 2 rfl ?_
                                                                              refine WL.nil ?_
                                                                              refine WC.ifP rfl (fun cd33 => ?_) (fun cd33 => ?_)
                                                                              · refine WC.seq ?_
                                                                                refine WC.region ?_
                                                                                refine WL.r 2 rfl ?_
                                                                                refine WL.nil ?_
                                                                                refine WC.ret ?_
                                                                                refine ⟨[.string ⟨#[97, 98, 115]⟩, .bool true], ⟨rfl, rfl⟩, ?_⟩
                                                                                subst cd33; exact ⟨rfl, hS⟩
                                                                              · refine WC.seq ?_
                                                                                refine WC.region ?_
                                                                                refine WL.r 2 rfl ?_
                                                                                refine WL.nil ?_
                                                                                refine WC.ifP rfl (fun cd34 => ?_) (fun cd34 => ?_)
                                                                                · refine WC.seq ?_
                                                                                  refine WC.region ?_
                                                                                  refine WL.r 2 rfl ?_
                                                                                  refine WL.nil ?_
                                                                                  as_aux_lemma =>
                                                                                    refine WC.ret ?_
                                                                                    refine ⟨[.string ⟨#[115]⟩, .bool true], ⟨rfl, rfl⟩, ?_⟩
                                                                                    subst cd34; exact ⟨rfl, hS⟩
                                                                                · refine WC.seq ?_
                                                                                  refine WC.region ?_
                                                                                  refine WL.r 2 rfl ?_
                                                                                  refine WL.nil ?_
                                                                                  as_aux_lemma =>
                                                                                    refine WC.ifP rfl (fun cd35 => ?_) (fun cd35 => ?_)
                                                                                    · refine WC.seq ?_
                                                                                      refine WC.region ?_
                                                                                      refine WL.r 2 rfl ?_
                                                                                      refine WL.nil ?_
                                                                                      refine WC.ret ?_
                                                                                      refine ⟨[.string ⟨#[98, 121]⟩, .bool true], ⟨rfl, rfl⟩, ?_⟩
                                                                                      subst cd35; exact ⟨rfl, hS⟩
                                                                                    · refine WC.skip ?_
                                                                                      refine WC.seq ?_
                                                                                      refine WC.region ?_
                                                                                      refine WL.r 2 rfl ?_
                                                                                      refine WL.nil ?_
                                                                                      refine WC.ret ?_
                                                                                      refine ⟨[.string ⟨#[]⟩, .bool false], ⟨rfl, rfl⟩, ?_⟩
                                                                                      have h0 : ¬ (1 ≤ c ∧ c ≤ 35) := by omega
                                                                                      rw [fs_none h0, isOp, decide_eq_false h0]; exact ⟨rfl, hS⟩
end Go.Proofs.Ytofnoopjlmdelaa
