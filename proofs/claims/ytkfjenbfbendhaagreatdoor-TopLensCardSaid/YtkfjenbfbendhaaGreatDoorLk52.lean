/-
  A part of a proof: U9.
-/
import Derived.Test.YtkfjenbfbendhaaGreatDoorLk51
set_option linter.unusedSimpArgs false
set_option linter.unusedVariables false
namespace Go.Proofs.YtkfjenbfbendhaaGreatDoor
open Go Go.ChangeShapes Go.WideShapes Go.RowKit Go.V
theorem XQ (G:PureOk Tryz.prog ΓT 5 [] (.bool true)):Rows.TopLensCardSaid:=
 Claim7.holds_tied_plain_at .later [] [.data,.data,.data,.sentinel,.sentinel,.listed,.data] true (true,"3115c4713b2c8b95cec64f5d8a50bf8bc099b036091840519f83e3ff95024db0") true
  (nE G) (fun _ h=>by cases h) (by as_aux_lemma=>kernel_rfl) (fun _ h=>by cases h) topLens_row_tie rfl ⟨rfl,rfl⟩ (by as_aux_lemma=>kernel_rfl) rfl
  (fun f fn hf hfn=>by
   obtain rfl:f=3:=Option.some.inj ((show Tryz.prog.funcNamed "cabochon/cabochontop.TopLens"=some 3 by as_aux_lemma=>kernel_rfl).symm.trans hf) |>.symm
   obtain rfl:fn=Tryz.f3:=(Option.some.inj (Tryz.func3.symm.trans hfn)).symm
   exact⟨by as_aux_lemma=>kernel_rfl,fun j t ht=>by
    rw[Tryz.params3] at ht
    have h3:t=26∨t=27∨t=30:=by
     rcases j with _|_|_|j
     ·
      left;simpa using ht.symm
     ·
      right;left;simpa using ht.symm
     ·
      right;right;simpa using ht.symm
     ·
      simp at ht
    rcases h3 with rfl|rfl|rfl
    ·
     exact(show Tryz.prog.wantsStandIn 26=false by as_aux_lemma=>kernel_rfl)
    ·
     exact(show Tryz.prog.wantsStandIn 27=false by as_aux_lemma=>kernel_rfl)
    ·
     exact(show Tryz.prog.wantsStandIn 30=false by as_aux_lemma=>kernel_rfl)⟩)
  (by as_aux_lemma=>kernel_rfl)
end Go.Proofs.YtkfjenbfbendhaaGreatDoor
