/- For every input of bulk at most 1048576, FlowsStay returns true, and the arguments read as they did. -/
import Derived.Test.YtgphldokjapllaaRowA
import Derived.Test.YtgphldokjapllaaFloE
import Derived.Test.YtgphldokjapllaaFloB

namespace Go.Proofs.Ytgphldokjapllaa
open Go.Own Go.Own.Try Go.RowKit Go.ChangeShapes Go.WideShapes Go.ChangeAt

set_option maxRecDepth 20000 in
theorem flowsstay_contract (H : Type) (enc : TypeId × Value → H) (W : World) (base : Nat) (args : Array Value) (ds gs : List (DataW H)) (before : List MemPlace)
    (hval : ∀ (j : Nat) t v, Try.f5.params[j]? = some t → args[j]? = some v → Value.okWide Try.prog W .any base t v)
    (hW : DataW.Whole enc Try.prog Try.f5.params.toList Rows.flowsStaySpec.vars false W args.toList ds gs before) (hk : Rows.uptoSmall H (ds ++ gs) = true) :
    Calls Try.prog 5 args W fun e W' => ∃ v, e = .returned v ∧ Rows.flowsStaySpec.post enc Try.prog Try.f5 false true false false W args v W' := by
  have hW' := hW
  obtain ⟨p, q, hA0, hV, rfl, hfz, hnd⟩ := hW
  have hA : DataW.TrodAll enc Try.prog W 0 (fun _ => true) true Try.f5.params.toList args.toList ds p := hA0
  rw [Try.params5] at hA hval
  obtain ⟨v0, vs0, d0, ds0, p0, q0, hargs, rfl, rfl, h0, r0⟩ := trodAll_cons hA
  obtain ⟨v1, vs1, d1, ds1, p1, q1, rfl, rfl, rfl, h1, r1⟩ := trodAll_cons r0
  obtain ⟨rfl, rfl, rfl⟩ := trodAll_nil r1
  obtain rfl : args = #[v0, v1] := by cases args; simp_all
  obtain ⟨rfl, rfl⟩ := trodVars_none hV
  have hb := small_of hk
  simp only [List.append_nil, Rows.uptoBulkAll] at hb
  obtain ⟨k, hk16, e0⟩ := arg_key (hval 0 22 v0 rfl rfl) h0
  obtain ⟨sc, ops, hsc, e1⟩ := arg_script (hval 1 23 v1 rfl rfl) h1 (by omega)
  exact law_post laidOut (by kernel_rfl) Try.underlying4 (by kernel_rfl) rfl hW' rfl (c5 hashC sortC hk16 hsc) (by simp only [lrel]; exact ⟨_, _, rfl, e0, _, _, rfl, e1, rfl⟩)

set_option maxRecDepth 100000 in
theorem flowsstay_lifted (os : Os) (started : os.Started) (H : Type) (enc : TypeId × Value → H) (F : Stop.Interp) :
    ReturnsInHanded {} Try.checked os 5 .any ((Rows.OpenSpec.upto Rows.flowsStaySpec).pre6 enc Try.prog Try.f5 Rows.flowsStayUptoRow.domain false) (((Rows.OpenSpec.upto Rows.flowsStaySpec).at F).post enc Try.prog Try.f5 false true false false) := by
  refine returnsInHanded_of_cond (C := Try.checked) (s := Rows.OpenSpec.upto Rows.flowsStaySpec) (k := Rows.uptoSmall) rfl own started (by kernel_rfl) Try.func5
    (OpenSpec.witness (enc := enc) (C := Try.checked) (s := Rows.OpenSpec.upto Rows.flowsStaySpec) (k := Rows.uptoSmall) rfl false ⟨#[], #[.agg (Array.replicate 16 (.int .u8 0)), .slice none 0 0], []⟩ 8 (by kernel_rfl) (by kernel_rfl) (by kernel_rfl)
      (x := ([.agg (List.replicate 16 (.lit (.int .u8 0))), .nil], [], [])) (by kernel_rfl) rfl (by kernel_rfl)) ?_
  intro W base args ds gs before hval hW _ hk _
  exact flowsstay_contract H enc W base args ds gs before hval hW hk

theorem flowsStay_holds : Rows.FlowsStayUptoSaid :=
  OpenClaim.holds_of_cond 5 Try.f5 rfl rfl rfl rfl rfl rfl rfl ⟨rfl, rfl, rfl, rfl, rfl⟩ rfl rfl rfl rfl rfl (by kernel_rfl) Try.func5 (by kernel_rfl)
    (of_decide_eq_true (by kernel_rfl)) (by unfold Func.isWrapper; first | (rw [if_pos (by decide +kernel)]; kernel_rfl) | (rw [if_neg (by decide +kernel)]; exact ⟨rfl, rfl⟩))
    (fun os started H enc _ F => flowsstay_lifted os started H enc F)

#print axioms flowsStay_holds
end Go.Proofs.Ytgphldokjapllaa
