/- For every input of bulk at most 1048576, FlowsEnds returns true, and the arguments read as they did. -/
import Derived.Test.YtgphldokjapllaaRowA
import Derived.Test.YtgphldokjapllaaFloD
import Derived.Test.YtgphldokjapllaaFloB

namespace Go.Proofs.Ytgphldokjapllaa
open Go.Own Go.Own.Try Go.RowKit Go.ChangeShapes Go.WideShapes Go.ChangeAt

set_option maxRecDepth 20000 in
theorem flowsends_contract (H : Type) (enc : TypeId × Value → H) (W : World) (base : Nat) (args : Array Value) (ds gs : List (DataW H)) (before : List MemPlace)
    (hval : ∀ (j : Nat) t v, Try.f7.params[j]? = some t → args[j]? = some v → Value.okWide Try.prog W .any base t v)
    (hW : DataW.Whole enc Try.prog Try.f7.params.toList Rows.flowsEndsSpec.vars false W args.toList ds gs before) (hk : Rows.uptoSmall H (ds ++ gs) = true) :
    Calls Try.prog 7 args W fun e W' => ∃ v, e = .returned v ∧ Rows.flowsEndsSpec.post enc Try.prog Try.f7 false true false false W args v W' := by
  have hW' := hW
  obtain ⟨p, q, hA0, hV, rfl, hfz, hnd⟩ := hW
  have hA : DataW.TrodAll enc Try.prog W 0 (fun _ => true) true Try.f7.params.toList args.toList ds p := hA0
  rw [Try.params7] at hA hval
  obtain ⟨v0, vs0, d0, ds0, p0, q0, hargs, rfl, rfl, h0, r0⟩ := trodAll_cons hA
  obtain ⟨v1, vs1, d1, ds1, p1, q1, rfl, rfl, rfl, h1, r1⟩ := trodAll_cons r0
  obtain ⟨v2, vs2, d2, ds2, p2, q2, rfl, rfl, rfl, h2, r2⟩ := trodAll_cons r1
  obtain ⟨rfl, rfl, rfl⟩ := trodAll_nil r2
  obtain rfl : args = #[v0, v1, v2] := by cases args; simp_all
  obtain ⟨rfl, rfl⟩ := trodVars_none hV
  have hb := small_of hk
  simp only [List.append_nil, Rows.uptoBulkAll] at hb
  obtain ⟨k, hk16, e0⟩ := arg_key (hval 0 22 v0 rfl rfl) h0
  obtain ⟨sc, ops, hsc, e1⟩ := arg_script (hval 1 23 v1 rfl rfl) h1 (by omega)
  obtain ⟨n, e2⟩ := arg_now (hval 2 3 v2 rfl rfl) h2
  exact law_post laidOut (by kernel_rfl) Try.underlying4 (by kernel_rfl) rfl hW' rfl (c7 hashC sortC n hk16 hsc) (by simp only [lrel]; exact ⟨_, _, rfl, e0, _, _, rfl, e1, _, _, rfl, e2, rfl⟩)

set_option maxRecDepth 100000 in
theorem flowsends_lifted (os : Os) (started : os.Started) (H : Type) (enc : TypeId × Value → H) (F : Stop.Interp) :
    ReturnsInHanded {} Try.checked os 7 .any ((Rows.OpenSpec.upto Rows.flowsEndsSpec).pre6 enc Try.prog Try.f7 Rows.flowsEndsUptoRow.domain false) (((Rows.OpenSpec.upto Rows.flowsEndsSpec).at F).post enc Try.prog Try.f7 false true false false) := by
  refine returnsInHanded_of_cond (C := Try.checked) (s := Rows.OpenSpec.upto Rows.flowsEndsSpec) (k := Rows.uptoSmall) rfl own started (by kernel_rfl) Try.func7
    (OpenSpec.witness (enc := enc) (C := Try.checked) (s := Rows.OpenSpec.upto Rows.flowsEndsSpec) (k := Rows.uptoSmall) rfl false ⟨#[], #[.agg (Array.replicate 16 (.int .u8 0)), .slice none 0 0, .int .i64 0], []⟩ 8 (by kernel_rfl) (by kernel_rfl) (by kernel_rfl)
      (x := ([.agg (List.replicate 16 (.lit (.int .u8 0))), .nil, .lit (.int .i64 0)], [], [])) (by kernel_rfl) rfl (by kernel_rfl)) ?_
  intro W base args ds gs before hval hW _ hk _
  exact flowsends_contract H enc W base args ds gs before hval hW hk

theorem flowsEnds_holds : Rows.FlowsEndsUptoSaid :=
  OpenClaim.holds_of_cond 7 Try.f7 rfl rfl rfl rfl rfl rfl rfl ⟨rfl, rfl, rfl, rfl, rfl⟩ rfl rfl rfl rfl rfl (by kernel_rfl) Try.func7 (by kernel_rfl)
    (of_decide_eq_true (by kernel_rfl)) (by unfold Func.isWrapper; first | (rw [if_pos (by decide +kernel)]; kernel_rfl) | (rw [if_neg (by decide +kernel)]; exact ⟨rfl, rfl⟩))
    (fun os started H enc _ F => flowsends_lifted os started H enc F)

#print axioms flowsEnds_holds
end Go.Proofs.Ytgphldokjapllaa
