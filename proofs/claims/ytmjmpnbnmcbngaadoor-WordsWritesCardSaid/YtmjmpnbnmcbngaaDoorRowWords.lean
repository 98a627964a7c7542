/- For every input WordsWrites returns true, and the arguments read as they did; the listed tables of Go's library hold what the program's text lays. -/
import Derived.Test.YtmjmpnbnmcbngaaDoorCards
import Derived.Test.YtmjmpnbnmcbngaaDoorTie
import Derived.Test.YtmjmpnbnmcbngaaDoorOwnC
import Derived.Test.YtmjmpnbnmcbngaaDoorWorB
import Derived.Deep.DeepHandedRow
import Derived.Stop.LaidErr

namespace Go.Own.Tryd
open Go.Own Go.Proofs Go.RowKit Go.ChangeShapes Go.WideShapes Go.ChangeAt
open Go.Proofs.YtmjmpnbnmcbngaaDoor
set_option maxRecDepth 20000

theorem bytes_of_fits : ∀ (n : Nat) (l : List AV), fitsAll (List.replicate n (Kd.int .u8)) l = true → (∀ a ∈ l, AVok a) → ∃ k : List UInt8, k.length = n ∧ l = ofBytes k
  | 0, l, h, _ => by
    cases l with
    | nil => exact ⟨[], rfl, rfl⟩
    | cons a l => simp [fitsAll] at h
  | n + 1, l, h, hw => by
    cases l with
    | nil => simp [List.replicate_succ, fitsAll] at h
    | cons a l =>
      rw [List.replicate_succ] at h
      simp only [fitsAll, Bool.and_eq_true] at h
      obtain ⟨k, h1, h2⟩ := bytes_of_fits n l h.2 fun x hx => hw x (List.mem_cons_of_mem _ hx)
      have ha := hw a (List.mem_cons_self ..)
      cases a <;> simp [Kd.fits] at h
      rename_i q x
      obtain ⟨rfl, _⟩ := h
      have hx : 0 ≤ x ∧ x ≤ 255 := by simpa [AVok, Lit.wf, IntKind.min, IntKind.max, IntKind.signed, IntKind.bits] using ha
      refine ⟨UInt8.ofNat x.toNat :: k, by simp [h1], ?_⟩
      rw [h2]
      simp only [ofBytes, List.map_cons, List.cons.injEq, AV.int.injEq, true_and, and_true, UInt8.toNat_ofNat']
      omega
theorem fits_str {a : AV} (h : Kd.str.fits a = true) : ∃ s, a = .str s := by
  cases a <;> simp [Kd.fits] at h
  exact ⟨_, rfl⟩
theorem k22 : plainKinds Tryd.prog 40 22 = some [.str] := by kernel_rfl
theorem k24 : plainKinds Tryd.prog 40 24 = some (List.replicate 6 (Kd.int .u8)) := by kernel_rfl
theorem s22 : Tryd.prog.cellsOf 22 = 1 := by kernel_rfl
theorem s24 : Tryd.prog.cellsOf 24 = 6 := by kernel_rfl
section
variable {H : Type} {enc : TypeId × Value → H} {W : World} {b0 : Nat} {v : Value} {d : DataW H} {ps : List MemPlace} {c : Bool}
theorem arg_mac (hval : Value.okWide Tryd.prog W .any b0 24 v) (h : DataW.Trod enc Tryd.prog W 0 (fun _ => true) true 24 v d ps) : ∃ k : List UInt8, k.length = 6 ∧ vrel (Ghost.start W c) (.agg (ofBytes k)) v := by
  simp only [Value.okWide, Tryd.underlying24] at hval
  obtain ⟨cs, rfl, _, _⟩ := hval
  obtain ⟨fuel, hf⟩ := h
  obtain ⟨_, h1, h2, h3⟩ := trod_plain (Ghost.start W c) k24 s24 _ _ _ hf
  obtain ⟨k, hk, e⟩ := bytes_of_fits 6 _ h1 h3
  refine ⟨k, hk, ?_⟩
  rw [← e]
  have := vrel_agg h2
  simpa [Value.cells] using this
theorem arg_addr (hval : Value.okWide Tryd.prog W .any b0 22 v) : ∃ s : List UInt8, vrel (Ghost.start W c) (.str s) v := by
  obtain ⟨s, rfl⟩ := okWide_string Tryd.underlying22 hval
  exact ⟨s.data.toList, by simp only [vrel]⟩
end
end Go.Own.Tryd
namespace Go.Proofs.YtmjmpnbnmcbngaaDoor
open Go.Own Go.Own.Tryd Go.RowKit Go.ChangeShapes Go.WideShapes Go.ChangeAt

theorem own : ownKnob Tryd.prog.godebug = none := by kernel_rfl
theorem laidOut : laidOutB Tryd.prog = true := by kernel_rfl
theorem db_tab : Rows.laid_math_bits_deBruijn64tab (H := Unit) = Lib.tabData .u8 (Lib.deBruijn64tab.map Int.ofNat) := by kernel_rfl
theorem pow_tab : Rows.laid_internal_strconv_uint64pow10 (H := Unit) = Lib.tabData .u64 Lib.pow10Tab := by kernel_rfl
theorem g0 : Tryd.prog.globalNamed "internal/strconv.uint64pow10" = some 0 := by kernel_rfl
theorem g3 : Tryd.prog.globalNamed "math/bits.deBruijn64tab" = some 3 := by kernel_rfl
set_option maxRecDepth 20000 in
/-- What the row's list gives. -/
theorem tables {W : World} (h : laidMet Tryd.prog Rows.wordsWritesRow.laid W) (hs : W.ShapedOpen Tryd.prog) : W0 (AHeap.start W false) := by
  have h1 := laidMet.tail h
  have h2 := laidMet.tail h1
  rw [db_tab] at h1
  rw [pow_tab] at h2
  have t3 := Lib.tabIs_of_head g3 (t := 152) (e := 5) (n := 64) (by kernel_rfl) Tryd.underlying152 Tryd.underlying5 (by kernel_rfl) (by kernel_rfl) h1
  have t0 := Lib.tabIs_of_head g0 (t := 135) (e := 109) (n := 20) (by kernel_rfl) Tryd.underlying135 Tryd.underlying109 (by kernel_rfl) (by kernel_rfl) h2
  refine ⟨t0, fun j hj => ?_, ?_, rfl⟩
  · have := t3.cell g3 j (by simpa using hj)
    rw [show (AHeap.start W false).w0.1 = W from rfl, this]
    simp [List.getD_eq_getElem?_getD, hj]
  · exact cell_of_shapedOpen_int (zero := #[.int .i64 0]) (t := 3) hs (of_decide_eq_true (by kernel_rfl)) (by kernel_rfl) rfl (by kernel_rfl) (by kernel_rfl) Tryd.underlying3

set_option maxRecDepth 20000 in
theorem words_contract (H : Type) (enc : TypeId × Value → H) (W : World) (args : Array Value) (ds gs : List (DataW H)) (before : List MemPlace)
    (hval : ∀ (j : Nat) t v, Tryd.f3.params[j]? = some t → args[j]? = some v → Value.okWide Tryd.prog W .any 0 t v)
    (hW : DataW.Whole enc Tryd.prog Tryd.f3.params.toList Rows.wordsWritesSpec.vars false W args.toList ds gs before) (hL : laidMet Tryd.prog Rows.wordsWritesRow.laid W) (hs : W.ShapedOpen Tryd.prog) :
    Calls Tryd.prog 3 args W fun e W' => ∃ v, e = .returned v ∧ Rows.wordsWritesSpec.post enc Tryd.prog Tryd.f3 false true false false W args v W' := by
  have hW' := hW
  obtain ⟨p, q, hA0, hV, rfl, hfz, hnd⟩ := hW
  have hA : DataW.TrodAll enc Tryd.prog W 0 (fun _ => true) true Tryd.f3.params.toList args.toList ds p := hA0
  rw [Tryd.params3] at hA hval
  obtain ⟨v0, vs0, d0, ds0, p0, q0, hargs, rfl, rfl, h0, r0⟩ := trodAll_cons hA
  obtain ⟨v1, vs1, d1, ds1, p1, q1, rfl, rfl, rfl, h1, r1⟩ := trodAll_cons r0
  obtain ⟨rfl, rfl, rfl⟩ := trodAll_nil r1
  obtain rfl : args = #[v0, v1] := by cases args; simp_all
  obtain ⟨rfl, rfl⟩ := trodVars_none hV
  obtain ⟨a, e0⟩ := arg_addr (c := false) (hval 0 22 v0 rfl rfl)
  obtain ⟨m, hm, e1⟩ := arg_mac (c := false) (hval 1 24 v1 rfl rfl) h1
  exact law_post laidOut (by kernel_rfl) Tryd.underlying4 (by kernel_rfl) rfl hW' rfl (c3 (tables hL hs) a m hm) (by simp only [lrel]; exact ⟨_, _, rfl, e0, _, _, rfl, e1, rfl⟩)

mutual
def cellsOfD : DataW Unit → List Value
  | .lit (.int k z) => [.int k z]
  | .agg ps => cellsOfDs ps
  | _ => []
def cellsOfDs : List (DataW Unit) → List Value
  | [] => []
  | d :: r => cellsOfD d ++ cellsOfDs r
end
/-- A world for the witness: each listed variable holds what its initialiser lays. -/
noncomputable def lay (w : World) (l : List (String × DataW Unit)) : World := l.foldl (fun w x => match Tryd.prog.globalNamed x.1 with
  | some g => { w with heap := w.heap.modify g fun
      | .cells _ t frozen => .cells (cellsOfD x.2).toArray t frozen
      | o => o }
  | none => w) w
noncomputable def laidWorld (os : Os) : World := lay (World.holding Tryd.prog os ⟨#[], #[], []⟩) Rows.wordsWritesRow.laid
abbrev wit : Array Value := #[.string ⟨#[]⟩, .agg (Array.replicate 6 (.int .u8 0))]
theorem laid_met (os : Os) : laidMet Tryd.prog Rows.wordsWritesRow.laid ((laidWorld os).forCall (fun _ _ => 0) ⟨#[], wit, []⟩).memory :=
  laidMet_of_run' 8 (by kernel_rfl) (by kernel_rfl)
theorem reads (os : Os) {H : Type} (enc : TypeId × Value → H) : ∃ places, DataW.whole enc Tryd.prog ((laidWorld os).forCall (fun _ _ => 0) ⟨#[], wit, []⟩).memory Tryd.f3.params.toList Rows.wordsWritesSpec.vars false wit.toList 8 = some ([.lit (.string []), .agg (List.replicate 6 (.lit (.int .u8 0)))], [], places) :=
  ⟨[], by kernel_rfl⟩

set_option maxRecDepth 100000 in
theorem lifted (os : Os) (started : os.Started) (H : Type) (enc : TypeId × Value → H) (F : Stop.Interp) :
    ReturnsInHanded {} Tryd.checked os 3 .any ((OpenSpec.ofChange Rows.wordsWritesSpec).preRow enc Tryd.prog Tryd.f3 Rows.wordsWritesRow.domain false Rows.wordsWritesRow.laid) (((OpenSpec.ofChange Rows.wordsWritesSpec).at F).post enc Tryd.prog Tryd.f3 false true false false) := by
  obtain ⟨places, hx⟩ := reads os enc
  refine returnsInHanded_of_row (C := Tryd.checked) (s := OpenSpec.ofChange Rows.wordsWritesSpec) own started (by kernel_rfl) Tryd.func3
    (witness_row_at (enc := enc) (C := Tryd.checked) false (laidWorld os) wit rfl (by kernel_rfl) (by kernel_rfl) (by kernel_rfl)
      (OpenSpec.preRow_of_cond 8 hx (by kernel_rfl) (fun k hk => by cases hk) (by kernel_rfl) (laid_met os))) ?_
  intro W base args ds gs before hval hW _ _ _ hL hs _
  exact words_contract H enc W args ds gs before hval hW hL hs
theorem words_said : Rows.WordsWritesSaid :=
  OpenClaim.holds_of_cond 3 Tryd.f3 rfl rfl rfl rfl rfl rfl rfl ⟨rfl, rfl, rfl, rfl, rfl⟩ rfl rfl rfl rfl rfl (by kernel_rfl) Tryd.func3 (by kernel_rfl)
    (of_decide_eq_true (by kernel_rfl)) (by unfold Func.isWrapper; first | (rw [if_pos (by decide +kernel)]; kernel_rfl) | (rw [if_neg (by decide +kernel)]; exact ⟨rfl, rfl⟩))
    (fun os started H enc _ F => by rw [OpenClaim.pre_eq_preRow]; exact lifted os started H enc F)
theorem plain (f : FuncId) (fn : Func) (hf : Tryd.pinned.checked.prog.funcNamed "outrider/outriderlaw17.WordsWrites" = some f) (hfn : Tryd.pinned.checked.prog.funcs[f]? = some fn) :
    false = Tryd.pinned.checked.prog.looks [] ∧ ∀ (j : Nat) t, fn.params[j]? = some t → Tryd.pinned.checked.prog.wantsStandIn t = false := by
  obtain rfl : f = 3 := Option.some.inj ((show Tryd.prog.funcNamed "outrider/outriderlaw17.WordsWrites" = some 3 by kernel_rfl).symm.trans hf) |>.symm
  obtain rfl : fn = Tryd.f3 := (Option.some.inj (Tryd.func3.symm.trans hfn)).symm
  refine ⟨by kernel_rfl, fun j t ht => ?_⟩
  rw [Tryd.params3] at ht
  have : t = 22 ∨ t = 24 := by simpa using Array.mem_of_getElem? ht
  rcases this with rfl | rfl
  · exact (show Tryd.prog.wantsStandIn 22 = false by kernel_rfl)
  · exact (show Tryd.prog.wantsStandIn 24 = false by kernel_rfl)
theorem wordsWrites_holds : Rows.WordsWritesCardSaid :=
  Claim7.holds_tied_plain_at .later [] _ _ _ _ words_said (fun _ h => by cases h) (by kernel_rfl) (fun _ h => by cases h) wordsWrites_row_tie rfl ⟨rfl, rfl⟩ (by kernel_rfl) rfl plain (by kernel_rfl)
#print axioms wordsWrites_holds
end Go.Proofs.YtmjmpnbnmcbngaaDoor
