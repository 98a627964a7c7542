/- The arguments of the flows' laws, as their rows read them. -/
import Derived.Test.YtgphldokjapllaaRows
import Derived.Test.YtgphldokjapllaaOwnC
import Derived.Test.YtgphldokjapllaaFloC
import Derived.Test.YtgphldokjapllaaFloA

namespace Go.Own.Try
open Go.Own Go.Proofs Go.RowKit Go.ChangeShapes Go.WideShapes Go.ChangeAt
open Go.Proofs.Ytgphldokjapllaa
set_option maxRecDepth 20000

mutual
theorem bulk_str {H : Type} : ∀ (d : DataW H) (s : List UInt8), AV.str s ∈ dcells d → s.length ≤ Rows.uptoBulk d
  | .lit (.bool b), s, h => by simp [dcells] at h
  | .lit (.int k n), s, h => by simp [dcells] at h
  | .lit (.string t), s, h => by
    simp only [dcells, List.mem_singleton, AV.str.injEq] at h
    subst h
    simp [Rows.uptoBulk]
  | .lit (.float k b), s, h => by simp [dcells] at h
  | .nil, s, h => by simp [dcells] at h
  | .ptr d, s, h => by simp [dcells] at h
  | .slice a b, s, h => by simp [dcells] at h
  | .agg ps, s, h => by
    simp only [dcells] at h
    have := bulk_strs ps s h
    simp only [Rows.uptoBulk]; omega
  | .iface t d, s, h => by simp [dcells] at h
  | .map es, s, h => by simp [dcells] at h
  | .held x, s, h => by simp [dcells] at h
theorem bulk_strs {H : Type} : ∀ (l : List (DataW H)) (s : List UInt8), AV.str s ∈ dcellsAll l → s.length ≤ Rows.uptoBulkAll l
  | [], s, h => by simp [dcellsAll] at h
  | d :: r, s, h => by
    simp only [dcellsAll, List.mem_append] at h
    simp only [Rows.uptoBulkAll]
    rcases h with h | h
    · have := bulk_str d s h; omega
    · have := bulk_strs r s h; omega
end
theorem bulk_one {H : Type} (d : DataW H) : 1 ≤ Rows.uptoBulk d := by
  cases d with
  | lit l => cases l <;> simp [Rows.uptoBulk]
  | nil => simp [Rows.uptoBulk]
  | ptr d => simp [Rows.uptoBulk]
  | slice elems spare => simp [Rows.uptoBulk]
  | agg parts => simp [Rows.uptoBulk]
  | iface t d => simp [Rows.uptoBulk]
  | map entries => simp [Rows.uptoBulk]
  | held h => simp [Rows.uptoBulk]
theorem bulk_len {H : Type} : ∀ (l : List (DataW H)), l.length ≤ Rows.uptoBulkAll l
  | [] => by simp [Rows.uptoBulkAll]
  | d :: r => by have := bulk_one d; have := bulk_len r; simp only [Rows.uptoBulkAll, List.length_cons]; omega
theorem bytes_of_fits : ∀ (n : Nat) (l : List AV), fitsAll (List.replicate n (Kd.int .u8)) l = true → (∀ a ∈ l, AVok a) → ∃ k : List UInt8, k.length = n ∧ l = ofBytes k
  | 0, l, h, _ => by
    cases l with
    | nil => exact ⟨[], rfl, rfl⟩
    | cons a l => simp [fitsAll] at h
  | n + 1, l, h, hw => by
    cases l with
    | nil => simp [List.replicate_succ, fitsAll] at h
    | cons a l =>
      rw [List.replicate_succ] at h
      simp only [fitsAll, Bool.and_eq_true] at h
      obtain ⟨k, h1, h2⟩ := bytes_of_fits n l h.2 fun x hx => hw x (List.mem_cons_of_mem _ hx)
      have ha := hw a (List.mem_cons_self ..)
      cases a <;> simp [Kd.fits] at h
      rename_i q x
      obtain ⟨rfl, _⟩ := h
      have hx : 0 ≤ x ∧ x ≤ 255 := by simpa [AVok, Lit.wf, IntKind.min, IntKind.max, IntKind.signed, IntKind.bits] using ha
      refine ⟨UInt8.ofNat x.toNat :: k, by simp [h1], ?_⟩
      rw [h2]
      simp only [ofBytes, List.map_cons, List.cons.injEq, AV.int.injEq, true_and, and_true, UInt8.toNat_ofNat']
      omega
/-- The kinds of a flow's cells, of a call's. -/
def flKs : List Kd := [.int .i64, .str, .str, .int .i64, .int .i64]
def opKs : List Kd := [.int .i64, .int .i64, .int .i64, .int .i64, .str, .str, .int .i64, .int .i64, .int .i64, .int .i64, .int .i64]
theorem k37 : plainKinds Try.prog 40 37 = some flKs := by kernel_rfl
theorem k47 : plainKinds Try.prog 40 47 = some opKs := by kernel_rfl
theorem k22 : plainKinds Try.prog 40 22 = some (List.replicate 16 (Kd.int .u8)) := by kernel_rfl
theorem s37 : Try.prog.cellsOf 37 = 5 := by kernel_rfl
theorem s47 : Try.prog.cellsOf 47 = 11 := by kernel_rfl
theorem s22 : Try.prog.cellsOf 22 = 16 := by kernel_rfl
theorem fits_int {k : IntKind} {a : AV} (h : (Kd.int k).fits a = true) : ∃ n, a = .int k n := by
  cases a <;> simp [Kd.fits] at h
  subst h; exact ⟨_, rfl⟩
theorem fits_str {a : AV} (h : Kd.str.fits a = true) : ∃ s, a = .str s := by
  cases a <;> simp [Kd.fits] at h
  exact ⟨_, rfl⟩
theorem fits_cons {k : Kd} {ks : List Kd} {l : List AV} (h : fitsAll (k :: ks) l = true) : ∃ a r, l = a :: r ∧ k.fits a = true ∧ fitsAll ks r = true := by
  cases l with
  | nil => simp [fitsAll] at h
  | cons a r => simp only [fitsAll, Bool.and_eq_true] at h; exact ⟨a, r, rfl, h.1, h.2⟩
theorem fits_nil {l : List AV} (h : fitsAll [] l = true) : l = [] := by
  cases l with
  | nil => rfl
  | cons a r => simp [fitsAll] at h
theorem fl_of {l : List AV} (h : fitsAll flKs l = true) (hb : ∀ s, AV.str s ∈ l → s.length ≤ 2097152) : ∃ f : Fl, l = f.cs := by
  obtain ⟨a1, l1, rfl, h1, h⟩ := fits_cons h
  obtain ⟨a2, l2, rfl, h2, h⟩ := fits_cons h
  obtain ⟨a3, l3, rfl, h3, h⟩ := fits_cons h
  obtain ⟨a4, l4, rfl, h4, h⟩ := fits_cons h
  obtain ⟨a5, l5, rfl, h5, h⟩ := fits_cons h
  obtain rfl := fits_nil h
  obtain ⟨n1, rfl⟩ := fits_int h1
  obtain ⟨n2, rfl⟩ := fits_str h2
  obtain ⟨n3, rfl⟩ := fits_str h3
  obtain ⟨n4, rfl⟩ := fits_int h4
  obtain ⟨n5, rfl⟩ := fits_int h5
  exact ⟨⟨n1, n2, n3, n4, n5, hb _ (by simp), hb _ (by simp)⟩, rfl⟩
theorem op_of {l : List AV} (h : fitsAll opKs l = true) (hb : ∀ s, AV.str s ∈ l → s.length ≤ 2097152) : ∃ o : Opn, l = o.cs := by
  obtain ⟨a1, l1, rfl, h1, h⟩ := fits_cons h
  obtain ⟨a2, l2, rfl, h2, h⟩ := fits_cons h
  obtain ⟨a3, l3, rfl, h3, h⟩ := fits_cons h
  obtain ⟨a4, l4, rfl, h4, h⟩ := fits_cons h
  obtain ⟨a5, l5, rfl, h5, h⟩ := fits_cons h
  obtain ⟨a6, l6, rfl, h6, h⟩ := fits_cons h
  obtain ⟨a7, l7, rfl, h7, h⟩ := fits_cons h
  obtain ⟨a8, l8, rfl, h8, h⟩ := fits_cons h
  obtain ⟨a9, l9, rfl, h9, h⟩ := fits_cons h
  obtain ⟨a10, l10, rfl, h10, h⟩ := fits_cons h
  obtain ⟨a11, l11, rfl, h11, h⟩ := fits_cons h
  obtain rfl := fits_nil h
  obtain ⟨n1, rfl⟩ := fits_int h1
  obtain ⟨n2, rfl⟩ := fits_int h2
  obtain ⟨n3, rfl⟩ := fits_int h3
  obtain ⟨n4, rfl⟩ := fits_int h4
  obtain ⟨n5, rfl⟩ := fits_str h5
  obtain ⟨n6, rfl⟩ := fits_str h6
  obtain ⟨n7, rfl⟩ := fits_int h7
  obtain ⟨n8, rfl⟩ := fits_int h8
  obtain ⟨n9, rfl⟩ := fits_int h9
  obtain ⟨n10, rfl⟩ := fits_int h10
  obtain ⟨n11, rfl⟩ := fits_int h11
  exact ⟨⟨n1, n2, n3, ⟨⟨n4, n5, n6, n7, n8, hb _ (by simp), hb _ (by simp)⟩, n9, n10, n11⟩⟩, rfl⟩
theorem ops_of {H : Type} : ∀ (l : List (DataW H)), (∀ y ∈ l, fitsAll opKs (dcells y) = true) → Rows.uptoBulkAll l ≤ 2097152 → ∃ ops : List Opn, ops.length = l.length ∧ dcellsAll l = ops.flatMap Opn.cs
  | [], _, _ => ⟨[], rfl, rfl⟩
  | d :: r, h, hb => by
    simp only [Rows.uptoBulkAll] at hb
    obtain ⟨o, ho⟩ := op_of (h d (List.mem_cons_self ..)) fun s hs => by have := bulk_str d s hs; omega
    obtain ⟨ops, h1, h2⟩ := ops_of r (fun y hy => h y (List.mem_cons_of_mem _ hy)) (by omega)
    exact ⟨o :: ops, by simp [h1], by simp only [dcellsAll, List.flatMap_cons, ho, h2]⟩
section
variable {H : Type} {enc : TypeId × Value → H} {W : World} {b0 : Nat} {v : Value} {d : DataW H} {ps : List MemPlace}
theorem arg_key (hval : Value.okWide Try.prog W .any b0 22 v) (h : DataW.Trod enc Try.prog W 0 (fun _ => true) true 22 v d ps) : ∃ k : List UInt8, k.length = 16 ∧ vrel (Ghost.start W) (.agg (ofBytes k)) v := by
  simp only [Value.okWide, Try.underlying22] at hval
  obtain ⟨cs, rfl, _, _⟩ := hval
  obtain ⟨fuel, hf⟩ := h
  obtain ⟨_, h1, h2, h3⟩ := trod_plain (Ghost.start W) k22 s22 _ _ _ hf
  obtain ⟨k, hk, e⟩ := bytes_of_fits 16 _ h1 h3
  refine ⟨k, hk, ?_⟩
  rw [← e]
  have := vrel_agg h2
  simpa [Value.cells] using this
theorem arg_flow (hval : Value.okWide Try.prog W .any b0 37 v) (h : DataW.Trod enc Try.prog W 0 (fun _ => true) true 37 v d ps) (hb : Rows.uptoBulk d ≤ 2097152) : ∃ f : Fl, vrel (Ghost.start W) (.agg f.cs) v := by
  simp only [Value.okWide, Try.underlying37] at hval
  obtain ⟨cs, rfl, _, _⟩ := hval
  obtain ⟨fuel, hf⟩ := h
  obtain ⟨_, h1, h2, h3⟩ := trod_plain (Ghost.start W) k37 s37 _ _ _ hf
  obtain ⟨f, e⟩ := fl_of h1 fun s hs => by have := bulk_str d s hs; omega
  refine ⟨f, ?_⟩
  rw [← e]
  have := vrel_agg h2
  simpa [Value.cells] using this
theorem arg_script (hval : Value.okWide Try.prog W .any b0 23 v) (h : DataW.Trod enc Try.prog W 0 (fun _ => true) true 23 v d ps) (hb : Rows.uptoBulk d ≤ 2097152) : ∃ (sc : AV) (ops : List Opn), Ls 11 sc (ops.flatMap Opn.cs) ops.length ∧ vrel (Ghost.start W) sc v := by
  obtain ⟨a, len, cap, rfl⟩ := okWide_slice Try.underlying23 hval
  obtain ⟨fuel, hf⟩ := h
  obtain ⟨v', av, e, hv, hs⟩ := trod_slice_plain Try.underlying23 k47 s47 (by decide) hf
  simp only [Value.cells, List.cons.injEq, and_true] at e
  subst e
  rcases hs with ⟨_, rfl⟩ | ⟨elems, rest, rfl, hl, hfit⟩
  · exact ⟨.nils, [], .nils, hv⟩
  · simp only [Rows.uptoBulk] at hb
    obtain ⟨ops, h1, h2⟩ := ops_of elems (fun y hy => (hfit y hy).1) (by omega)
    exact ⟨av, ops, by rw [h1, ← h2]; exact hl, hv⟩
theorem arg_now (hval : Value.okWide Try.prog W .any b0 3 v) (h : DataW.Trod enc Try.prog W 0 (fun _ => true) true 3 v d ps) : ∃ n : Int, vrel (Ghost.start W) (.int .i64 n) v := by
  obtain ⟨n, rfl, _, _⟩ := open_int Try.underlying3 hval h
  exact ⟨n, by simp only [vrel]⟩
end
end Go.Own.Try
namespace Go.Proofs.Ytgphldokjapllaa
open Go.Own Go.Own.Try Go.RowKit Go.ChangeShapes Go.WideShapes Go.ChangeAt

theorem own : ownKnob Try.prog.godebug = none := by kernel_rfl
theorem laidOut : laidOutB Try.prog = true := by kernel_rfl
theorem small_of {H : Type} {l : List (DataW H)} (h : Rows.uptoSmall H l = true) : Rows.uptoBulkAll l ≤ 1048576 := of_decide_eq_true h
end Go.Proofs.Ytgphldokjapllaa
