/- From a row's reading to this machine: arguments of plain data. -/
import Derived.Test.YtmjmpnbnmcbngaaDoorOwnB
import Derived.ProofKit
import Derived.OpenShut
import Derived.JoinedCond

namespace Go.Own
open Go.RowKit Go.ChangeShapes Go.WideShapes Go.ChangeAt

/-- The ghost of a start: all that is there is never written. -/
def Ghost.start (w : World) (c : Bool) : Ghost := ⟨w.heap.size, (w, c), fun _ _ => False, fun _ _ => 0, fun _ _ => 0, fun b o => w.cell? ⟨b, o, none⟩, fun _ _ => (#[], 0), fun _ => none⟩
def AHeap.start (w : World) (c : Bool) : AHeap := ⟨0, fun _ => Option.none, (w, c)⟩
theorem Rel.start0 (w : World) (c : Bool) : Rel (Ghost.start w c) (AHeap.start w c) w := {
  start := ⟨rfl, Nat.le_refl _⟩
  below := .refl _ _
  N := Nat.le_refl _
  imm := fun _ _ _ h => h
  okn := fun _ _ h => h.elim
  okv := fun _ _ _ h _ => by cases h
  fresh := fun _ _ => rfl
  obj := fun _ _ h => by cases h
  high := fun _ _ h => by cases h
  sep := fun _ _ _ _ h _ _ => by cases h
  simm := fun _ _ _ _ _ _ h => by cases h
  keep := fun _ _ h => by cases h }

mutual
/-- The cells of plain data. -/
def dcells {H : Type} : DataW H → List AV
  | .lit (.bool b) => [.bool b]
  | .lit (.int k n) => [.int k n]
  | .lit (.string s) => [.str s]
  | .agg ps => dcellsAll ps
  | _ => [.junk]
def dcellsAll {H : Type} : List (DataW H) → List AV
  | [] => []
  | d :: r => dcells d ++ dcellsAll r
end
/-- A number is of its kind; a text is no longer than may be. -/
def AVok : AV → Prop
  | .int k n => (Lit.int k n).wf = true
  | .str s => s.length ≤ maxLen
  | _ => True
theorem fitsAll_app : ∀ {ks ls : List Kd} {a b : List AV}, fitsAll ks a = true → fitsAll ls b = true → fitsAll (ks ++ ls) (a ++ b) = true
  | [], _, [], _, _, h => h
  | _ :: _, _, _ :: _, _, h, k => by
    simp only [fitsAll, Bool.and_eq_true, List.cons_append] at h ⊢
    exact ⟨h.1, fitsAll_app h.2 k⟩
  | [], _, _ :: _, _, h, _ => by simp [fitsAll] at h
  | _ :: _, _, [], _, h, _ => by simp [fitsAll] at h
theorem cellsOf_eq {P : Program} {t : TypeId} {i : TypeInfo} (h : P.info? t = some i) : P.cellsOf t = i.size := by simp [Program.cellsOf, h]

section
variable {H : Type} {enc : TypeId × Value → H} {P : Program} {w : World} {base : Nat} {spare : Nat → Bool} {held : Bool}
def PlainT (enc : TypeId × Value → H) (P : Program) (w : World) (base : Nat) (spare : Nat → Bool) (held : Bool) (G : Ghost) (t : TypeId) (ks : List Kd) : Prop :=
  ∀ (fuel : Nat) (cs : List Value) (x : DataW H × List MemPlace), DataW.trod enc P w base spare held fuel t cs = some x → cs.length = ks.length ∧ fitsAll ks (dcells x.1) = true ∧ lrel G (dcells x.1) cs ∧ ∀ a ∈ dcells x.1, AVok a
theorem arr_plain {G : Ghost} {e : TypeId} {ks : List Kd} (hA : PlainT enc P w base spare held G e ks) (hs : P.cellsOf e = ks.length) (m : Nat) : ∀ (n : Nat) (xs : List (DataW H × List MemPlace)) (cs : List Value), xs.length = n → cs.length = n * ks.length →
    (∀ i, i < n → DataW.trod enc P w base spare held m e ((cs.drop (i * P.cellsOf e)).take (P.cellsOf e)) = xs[i]?) →
    fitsAll (List.replicate n ks).flatten (dcellsAll (xs.map (·.1))) = true ∧ lrel G (dcellsAll (xs.map (·.1))) cs ∧ ∀ a ∈ dcellsAll (xs.map (·.1)), AVok a
  | 0, [], cs, _, hc, _ => by
    have : cs = [] := List.length_eq_zero_iff.1 (by omega)
    subst this
    exact ⟨rfl, by simp only [List.map_nil, dcellsAll, lrel], fun a ha => by simp [dcellsAll] at ha⟩
  | n + 1, x :: xs, cs, hx, hc, h => by
    have h0 := h 0 (by omega)
    simp only [Nat.zero_mul, List.drop_zero, List.getElem?_cons_zero] at h0
    obtain ⟨l1, f1, r1, w1⟩ := hA m _ x h0
    rw [Nat.succ_mul] at hc
    have ih := arr_plain hA hs m n xs (cs.drop ks.length) (by simpa using hx) (by rw [List.length_drop]; omega) (fun i hi => by
      have := h (i + 1) (by omega)
      rw [List.getElem?_cons_succ] at this
      rw [List.drop_drop, ← this, hs, Nat.succ_mul, Nat.add_comm ks.length])
    refine ⟨by rw [List.replicate_succ, List.flatten_cons]; exact fitsAll_app f1 ih.1, ?_, ?_⟩
    · simp only [List.map_cons, dcellsAll]
      have := lrel_append r1 ih.2.1
      rwa [hs, List.take_append_drop] at this
    · intro a ha
      simp only [List.map_cons, dcellsAll, List.mem_append] at ha
      exact ha.elim (w1 a) (ih.2.2 a)
  | n + 1, [], _, hx, _, _ => by simp at hx
  | 0, _ :: _, _, hx, _, _ => by simp at hx
theorem plain_both (G : Ghost) : ∀ (d : Nat), (∀ (t : TypeId) (ks : List Kd), plainKinds P d t = some ks → P.cellsOf t = ks.length → PlainT enc P w base spare held G t ks) ∧
    (∀ (fs : List Field) (at_ : Nat) (ks : List Kd) (n : Nat) (cs : List Value) (xs : List (DataW H × List MemPlace)), plainFields P d fs at_ = some ks → cs.length = at_ + ks.length → xs.length = fs.length →
      (∀ (i : Nat) (f : Field), fs[i]? = some f → DataW.trod enc P w base spare held n f.type ((cs.drop f.offset).take (P.cellsOf f.type)) = xs[i]?) →
      fitsAll ks (dcellsAll (xs.map (·.1))) = true ∧ lrel G (dcellsAll (xs.map (·.1))) (cs.drop at_) ∧ ∀ a ∈ dcellsAll (xs.map (·.1)), AVok a) := by
  intro d
  induction d with
  | zero =>
    refine ⟨fun t ks h => by simp [plainKinds] at h, fun fs at_ ks n cs xs h hc hx _ => ?_⟩
    cases fs with
    | cons f fs => simp [plainFields] at h
    | nil =>
      simp only [plainFields, Option.some.injEq] at h
      subst h
      have : xs = [] := List.length_eq_zero_iff.1 hx
      subst this
      exact ⟨rfl, by rw [List.drop_of_length_le (by simp at hc; omega)]; simp only [List.map_nil, dcellsAll, lrel], fun a ha => by simp [dcellsAll] at ha⟩
  | succ d ih =>
    refine ⟨fun t ks h hsz fuel cs x hx => ?_, fun fs at_ ks n cs xs h hc hxl hx => ?_⟩
    · simp only [plainKinds] at h
      split at h
      · rename_i hu
        simp only [Option.some.injEq] at h; subst h
        cases fuel with
        | zero => simp [DataW.trod] at hx
        | succ m =>
          unfold DataW.trod at hx
          rw [hu] at hx
          split at hx <;> simp_all
          subst hx
          refine ⟨by simp [dcells, fitsAll, Kd.fits], by simp only [dcells, lrel, vrel]; exact ⟨_, _, rfl, rfl, rfl⟩, fun a ha => ?_⟩
          simp only [dcells, List.mem_singleton] at ha
          rw [ha]; trivial
      · rename_i k hu
        simp only [Option.some.injEq] at h; subst h
        obtain ⟨m, rfl, rfl, hwf⟩ := DataW.trod_int hu hx
        refine ⟨rfl, by simp [dcells, fitsAll, Kd.fits], by simp only [dcells, lrel, vrel]; exact ⟨_, _, rfl, rfl, rfl⟩, fun a ha => ?_⟩
        simp only [dcells, List.mem_singleton] at ha
        rw [ha]; exact hwf
      · rename_i hu
        simp only [Option.some.injEq] at h; subst h
        obtain ⟨s, rfl, rfl, hwf⟩ := DataW.trod_string hu hx
        refine ⟨rfl, by simp [dcells, fitsAll, Kd.fits], ?_, fun a ha => ?_⟩
        · simp only [dcells, lrel, vrel]
          exact ⟨_, _, rfl, by simp, rfl⟩
        · simp only [dcells, List.mem_singleton] at ha
          rw [ha]
          show s.data.toList.length ≤ maxLen
          rw [Array.length_toList]; exact hwf
      · rename_i fs hu
        split at h
        · cases h
        · obtain ⟨xs, m, rfl, rfl, hl, hlen, hf⟩ := DataW.trod_struct hu hx
          obtain ⟨g1, g2, g3⟩ := ih.2 fs.toList 0 ks m cs xs h (by omega) (by simpa using hlen) (fun i f hi => hf i f (by simpa using hi))
          exact ⟨by omega, by simpa only [dcells] using g1, by simpa only [dcells, List.drop_zero] using g2, by simpa only [dcells] using g3⟩
      · rename_i n e hu
        split at h
        · rename_i ks' i hk hi
          split at h
          · rename_i hsz'
            simp only [Option.some.injEq] at h; subst h
            obtain ⟨xs, m, rfl, rfl, hl, hlen, hf⟩ := DataW.trod_array hu hx
            have hes : P.cellsOf e = ks'.length := by rw [cellsOf_eq hi, hsz']
            have hcl : cs.length = n * ks'.length := by rw [hl, hsz]; simp [List.length_flatten, List.sum_replicate_nat]
            obtain ⟨g1, g2, g3⟩ := arr_plain (ih.1 e ks' hk hes) hes m n xs cs hlen hcl hf
            exact ⟨by omega, by simpa only [dcells] using g1, by simpa only [dcells] using g2, by simpa only [dcells] using g3⟩
          · cases h
        · cases h
      · cases h
    · cases fs with
      | nil =>
        simp only [plainFields, Option.some.injEq] at h
        subst h
        have : xs = [] := List.length_eq_zero_iff.1 hxl
        subst this
        exact ⟨rfl, by rw [List.drop_of_length_le (by simp at hc; omega)]; simp only [List.map_nil, dcellsAll, lrel], fun a ha => by simp [dcellsAll] at ha⟩
      | cons f fs =>
        simp only [plainFields] at h
        split at h
        · rename_i ks' i hk hi
          split at h
          · rename_i hcond
            obtain ⟨_, hoff, hsz⟩ := hcond
            cases hr : plainFields P d fs (at_ + ks'.length) with
            | none => simp [hr] at h
            | some l =>
              simp only [hr, Option.map_some, Option.some.injEq] at h
              subst h
              cases xs with
              | nil => simp at hxl
              | cons x xs =>
                have hes : P.cellsOf f.type = ks'.length := by rw [cellsOf_eq hi, hsz]
                have h0 := hx 0 f rfl
                rw [List.getElem?_cons_zero, hoff, hes] at h0
                obtain ⟨l1, f1, r1, w1⟩ := ih.1 f.type ks' hk hes n _ x h0
                obtain ⟨g1, g2, g3⟩ := ih.2 fs (at_ + ks'.length) l n cs xs hr (by simp at hc; omega) (by simpa using hxl) (fun j g hg => by
                  have := hx (j + 1) g (by simpa using hg)
                  rwa [List.getElem?_cons_succ] at this)
                simp only [List.map_cons, dcellsAll]
                refine ⟨fitsAll_app f1 g1, ?_, ?_⟩
                · have := lrel_append r1 g2
                  rwa [← List.drop_drop, List.take_append_drop] at this
                · intro a ha
                  rw [List.mem_append] at ha
                  exact ha.elim (w1 a) (g3 a)
          · cases h
        · cases h
theorem trod_plain (G : Ghost) {d : Nat} {t : TypeId} {ks : List Kd} (hk : plainKinds P d t = some ks) (hs : P.cellsOf t = ks.length) : PlainT enc P w base spare held G t ks := (plain_both G d).1 t ks hk hs

/-- A slice of plain data, as it lies when a call begins. -/
theorem trod_slice_plain {bc : Bool} {d : Nat} {t e : TypeId} {ks : List Kd} {fuel : Nat} {cs : List Value} {x : DataW H × List MemPlace} (ht : P.underlying t = some (.slice e)) (hk : plainKinds P d e = some ks) (hs : P.cellsOf e = ks.length) (h0 : 0 < ks.length)
    (h : DataW.trod enc P w 0 (fun _ => true) true fuel t cs = some x) :
    ∃ v av, cs = [v] ∧ vrel (Ghost.start w bc) av v ∧ ((x.1 = .nil ∧ av = .nils) ∨ ∃ elems rest, x.1 = .slice elems rest ∧ Ls ks.length av (dcellsAll elems) elems.length ∧ ∀ y ∈ elems, fitsAll ks (dcells y) = true ∧ ∀ a ∈ dcells y, AVok a) := by
  rcases DataW.trod_slice ht h with ⟨rfl, rfl⟩ | ⟨a, len, cap, elems, rest, n, _, rfl, rfl, hb, hl, hm, hlen, hel, hsp, hns⟩
  · exact ⟨_, .nils, rfl, by simp only [vrel], .inl ⟨rfl, rfl⟩⟩
  · by_cases hc : cap = 0
    · have hl0 : len = 0 := by omega
      subst hc; subst hl0
      have : elems = [] := List.length_eq_zero_iff.1 hlen
      subst this
      exact ⟨_, .emp, rfl, by simp only [vrel]; exact ⟨a, rfl⟩, .inr ⟨_, _, rfl, .emp, fun y hy => by simp at hy⟩⟩
    · have cells : ∀ (k : Nat) (l : List Value), w.cells? 0 (a.add (k * P.cellsOf e)) (P.cellsOf e) = some l → ∀ j, j < ks.length → w.cell? ((a.add (k * P.cellsOf e)).add j) = l[j]? := by
        intro k l hcl j hj
        unfold World.cells? at hcl
        rw [if_pos (Nat.zero_le _)] at hcl
        exact mapM_some_get hcl j j (by simp [hs, hj])
      have hspot : a.spot = none := by
        have first : ∃ l, w.cells? 0 (a.add (0 * P.cellsOf e)) (P.cellsOf e) = some l := by
          by_cases hl0 : 0 < len
          · have := hel 0 hl0
            have h1 : 0 < elems.length := by omega
            rw [List.getElem?_eq_getElem h1] at this
            obtain ⟨l, h2, _⟩ := Option.bind_eq_some_iff.1 this
            exact ⟨l, h2⟩
          · obtain ⟨h1, h2⟩ := hsp rfl
            have := h2 0 (by omega)
            have h3 : 0 < rest.length := by omega
            rw [List.getElem?_eq_getElem h3] at this
            obtain ⟨l, h4, _⟩ := Option.bind_eq_some_iff.1 this
            have hl0 : len = 0 := by omega
            rw [hl0, Nat.zero_add] at h4
            exact ⟨l, h4⟩
        obtain ⟨l, hl1⟩ := first
        have hll : l.length = ks.length := by
          unfold World.cells? at hl1
          rw [if_pos (Nat.zero_le _)] at hl1
          have := mapM_some_length hl1
          rw [this, List.length_range, hs]
        have := cells 0 l hl1 0 h0
        rw [List.getElem?_eq_getElem (by omega)] at this
        simp only [Nat.zero_mul, Addr.add, if_true] at this
        unfold World.cell? at this
        split at this
        · split at this
          · cases this
          · rename_i hns; simpa using hns
        · cases this
      obtain ⟨b, o, sp⟩ := a
      simp only at hspot
      subst hspot
      have hA := trod_plain (enc := enc) (w := w) (base := 0) (spare := fun _ => true) (held := true) (Ghost.start w bc) hk hs
      have hall : ∀ (els : List (DataW H × List MemPlace)) (k : Nat), (∀ i y, els[i]? = some y → (w.cells? 0 ((⟨b, o, none⟩ : Addr).add ((k + i) * P.cellsOf e)) (P.cellsOf e)).bind (DataW.trod enc P w 0 (fun _ => true) true n e) = some y) →
          crel (Ghost.start w bc) (dcellsAll (els.map (·.1))) b (o + k * ks.length) ∧ (dcellsAll (els.map (·.1))).length = els.length * ks.length ∧ ∀ y ∈ els.map (·.1), fitsAll ks (dcells y) = true ∧ ∀ a ∈ dcells y, AVok a := by
        intro els
        induction els with
        | nil => intro k _; exact ⟨by simp only [List.map_nil, dcellsAll, crel], by simp [dcellsAll], fun y hy => by simp at hy⟩
        | cons y els ih =>
          intro k hy
          have h1 := hy 0 y rfl
          rw [Nat.add_zero] at h1
          obtain ⟨l, h2, h3⟩ := Option.bind_eq_some_iff.1 h1
          obtain ⟨g1, g2, g3, g4⟩ := hA _ _ _ h3
          obtain ⟨i1, i2, i3⟩ := ih (k + 1) (fun i z hz => by
            have := hy (i + 1) z (by simpa using hz)
            rwa [show k + (i + 1) = k + 1 + i by omega] at this)
          have hc1 : crel (Ghost.start w bc) (dcells y.1) b (o + k * ks.length) := by
            refine crel_of_lrel g3 fun j v hj => ?_
            have hjl : j < ks.length := by have := (List.getElem?_eq_some_iff.1 hj).1; omega
            have := cells k l h2 j hjl
            rw [addr_add, addr_add, hs] at this
            show w.cell? _ = some v
            rw [this]; exact hj
          refine ⟨?_, ?_, ?_⟩
          · simp only [List.map_cons, dcellsAll]
            have app : ∀ {cs ds : List AV} {o : Nat}, crel (Ghost.start w bc) cs b o → crel (Ghost.start w bc) ds b (o + cs.length) → crel (Ghost.start w bc) (cs ++ ds) b o := by
              intro cs
              induction cs with
              | nil => intro ds o _ h; simpa using h
              | cons c cs ih =>
                intro ds o h1 h2
                simp only [crel, List.cons_append] at h1 ⊢
                exact ⟨h1.1, ih h1.2 (by rw [List.length_cons] at h2; rwa [show o + 1 + cs.length = o + (cs.length + 1) by omega])⟩
            refine app hc1 ?_
            rw [fitsAll_length g2, Nat.add_assoc, ← Nat.succ_mul]; exact i1
          · simp only [List.map_cons, dcellsAll, List.length_append, List.length_cons]
            rw [i2, fitsAll_length g2, Nat.succ_mul]; omega
          · intro z hz
            rcases List.mem_cons.1 hz with rfl | hz
            · exact ⟨g2, g4⟩
            · exact i3 z hz
      obtain ⟨c1, c2, c3⟩ := hall elems 0 (fun i y hy => by
        have hi : i < len := by have := (List.getElem?_eq_some_iff.1 hy).1; omega
        rw [Nat.zero_add, hel i hi]; exact hy)
      rw [Nat.zero_mul, Nat.add_zero] at c1
      refine ⟨_, .lst (dcellsAll (elems.map (·.1))) len, rfl, vrel_lst hl c1, .inr ⟨_, _, rfl, ?_, c3⟩⟩
      have : (elems.map (·.1)).length = len := by simpa using hlen
      rw [this]
      exact .lst (by rw [c2, hlen])
end

/-- A law's row: out of what its function comes to in this machine. -/
theorem law_calls {P : Program} {f : FuncId} {args : List AV} {w : World} {c : Bool} {cargs : Array Value} (H : ACalls P f args (AHeap.start w c) fun v _ => v = .bool true) (hl : lrel (Ghost.start w c) args cargs.toList) :
    Calls P f cargs w fun e w' => e = .returned (.bool true) ∧ Below w.heap.size w w' := by
  have := H.run (Ghost.start w c) w cargs.toList (Rel.start0 w c) hl
  rw [Array.toArray_toList] at this
  refine this.mono ?_
  rintro e w' ⟨rv, v, h', G', rfl, hr, hv, rfl, hle⟩
  simp only [vrel] at hv
  subst hv
  refine ⟨rfl, ?_⟩
  have := hr.below.b
  rw [hle.N, hle.w0] at this
  exact this
theorem trodAll_stays {H : Type} {enc : TypeId × Value → H} {P : Program} (hl : laidOutB P = true) {W W' : World} (hb : Below W.heap.size W W') : ∀ {ts : List TypeId} {vs : List Value} {ds : List (DataW H)} {ps : List MemPlace},
    (ts.all fun t => P.readableRec t && decide (t < P.types.size)) = true → DataW.TrodAll enc P W 0 (fun _ => true) true ts vs ds ps → (∀ x ∈ ps, x.block < W.heap.size) → DataW.TrodAll enc P W' 0 (fun b => decide (b < W.heap.size)) true ts vs ds ps
  | [], _, _, _, _, h, _ => by
    obtain ⟨rfl, rfl, rfl⟩ := trodAll_nil h
    exact trodAll_mk0
  | t :: ts, _, _, _, hr, h, hlt => by
    obtain ⟨v, vs', d, ds', p, q, rfl, rfl, rfl, h1, h2⟩ := trodAll_cons h
    simp only [List.all_cons, Bool.and_eq_true, decide_eq_true_eq] at hr
    exact trodAll_cons_mk (Below.trod hl hr.1.1 hr.1.2 h1 hb fun x hx => hlt x (List.mem_append_left _ hx)) (trodAll_stays hl hb hr.2 h2 fun x hx => hlt x (List.mem_append_right _ hx))
/-- A law's contract. -/
theorem law_post {H : Type} {c : Bool} {enc : TypeId × Value → H} {P : Program} {f : FuncId} {fn : Func} {s : ChangeSpec} {bt : TypeId} {avs : List AV} {W : World} {args : Array Value} {ds gs : List (DataW H)} {before : List MemPlace} (hlaid : laidOutB P = true)
    (hrt : fn.resultTypes = #[bt]) (hbt : P.underlying bt = some .bool) (hrec : (fn.params.toList.all fun t => P.readableRec t && decide (t < P.types.size)) = true) (hv : s.vars = []) (hW : DataW.Whole enc P fn.params.toList s.vars false W args.toList ds gs before)
    (hs : s.fn H (ds ++ gs) = { results := [.lit (.bool true)], args := ds }) (hA : ACalls P f avs (AHeap.start W c) fun v _ => v = .bool true) (hl : lrel (Ghost.start W c) avs args.toList) :
    Calls P f args W fun e W' => ∃ v, e = .returned v ∧ s.post enc P fn false true false false W args v W' := by
  refine (law_calls hA hl).mono ?_
  rintro e W' ⟨rfl, hb⟩
  have hW' := hW
  have hlt := hW.lt
  obtain ⟨p, q, hA0, hV, rfl, hfz, hnd⟩ := hW
  rw [hv] at hV
  obtain ⟨rfl, rfl⟩ := trodVars_none hV
  simp only [List.append_nil] at hs hlt hW'
  refine ⟨_, rfl, ds, [], p, [], p, [], hW', ?_, ?_, ?_, Below.frame hb _, fun h => by cases h⟩
  · rw [List.append_nil, hs, hrt]
    exact trodAll_cons_mk (shut_bool hbt true) trodAll_mk0
  · rw [List.append_nil, hs]
    exact trodAll_stays hlaid hb hrec hA0 hlt
  · rw [List.append_nil, hs, hv]; rfl
end Go.Own
