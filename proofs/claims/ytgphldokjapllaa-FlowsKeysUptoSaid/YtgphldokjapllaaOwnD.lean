/- Part of the proofs: C22, C23, C24. -/
import Derived.Test.YtgphldokjapllaaOwnB
import Derived.Shelf.SlSortCmp.NoneTotal
import Derived.Lib.QuietBelow

/- slices.SortFunc: the library's contract, in this machine's words. -/
namespace Go.Own
open Go.RowKit Go.Proofs Go.Sort

def AHeap.none : AHeap := ⟨0, fun _ => Option.none⟩
theorem rel_none (w : World) : Rel ⟨w.heap.size, w, fun _ _ => False, fun _ _ => 0, fun _ _ => 0, fun _ _ => Option.none, fun _ _ => (#[], 0), fun _ => Option.none⟩ AHeap.none w := {
  below := .refl _ _
  N := Nat.le_refl _
  imm := fun _ _ _ h => by cases h
  okn := fun _ _ h => h.elim
  okv := fun _ _ _ h _ => by cases h
  fresh := fun _ _ => rfl
  obj := fun _ _ h => by cases h
  high := fun _ _ h => by cases h
  sep := fun _ _ _ _ h _ _ => by cases h
  simm := fun _ _ _ h _ _ _ => by cases h
  keep := fun _ _ h => by cases h }
theorem grown_of_bel {w w' : World} (h : Bel w.heap.size w w') : ∃ q os', w' = grow (w.drewN q) os' := by
  obtain ⟨p, hp⟩ := regrown_of_below h.b
  have hd : w'.drawn = p.d := by rw [hp]; rfl
  refine ⟨p.d - w.drawn, p.os, ?_⟩
  rw [hp]
  have : w.drawn + (p.d - w.drawn) = p.d := by have := h.drawn; omega
  show grow { w with drawn := p.d } p.os = grow (w.drewN (p.d - w.drawn)) p.os
  congr 1
  rw [← this]
  simp [World.drewN]
/-- A comparison that may lay blocks. -/
theorem cmpLays_of {P : Program} {g : Nat} {α : Type} [Inhabited α] {cs : α → List AV} {enc : α → List Value} {k : Nat} {cf : α → α → Int} (he : ∀ G x, lrel G (cs x) (enc x)) (hc : ∀ x y h, ACalls P g [.agg (cs x), .agg (cs y)] h fun v _ => v = .int .i64 (cf x y))
    (blk off size : Nat) (w : World) : CmpLays P g #[] enc k cf blk off size w := by
  intro m os dk _ x y
  generalize sortWorldK enc k w blk off m dk os = W
  have := (hc x y AHeap.none).run _ W [.agg (enc x).toArray, .agg (enc y).toArray] (rel_none W) (by simp only [lrel]; exact ⟨_, _, rfl, vrel_agg (he _ x), _, _, rfl, vrel_agg (he _ y), rfl⟩)
  refine this.mono ?_
  rintro e w' ⟨rv, v, h', G', rfl, hr, hv, rfl, hl⟩
  simp only [vrel] at hv
  subst hv
  refine ⟨rfl, ?_⟩
  have hb := hr.below
  rw [hl.N, hl.w0] at hb
  exact grown_of_bel hb
end Go.Own

/- slices.SortFunc: the contract. -/
namespace Go.Own
open Go.RowKit Go.Proofs Go.Sort

section
variable {α β : Type} {f : α → List β} {w : Nat}
theorem flat_length (hf : ∀ x, (f x).length = w) : ∀ (l : List α), (l.flatMap f).length = l.length * w
  | [] => by simp
  | x :: l => by rw [List.flatMap_cons, List.length_append, hf, flat_length hf l, List.length_cons, Nat.succ_mul, Nat.add_comm]
theorem flat_drop (hf : ∀ x, (f x).length = w) : ∀ (l : List α) (i : Nat), (l.flatMap f).drop (i * w) = (l.drop i).flatMap f
  | l, 0 => by simp
  | [], i + 1 => by simp
  | x :: l, i + 1 => by
    rw [List.flatMap_cons, List.drop_succ_cons, ← flat_drop hf l i, List.drop_append, hf, List.drop_eq_nil_of_le (by rw [hf, Nat.succ_mul]; omega), List.nil_append]
    congr 1; rw [Nat.succ_mul]; omega
theorem flat_get (hf : ∀ x, (f x).length = w) {l : List α} {i off : Nat} (hi : i < l.length) (hs : off < w) : (l.flatMap f)[i * w + off]? = (f l[i])[off]? := by
  have : ((l.flatMap f).drop (i * w))[off]? = (f l[i])[off]? := by
    rw [flat_drop hf, List.drop_eq_getElem_cons hi, List.flatMap_cons, List.getElem?_append_left (by rw [hf]; exact hs)]
  rwa [List.getElem?_drop] at this
end
theorem flatK_list {α : Type} [Inhabited α] {enc : α → List Value} {k : Nat} (hk : ∀ x, (enc x).length = k) (d : Array α) : flatK enc k d = (d.toList.flatMap enc).toArray := by
  apply Array.ext_getElem?
  intro t
  by_cases ht : t < d.size * k
  · have hk0 : 0 < k := Nat.pos_of_ne_zero fun h => by subst h; simp at ht
    have h1 : t / k < d.size := (Nat.div_lt_iff_lt_mul hk0).2 ht
    have h2 : t % k < k := Nat.mod_lt _ hk0
    have := flat_get hk (l := d.toList) (i := t / k) (off := t % k) (by simpa using h1) h2
    rw [show t / k * k + t % k = t from Nat.div_add_mod' t k] at this
    have e : (d.toList.flatMap enc).toArray[t]? = (d.toList.flatMap enc)[t]? := List.getElem?_toArray ..
    rw [e, this]
    have hs : t < (flatK enc k d).size := by rw [size_flatK]; exact ht
    have h3 := get_flatK enc k d t ht
    rw [getElem!_pos _ t hs] at h3
    rw [Array.getElem?_eq_getElem hs, h3]
    have h4 : d[t / k]! = d.toList[t / k]'(by simpa using h1) := by rw [getElem!_pos d _ h1]; rfl
    rw [h4, getElem!_pos _ _ (by rw [hk]; exact h2), List.getElem?_eq_getElem (by rw [hk]; exact h2)]
  · rw [Array.getElem?_eq_none (by rw [size_flatK]; omega), List.getElem?_toArray, List.getElem?_eq_none (by rw [flat_length hk]; simp; omega)]
theorem lrel_flat {G : Ghost} {α : Type} {cs : α → List AV} {enc : α → List Value} (he : ∀ x, lrel G (cs x) (enc x)) : ∀ (l : List α), lrel G (l.flatMap cs) (l.flatMap enc)
  | [] => by simp only [List.flatMap_nil, lrel]
  | x :: l => by rw [List.flatMap_cons, List.flatMap_cons]; exact lrel_append (he x) (lrel_flat he l)
theorem lrel_det {G : Ghost} {α : Type} {cs : α → List AV} {enc : α → List Value} (hdet : ∀ x rs, lrel G (cs x) rs → rs = enc x) : ∀ (l : List α) (rs : List Value), lrel G (l.flatMap cs) rs → rs = l.flatMap enc
  | [], rs, h => by simpa [lrel] using h
  | x :: l, rs, h => by
    rw [List.flatMap_cons] at h
    have h1 := lrel_take (cs x).length h
    have h2 := lrel_drop (cs x).length h
    rw [List.take_left'] at h1
    rw [List.drop_left'] at h2
    · rw [List.flatMap_cons, ← hdet x _ h1, ← lrel_det hdet l _ h2, List.take_append_drop]
    · rfl
    · rfl
theorem setMany_all : ∀ (vs : List Value) (F : Array Value) (s : Nat), s + vs.length = F.size → setMany F s vs = (F.toList.take s ++ vs).toArray
  | [], F, s, h => by simp [setMany]; rw [List.take_of_length_le (by simp at h ⊢; omega)]
  | v :: r, F, s, h => by
    simp at h
    unfold setMany
    rw [setMany_all r (F.setIfInBounds s v) (s + 1) (by simp; omega)]
    congr 1
    simp only [Array.toList_setIfInBounds]
    rw [List.take_succ_eq_append_getElem (by simp; omega), List.getElem_set_self, List.take_set_of_le (Nat.le_refl s)]
    simp
end Go.Own

/- slices.SortFunc: the contract, whole. -/
namespace Go.Own
open Go.RowKit Go.Proofs Go.Sort Go.Shelf

theorem sort_none {P : Program} {ρ : Ren} (L : SlLaysF0.n6 P ρ) (g : Nat) (h : AHeap) : ACalls P (ρ.f 6) [.nils, .func (.func g) [] []] h fun v h' => v = .tuple [] ∧ h' = h := by
  refine ⟨fun G w cargs rel hargs => ?_⟩
  simp only [lrel] at hargs
  obtain ⟨a, _, rfl, ha, b, _, rfl, hb, rfl⟩ := hargs
  simp only [vrel] at ha
  subst ha
  refine (AnyF.slices_SortFunc_none L none 0 b w).mono ?_
  rintro e w' ⟨rfl, rfl⟩
  exact ⟨_, .tuple [], h, G, rfl, rel, vrel_tuple (by simp only [lrel]), ⟨rfl, rfl⟩, .refl G⟩

theorem sort_calls {P : Program} {ρ : Ren} (L : SlLaysF0.n6 P ρ) {k : Nat} (aE : ∀ w, (isAgg (ρ.t 24)).run P w = .ok true w) (zE : ∀ w, (Go.sizeOf (ρ.t 24)).run P w = .ok k w) {α : Type} [Inhabited α] {cs : α → List AV} {enc : α → List Value}
    (he : ∀ G x, lrel G (cs x) (enc x)) (hdet : ∀ G x rs, lrel G (cs x) rs → rs = enc x) (hk : ∀ x, (cs x).length = k) (_hk0 : 0 < k) (hsc : ∀ x, (cs x).all AV.scalar = true) {cf : α → α → Int} (hO : SWO (ltOf cf)) {g : Nat} (hb : hasBody P g = true)
    (hc : ∀ x y h, ACalls P g [.agg (cs x), .agg (cs y)] h fun v _ => v = .int .i64 (cf x y)) {h : AHeap} {id r : Nat} {l : List α} (hget : h.get id = some (.cells r (l.flatMap cs))) (hl : l.length < 4611686018427387904) :
    ACalls P (ρ.f 6) [.sl id r 0 l.length k, .func (.func g) [] []] h fun v h' => ∃ l' : List α, l'.Perm l ∧ l'.Pairwise (fun a b => ¬ cf b a < 0) ∧ v = .tuple [] ∧ h' = h.set id (.cells r (l'.flatMap cs)) := by
  refine ⟨fun G w cargs rel hargs => ?_⟩
  have hke : ∀ x, (enc x).length = k := fun x => by rw [lrel_length (he G x), hk]
  simp only [lrel] at hargs
  obtain ⟨a, _, rfl, ha, b, _, rfl, hbv, rfl⟩ := hargs
  simp only [vrel, lrel] at ha hbv
  obtain ⟨hok, blk, off, cap, rfl, hle, hcap⟩ := ha
  obtain ⟨rf, rc, rfl, rfl, rfl⟩ := hbv
  by_cases hnil : l = []
  · subst hnil
    refine (AnyF.slices_SortFunc_none L _ cap _ w).mono ?_
    rintro e w' ⟨rfl, rfl⟩
    refine ⟨_, .tuple [], h, G, rfl, rel, vrel_tuple (by simp only [lrel]), ⟨[], .refl _, .nil, rfl, (AHeap.set_self hget).symm⟩, .refl G⟩
  have hpos : 0 < l.length := List.length_pos_iff.2 hnil
  rcases hcap with h0 | ⟨rfl, rfl, hown⟩
  · omega
  obtain ⟨_, hown2, rs, hrs, hcell, hfree⟩ := rel.cells hget
  have hrs' : rs = l.flatMap enc := lrel_det (hdet G) l rs hrs
  have hlen : (l.flatMap enc).length = l.length * k := flat_length hke l
  have hH : HoldsK enc k w (G.blk id r) 0 l.toArray := by
    intro j hj
    rw [size_flatK] at hj
    have hj' : j < l.length * k := by simpa using hj
    rw [flatK_list hke]
    have hg : j < (l.flatMap enc).length := by omega
    have e1 : (l.toArray.toList.flatMap enc).toArray[j]! = (l.flatMap enc)[j] := by
      rw [getElem!_pos _ j (by simpa using hg)]; rfl
    rw [Nat.zero_add]
    refine ⟨?_, (hfree j (by rw [flat_length hk] at hown2; omega)).2⟩
    rw [hcell j _ (by rw [hrs']; exact List.getElem?_eq_getElem hg), e1]; rfl
  have hblk : G.blk id r < w.heap.size := orel_lt (rel.obj id _ hget)
  have h1 : ∀ x, ∀ v ∈ enc x, v.oneCell' = true := fun x => lrel_all_one (he G x) (hsc x)
  have main := AnyQ.slices_SortFunc L k aE zE enc hke h1 cf hO g #[] (G.blk id r) 0 cap l.toArray w (fun args w => callFunc_run hb) (cmpLays_of he hc _ _ _ w) hH hblk (by simpa using hl)
  refine Calls.mono (by simpa using main) ?_
  rintro e w' ⟨rfl, d', hp, hs, n, os, rfl⟩
  have hsz : d'.size = l.length := by simpa using hp.1
  have hperm : d'.toList.Perm l := by
    have := hp.2.2
    have e1 : d'.extract 0 l.length = d' := by rw [← hsz]; simp
    have e2 : l.toArray.extract 0 l.length = l.toArray := by simp
    rw [e1, e2] at this
    exact this
  have hpair : d'.toList.Pairwise (fun a b => ¬ cf b a < 0) := by
    rw [List.pairwise_iff_getElem]
    intro i j hi hj hij
    have hj' : j < d'.size := by simpa using hj
    have hi' : i < d'.size := by simpa using hi
    have := hs i j (Nat.zero_le _) hij (by rw [← hsz]; exact hj')
    rw [getElem!_pos d' j hj', getElem!_pos d' i hi'] at this
    simpa [ltOf] using this
  have hW : Rel G h (Sort.ahead w n) := rel.later ⟨⟨rfl, rfl, rfl, Nat.le_refl _, fun _ _ => rfl⟩, Nat.le_add_right _ _⟩
  have hself : putRow _root_.id (Sort.ahead w n) (G.blk id r) 0 (flatK enc k l.toArray) = Sort.ahead w n := putRow_self _root_.id _ _ _ _ hH
  have hvl : (d'.toList.flatMap enc).length = (flatK enc k l.toArray).size := by rw [flat_length hke, size_flatK]; simp [hsz]
  have hput : putRowK enc k (Sort.ahead w n) (G.blk id r) 0 d' = (Sort.ahead w n).setCells (G.blk id r) 0 (d'.toList.flatMap enc) := by
    have := setCells_putRow (Sort.ahead w n) (G.blk id r) 0 (d'.toList.flatMap enc) 0 (flatK enc k l.toArray) (by omega)
    rw [hself, setMany_all _ _ _ (by omega)] at this
    rw [this, putRowK, flatK_list hke]
    simp
  have hlc : (d'.toList.flatMap cs).length = (l.flatMap cs).length := by rw [flat_length hk, flat_length hk]; simp [hsz]
  have hall : (d'.toList.flatMap cs).all AV.scalar = true := by
    rw [List.all_eq_true]
    intro x hx
    obtain ⟨y, _, hx⟩ := List.mem_flatMap.1 hx
    exact List.all_eq_true.1 (hsc y) x hx
  have hw := (hW.write P hget (o := 0) (lrel_flat (he G) d'.toList) hall (Nat.zero_le _) (by omega)).2
  rw [splice_all hlc, ← hput] at hw
  have hfin : Rel G (h.set id (.cells r (d'.toList.flatMap cs))) (sortWorldK enc k w (G.blk id r) 0 n d' os) := by
    refine hw.later ⟨⟨rfl, rfl, rfl, ?_, fun j hj => ?_⟩, Nat.le_refl _⟩
    · simp [sortWorldK, grow]
    · simp only [sortWorldK, grow]
      rw [Array.getElem?_append_left hj]
  exact ⟨_, .tuple [], _, G, rfl, hfin, vrel_tuple (by simp only [lrel]), ⟨d'.toList, hperm, hpair, rfl, rfl⟩, .refl G⟩
end Go.Own
