/- Part of the proofs: C1, C2, C3, C4, C5, C6, C7, C8, C9. -/
import Derived.Below
import Derived.Orders
import Derived.Laws.Cells
import Derived.Laws.IdiomCopy
import Derived.Laws.Concat
import Derived.Laws.Strings
import Derived.Laws.Strings2
import Derived.Laws.StructEq
import Derived.Laws.BytesString
import Derived.Lib.ConvBytes

/- The abstract values, the abstract heap, and what it means that a world bears them. -/
namespace Go.Own
open Go.RowKit

/-- Abstract values. 'ptr', 'sl', 'map' name an object of the abstract heap; 'cptr', 'lst' bear what they point to: memory that is never written again. -/
inductive AV where
  | bool (b : Bool)
  | int (k : IntKind) (n : Int)
  | str (s : List UInt8)
  | nilp
  | ptr (id ver off : Nat)
  | cptr (cs : List AV)
  | nils
  | emp
  | lst (cs : List AV) (len : Nat)
  | sl (id ver off len esz : Nat)
  | nilm
  | map (id : Nat)
  | iter (id : Nat)
  | nilf
  | func (fn : Fn) (first captured : List AV)
  | agg (cs : List AV)
  | tuple (vs : List AV)
  | junk

instance : Inhabited AV := ⟨.junk⟩

inductive AObj where
  | cells (ver : Nat) (cs : List AV)
  | map (ver : Nat) (kvs : List (AV × AV))
  | miter (m ver : Nat) (kvs : List (AV × AV)) (seen : List Nat)
  | niter
  | siter (s : List UInt8) (pos : Nat)

structure AHeap where
  next : Nat
  get : Nat → Option AObj
  /-- The world in which all began: what is known of its variables stands in it; and whether it is known that draws are never taken back. -/
  w0 : World × Bool

def AHeap.push (h : AHeap) (o : AObj) : AHeap := { next := h.next + 1, get := fun i => if i = h.next then some o else h.get i, w0 := h.w0 }
def AHeap.set (h : AHeap) (i : Nat) (o : AObj) : AHeap := { next := h.next, get := fun j => if j = i then some o else h.get j, w0 := h.w0 }
def AHeap.drop (h : AHeap) (i : Nat) : AHeap := { next := h.next, get := fun j => if j = i then none else h.get j, w0 := h.w0 }

/-- The ghost: where each object's versions lie, what is never written, and the world in which all began. -/
structure Ghost where
  N : Nat
  w0 : World × Bool
  ok : Nat → Nat → Prop
  blk : Nat → Nat → Nat
  own : Nat → Nat → Nat
  imm : Nat → Nat → Option Value
  mp : Nat → Nat → Array MapEntry × Nat
  /-- Blocks that no value here names, and that stay as they are. -/
  keep : Nat → Option Obj

mutual
def vrel (G : Ghost) : AV → Value → Prop
  | .bool b, v => v = .bool b
  | .int k n, v => v = .int k n
  | .str s, v => v = .string ⟨s.toArray⟩
  | .nilp, v => v = .pointer none
  | .ptr i r o, v => G.ok i r ∧ v = .pointer (some ⟨G.blk i r, o, none⟩)
  | .cptr cs, v => ∃ b o, v = .pointer (some ⟨b, o, none⟩) ∧ crel G cs b o
  | .nils, v => v = .slice none 0 0
  | .emp, v => ∃ a, v = .slice (some a) 0 0
  | .lst cs len, v => ∃ b o cap, v = .slice (some ⟨b, o, none⟩) len cap ∧ len ≤ cap ∧ crel G cs b o
  | .sl i r off len esz, v => G.ok i r ∧ ∃ b o cap, v = .slice (some ⟨b, o, none⟩) len cap ∧ len ≤ cap ∧ (cap = 0 ∨ b = G.blk i r ∧ o = off ∧ off + cap * esz ≤ G.own i r)
  | .nilm, v => v = .map none
  | .map i, v => G.ok i 0 ∧ v = .map (some (G.blk i 0))
  | .iter i, v => G.ok i 0 ∧ v = .pointer (some ⟨G.blk i 0, 0, none⟩)
  | .nilf, v => v = .nilFunc
  | .func fn fs cs, v => ∃ rf rc : List Value, v = .func fn rf.toArray rc.toArray ∧ lrel G fs rf ∧ lrel G cs rc
  | .agg cs, v => ∃ rs : List Value, v = .agg rs.toArray ∧ lrel G cs rs
  | .tuple vs, v => ∃ rs : List Value, v = .tuple rs.toArray ∧ lrel G vs rs
  | .junk, _ => True
def crel (G : Ghost) : List AV → Nat → Nat → Prop
  | [], _, _ => True
  | c :: cs, b, o => (∃ u, G.imm b o = some u ∧ vrel G c u) ∧ crel G cs b (o + 1)
def lrel (G : Ghost) : List AV → List Value → Prop
  | [], rs => rs = []
  | c :: cs, rs => ∃ r rest, rs = r :: rest ∧ vrel G c r ∧ lrel G cs rest
end

/-- More is known; what is kept is left open. -/
structure Ghost.leV (G G' : Ghost) : Prop where
  N : G'.N = G.N
  w0 : G'.w0 = G.w0
  ok : ∀ i r, G.ok i r → G'.ok i r ∧ G'.blk i r = G.blk i r ∧ G'.own i r = G.own i r ∧ G'.mp i r = G.mp i r
  imm : ∀ b o v, G.imm b o = some v → G'.imm b o = some v
structure Ghost.le (G G' : Ghost) : Prop extends Ghost.leV G G' where
  keep : G'.keep = G.keep

theorem Ghost.leV.refl (G : Ghost) : G.leV G := ⟨rfl, rfl, fun _ _ h => ⟨h, rfl, rfl, rfl⟩, fun _ _ _ h => h⟩
theorem Ghost.le.refl (G : Ghost) : G.le G := ⟨.refl G, rfl⟩
theorem Ghost.leV.trans {A B C : Ghost} (h : A.leV B) (k : B.leV C) : A.leV C :=
  ⟨k.N.trans h.N, k.w0.trans h.w0, fun i r o => let ⟨a, b, c, d⟩ := h.ok i r o; let ⟨a', b', c', d'⟩ := k.ok i r a; ⟨a', b'.trans b, c'.trans c, d'.trans d⟩,
    fun b o v e => k.imm b o v (h.imm b o v e)⟩
theorem Ghost.le.trans {A B C : Ghost} (h : A.le B) (k : B.le C) : A.le C := ⟨h.toleV.trans k.toleV, k.keep.trans h.keep⟩

mutual
theorem vrel_monoV {G G' : Ghost} (hl : G.leV G') : ∀ (a : AV) (v : Value), vrel G a v → vrel G' a v
  | .bool _, _, h | .int _ _, _, h | .str _, _, h | .nilp, _, h | .nils, _, h | .emp, _, h | .nilm, _, h | .nilf, _, h => by
    simp only [vrel] at h ⊢; exact h
  | .junk, _, _ => by simp only [vrel]
  | .ptr i r o, v, h => by
    simp only [vrel] at h ⊢
    obtain ⟨a, b, _⟩ := hl.ok i r h.1
    exact ⟨a, by rw [b]; exact h.2⟩
  | .cptr cs, v, h => by
    simp only [vrel] at h ⊢
    obtain ⟨b, o, e, hc⟩ := h
    exact ⟨b, o, e, crel_monoV hl cs b o hc⟩
  | .lst cs len, v, h => by
    simp only [vrel] at h ⊢
    obtain ⟨b, o, cap, e, hle, hc⟩ := h
    exact ⟨b, o, cap, e, hle, crel_monoV hl cs b o hc⟩
  | .sl i r off len esz, v, h => by
    simp only [vrel] at h ⊢
    obtain ⟨a, b', c, _⟩ := hl.ok i r h.1
    rw [b', c]
    exact ⟨a, h.2⟩
  | .map i, v, h => by
    simp only [vrel] at h ⊢
    obtain ⟨a, b, _⟩ := hl.ok i 0 h.1
    exact ⟨a, by rw [b]; exact h.2⟩
  | .iter i, v, h => by
    simp only [vrel] at h ⊢
    obtain ⟨a, b, _⟩ := hl.ok i 0 h.1
    exact ⟨a, by rw [b]; exact h.2⟩
  | .func fn fs cs, v, h => by
    simp only [vrel] at h ⊢
    obtain ⟨rf, rc, e, h1, h2⟩ := h
    exact ⟨rf, rc, e, lrel_monoV hl fs rf h1, lrel_monoV hl cs rc h2⟩
  | .agg cs, v, h => by
    simp only [vrel] at h ⊢
    obtain ⟨rs, e, h1⟩ := h
    exact ⟨rs, e, lrel_monoV hl cs rs h1⟩
  | .tuple vs, v, h => by
    simp only [vrel] at h ⊢
    obtain ⟨rs, e, h1⟩ := h
    exact ⟨rs, e, lrel_monoV hl vs rs h1⟩
theorem crel_monoV {G G' : Ghost} (hl : G.leV G') : ∀ (cs : List AV) (b o : Nat), crel G cs b o → crel G' cs b o
  | [], _, _, _ => by simp only [crel]
  | c :: cs, b, o, h => by
    simp only [crel] at h ⊢
    obtain ⟨⟨u, hu, hv⟩, hr⟩ := h
    exact ⟨⟨u, hl.imm b o u hu, vrel_monoV hl c u hv⟩, crel_monoV hl cs b (o + 1) hr⟩
theorem lrel_monoV {G G' : Ghost} (hl : G.leV G') : ∀ (cs : List AV) (rs : List Value), lrel G cs rs → lrel G' cs rs
  | [], _, h => by simp only [lrel] at h ⊢; exact h
  | c :: cs, rs, h => by
    simp only [lrel] at h ⊢
    obtain ⟨r, rest, e, hv, hr⟩ := h
    exact ⟨r, rest, e, vrel_monoV hl c r hv, lrel_monoV hl cs rest hr⟩
end
theorem vrel_mono {G G' : Ghost} (hl : G.le G') (a : AV) (v : Value) (h : vrel G a v) : vrel G' a v := vrel_monoV hl.toleV a v h
theorem crel_mono {G G' : Ghost} (hl : G.le G') (cs : List AV) (b o : Nat) (h : crel G cs b o) : crel G' cs b o := crel_monoV hl.toleV cs b o h
theorem lrel_mono {G G' : Ghost} (hl : G.le G') (cs : List AV) (rs : List Value) (h : lrel G cs rs) : lrel G' cs rs := lrel_monoV hl.toleV cs rs h

def mrel (G : Ghost) : List (AV × AV) → List MapEntry → Prop
  | [], es => es = []
  | (k, v) :: r, es => ∃ e rest, es = e :: rest ∧ vrel G k e.key ∧ vrel G v e.val ∧ mrel G r rest
theorem mrel_monoV {G G' : Ghost} (hl : G.leV G') : ∀ (kvs : List (AV × AV)) (es : List MapEntry), mrel G kvs es → mrel G' kvs es
  | [], _, h => h
  | (k, v) :: r, es, h => by
    obtain ⟨e, rest, e1, h1, h2, h3⟩ := h
    exact ⟨e, rest, e1, vrel_monoV hl _ _ h1, vrel_monoV hl _ _ h2, mrel_monoV hl r rest h3⟩

theorem mrel_mono {G G' : Ghost} (hl : G.le G') (kvs : List (AV × AV)) (es : List MapEntry) (h : mrel G kvs es) : mrel G' kvs es := mrel_monoV hl.toleV kvs es h

def AObj.ver : AObj → Nat
  | .cells r _ => r
  | .map r _ => r
  | _ => 0
/-- The block of an object. -/
def oblk (G : Ghost) (i : Nat) : AObj → Nat
  | .cells r _ => G.blk i r
  | _ => G.blk i 0
def orel (G : Ghost) (w : World) (i : Nat) : AObj → Prop
  | .cells r cs => G.ok i r ∧ ∃ row el fz, w.heap[G.blk i r]? = some (.cells row el fz) ∧ row.size = G.own i r ∧ (row.size ≤ fz.1 ∨ fz.2 ≤ fz.1) ∧ cs.length ≤ row.size ∧ lrel G cs (row.toList.take cs.length)
  | .map r kvs => G.ok i r ∧ G.ok i 0 ∧ ∃ es clock, w.heap[G.blk i 0]? = some (.map es clock) ∧ G.mp i r = (es, clock) ∧ mrel G kvs es.toList ∧ (∀ e ∈ es.toList, e.born < clock) ∧ (es.toList.map (·.born)).Nodup
  | .miter m r kvs seen => G.ok i 0 ∧ G.ok m r ∧ G.ok m 0 ∧ ∃ seen', w.heap[G.blk i 0]? = some (.mapIter (some (G.blk m 0)) (G.mp m r).2 seen' (G.mp m r).2) ∧ (G.mp m r).1.size = kvs.length ∧ (∀ s ∈ seen, s < kvs.length) ∧ seen'.toList = seen.map (fun s => (((G.mp m r).1[s]?).map (·.born)).getD 0)
  | .niter => G.ok i 0 ∧ ∃ seen' x y, w.heap[G.blk i 0]? = some (.mapIter none x seen' y)
  | .siter s pos => G.ok i 0 ∧ w.heap[G.blk i 0]? = some (.stringIter ⟨s.toArray⟩ pos)

/-- Below block number B the world is as it was; where it is asked, no fewer draws were made. -/
structure Bel (c : Bool) (B : Nat) (w w' : World) : Prop where
  b : Below B w w'
  drawn : c = true → w.drawn ≤ w'.drawn
theorem Bel.refl {c : Bool} (B : Nat) (w : World) : Bel c B w w := ⟨.refl B w, fun _ => Nat.le_refl _⟩
theorem Bel.trans {c : Bool} {B : Nat} {x y z : World} (h : Bel c B x y) (k : Bel c B y z) : Bel c B x z := ⟨h.b.trans k.b, fun e => Nat.le_trans (h.drawn e) (k.drawn e)⟩
theorem Bel.mono {c : Bool} {B B' : Nat} {w w' : World} (h : Bel c B w w') (hB : B' ≤ B) : Bel c B' w w' := ⟨h.b.mono hB, h.drawn⟩
theorem Bel.drew {c : Bool} {B : Nat} {a w : World} (h : Bel c B a w) : Bel c B a w.drew := ⟨h.b.drew, fun e => Nat.le_succ_of_le (h.drawn e)⟩
theorem Bel.alloc {c : Bool} {B : Nat} {a w : World} (h : Bel c B a w) (hB : B ≤ w.heap.size) (o : Obj) : Bel c B a (w.alloc o) := ⟨h.b.alloc hB o, h.drawn⟩
theorem Bel.setCell {c : Bool} {B : Nat} {a w : World} (h : Bel c B a w) {p : Addr} (hp : B ≤ p.block) (u : Value) : Bel c B a (w.setCell p u) := ⟨h.b.setCell hp u, h.drawn⟩

structure Rel (G : Ghost) (h : AHeap) (w : World) : Prop where
  start : h.w0 = G.w0 ∧ G.w0.1.heap.size ≤ G.N
  below : Bel G.w0.2 G.N G.w0.1 w
  N : G.N ≤ w.heap.size
  imm : ∀ b o v, G.imm b o = some v → w.cell? ⟨b, o, none⟩ = some v
  okn : ∀ i r, G.ok i r → i < h.next
  okv : ∀ i r o, h.get i = some o → G.ok i r → r ≤ o.ver
  fresh : ∀ i, h.next ≤ i → h.get i = none
  obj : ∀ i o, h.get i = some o → orel G w i o
  high : ∀ i o, h.get i = some o → G.N ≤ oblk G i o
  sep : ∀ i j oi oj, h.get i = some oi → h.get j = some oj → i ≠ j → oblk G i oi ≠ oblk G j oj
  simm : ∀ b o v, G.imm b o = some v → ∀ i oi, h.get i = some oi → oblk G i oi ≠ b
  keep : ∀ b o, G.keep b = some o → w.heap[b]? = some o ∧ (∀ k, G.imm b k = none) ∧ ∀ i oi, h.get i = some oi → oblk G i oi ≠ b

theorem heap_lt {w : World} {k : Nat} {x : Obj} (hx : w.heap[k]? = some x) : k < w.heap.size := by
  rcases Nat.lt_or_ge k w.heap.size with h' | h'
  · exact h'
  · simp [Array.getElem?_eq_none h'] at hx
theorem orel_lt {G : Ghost} {w : World} {i : Nat} {o : AObj} (h : orel G w i o) : oblk G i o < w.heap.size := by
  have key : ∀ (k : Nat) (x : Obj), w.heap[k]? = some x → k < w.heap.size := fun k x hx => by
    rcases Nat.lt_or_ge k w.heap.size with h' | h'
    · exact h'
    · simp [Array.getElem?_eq_none h'] at hx
  cases o with
  | cells r cs => obtain ⟨_, row, el, fz, hb, _⟩ := h; exact key _ _ hb
  | map r kvs => obtain ⟨_, _, es, c, hb, _⟩ := h; exact key _ _ hb
  | miter m r kvs seen => obtain ⟨_, _, _, s, hb, _⟩ := h; exact key _ _ hb
  | niter => obtain ⟨_, s, x, y, hb⟩ := h; exact key _ _ hb
  | siter s pos => exact key _ _ h.2

/-- An object's relation hangs on its own block alone. -/
theorem orel_block {G : Ghost} {w w' : World} {i : Nat} {o : AObj} (hb : w'.heap[oblk G i o]? = w.heap[oblk G i o]?) (h : orel G w i o) : orel G w' i o := by
  cases o <;> simp only [orel, oblk] at * <;> rw [hb] <;> exact h
theorem orel_monoV {G G' : Ghost} (hl : G.leV G') {w : World} {i : Nat} {o : AObj} (h : orel G w i o) : orel G' w i o ∧ oblk G' i o = oblk G i o := by
  cases o with
  | cells r cs =>
    obtain ⟨hok, row, el, fz, hb, hs, hf, hle, hr⟩ := h
    obtain ⟨a, b, c, d⟩ := hl.ok i r hok
    exact ⟨⟨a, row, el, fz, by rw [b]; exact hb, by rw [c]; exact hs, hf, hle, lrel_monoV hl _ _ hr⟩, b⟩
  | map r kvs =>
    obtain ⟨hok, hok0, es, cl, hb, hmp, hr, h1, h2⟩ := h
    obtain ⟨a, b, c, d⟩ := hl.ok i r hok
    obtain ⟨a0, b0, c0, d0⟩ := hl.ok i 0 hok0
    exact ⟨⟨a, a0, es, cl, by rw [b0]; exact hb, by rw [d]; exact hmp, mrel_monoV hl _ _ hr, h1, h2⟩, b0⟩
  | miter m r kvs seen =>
    obtain ⟨hok, hm, hm0, s, hb, h1, h2, h3⟩ := h
    obtain ⟨a, b, c, d⟩ := hl.ok i 0 hok
    obtain ⟨ma, mb, mc, md⟩ := hl.ok m r hm
    obtain ⟨na, nb, nc, nd⟩ := hl.ok m 0 hm0
    exact ⟨⟨a, ma, na, s, by rw [b, nb, md]; exact hb, by rw [md]; exact h1, h2, by rw [md]; exact h3⟩, b⟩
  | niter =>
    obtain ⟨hok, s, x, y, hb⟩ := h
    obtain ⟨a, b, c, d⟩ := hl.ok i 0 hok
    exact ⟨⟨a, s, x, y, by rw [b]; exact hb⟩, b⟩
  | siter s pos =>
    obtain ⟨a, b, c, d⟩ := hl.ok i 0 h.1
    exact ⟨⟨a, by rw [b]; exact h.2⟩, b⟩

theorem orel_mono {G G' : Ghost} (hl : G.le G') {w : World} {i : Nat} {o : AObj} (h : orel G w i o) : orel G' w i o ∧ oblk G' i o = oblk G i o := orel_monoV hl.toleV h

/-- Nothing that was there has turned. -/
theorem Rel.later {G : Ghost} {h : AHeap} {w w' : World} (r : Rel G h w) (hb : Bel G.w0.2 w.heap.size w w') : Rel G h w' := {
  start := r.start
  below := r.below.trans (hb.mono r.N)
  N := Nat.le_trans r.N hb.b.size
  imm := fun b o v e => by
    have h1 := r.imm b o v e
    rw [hb.b.cell (p := ⟨b, o, none⟩) (World.block_lt_of_cell? w ⟨b, o, none⟩ h1)]; exact h1
  okn := r.okn
  okv := r.okv
  fresh := r.fresh
  obj := fun i o e => orel_block (hb.b.block _ (orel_lt (r.obj i o e))) (r.obj i o e)
  high := r.high
  sep := r.sep
  simm := r.simm
  keep := fun b o e => by
    obtain ⟨h1, h2⟩ := r.keep b o e
    exact ⟨by rw [hb.b.block _ (heap_lt h1)]; exact h1, h2⟩ }
theorem Rel.drew {G : Ghost} {h : AHeap} {w : World} (r : Rel G h w) : Rel G h w.drew := r.later ((Bel.refl _ _).drew)

/-- A new object. -/
def Ghost.add (G : Ghost) (i r b n : Nat) (m : Array MapEntry × Nat) : Ghost :=
  { G with ok := fun j s => G.ok j s ∨ (j = i ∧ s = r), blk := fun j s => if j = i ∧ s = r then b else G.blk j s,
           own := fun j s => if j = i ∧ s = r then n else G.own j s, mp := fun j s => if j = i ∧ s = r then m else G.mp j s }
theorem Ghost.le_add {G : Ghost} {i r b n : Nat} {m : Array MapEntry × Nat} (hno : ¬ G.ok i r) : G.le (G.add i r b n m) := {
  N := rfl
  w0 := rfl
  ok := fun j s h => by
    have hne : ¬ (j = i ∧ s = r) := fun e => hno (e.1 ▸ e.2 ▸ h)
    exact ⟨.inl h, if_neg hne, if_neg hne, if_neg hne⟩
  imm := fun _ _ _ h => h
  keep := rfl }
theorem Ghost.add_ok (G : Ghost) (i r b n : Nat) (m : Array MapEntry × Nat) : (G.add i r b n m).ok i r := .inr ⟨rfl, rfl⟩
theorem Ghost.add_blk (G : Ghost) (i r b n : Nat) (m : Array MapEntry × Nat) : (G.add i r b n m).blk i r = b := if_pos ⟨rfl, rfl⟩
theorem Ghost.add_own (G : Ghost) (i r b n : Nat) (m : Array MapEntry × Nat) : (G.add i r b n m).own i r = n := if_pos ⟨rfl, rfl⟩
theorem Ghost.add_mp (G : Ghost) (i r b n : Nat) (m : Array MapEntry × Nat) : (G.add i r b n m).mp i r = m := if_pos ⟨rfl, rfl⟩

theorem Rel.nok {G : Ghost} {h : AHeap} {w : World} (r : Rel G h w) (k : Nat) : ¬ G.ok h.next k := fun e => Nat.lt_irrefl _ (r.okn _ _ e)

theorem AHeap.push_get {h : AHeap} {o : AObj} (i : Nat) : (h.push o).get i = if i = h.next then some o else h.get i := rfl
theorem AHeap.push_next {h : AHeap} {o : AObj} : (h.push o).next = h.next + 1 := rfl

theorem Rel.push {G : Ghost} {h : AHeap} {w : World} (r : Rel G h w) {x : Obj} {o : AObj} {n : Nat} {m : Array MapEntry × Nat} (hv : o.ver = 0)
    (hob : oblk (G.add h.next 0 w.heap.size n m) h.next o = w.heap.size)
    (ho : orel (G.add h.next 0 w.heap.size n m) (w.alloc x) h.next o) : Rel (G.add h.next 0 w.heap.size n m) (h.push o) (w.alloc x) := by
  have hl := Ghost.le_add (b := w.heap.size) (n := n) (m := m) (r.nok 0)
  have r' : Rel G h (w.alloc x) := r.later ((Bel.refl _ _).alloc (Nat.le_refl _) x)
  have hold : ∀ i oi, (h.push o).get i = some oi → i ≠ h.next → h.get i = some oi := fun i oi e hne => by rw [AHeap.push_get, if_neg hne] at e; exact e
  have hnew : ∀ i oi, (h.push o).get i = some oi → i = h.next → oi = o := fun i oi e he => by rw [AHeap.push_get, if_pos he] at e; exact (Option.some.inj e).symm
  have hlt : ∀ i oi, h.get i = some oi → oblk G i oi < w.heap.size := fun i oi e => orel_lt (r.obj i oi e)
  refine ⟨r.start, r'.below, r'.N, r'.imm, ?_, ?_, ?_, ?_, ?_, ?_, ?_, fun b ob e => ⟨(r'.keep b ob e).1, (r'.keep b ob e).2.1, fun i oi ei => ?_⟩⟩
  rotate_right
  · by_cases hi : i = h.next
    · subst hi
      rw [hnew _ oi ei rfl, hob]
      exact (Nat.ne_of_lt (heap_lt (r.keep b ob e).1)).symm
    · have ei' := hold i oi ei hi
      rw [(orel_mono hl (r.obj i oi ei')).2]
      exact (r.keep b ob e).2.2 i oi ei'
  · rintro i k (h1 | ⟨h1, _⟩)
    · exact Nat.lt_succ_of_lt (r.okn i k h1)
    · rw [h1]; exact Nat.lt_succ_self _
  · intro i k oi e hk
    by_cases hi : i = h.next
    · rw [hnew i oi e hi, hv]
      rcases hk with hk | ⟨_, hk⟩
      · exact absurd (hi ▸ hk) (r.nok k)
      · omega
    · rcases hk with hk | ⟨h1, _⟩
      · exact r.okv i k oi (hold i oi e hi) hk
      · exact absurd h1 hi
  · intro i hi
    rw [AHeap.push_next] at hi
    rw [AHeap.push_get, if_neg (by omega)]
    exact r.fresh i (by omega)
  · intro i oi e
    by_cases hi : i = h.next
    · subst hi; rw [hnew _ oi e rfl]; exact ho
    · exact (orel_mono hl (r'.obj i oi (hold i oi e hi))).1
  · intro i oi e
    by_cases hi : i = h.next
    · subst hi; rw [hnew _ oi e rfl, hob]; exact r.N
    · have := r.high i oi (hold i oi e hi)
      rw [(orel_mono hl (r.obj i oi (hold i oi e hi))).2]; exact this
  · intro i j oi oj ei ej hne
    have hob' : ∀ k ok, h.get k = some ok → oblk (G.add h.next 0 w.heap.size n m) k ok = oblk G k ok := fun k ok ek => (orel_mono hl (r.obj k ok ek)).2
    by_cases hi : i = h.next
    · have hj : j ≠ h.next := fun e => hne (hi.trans e.symm)
      have ej' := hold j oj ej hj
      subst hi
      rw [hnew _ oi ei rfl, hob, hob' j oj ej']
      exact (Nat.ne_of_lt (hlt j oj ej')).symm
    · have ei' := hold i oi ei hi
      by_cases hj : j = h.next
      · subst hj
        rw [hnew _ oj ej rfl, hob, hob' i oi ei']
        exact Nat.ne_of_lt (hlt i oi ei')
      · have ej' := hold j oj ej hj
        rw [hob' i oi ei', hob' j oj ej']
        exact r.sep i j oi oj ei' ej' hne
  · intro b oo v e i oi ei
    by_cases hi : i = h.next
    · subst hi
      rw [hnew _ oi ei rfl, hob]
      have := World.block_lt_of_cell? w ⟨b, oo, none⟩ (r.imm b oo v e)
      exact fun h' => Nat.lt_irrefl _ (h' ▸ this)
    · have ei' := hold i oi ei hi
      rw [(orel_mono hl (r.obj i oi ei')).2]
      exact r.simm b oo v e i oi ei'

theorem lrel_length {G : Ghost} : ∀ {cs : List AV} {rs : List Value}, lrel G cs rs → rs.length = cs.length
  | [], _, h => by simp only [lrel] at h; rw [h]; rfl
  | _ :: _, _, h => by
    simp only [lrel] at h
    obtain ⟨r, rest, e, _, hr⟩ := h
    rw [e, List.length_cons, List.length_cons, lrel_length hr]

/-- A new row of cells: of the cells that are told the first 'cs.length'. -/
theorem Rel.newCells {G : Ghost} {h : AHeap} {w : World} (r : Rel G h w) {row : Array Value} {el : TypeId} {fz : Nat × Nat} {cs : List AV}
    (hf : row.size ≤ fz.1 ∨ fz.2 ≤ fz.1) (hle : cs.length ≤ row.size) (hr : lrel G cs (row.toList.take cs.length)) :
    Rel (G.add h.next 0 w.heap.size row.size (#[], 0)) (h.push (.cells 0 cs)) (w.alloc (.cells row el fz)) ∧ G.le (G.add h.next 0 w.heap.size row.size (#[], 0)) := by
  have hl := Ghost.le_add (b := w.heap.size) (n := row.size) (m := (#[], 0)) (r.nok 0)
  refine ⟨r.push rfl (Ghost.add_blk ..) ?_, hl⟩
  refine ⟨Ghost.add_ok .., row, el, fz, ?_, ?_, hf, hle, lrel_mono hl _ _ hr⟩
  · rw [Ghost.add_blk]; show (w.heap.push _)[w.heap.size]? = _; simp
  · rw [Ghost.add_own]

end Go.Own

/- What single operations do, on abstract values and in a world that bears them: memory. -/
namespace Go.Own
open Go.RowKit

/-- One cell's value. -/
def AV.scalar : AV → Bool
  | .agg _ | .tuple _ | .junk => false
  | _ => true
/-- The cells of a value that can be stored. -/
def AV.cells? : AV → Option (List AV)
  | .agg cs => some cs
  | .tuple _ | .junk => none
  | v => some [v]

theorem vrel_ptr {G : Ghost} {i r o : Nat} (h : G.ok i r) : vrel G (.ptr i r o) (.pointer (some ⟨G.blk i r, o, none⟩)) := by
  simp only [vrel]; exact ⟨h, trivial⟩
theorem vrel_agg {G : Ghost} {cs : List AV} {rs : List Value} (h : lrel G cs rs) : vrel G (.agg cs) (.agg rs.toArray) := by
  simp only [vrel]; exact ⟨rs, rfl, h⟩
theorem vrel_tuple {G : Ghost} {cs : List AV} {rs : List Value} (h : lrel G cs rs) : vrel G (.tuple cs) (.tuple rs.toArray) := by
  simp only [vrel]; exact ⟨rs, rfl, h⟩
theorem vrel_lst {G : Ghost} {cs : List AV} {b o len cap : Nat} (hle : len ≤ cap) (h : crel G cs b o) : vrel G (.lst cs len) (.slice (some ⟨b, o, none⟩) len cap) := by
  simp only [vrel]; exact ⟨b, o, cap, rfl, hle, h⟩
theorem vrel_cptr {G : Ghost} {cs : List AV} {b o : Nat} (h : crel G cs b o) : vrel G (.cptr cs) (.pointer (some ⟨b, o, none⟩)) := by
  simp only [vrel]; exact ⟨b, o, rfl, h⟩
theorem vrel_sl {G : Ghost} {i r off len esz b o cap : Nat} (hok : G.ok i r) (hle : len ≤ cap) (h : cap = 0 ∨ b = G.blk i r ∧ o = off ∧ off + cap * esz ≤ G.own i r) : vrel G (.sl i r off len esz) (.slice (some ⟨b, o, none⟩) len cap) := by
  simp only [vrel]; exact ⟨hok, b, o, cap, rfl, hle, h⟩
theorem vrel_map {G : Ghost} {i : Nat} (h : G.ok i 0) : vrel G (.map i) (.map (some (G.blk i 0))) := by
  simp only [vrel]; exact ⟨h, trivial⟩
theorem vrel_iter {G : Ghost} {i : Nat} (h : G.ok i 0) : vrel G (.iter i) (.pointer (some ⟨G.blk i 0, 0, none⟩)) := by
  simp only [vrel]; exact ⟨h, trivial⟩

theorem vrel_scalar {G : Ghost} {a : AV} {v : Value} (hs : a.scalar = true) (h : vrel G a v) : v.oneCell' = true ∧ v.cells = #[v] := by
  cases a <;> simp only [AV.scalar, Bool.false_eq_true] at hs <;> simp only [vrel] at h
  case bool => rw [h]; exact ⟨rfl, rfl⟩
  case int => rw [h]; exact ⟨rfl, rfl⟩
  case str => rw [h]; exact ⟨rfl, rfl⟩
  case nilp => rw [h]; exact ⟨rfl, rfl⟩
  case ptr => rw [h.2]; exact ⟨rfl, rfl⟩
  case cptr => obtain ⟨b, o, e, _⟩ := h; rw [e]; exact ⟨rfl, rfl⟩
  case nils => rw [h]; exact ⟨rfl, rfl⟩
  case emp => obtain ⟨b, e⟩ := h; rw [e]; exact ⟨rfl, rfl⟩
  case lst => obtain ⟨b, o, cap, e, _⟩ := h; rw [e]; exact ⟨rfl, rfl⟩
  case sl => obtain ⟨_, b, o, cap, e, _⟩ := h; rw [e]; exact ⟨rfl, rfl⟩
  case nilm => rw [h]; exact ⟨rfl, rfl⟩
  case map => rw [h.2]; exact ⟨rfl, rfl⟩
  case iter => rw [h.2]; exact ⟨rfl, rfl⟩
  case nilf => rw [h]; exact ⟨rfl, rfl⟩
  case func => obtain ⟨rf, rc, e, _⟩ := h; rw [e]; exact ⟨rfl, rfl⟩

theorem vrel_cells {G : Ghost} {a : AV} {v : Value} {cs : List AV} (hc : a.cells? = some cs) (h : vrel G a v) : lrel G cs v.cells.toList := by
  by_cases hs : a.scalar = true
  · have : cs = [a] := by cases a <;> simp_all [AV.cells?, AV.scalar]
    rw [this, (vrel_scalar hs h).2]
    simp only [lrel]
    exact ⟨v, [], rfl, h, rfl⟩
  · cases a <;> simp_all [AV.cells?, AV.scalar]
    simp only [vrel] at h
    obtain ⟨rs, e, hr⟩ := h
    rw [e]; exact hr

theorem lrel_take {G : Ghost} : ∀ (n : Nat) {cs : List AV} {rs : List Value}, lrel G cs rs → lrel G (cs.take n) (rs.take n)
  | 0, _, _, _ => by simp only [List.take_zero, lrel]
  | n + 1, [], _, h => by simp only [lrel] at h; rw [h]; simp only [List.take_nil, lrel]
  | n + 1, c :: cs, rs, h => by
    simp only [lrel] at h
    obtain ⟨r, rest, e, hv, hr⟩ := h
    rw [e]; simp only [List.take_succ_cons, lrel]
    exact ⟨r, rest.take n, rfl, hv, lrel_take n hr⟩
theorem lrel_drop {G : Ghost} : ∀ (n : Nat) {cs : List AV} {rs : List Value}, lrel G cs rs → lrel G (cs.drop n) (rs.drop n)
  | 0, _, _, h => by simpa using h
  | n + 1, [], _, h => by simp only [lrel] at h; rw [h]; simp only [List.drop_nil, lrel]
  | n + 1, c :: cs, rs, h => by
    simp only [lrel] at h
    obtain ⟨r, rest, e, _, hr⟩ := h
    rw [e]; simp only [List.drop_succ_cons]
    exact lrel_drop n hr
theorem lrel_append {G : Ghost} : ∀ {cs : List AV} {rs : List Value} {ds : List AV} {ss : List Value}, lrel G cs rs → lrel G ds ss → lrel G (cs ++ ds) (rs ++ ss)
  | [], _, _, _, h, k => by simp only [lrel] at h; rw [h]; simpa using k
  | c :: cs, rs, ds, ss, h, k => by
    simp only [lrel] at h
    obtain ⟨r, rest, e, hv, hr⟩ := h
    rw [e]; simp only [List.cons_append, lrel]
    exact ⟨r, rest ++ ss, rfl, hv, lrel_append hr k⟩
theorem lrel_get {G : Ghost} : ∀ (j : Nat) {cs : List AV} {rs : List Value} {c : AV}, lrel G cs rs → cs[j]? = some c → ∃ r, rs[j]? = some r ∧ vrel G c r
  | _, [], _, _, _, hc => by simp at hc
  | 0, c :: cs, rs, c', h, hc => by
    simp only [lrel] at h
    obtain ⟨r, rest, e, hv, _⟩ := h
    simp at hc; subst hc
    exact ⟨r, by rw [e]; rfl, hv⟩
  | j + 1, c :: cs, rs, c', h, hc => by
    simp only [lrel] at h
    obtain ⟨r, rest, e, _, hr⟩ := h
    obtain ⟨r', e', hv'⟩ := lrel_get j hr (by simpa using hc)
    exact ⟨r', by rw [e]; simpa using e', hv'⟩
theorem lrel_set {G : Ghost} : ∀ (j : Nat) {cs : List AV} {rs : List Value} {c : AV} {v : Value}, lrel G cs rs → vrel G c v → lrel G (cs.set j c) (rs.set j v)
  | _, [], _, _, _, h, _ => by simp only [lrel] at h; rw [h]; simp only [List.set_nil, lrel]
  | 0, c :: cs, rs, c', v, h, hc => by
    simp only [lrel] at h
    obtain ⟨r, rest, e, _, hr⟩ := h
    rw [e]; simp only [List.set_cons_zero, lrel]
    exact ⟨v, rest, rfl, hc, hr⟩
  | j + 1, c :: cs, rs, c', v, h, hc => by
    simp only [lrel] at h
    obtain ⟨r, rest, e, hv, hr⟩ := h
    rw [e]; simp only [List.set_cons_succ, lrel]
    exact ⟨r, rest.set j v, rfl, hv, lrel_set j hr hc⟩

theorem addr_add (b o i : Nat) : (⟨b, o, none⟩ : Addr).add i = ⟨b, o + i, none⟩ := by
  unfold Addr.add; split <;> simp_all

/-- Cells of an object. -/
theorem Rel.cells {G : Ghost} {h : AHeap} {w : World} (r : Rel G h w) {i k : Nat} {cs : List AV} (e : h.get i = some (.cells k cs)) :
    G.ok i k ∧ cs.length ≤ G.own i k ∧ ∃ rs : List Value, lrel G cs rs ∧ (∀ j v, rs[j]? = some v → w.cell? ⟨G.blk i k, j, none⟩ = some v) ∧
      ∀ j, j < G.own i k → (w.cell? ⟨G.blk i k, j, none⟩).isSome = true ∧ w.frozen? ⟨G.blk i k, j, none⟩ = false := by
  obtain ⟨hok, row, el, fz, hb, hs, hf, hle, hr⟩ := r.obj i _ e
  refine ⟨hok, hs ▸ hle, row.toList.take cs.length, hr, ?_, ?_⟩
  · intro j v hj
    have hj' : row.toList[j]? = some v := by
      rw [List.getElem?_take] at hj
      split at hj
      · exact hj
      · simp at hj
    simp only [World.cell?, hb]
    simpa using hj'
  · intro j hj
    rw [← hs] at hj
    constructor
    · simp [World.cell?, hb, Array.getElem?_eq_getElem hj]
    · simp only [World.frozen?, hb]
      rcases hf with hf | hf
      · simp; omega
      · simp; omega
theorem Rel.readCells {G : Ghost} {h : AHeap} {w : World} (P : Program) (r : Rel G h w) {i k : Nat} {cs : List AV} (e : h.get i = some (.cells k cs)) (o n : Nat) (hn : o + n ≤ cs.length) :
    ∃ rs : List Value, lrel G ((cs.drop o).take n) rs ∧ (loadCells ⟨G.blk i k, o, none⟩ n).run P w = .ok rs.toArray w := by
  obtain ⟨_, _, rs, hr, hc, _⟩ := r.cells e
  refine ⟨(rs.drop o).take n, lrel_take n (lrel_drop o hr), ?_⟩
  have hl : ((rs.drop o).take n).length = n := by rw [List.length_take, List.length_drop, lrel_length hr]; omega
  have := run_loadCells_list (P := P) w ⟨G.blk i k, o, none⟩ ((rs.drop o).take n) (fun j v hj => by
    rw [addr_add]
    refine hc _ v ?_
    rw [List.getElem?_take] at hj
    split at hj
    · rwa [List.getElem?_drop] at hj
    · simp at hj)
  rwa [hl] at this
theorem crel_get {G : Ghost} : ∀ (j : Nat) {cs : List AV} {b o : Nat} {c : AV}, crel G cs b o → cs[j]? = some c → ∃ u, G.imm b (o + j) = some u ∧ vrel G c u
  | _, [], _, _, _, _, hc => by simp at hc
  | 0, c :: cs, b, o, c', h, hc => by
    simp only [crel] at h
    simp at hc; subst hc
    exact h.1
  | j + 1, c :: cs, b, o, c', h, hc => by
    simp only [crel] at h
    have := crel_get j h.2 (by simpa using hc)
    rwa [show o + 1 + j = o + (j + 1) by omega] at this
theorem crel_drop {G : Ghost} : ∀ (n : Nat) {cs : List AV} {b o : Nat}, crel G cs b o → crel G (cs.drop n) b (o + n)
  | 0, _, _, _, h => by simpa using h
  | n + 1, [], _, _, _ => by simp only [List.drop_nil, crel]
  | n + 1, c :: cs, b, o, h => by
    simp only [crel] at h
    have := crel_drop n h.2
    rw [show o + 1 + n = o + (n + 1) by omega] at this
    simpa using this
theorem crel_take {G : Ghost} : ∀ (n : Nat) {cs : List AV} {b o : Nat}, crel G cs b o → crel G (cs.take n) b o
  | 0, _, _, _, _ => by simp only [List.take_zero, crel]
  | n + 1, [], _, _, _ => by simp only [List.take_nil, crel]
  | n + 1, c :: cs, b, o, h => by
    simp only [crel] at h
    simp only [List.take_succ_cons, crel]
    exact ⟨h.1, crel_take n h.2⟩
/-- What lies there, as a list of values. -/
theorem crel_list {G : Ghost} {h : AHeap} {w : World} (r : Rel G h w) : ∀ {cs : List AV} {b o : Nat}, crel G cs b o → ∃ rs : List Value, lrel G cs rs ∧ ∀ j v, rs[j]? = some v → w.cell? ⟨b, o + j, none⟩ = some v
  | [], _, _, _ => ⟨[], by simp only [lrel], fun j v hj => by simp at hj⟩
  | c :: cs, b, o, hc => by
    simp only [crel] at hc
    obtain ⟨⟨u, hu, hv⟩, h2⟩ := hc
    obtain ⟨rs, h3, h4⟩ := crel_list r h2
    refine ⟨u :: rs, by simp only [lrel]; exact ⟨u, rs, rfl, hv, h3⟩, fun j v hj => ?_⟩
    cases j with
    | zero => simp at hj; subst hj; exact r.imm b o _ hu
    | succ j =>
      have := h4 j v (by simpa using hj)
      rwa [show o + 1 + j = o + (j + 1) by omega] at this
theorem Rel.readImm {G : Ghost} {h : AHeap} {w : World} (P : Program) (r : Rel G h w) {cs : List AV} {b o : Nat} (hc : crel G cs b o) (n : Nat) (hn : n ≤ cs.length) :
    ∃ rs : List Value, lrel G (cs.take n) rs ∧ (loadCells ⟨b, o, none⟩ n).run P w = .ok rs.toArray w := by
  obtain ⟨rs, h1, h2⟩ := crel_list r (crel_take n hc)
  refine ⟨rs, h1, ?_⟩
  have hl : rs.length = n := by rw [lrel_length h1, List.length_take]; omega
  have := run_loadCells_list (P := P) w ⟨b, o, none⟩ rs (fun j v hj => by rw [addr_add]; exact h2 j v hj)
  rwa [hl] at this

/-- Is a type's value an aggregate; how many cells does it take? -/
def isAggD : TypeDesc → Bool
  | .struct _ | .array _ _ => true
  | _ => false
def tkind (P : Program) (t : TypeId) : Option (Bool × Nat) :=
  match P.underlying t, P.info? t with
  | some d, some i => some (isAggD d, i.size)
  | _, _ => none

section
variable {P : Program} {t : TypeId} {w : World}
theorem run_underlying {d : TypeDesc} (h : P.underlying t = some d) : (underlying t).run P w = .ok d w := by
  simp [underlying, h]
theorem run_typeInfo {i : TypeInfo} (h : P.info? t = some i) : (typeInfo t).run P w = .ok i w := by
  simp [typeInfo, h]
theorem run_sizeOf {i : TypeInfo} (h : P.info? t = some i) : (sizeOf t).run P w = .ok i.size w := by
  simp [sizeOf, run_typeInfo h]
theorem run_isAgg {b : Bool} {n : Nat} (h : tkind P t = some (b, n)) : (isAgg t).run P w = .ok b w := by
  unfold tkind at h
  split at h
  · rename_i d i hd hi
    simp only [Option.some.injEq, Prod.mk.injEq] at h
    simp only [isAgg, Sem.run_bind, run_underlying hd, Result.andThen_ok]
    rw [← h.1]
    cases d <;> rfl
  · simp at h
theorem tkind_size {b : Bool} {n : Nat} (h : tkind P t = some (b, n)) : (sizeOf t).run P w = .ok n w := by
  unfold tkind at h
  split at h
  · rename_i d i hd hi
    simp only [Option.some.injEq, Prod.mk.injEq] at h
    rw [run_sizeOf hi, h.2]
  · simp at h
end

/-- Load. -/
def aloadv (b : Bool) (n : Nat) (p : AV) (h : AHeap) : Option AV :=
  match p with
  | .ptr i r o => match h.get i with
    | some (.cells r' cs) => if r' = r then (if b then (if o + n ≤ cs.length then some (.agg ((cs.drop o).take n)) else none) else cs[o]?) else none
    | _ => none
  | .cptr cs => if b then (if n ≤ cs.length then some (.agg (cs.take n)) else none) else cs[0]?
  | _ => none

theorem aloadv_run {G : Ghost} {h : AHeap} {w : World} {P : Program} (r : Rel G h w) {t : TypeId} {b : Bool} {n : Nat} {p v : AV} {rp : Value}
    (ht : tkind P t = some (b, n)) (hp : vrel G p rp) (hv : aloadv b n p h = some v) : ∃ rv, (Instr.loadAt t rp).run P w = .ok rv w ∧ vrel G v rv := by
  cases p with
  | ptr i k o =>
    simp only [vrel] at hp
    obtain ⟨hok, rfl⟩ := hp
    simp only [aloadv] at hv
    split at hv
    · rename_i k' cs he
      split at hv
      · rename_i hk; subst hk
        cases b with
        | true =>
          simp only [if_true] at hv
          split at hv
          · rename_i hle
            simp at hv; subst hv
            obtain ⟨rs, h1, h2⟩ := r.readCells P he o n hle
            refine ⟨.agg rs.toArray, ?_, by simp only [vrel]; exact ⟨rs, rfl, h1⟩⟩
            simp [Instr.loadAt, Instr.sureAddr, loadVar, run_isAgg ht, tkind_size ht, h2]
          · simp at hv
        | false =>
          simp only [Bool.false_eq_true, if_false] at hv
          obtain ⟨_, _, rs, hr, hc, _⟩ := r.cells he
          obtain ⟨rv, h1, h2⟩ := lrel_get o hr hv
          have h3 := hc _ _ h1
          refine ⟨rv, ?_, h2⟩
          simp [Instr.loadAt, Instr.sureAddr, loadVar, run_isAgg ht, h3]
      · simp at hv
    · simp at hv
  | cptr cs =>
    simp only [vrel] at hp
    obtain ⟨bb, o, rfl, hc⟩ := hp
    simp only [aloadv] at hv
    cases b with
    | true =>
      simp only [if_true] at hv
      split at hv
      · rename_i hle
        simp at hv; subst hv
        obtain ⟨rs, h1, h2⟩ := r.readImm P hc n hle
        refine ⟨.agg rs.toArray, ?_, by simp only [vrel]; exact ⟨rs, rfl, h1⟩⟩
        simp [Instr.loadAt, Instr.sureAddr, loadVar, run_isAgg ht, tkind_size ht, h2]
      · simp at hv
    | false =>
      simp only [Bool.false_eq_true, if_false] at hv
      obtain ⟨u, h1, h2⟩ := crel_get 0 hc hv
      have h3 := r.imm _ _ _ h1
      refine ⟨u, ?_, h2⟩
      simp at h3
      simp [Instr.loadAt, Instr.sureAddr, loadVar, run_isAgg ht, h3]
  | _ => simp [aloadv] at hv

/-- The list with a part put in the place of another one of the same length. -/
def splice (cs : List AV) (o : Nat) (vs : List AV) : List AV := cs.take o ++ vs ++ cs.drop (o + vs.length)
theorem splice_length {cs : List AV} {o : Nat} {vs : List AV} (h : o + vs.length ≤ cs.length) : (splice cs o vs).length = cs.length := by
  simp [splice]; omega

/-- Store. -/
def astorev (n : Nat) (p v : AV) (h : AHeap) : Option AHeap :=
  match p, v.cells? with
  | .ptr i r o, some vs => match h.get i with
    | some (.cells r' cs) => if r' = r ∧ vs.length = n ∧ o + n ≤ cs.length ∧ vs.all AV.scalar = true then some (h.set i (.cells r (splice cs o vs))) else none
    | _ => none
  | _, _ => none

theorem lrel_all_one {G : Ghost} : ∀ {vs : List AV} {rs : List Value}, lrel G vs rs → vs.all AV.scalar = true → ∀ v ∈ rs, v.oneCell' = true
  | [], _, h, _ => by simp only [lrel] at h; rw [h]; simp
  | c :: cs, rs, h, hs => by
    simp only [lrel] at h
    obtain ⟨r, rest, e, hv, hr⟩ := h
    simp only [List.all_cons, Bool.and_eq_true] at hs
    rw [e]
    intro v hm
    rcases List.mem_cons.1 hm with rfl | hm
    · exact (vrel_scalar hs.1 hv).1
    · exact lrel_all_one hr hs.2 v hm

theorem heap_setCells_other (b : Nat) : ∀ (vs : List Value) (o : Nat) (w : World) (k : Nat), k ≠ b → (w.setCells b o vs).heap[k]? = w.heap[k]?
  | [], _, _, _, _ => rfl
  | v :: r, o, w, k, hk => by rw [World.setCells, heap_setCells_other b r _ _ k hk, Below.heap_setCell _ _ _ _ hk]
theorem heap_setCells_size (b : Nat) : ∀ (vs : List Value) (o : Nat) (w : World), (w.setCells b o vs).heap.size = w.heap.size
  | [], _, _ => rfl
  | v :: r, o, w => by rw [World.setCells, heap_setCells_size b r]; simp
theorem below_setCells {c : Bool} {N : Nat} {w0 : World} (b : Nat) (hb : N ≤ b) : ∀ (vs : List Value) (o : Nat) (w : World), Bel c N w0 w → Bel c N w0 (w.setCells b o vs)
  | [], _, _, h => h
  | v :: r, o, w, h => by rw [World.setCells]; exact below_setCells b hb r _ _ (h.setCell (p := ⟨b, o, none⟩) hb v)
/-- The row behind the stores. -/
theorem heap_setCells_row (b : Nat) (el : TypeId) (fz : Nat × Nat) : ∀ (vs : List Value) (o : Nat) (w : World) (row : Array Value), w.heap[b]? = some (.cells row el fz) →
    ∃ row', (w.setCells b o vs).heap[b]? = some (.cells row' el fz) ∧ row'.toList = (row.toList.take o ++ vs ++ row.toList.drop (o + vs.length)).take row.size ∧ row'.size = row.size
  | [], o, w, row, h => ⟨row, h, by simp; rw [List.take_of_length_le (by simp)], rfl⟩
  | v :: r, o, w, row, h => by
    have h1 : (w.setCell ⟨b, o, none⟩ v).heap[b]? = some (.cells (row.setIfInBounds o v) el fz) := by
      simp [World.setCell, Array.getElem?_modify, h]
    obtain ⟨row', h2, h3, h4⟩ := heap_setCells_row b el fz r (o + 1) _ _ h1
    refine ⟨row', by rw [World.setCells]; exact h2, ?_, by simpa using h4⟩
    rw [h3]
    simp only [Array.toList_setIfInBounds, Array.size_setIfInBounds]
    apply List.ext_getElem?
    intro j
    have hsz : row.size = row.toList.length := by simp
    rw [hsz]
    generalize row.toList = l
    simp only [List.getElem?_take, List.getElem?_append, List.length_append, List.length_take, List.length_set, List.getElem?_set, List.getElem?_drop, List.length_cons, List.getElem?_cons]
    by_cases hj : j < l.length
    · simp only [hj, if_true]
      by_cases hjo : j < o
      · have e1 : j < min o l.length := by omega
        have e2 : j < min (o + 1) l.length := by omega
        have e3 : ¬ o = j := by omega
        simp [e1, e2, e3, hjo, Nat.lt_succ_of_lt hjo, Nat.lt_of_lt_of_le e1 (Nat.le_add_right _ _), Nat.lt_of_lt_of_le e2 (Nat.le_add_right _ _)]
      · by_cases hje : j = o
        · subst hje
          have e1 : ¬ j < min j l.length := by omega
          have e2 : j < min (j + 1) l.length := by omega
          have e3 : j < min j l.length + (r.length + 1) := by omega
          have e4 : j - min j l.length = 0 := by omega
          simp [e2, hj, Nat.lt_of_lt_of_le e2 (Nat.le_add_right _ _), Nat.min_eq_left (Nat.le_of_lt hj)]
        · have m1 : min o l.length = o := by omega
          have m2 : min (o + 1) l.length = o + 1 := by omega
          simp only [m1, m2]
          by_cases hin : j < o + 1 + r.length
          · have e1 : ¬ j < o := hjo
            have e2 : ¬ j < o + 1 := by omega
            have e3 : j < o + (r.length + 1) := by omega
            have e4 : j - o = (j - (o + 1)) + 1 := by omega
            have e5 : ¬ j - o = 0 := by omega
            simp [e1, e2, e3, hin, e5, show j - o - 1 = j - (o + 1) by omega]
          · have e3 : ¬ j < o + (r.length + 1) := by omega
            have e5 : ¬ o = o + 1 + r.length + (j - (o + 1 + r.length)) := by omega
            simp [hin, e3, e5, show o + (r.length + 1) + (j - (o + (r.length + 1))) = o + 1 + r.length + (j - (o + 1 + r.length)) by omega]
    · simp [hj]

/-- A store into an object. -/
theorem Rel.write {G : Ghost} {h : AHeap} {w : World} (P : Program) (r : Rel G h w) {i k : Nat} {cs : List AV} (e : h.get i = some (.cells k cs)) {o : Nat} {vs : List AV} {rs : List Value}
    (hr : lrel G vs rs) (h1 : vs.all AV.scalar = true) (ho : o ≤ cs.length) (hle : o + vs.length ≤ G.own i k) :
    (storeCells ⟨G.blk i k, o, none⟩ rs).run P w = .ok () (w.setCells (G.blk i k) o rs) ∧ Rel G (h.set i (.cells k (splice cs o vs))) (w.setCells (G.blk i k) o rs) := by
  have hlen : rs.length = vs.length := lrel_length hr
  obtain ⟨hok, hown, _, _, _, hfree⟩ := r.cells e
  constructor
  · have := run_storeCells_cells (P := P) (G.blk i k) o rs 0 w (fun j hj => by simpa using (hfree (o + j) (by omega)).1) (fun j hj => by simpa using (hfree (o + j) (by omega)).2) (lrel_all_one hr h1)
    simpa using this
  · have hget : ∀ j oj, (h.set i (.cells k (splice cs o vs))).get j = some oj → (j = i ∧ oj = .cells k (splice cs o vs)) ∨ (j ≠ i ∧ h.get j = some oj) := by
      intro j oj hj
      by_cases hji : j = i
      · left; simp [AHeap.set, hji] at hj; exact ⟨hji, hj.symm⟩
      · right; simp [AHeap.set, hji] at hj; exact ⟨hji, hj⟩
    have hblk : ∀ j oj, (h.set i (.cells k (splice cs o vs))).get j = some oj → ∃ oj', h.get j = some oj' ∧ oblk G j oj = oblk G j oj' ∧ oj.ver = oj'.ver := by
      intro j oj hj
      rcases hget j oj hj with ⟨rfl, rfl⟩ | ⟨_, h2⟩
      · exact ⟨_, e, rfl, rfl⟩
      · exact ⟨_, h2, rfl, rfl⟩
    refine ⟨r.start, below_setCells _ (r.high i _ e) _ _ _ r.below, by rw [heap_setCells_size]; exact r.N, ?_, r.okn, ?_, ?_, ?_, ?_, ?_, ?_, ?_⟩
    rotate_right
    · intro b ob eb
      obtain ⟨k1, k2, k3⟩ := r.keep b ob eb
      refine ⟨?_, k2, fun j oj hj => ?_⟩
      · have hk3 : G.blk i k ≠ b := k3 i _ e
        rw [heap_setCells_other _ _ _ _ _ (Ne.symm hk3)]; exact k1
      · obtain ⟨oj', h2, h3, _⟩ := hblk j oj hj
        rw [h3]; exact k3 j oj' h2
    · intro b oo v hi
      have hne := r.simm b oo v hi i _ e
      have := r.imm b oo v hi
      rwa [World.cell?_of_block (w := w) (heap_setCells_other _ _ _ _ b (Ne.symm hne))]
    · intro j s oj hj hs
      obtain ⟨oj', h2, _, h3⟩ := hblk j oj hj
      rw [h3]; exact r.okv j s oj' h2 hs
    · intro j hj
      have hne : j ≠ i := fun he => by rw [he] at hj; have := r.fresh i hj; rw [e] at this; cases this
      simp [AHeap.set, hne]; exact r.fresh j hj
    · intro j oj hj
      rcases hget j oj hj with ⟨rfl, rfl⟩ | ⟨hne, h2⟩
      · obtain ⟨_, row, el, fz, hb, hs, hf, hl, hrr⟩ := r.obj j _ e
        obtain ⟨row', hb', hrow', hsz'⟩ := heap_setCells_row _ el fz rs o w row hb
        have hsl : (splice cs o vs).length = max cs.length (o + vs.length) := by simp [splice]; omega
        refine ⟨hok, row', el, fz, hb', hsz'.trans hs, by rw [hsz']; exact hf, by rw [hsl, hsz']; omega, ?_⟩
        have hrl : row.toList.length = row.size := by simp
        have e1 : row'.toList.take (splice cs o vs).length = (row.toList.take cs.length).take o ++ rs ++ (row.toList.take cs.length).drop (o + rs.length) := by
          rw [hrow', hsl]
          apply List.ext_getElem?
          intro q
          simp only [List.getElem?_take, List.getElem?_append, List.length_append, List.length_take, List.getElem?_drop]
          rw [hlen, hrl]
          have m1 : min o row.size = o := by omega
          have m2 : min o (min cs.length row.size) = o := by omega
          simp only [m1, m2]
          by_cases h3 : q < o + vs.length
          · have hq1 : q < max cs.length (o + vs.length) := by omega
            have hq2 : q < row.size := by omega
            simp only [hq1, hq2, h3, if_true]
            by_cases h4 : q < o
            · have h5 : q < cs.length := by omega
              simp [h4, h5]
            · simp [h4]
          · by_cases hq : q < cs.length
            · have hq1 : q < max cs.length (o + vs.length) := by omega
              have hq2 : q < row.size := by omega
              simp only [hq1, hq2, h3, if_true, if_false]
              rw [if_pos (by omega)]
            · have hq1 : ¬ q < max cs.length (o + vs.length) := by omega
              simp only [hq1, h3, if_false]
              rw [if_neg (by omega)]
        rw [e1, splice]
        have := lrel_append (lrel_append (lrel_take o hrr) hr) (lrel_drop (o + vs.length) hrr)
        rwa [hlen]
      · have hne' := r.sep j i oj _ h2 e hne
        exact orel_block (heap_setCells_other _ _ _ _ _ hne') (r.obj j oj h2)
    · intro j oj hj
      obtain ⟨oj', h2, h3, _⟩ := hblk j oj hj
      rw [h3]; exact r.high j oj' h2
    · intro a b oa ob ha hb hne
      obtain ⟨oa', h2, h3, _⟩ := hblk a oa ha
      obtain ⟨ob', h2', h3', _⟩ := hblk b ob hb
      rw [h3, h3']; exact r.sep a b oa' ob' h2 h2' hne
    · intro b oo v hi j oj hj
      obtain ⟨oj', h2, h3, _⟩ := hblk j oj hj
      rw [h3]; exact r.simm b oo v hi j oj' h2

theorem astorev_run {G : Ghost} {h h' : AHeap} {w : World} {P : Program} (r : Rel G h w) {t : TypeId} {b : Bool} {n : Nat} {p v : AV} {rp rv : Value}
    (ht : tkind P t = some (b, n)) (hp : vrel G p rp) (hv : vrel G v rv) (hs : astorev n p v h = some h') :
    ∃ w', (Instr.storeAt t rp rv).run P w = .ok () w' ∧ Rel G h' w' := by
  unfold astorev at hs
  split at hs
  · rename_i i k o vs hc
    split at hs
    · rename_i k' cs he
      split at hs
      · rename_i hcond
        obtain ⟨rfl, hl, hle, h1⟩ := hcond
        simp at hs; subst hs
        simp only [vrel] at hp
        obtain ⟨hok, rfl⟩ := hp
        have hr := vrel_cells hc hv
        obtain ⟨_, hown, _⟩ := r.cells he
        obtain ⟨e1, e2⟩ := r.write P he hr h1 (o := o) (by omega) (by omega)
        refine ⟨_, ?_, e2⟩
        have hsz : rv.cells.size = n := by
          have := lrel_length hr
          rw [← hl, ← this]; simp
        simp [Instr.storeAt, Instr.sureAddr, storeVar, tkind_size ht, hsz, e1]
      · simp at hs
    · simp at hs
  · simp at hs

theorem set_get {h : AHeap} {i : Nat} {o : AObj} (j : Nat) : (h.set i o).get j = if j = i then some o else h.get j := rfl
theorem set_set {h : AHeap} {i : Nat} {o p : AObj} : (h.set i o).set i p = h.set i p := by
  unfold AHeap.set
  congr 1
  funext j
  by_cases hj : j = i
  · simp [hj]
  · simp [hj]
/-- A new version of an object: where it lies, or in a new row. -/
theorem Rel.reversion {G : Ghost} {h : AHeap} {w w' : World} (r : Rel G h w) {i k : Nat} {cs : List AV} (e : h.get i = some (.cells k cs)) {b n : Nat} {o : AObj}
    (hb : Bel G.w0.2 w.heap.size w w') (hbN : G.N ≤ b) (hnew : ∀ j oj, h.get j = some oj → j ≠ i → oblk G j oj ≠ b) (himm : ∀ bb oo v, G.imm bb oo = some v → b ≠ bb) (hkeep : ∀ bb ob, G.keep bb = some ob → b ≠ bb) (hov : o.ver = k + 1)
    (hob : oblk (G.add i (k + 1) b n (#[], 0)) i o = b) (ho : orel (G.add i (k + 1) b n (#[], 0)) w' i o) :
    Rel (G.add i (k + 1) b n (#[], 0)) (h.set i o) w' ∧ G.le (G.add i (k + 1) b n (#[], 0)) := by
  have hno : ¬ G.ok i (k + 1) := fun hh => by have := r.okv i (k + 1) _ e hh; simp [AObj.ver] at this; omega
  have hl := Ghost.le_add (b := b) (n := n) (m := (#[], 0)) hno
  have r' : Rel G h w' := r.later hb
  have hold : ∀ j oj, (h.set i o).get j = some oj → j ≠ i → h.get j = some oj := fun j oj hj hne => by rw [set_get, if_neg hne] at hj; exact hj
  have hnw : ∀ j oj, (h.set i o).get j = some oj → j = i → oj = o := fun j oj hj he => by rw [set_get, if_pos he] at hj; exact (Option.some.inj hj).symm
  have hin : i < h.next := r.okn i k (by obtain ⟨hok, _⟩ := r.obj i _ e; exact hok)
  refine ⟨⟨r.start, r'.below, r'.N, r'.imm, ?_, ?_, ?_, ?_, ?_, ?_, ?_, fun bb ob e' => ⟨(r'.keep bb ob e').1, (r'.keep bb ob e').2.1, fun j oj hj => ?_⟩⟩, hl⟩
  rotate_right
  · by_cases hji : j = i
    · subst hji; rw [hnw _ oj hj rfl, hob]; exact hkeep bb ob e'
    · rw [(orel_mono hl (r.obj j oj (hold j oj hj hji))).2]
      exact (r.keep bb ob e').2.2 j oj (hold j oj hj hji)
  · rintro j s (hj | ⟨hj, _⟩)
    · exact r.okn j s hj
    · rw [hj]; exact hin
  · intro j s oj hj hs
    by_cases hji : j = i
    · rw [hnw j oj hj hji, hov]
      rcases hs with hs | ⟨_, hs⟩
      · rw [hji] at hs; have := r.okv i s _ e hs; simp [AObj.ver] at this; omega
      · omega
    · rcases hs with hs | ⟨h1, _⟩
      · exact r.okv j s oj (hold j oj hj hji) hs
      · exact absurd h1 hji
  · intro j hj
    have hne : j ≠ i := fun he => by rw [he] at hj; exact absurd hin (Nat.not_lt.2 hj)
    rw [set_get, if_neg hne]; exact r.fresh j hj
  · intro j oj hj
    by_cases hji : j = i
    · subst hji; rw [hnw _ oj hj rfl]; exact ho
    · exact (orel_mono hl (r'.obj j oj (hold j oj hj hji))).1
  · intro j oj hj
    by_cases hji : j = i
    · subst hji; rw [hnw _ oj hj rfl, hob]; exact hbN
    · rw [(orel_mono hl (r.obj j oj (hold j oj hj hji))).2]; exact r.high j oj (hold j oj hj hji)
  · intro j j' oj oj' hj hj' hne
    by_cases hji : j = i
    · have hji' : j' ≠ i := fun he => hne (hji.trans he.symm)
      have hh := hold j' oj' hj' hji'
      subst hji
      rw [hnw _ oj hj rfl, hob, (orel_mono hl (r.obj j' oj' hh)).2]
      exact (hnew j' oj' hh hji').symm
    · have hh := hold j oj hj hji
      by_cases hji' : j' = i
      · subst hji'
        rw [hnw _ oj' hj' rfl, hob, (orel_mono hl (r.obj j oj hh)).2]
        exact hnew j oj hh hji
      · have hh' := hold j' oj' hj' hji'
        rw [(orel_mono hl (r.obj j oj hh)).2, (orel_mono hl (r.obj j' oj' hh')).2]
        exact r.sep j j' oj oj' hh hh' hne
  · intro bb oo v hi j oj hj
    by_cases hji : j = i
    · subst hji; rw [hnw _ oj hj rfl, hob]; exact himm bb oo v hi
    · rw [(orel_mono hl (r.obj j oj (hold j oj hj hji))).2]
      exact r.simm bb oo v hi j oj (hold j oj hj hji)
/-- The same place, one version on. -/
theorem Rel.bump {G : Ghost} {h : AHeap} {w : World} (r : Rel G h w) {i k : Nat} {cs : List AV} (e : h.get i = some (.cells k cs)) :
    Rel (G.add i (k + 1) (G.blk i k) (G.own i k) (#[], 0)) (h.set i (.cells (k + 1) cs)) w ∧ G.le (G.add i (k + 1) (G.blk i k) (G.own i k) (#[], 0)) := by
  obtain ⟨hok, row, el, fz, hb, hs, hf, hle, hr⟩ := r.obj i _ e
  have hno : ¬ G.ok i (k + 1) := fun hh => by have := r.okv i (k + 1) _ e hh; simp [AObj.ver] at this; omega
  have hl := Ghost.le_add (b := G.blk i k) (n := G.own i k) (m := (#[], 0)) hno
  refine r.reversion e (Bel.refl _ _) (r.high i _ e) (fun j oj hj hne => r.sep j i oj _ hj e hne) (fun bb oo v hi => r.simm bb oo v hi i _ e) (fun bb ob hk => (r.keep bb ob hk).2.2 i _ e) rfl (Ghost.add_blk ..) ?_
  exact ⟨Ghost.add_ok .., row, el, fz, by rw [Ghost.add_blk]; exact hb, by rw [Ghost.add_own]; exact hs, hf, hle, lrel_mono hl _ _ hr⟩
/-- A new row for an object, one version on. -/
theorem Rel.regrow {G : Ghost} {h : AHeap} {w : World} (r : Rel G h w) {i k : Nat} {cs cs' : List AV} (e : h.get i = some (.cells k cs)) {row : Array Value} {el : TypeId} {fz : Nat × Nat}
    (hf : row.size ≤ fz.1 ∨ fz.2 ≤ fz.1) (hle : cs'.length ≤ row.size) (hr : lrel G cs' (row.toList.take cs'.length)) :
    Rel (G.add i (k + 1) w.heap.size row.size (#[], 0)) (h.set i (.cells (k + 1) cs')) (w.alloc (.cells row el fz)) ∧ G.le (G.add i (k + 1) w.heap.size row.size (#[], 0)) := by
  have hno : ¬ G.ok i (k + 1) := fun hh => by have := r.okv i (k + 1) _ e hh; simp [AObj.ver] at this; omega
  have hl := Ghost.le_add (b := w.heap.size) (n := row.size) (m := (#[], 0)) hno
  refine r.reversion e ((Bel.refl _ _).alloc (Nat.le_refl _) _) r.N (fun j oj hj _ => Nat.ne_of_lt (orel_lt (r.obj j oj hj))) (fun bb oo v hi => ?_) (fun bb ob hk => (Nat.ne_of_lt (heap_lt (r.keep bb ob hk).1)).symm) rfl (Ghost.add_blk ..) ?_
  · have := World.block_lt_of_cell? w ⟨bb, oo, none⟩ (r.imm bb oo v hi)
    exact fun h' => Nat.lt_irrefl _ (h' ▸ this)
  · refine ⟨Ghost.add_ok .., row, el, fz, ?_, by rw [Ghost.add_own], hf, hle, lrel_mono hl _ _ hr⟩
    rw [Ghost.add_blk]; show (w.heap.push _)[w.heap.size]? = _; simp

end Go.Own

/- Operations on values alone: constants, arithmetic, comparisons, parts of aggregates. -/
namespace Go.Own
open Go.RowKit

def ofVal1 : Value → Option AV
  | .bool b => some (.bool b)
  | .int k n => some (.int k n)
  | .string s => some (.str s.data.toList)
  | .pointer none => some .nilp
  | .slice none 0 0 => some .nils
  | .map none => some .nilm
  | .nilFunc => some .nilf
  | _ => none
def ofVals : List Value → Option (List AV)
  | [] => some []
  | v :: r => match ofVal1 v, ofVals r with
    | some a, some l => some (a :: l)
    | _, _ => none
/-- A constant, a type's zero value. -/
def ofVal : Value → Option AV
  | .agg cs => (ofVals cs.toList).map .agg
  | v => ofVal1 v
theorem ofVal1_rel {G : Ghost} {v : Value} {a : AV} (h : ofVal1 v = some a) : vrel G a v := by
  unfold ofVal1 at h
  split at h <;> first | (cases h; done) | (simp only [Option.some.injEq] at h; subst h; simp only [vrel])
theorem ofVals_rel {G : Ghost} : ∀ {vs : List Value} {l : List AV}, ofVals vs = some l → lrel G l vs
  | [], l, h => by simp [ofVals] at h; subst h; simp only [lrel]
  | v :: r, l, h => by
    simp only [ofVals] at h
    split at h
    · rename_i a l' h1 h2
      simp at h; subst h
      simp only [lrel]
      exact ⟨v, r, rfl, ofVal1_rel h1, ofVals_rel h2⟩
    · simp at h
theorem ofVal_rel {G : Ghost} {v : Value} {a : AV} (h : ofVal v = some a) : vrel G a v := by
  unfold ofVal at h
  split at h
  · rename_i cs
    cases hc : ofVals cs.toList with
    | none => simp [hc] at h
    | some l => simp [hc] at h; subst h; simp only [vrel]; exact ⟨cs.toList, by simp, ofVals_rel hc⟩
  · exact ofVal1_rel h

/-- The cells of a type's zero value. -/
def azero (P : Program) (t : TypeId) : Option (List AV) :=
  match P.info? t with
  | some i => match i.zero with
    | some z => match ofVal z with
      | some a => a.cells?
      | none => none
    | none => none
  | none => none
theorem azero_run {G : Ghost} {P : Program} {t : TypeId} {w : World} {cs : List AV} (h : azero P t = some cs) : ∃ z, (zeroValue t).run P w = .ok z w ∧ lrel G cs z.cells.toList := by
  unfold azero at h
  split at h
  · rename_i i hi
    split at h
    · rename_i z hz
      split at h
      · rename_i a ha
        exact ⟨z, by simp [zeroValue, run_typeInfo hi, hz], vrel_cells h (ofVal_rel ha)⟩
      · simp at h
    · simp at h
  · simp at h

/-- Arithmetic on whole numbers. -/
def aint (op : BinOp) (k : IntKind) (a b : Int) : Option AV :=
  match op with
  | .add => some (.int k (k.wrap (a + b)))
  | .sub => some (.int k (k.wrap (a - b)))
  | .mul => some (.int k (k.wrap (a * b)))
  | .quo => if b = 0 then none else some (.int k (k.wrap (a.tdiv b)))
  | .rem => if b = 0 then none else some (.int k (a.tmod b))
  | .and => some (.int k (k.wrap (BitVec.ofInt k.bits a &&& BitVec.ofInt k.bits b).toNat))
  | .or => some (.int k (k.wrap (BitVec.ofInt k.bits a ||| BitVec.ofInt k.bits b).toNat))
  | .xor => some (.int k (k.wrap (BitVec.ofInt k.bits a ^^^ BitVec.ofInt k.bits b).toNat))
  | .andNot => some (.int k (k.wrap (BitVec.ofInt k.bits a &&& ~~~BitVec.ofInt k.bits b).toNat))
  | .eql => some (.bool (a == b))
  | .neq => some (.bool (a != b))
  | .lss => some (.bool (decide (a < b)))
  | .leq => some (.bool (decide (a ≤ b)))
  | .gtr => some (.bool (decide (a > b)))
  | .geq => some (.bool (decide (a ≥ b)))
  | .shl => none
  | .shr => none
def astr (op : BinOp) (a b : List UInt8) : Option AV :=
  match op with
  | .add => if a.length + b.length ≤ 9223372036854775807 then some (.str (a ++ b)) else none
  | .eql => some (.bool (a == b))
  | .neq => some (.bool !(a == b))
  | .lss => some (.bool (Op.bytesLess a b))
  | .leq => some (.bool (Op.bytesLess a b || a == b))
  | .gtr => some (.bool !(Op.bytesLess a b || a == b))
  | .geq => some (.bool !(Op.bytesLess a b))
  | _ => none
/-- Two values of a type whose values are numbers or texts. -/
def abin (op : BinOp) (x y : AV) : Option AV :=
  match op, x, y with
  | .shl, .int k a, .int _ b => if 0 ≤ b then some (.int k (k.wrap (a * 2 ^ min b.toNat k.bits))) else none
  | .shr, .int k a, .int _ b => if 0 ≤ b then some (.int k (a.fdiv (2 ^ min b.toNat k.bits))) else none
  | op, .int k a, .int k' b => if k = k' then aint op k a b else none
  | op, .str a, .str b => astr op a b
  | _, _, _ => none
/-- A number's, a bool's, a text's value. -/
def AV.toVal : AV → Value
  | .bool b => .bool b
  | .int k n => .int k n
  | .str s => .string ⟨s.toArray⟩
  | _ => .nilFunc
def AV.lit : AV → Bool
  | .bool _ | .int _ _ | .str _ => true
  | _ => false
theorem vrel_toVal {G : Ghost} {v : AV} (h : v.lit = true) : vrel G v v.toVal := by
  cases v <;> simp [AV.lit] at h <;> simp only [vrel, AV.toVal]
theorem eqGuard_plain {P : Program} {op : BinOp} {t : TypeId} {x y : Operand} {a b : Value} {w : World} (h : a.oneCell' = true) (hn' : a ≠ .nilIface) :
    (eqGuard op t x y a b).run P w = .ok () w := by
  unfold eqGuard
  cases op <;> try rfl
  all_goals (cases a <;> first | rfl | (exact absurd rfl hn') | (simp [Value.oneCell'] at h; done))
theorem guarded {P : Program} {op : BinOp} {t : TypeId} {x y : Operand} {a b : Value} {w : World} (h : a.oneCell' = true) (hn' : a ≠ .nilIface) :
    (do eqGuard op t x y a b; binOp op t a b : Sem Value).run P w = (binOp op t a b).run P w := by
  simp only [Sem.run_bind, eqGuard_plain h hn', Result.andThen_ok]
theorem aint_run {P : Program} {op : BinOp} {t : TypeId} {k : IntKind} {m n : Int} {v : AV} {w : World} (hv : aint op k m n = some v) : (binOp op t (.int k m) (.int k n)).run P w = .ok v.toVal w ∧ v.lit = true := by
  cases op <;> simp only [aint] at hv
  case shl => cases hv
  case shr => cases hv
  case quo =>
    split at hv
    · cases hv
    · rename_i h0; simp only [Option.some.injEq] at hv; subst hv; exact ⟨by simp [binOp, Op.intDiv, h0, AV.toVal], rfl⟩
  case rem =>
    split at hv
    · cases hv
    · rename_i h0; simp only [Option.some.injEq] at hv; subst hv; exact ⟨by simp [binOp, Op.intDiv, h0, AV.toVal], rfl⟩
  all_goals (simp only [Option.some.injEq] at hv; subst hv; exact ⟨by simp [binOp, Op.intArith, Op.intBits, Op.intCmp, AV.toVal], rfl⟩)
theorem astr_run {P : Program} {op : BinOp} {t : TypeId} {m n : List UInt8} {v : AV} {w : World} (hv : astr op m n = some v) : (binOp op t (.string ⟨m.toArray⟩) (.string ⟨n.toArray⟩)).run P w = .ok v.toVal w ∧ v.lit = true := by
  cases op <;> simp only [astr] at hv
  case add =>
    split at hv
    · rename_i h0
      simp only [Option.some.injEq] at hv; subst hv
      exact ⟨by rw [binOp_string_add, run_string_add_sum w _ _ (by simpa [ByteArray.size] using h0), ByteArray.mk_append_mk]; rfl, rfl⟩
    · cases hv
  all_goals first | (cases hv; done) | (simp only [Option.some.injEq] at hv; subst hv; exact ⟨by simp [binOp, Op.stringOp, AV.toVal], rfl⟩)
theorem abin_run {G : Ghost} {P : Program} {op : BinOp} {t : TypeId} {x y : AV} {a b : Value} {v : AV} {w : World} {ox oy : Operand} (hx : vrel G x a) (hy : vrel G y b) (hv : abin op x y = some v) :
    ∃ rv, (do eqGuard op t ox oy a b; binOp op t a b : Sem Value).run P w = .ok rv w ∧ vrel G v rv := by
  unfold abin at hv
  split at hv
  · rename_i k m k' n
    simp only [vrel] at hx hy
    subst hx; subst hy
    split at hv
    · rename_i h0
      simp only [Option.some.injEq] at hv; subst hv
      rw [guarded rfl (by simp)]
      exact ⟨.int k (k.wrap (m * 2 ^ min n.toNat k.bits)), by simp [binOp, Op.shift, Int.not_lt.2 h0], by simp only [vrel]⟩
    · cases hv
  · rename_i k m k' n
    simp only [vrel] at hx hy
    subst hx; subst hy
    split at hv
    · rename_i h0
      simp only [Option.some.injEq] at hv; subst hv
      rw [guarded rfl (by simp)]
      exact ⟨.int k (m.fdiv (2 ^ min n.toNat k.bits)), by simp [binOp, Op.shift, Int.not_lt.2 h0], by simp only [vrel]⟩
    · cases hv
  · rename_i k m k' n hn1 hn2
    simp only [vrel] at hx hy
    subst hx; subst hy
    split at hv
    · rename_i hk; subst hk
      rw [guarded rfl (by simp)]
      obtain ⟨h1, h2⟩ := aint_run (P := P) (t := t) (w := w) hv
      exact ⟨_, h1, vrel_toVal h2⟩
    · cases hv
  · rename_i m n _ _ _
    simp only [vrel] at hx hy
    subst hx; subst hy
    rw [guarded rfl (by simp)]
    obtain ⟨h1, h2⟩ := astr_run (P := P) (t := t) (w := w) hv
    exact ⟨_, h1, vrel_toVal h2⟩
  · cases hv

def aun (op : UnOp) (x : AV) : Option AV :=
  match op, x with
  | .neg, .int k n => some (.int k (k.wrap (0 - n)))
  | .xor, .int k n => some (.int k (k.wrap (BitVec.ofInt k.bits (if k.signed then -1 else k.max) ^^^ BitVec.ofInt k.bits n).toNat))
  | .not, .bool b => some (.bool !b)
  | _, _ => none
theorem aun_run {G : Ghost} {P : Program} {op : UnOp} {x : AV} {a : Value} {v : AV} {w : World} (hx : vrel G x a) (hv : aun op x = some v) : ∃ rv, (Op.unary op a).run P w = .ok rv w ∧ vrel G v rv := by
  unfold aun at hv
  split at hv <;> first | (cases hv; done) | (simp only [vrel] at hx; subst hx; simp only [Option.some.injEq] at hv; subst hv; exact ⟨AV.toVal _, by simp [Op.unary, Op.intArith, Op.intBits, AV.toVal], vrel_toVal rfl⟩)

/-- Kinds of the cells of a type that holds numbers, bools and texts alone, all of which count in a comparison. -/
inductive Kd where
  | bool | int (k : IntKind) | str
  deriving DecidableEq
mutual
def plainKinds (P : Program) : Nat → TypeId → Option (List Kd)
  | 0, _ => none
  | d + 1, t => match P.underlying t with
    | some .bool => some [.bool]
    | some (.int k) => some [.int k]
    | some .string => some [.str]
    | some (.struct fs) => if P.stoodInHeld t then none else plainFields P d fs.toList 0
    | some (.array n e) => match plainKinds P d e, P.info? e with
      | some ks, some i => if i.size = ks.length then some (List.replicate n ks).flatten else none
      | _, _ => none
    | _ => none
def plainFields (P : Program) : Nat → List Field → Nat → Option (List Kd)
  | _, [], _ => some []
  | 0, _ :: _, _ => none
  | d + 1, f :: fs, at_ => match plainKinds P d f.type, P.info? f.type with
    | some ks, some i => if f.name ≠ "_" ∧ f.offset = at_ ∧ i.size = ks.length then (plainFields P d fs (at_ + ks.length)).map (ks ++ ·) else none
    | _, _ => none
end
def Kd.fits : Kd → AV → Bool
  | .bool, .bool _ => true
  | .int k, .int k' _ => k == k'
  | .str, .str _ => true
  | _, _ => false
def fitsAll : List Kd → List AV → Bool
  | [], [] => true
  | k :: ks, v :: vs => k.fits v && fitsAll ks vs
  | _, _ => false
def AV.same : AV → AV → Bool
  | .bool a, .bool b => a == b
  | .int _ a, .int _ b => a == b
  | .str a, .str b => a == b
  | _, _ => false
def sameAll : List AV → List AV → Bool
  | [], [] => true
  | v :: vs, u :: us => v.same u && sameAll vs us
  | _, _ => false

theorem fitsAll_length : ∀ {ks : List Kd} {vs : List AV}, fitsAll ks vs = true → vs.length = ks.length
  | [], [], _ => rfl
  | k :: ks, v :: vs, h => by simp only [fitsAll, Bool.and_eq_true] at h; simp [fitsAll_length h.2]
  | [], _ :: _, h => by simp [fitsAll] at h
  | _ :: _, [], h => by simp [fitsAll] at h
theorem fitsAll_append : ∀ {ks ls : List Kd} {vs : List AV}, fitsAll (ks ++ ls) vs = true → fitsAll ks (vs.take ks.length) = true ∧ fitsAll ls (vs.drop ks.length) = true
  | [], _, _, h => by simpa [fitsAll] using h
  | k :: ks, ls, v :: vs, h => by
    simp only [List.cons_append, fitsAll, Bool.and_eq_true] at h
    have := fitsAll_append h.2
    simp [fitsAll, h.1, this.1, this.2]
  | _ :: _, _, [], h => by simp [fitsAll] at h
theorem sameAll_append : ∀ {a b c d : List AV}, a.length = b.length → sameAll (a ++ c) (b ++ d) = (sameAll a b && sameAll c d)
  | [], [], _, _, _ => by simp [sameAll]
  | x :: a, y :: b, c, d, h => by
    simp at h
    simp only [List.cons_append, sameAll, sameAll_append h, Bool.and_assoc]
  | [], _ :: _, _, _, h => by simp at h
  | _ :: _, [], _, _, h => by simp at h

/-- A part of an aggregate. -/
theorem run_part {G : Ghost} {P : Program} {t : TypeId} {b : Bool} {n : Nat} {cs : List AV} {rs : List Value} {w : World} (ht : tkind P t = some (b, n)) (hr : lrel G cs rs) {o : Nat} (hle : o + n ≤ cs.length) (h1 : b = false → n = 1) :
    ∃ v, (part t rs.toArray o).run P w = .ok v w ∧ (b = true → v = .agg ((rs.drop o).take n).toArray) ∧ (b = false → rs[o]? = some v) := by
  have hl := lrel_length hr
  cases b with
  | true =>
    refine ⟨.agg ((rs.drop o).take n).toArray, ?_, fun _ => rfl, fun h => by cases h⟩
    simp only [part, Sem.run_bind, run_isAgg ht, Result.andThen_ok, if_true, tkind_size ht]
    simp [List.extract_eq_take_drop, show o + n - o = n by omega]
  | false =>
    have hn := h1 rfl
    subst hn
    refine ⟨rs[o]'(by omega), ?_, (fun h => by cases h), fun _ => by simp⟩
    have : rs[o]? = some (rs[o]'(by omega)) := by simp
    simp only [part, Sem.run_bind, run_isAgg ht, Result.andThen_ok, Bool.false_eq_true, if_false, List.getElem?_toArray, this]
    rfl

/-- The value that cells of a type make up. -/
def packed (b : Bool) (rs : List Value) : Value := if b then .agg rs.toArray else rs.headD .nilFunc
theorem run_part' {P : Program} {t : TypeId} {b : Bool} {n : Nat} {rs : List Value} {w : World} (ht : tkind P t = some (b, n)) {o : Nat} (hle : o + n ≤ rs.length) (h1 : b = false → n = 1) :
    (part t rs.toArray o).run P w = .ok (packed b ((rs.drop o).take n)) w := by
  cases b with
  | true =>
    simp only [part, Sem.run_bind, run_isAgg ht, Result.andThen_ok, if_true, tkind_size ht, packed]
    simp [List.extract_eq_take_drop, show o + n - o = n by omega]
  | false =>
    have hn := h1 rfl
    subst hn
    have h2 : rs[o]? = some (rs[o]'(by omega)) := by simp
    have h3 : (rs.drop o).take 1 = [rs[o]'(by omega)] := by
      rw [List.drop_eq_getElem_cons (by omega), List.take_succ_cons, List.take_zero]
    simp only [part, Sem.run_bind, run_isAgg ht, Result.andThen_ok, Bool.false_eq_true, if_false, List.getElem?_toArray, h2, packed, h3]
    rfl

theorem tkind_of {P : Program} {t : TypeId} {d : TypeDesc} {i : TypeInfo} (hd : P.underlying t = some d) (hi : P.info? t = some i) :
    tkind P t = some (isAggD d, i.size) := by
  unfold tkind; rw [hd, hi]
theorem info_of_underlying {P : Program} {t : TypeId} {d : TypeDesc} (hd : P.underlying t = some d) : ∃ i, P.info? t = some i := by
  unfold Program.underlying at hd
  cases h : P.info? t with
  | none => simp [h] at hd
  | some i => exact ⟨i, rfl⟩

theorem eqIn_array {P : Program} {w : World} {d len n : Nat} {t e : TypeId} {xs ys : Array Value} {i : TypeInfo} (ht : P.underlying t = some (.array len e)) (hi : P.info? e = some i) (hn : i.size = n)
    (f : Nat → Bool) (hf : ∀ k, k < len → ∀ w, (do let a ← part e xs (k * n); let b ← part e ys (k * n); Op.equalIn d e a b : Sem Bool).run P w = .ok (f k) w) :
    (Op.equalIn (d + 1) t (.agg xs) (.agg ys)).run P w = .ok ((List.range len).all f) w := by
  simp only [Op.equalIn, Sem.run_bind, run_underlying ht, Result.andThen_ok, run_sizeOf hi, hn]
  have key : ∀ (m s : Nat), s + m = len → ∀ w, (forIn (List.range' s m 1) ((none, ()) : Option Bool × Unit) (fun k (_ : Option Bool × Unit) => do
        let a ← part e xs (k * n)
        let b ← part e ys (k * n)
        let r ← Op.equalIn d e a b
        if (!r) = true then pure (ForInStep.done (some false, ())) else pure (ForInStep.yield (none, ()))) : Sem (Option Bool × Unit)).run P w =
      .ok (if (List.range' s m 1).all f then (none, ()) else (some false, ())) w := by
    intro m
    induction m with
    | zero => intro s _ w; simp
    | succ m ih =>
      intro s hs w
      simp only [List.range'_succ, List.forIn_cons, Sem.run_bind, List.all_cons]
      have h0 := hf s (by omega) w
      simp only [Sem.run_bind] at h0
      cases h1 : (part e xs (s * n)).run P w with
      | halt x w' => simp [h1] at h0
      | ok a w1 =>
        simp only [h1, Result.andThen_ok] at h0 ⊢
        cases h2 : (part e ys (s * n)).run P w1 with
        | halt x w' => simp [h2] at h0
        | ok b w2 =>
          simp only [h2, Result.andThen_ok] at h0 ⊢
          rw [h0]
          simp only [Result.andThen_ok]
          cases hfs : f s with
          | false => simp
          | true =>
            have := ih (s + 1) (by omega) w
            simp only [Bool.not_true, Bool.false_eq_true, if_false, Sem.run_pure, Result.andThen_ok, Bool.true_and]
            exact this
  have hall : (List.range len).all f = (List.range' 0 len 1).all f := by rw [List.range_eq_range']
  rw [hall]
  have := key len 0 (by omega) w
  simp only [Std.Legacy.Range.forIn_eq_forIn_range', Std.Legacy.Range.size, Nat.sub_zero, Nat.add_sub_cancel, Nat.div_one] at this ⊢
  rw [this]
  split <;> rename_i h <;> simp [h]

theorem run_equalIn_bool'' {P : Program} {w : World} (d : Nat) {t : TypeId} (a b : Bool) (h : P.underlying t = some .bool) : (Op.equalIn (d + 1) t (.bool a) (.bool b)).run P w = .ok (a == b) w := run_equalIn_bool w d t a b h

mutual
theorem plainKinds_size {P : Program} : ∀ {d : Nat} {t : TypeId} {ks : List Kd}, plainKinds P d t = some ks → ∀ {D : TypeDesc}, P.underlying t = some D → isAggD D = false → ks.length = 1
  | 0, _, _, h, _, _, _ => by simp [plainKinds] at h
  | d + 1, t, ks, h, D, hD, hA => by
    simp only [plainKinds, hD] at h
    cases D <;> simp [isAggD] at h hA <;> (try (subst h; rfl))
end

mutual
theorem plainKinds_mono {P : Program} : ∀ {d D : Nat} {t : TypeId} {ks : List Kd}, d ≤ D → plainKinds P d t = some ks → plainKinds P D t = some ks
  | 0, _, _, _, _, h => by simp [plainKinds] at h
  | d + 1, 0, _, _, hle, _ => by omega
  | d + 1, D + 1, t, ks, hle, h => by
    simp only [plainKinds] at h ⊢
    split at h
    · exact h
    · exact h
    · exact h
    · split at h
      · cases h
      · rename_i fs hu hst
        rw [if_neg hst]
        exact plainFields_mono (by omega) h
    · split at h
      · rename_i ks' i hk hi
        rw [plainKinds_mono (by omega) hk, hi]
        exact h
      · cases h
    · cases h
theorem plainFields_mono {P : Program} : ∀ {d D : Nat} {l : List Field} {a : Nat} {ks : List Kd}, d ≤ D → plainFields P d l a = some ks → plainFields P D l a = some ks
  | 0, _, [], _, _, _, h => by simp only [plainFields] at h ⊢; exact h
  | 0, _, _ :: _, _, _, _, h => by simp [plainFields] at h
  | d + 1, 0, _, _, _, hle, _ => by omega
  | d + 1, D + 1, [], _, _, _, h => by simp only [plainFields] at h ⊢; exact h
  | d + 1, D + 1, f :: fs, a, ks, hle, h => by
    simp only [plainFields] at h ⊢
    split at h
    · rename_i ks' i hk hi
      rw [plainKinds_mono (by omega) hk]
      simp only [hi]
      split at h
      · rename_i hc
        rw [if_pos hc]
        cases hr : plainFields P d fs (a + ks'.length) with
        | none => simp [hr] at h
        | some l => rw [plainFields_mono (by omega) hr]; simpa [hr] using h
      · cases h
    · cases h
end

/-- Two values of such a type: they are the same if all their cells are. -/
theorem eqIn_plain {G : Ghost} {P : Program} : ∀ (d D : Nat), d ≤ D → ∀ (t : TypeId) (ks : List Kd), plainKinds P d t = some ks → ∀ {DD : TypeDesc}, P.underlying t = some DD →
    ∀ (xs ys : List AV) (rx ry : List Value) (w : World), lrel G xs rx → lrel G ys ry → fitsAll ks xs = true → fitsAll ks ys = true →
    (Op.equalIn D t (packed (isAggD DD) rx) (packed (isAggD DD) ry)).run P w = .ok (sameAll xs ys) w := by
  intro d
  induction d with
  | zero => intro D _ t ks h; simp [plainKinds] at h
  | succ d ih =>
    intro D hD t ks h DD ht xs ys rx ry w hx hy fx fy
    obtain ⟨D, rfl⟩ : ∃ E, D = E + 1 := ⟨D - 1, by omega⟩
    have lx := fitsAll_length fx
    have ly := fitsAll_length fy
    simp only [plainKinds] at h
    split at h
    · rename_i hu
      simp only [Option.some.injEq] at h; subst h
      rw [hu] at ht
      obtain rfl := Option.some.inj ht
      match xs, ys, fx, fy with
      | [.bool a], [.bool c], _, _ =>
        simp only [lrel, vrel] at hx hy
        obtain ⟨r1, q1, rfl, rfl, rfl⟩ := hx
        obtain ⟨r2, q2, rfl, rfl, rfl⟩ := hy
        simp only [packed, isAggD, Bool.false_eq_true, if_false, List.headD_cons, sameAll, AV.same, Bool.and_true]
        exact run_equalIn_bool'' D a c hu
    · rename_i k hu
      simp only [Option.some.injEq] at h; subst h
      rw [hu] at ht
      obtain rfl := Option.some.inj ht
      match xs, ys, fx, fy with
      | [.int k1 a], [.int k2 c], fx, fy =>
        simp only [fitsAll, Kd.fits, Bool.and_true, beq_iff_eq] at fx fy
        subst fx; subst fy
        simp only [lrel, vrel] at hx hy
        obtain ⟨r1, q1, rfl, rfl, rfl⟩ := hx
        obtain ⟨r2, q2, rfl, rfl, rfl⟩ := hy
        simp only [packed, isAggD, Bool.false_eq_true, if_false, List.headD_cons, sameAll, AV.same, Bool.and_true]
        exact run_equalIn_int w D t k k a c hu
    · rename_i hu
      simp only [Option.some.injEq] at h; subst h
      rw [hu] at ht
      obtain rfl := Option.some.inj ht
      match xs, ys, fx, fy with
      | [.str a], [.str c], _, _ =>
        simp only [lrel, vrel] at hx hy
        obtain ⟨r1, q1, rfl, rfl, rfl⟩ := hx
        obtain ⟨r2, q2, rfl, rfl, rfl⟩ := hy
        simp only [packed, isAggD, Bool.false_eq_true, if_false, List.headD_cons, sameAll, AV.same, Bool.and_true]
        rw [run_equalIn_string w D t _ _ hu, ByteArray.toList_mk, ByteArray.toList_mk]
    · rename_i fs hu
      split at h
      · cases h
      · rename_i hst
        rw [hu] at ht
        obtain rfl := Option.some.inj ht
        simp only [packed, isAggD, if_true]
        have hfo : P.fieldsOf t = fs := by simp [Program.fieldsOf, hu]
        rw [run_equalIn_struct w D t _ _ (by rw [hfo]; exact hu) (by simpa using hst), hfo]
        have hrx := lrel_length hx
        have hry := lrel_length hy
        -- the fields from a place on
        have key : ∀ (e : Nat), e ≤ d → ∀ (l : List Field) (at_ : Nat) (js : List Kd), plainFields P e l at_ = some js → fitsAll js (xs.drop at_) = true → fitsAll js (ys.drop at_) = true →
            at_ + js.length = ks.length → ∀ w, (Op.eqFields D rx.toArray ry.toArray l).run P w = .ok (sameAll (xs.drop at_) (ys.drop at_)) w := by
          intro e
          induction e with
          | zero =>
            intro _ l at_ js hp f1 f2 hl w
            cases l with
            | nil =>
              simp [plainFields] at hp; subst hp
              have e1 : xs.drop at_ = [] := List.length_eq_zero_iff.1 (fitsAll_length f1)
              have e2 : ys.drop at_ = [] := List.length_eq_zero_iff.1 (fitsAll_length f2)
              rw [e1, e2]
              simp [Op.eqFields, sameAll]
            | cons f l => simp [plainFields] at hp
          | succ e ihe =>
            intro hle l at_ js hp f1 f2 hl w
            cases l with
            | nil =>
              simp [plainFields] at hp; subst hp
              have e1 : xs.drop at_ = [] := List.length_eq_zero_iff.1 (fitsAll_length f1)
              have e2 : ys.drop at_ = [] := List.length_eq_zero_iff.1 (fitsAll_length f2)
              rw [e1, e2]
              simp [Op.eqFields, sameAll]
            | cons f l =>
              simp only [plainFields] at hp
              split at hp
              · rename_i ks' i' hk' hi'
                split at hp
                · rename_i hc
                  obtain ⟨hname, hoff, hsz'⟩ := hc
                  cases hrest : plainFields P e l (at_ + ks'.length) with
                  | none => simp [hrest] at hp
                  | some js' =>
                    simp [hrest] at hp; subst hp
                    simp only [List.length_append] at hl
                    obtain ⟨g1, g2⟩ := fitsAll_append f1
                    obtain ⟨g3, g4⟩ := fitsAll_append f2
                    rw [List.drop_drop] at g2 g4
                    have hkd : ∃ D', P.underlying f.type = some D' := by
                      cases e with
                      | zero => simp [plainKinds] at hk'
                      | succ e' =>
                        simp only [plainKinds] at hk'
                        cases hq : P.underlying f.type with
                        | none => simp [hq] at hk'
                        | some D' => exact ⟨D', rfl⟩
                    obtain ⟨D', hD'⟩ := hkd
                    have htf : tkind P f.type = some (isAggD D', ks'.length) := by rw [tkind_of hD' hi', hsz']
                    have h1 : isAggD D' = false → ks'.length = 1 := fun hh => plainKinds_size hk' hD' hh
                    simp only [Op.eqFields, hname, ne_eq, not_false_eq_true, if_true, Sem.run_bind, hoff]
                    rw [run_part' htf (by omega) h1]
                    simp only [Result.andThen_ok]
                    rw [run_part' htf (by omega) h1]
                    simp only [Result.andThen_ok]
                    have hmono : plainKinds P d f.type = some ks' := plainKinds_mono (by omega) hk'
                    rw [ih D (by omega) f.type ks' hmono hD' ((xs.drop at_).take ks'.length) ((ys.drop at_).take ks'.length) _ _ w (lrel_take _ (lrel_drop _ hx)) (lrel_take _ (lrel_drop _ hy)) g1 g3]
                    simp only [Result.andThen_ok]
                    have hsplit : sameAll (xs.drop at_) (ys.drop at_) = (sameAll ((xs.drop at_).take ks'.length) ((ys.drop at_).take ks'.length) && sameAll (xs.drop (at_ + ks'.length)) (ys.drop (at_ + ks'.length))) := by
                      conv => lhs; rw [← List.take_append_drop ks'.length (xs.drop at_), ← List.take_append_drop ks'.length (ys.drop at_)]
                      rw [sameAll_append (by simp; omega), List.drop_drop, List.drop_drop]
                    rw [hsplit]
                    cases hsame : sameAll ((xs.drop at_).take ks'.length) ((ys.drop at_).take ks'.length) with
                    | false => simp
                    | true =>
                      simp only [Bool.not_true, Bool.false_eq_true, if_false, Bool.true_and]
                      exact ihe (by omega) l (at_ + ks'.length) js' hrest g2 g4 (by omega) w
                · cases hp
              · cases hp
        have := key d (Nat.le_refl _) fs.toList 0 ks h (by simpa using fx) (by simpa using fy) (by omega) w
        simpa using this
    · rename_i n e hu
      split at h
      · rename_i ks' ie hke hie
        split at h
        · rename_i hsz'
          simp only [Option.some.injEq] at h; subst h
          rw [hu] at ht
          obtain rfl := Option.some.inj ht
          simp only [packed, isAggD, if_true]
          have hkd : ∃ D', P.underlying e = some D' := by
            cases d with
            | zero => simp [plainKinds] at hke
            | succ e' =>
              simp only [plainKinds] at hke
              cases hq : P.underlying e with
              | none => simp [hq] at hke
              | some D' => exact ⟨D', rfl⟩
          obtain ⟨D', hD'⟩ := hkd
          have htf : tkind P e = some (isAggD D', ks'.length) := by rw [tkind_of hD' hie, hsz']
          have h1 : isAggD D' = false → ks'.length = 1 := fun hh => plainKinds_size hke hD' hh
          have hrx := lrel_length hx
          have hry := lrel_length hy
          have hlen : (List.replicate n ks').flatten.length = n * ks'.length := by simp [List.length_flatten, List.sum_replicate_nat]
          rw [hlen] at lx ly
          have hchunk : ∀ (m : Nat) (zs : List AV), fitsAll (List.replicate m ks').flatten zs = true → ∀ k, k < m → fitsAll ks' ((zs.drop (k * ks'.length)).take ks'.length) = true := by
            intro m
            induction m with
            | zero => intro zs _ k hk; omega
            | succ m ihm =>
              intro zs hz k hk
              rw [List.replicate_succ, List.flatten_cons] at hz
              obtain ⟨z1, z2⟩ := fitsAll_append hz
              cases k with
              | zero => simpa using z1
              | succ k =>
                have := ihm _ z2 k (by omega)
                rw [List.drop_drop] at this
                rwa [show ks'.length + k * ks'.length = (k + 1) * ks'.length by rw [Nat.succ_mul]; omega] at this
          have hmul : ∀ k, k < n → k * ks'.length + ks'.length ≤ n * ks'.length := fun k hk => by
            have := Nat.mul_le_mul_right ks'.length (show k + 1 ≤ n by omega)
            rwa [Nat.succ_mul] at this
          rw [eqIn_array hu hie hsz' (fun k => sameAll ((xs.drop (k * ks'.length)).take ks'.length) ((ys.drop (k * ks'.length)).take ks'.length)) (fun k hk w => by
            have hm := hmul k hk
            simp only [Sem.run_bind]
            rw [run_part' htf (by omega) h1]
            simp only [Result.andThen_ok]
            rw [run_part' htf (by omega) h1]
            simp only [Result.andThen_ok]
            exact ih D (by omega) e ks' hke hD' _ _ _ _ w (lrel_take _ (lrel_drop _ hx)) (lrel_take _ (lrel_drop _ hy)) (hchunk n xs fx k hk) (hchunk n ys fy k hk))]
          congr 1
          have hall : ∀ (m : Nat) (us vs : List AV), us.length = m * ks'.length → vs.length = m * ks'.length →
              (List.range m).all (fun k => sameAll ((us.drop (k * ks'.length)).take ks'.length) ((vs.drop (k * ks'.length)).take ks'.length)) = sameAll us vs := by
            intro m
            induction m with
            | zero =>
              intro us vs hu hv
              simp only [Nat.zero_mul] at hu hv
              rw [List.length_eq_zero_iff.1 hu, List.length_eq_zero_iff.1 hv]
              simp [sameAll]
            | succ m ihm =>
              intro us vs hu hv
              rw [Nat.succ_mul] at hu hv
              rw [List.range_succ_eq_map, List.all_cons, List.all_map]
              have e1 : ((fun k => sameAll ((us.drop (k * ks'.length)).take ks'.length) ((vs.drop (k * ks'.length)).take ks'.length)) ∘ Nat.succ) = fun k => sameAll (((us.drop ks'.length).drop (k * ks'.length)).take ks'.length) (((vs.drop ks'.length).drop (k * ks'.length)).take ks'.length) := by
                funext k
                simp only [Function.comp, List.drop_drop, Nat.succ_mul, Nat.add_comm ks'.length]
              rw [e1, ihm _ _ (by simp; omega) (by simp; omega)]
              simp only [Nat.zero_mul, List.drop_zero]
              rw [← sameAll_append (by simp; omega), List.take_append_drop, List.take_append_drop]
          exact hall n xs ys lx ly
        · cases h
      · cases h
    · cases h

theorem eqIn_agg {G : Ghost} {P : Program} {d D : Nat} {t : TypeId} {ks : List Kd} {DD : TypeDesc} {xs ys : List AV} {rx ry : List Value} {w : World} {v : Bool} (hks : plainKinds P d t = some ks) (hD : P.underlying t = some DD) (hA : isAggD DD = true)
    (hx : lrel G xs rx) (hy : lrel G ys ry) (fx : fitsAll ks xs = true) (fy : fitsAll ks ys = true) (hle : d ≤ D) (he : sameAll xs ys = v) :
    (Op.equalIn D t (.agg rx.toArray) (.agg ry.toArray)).run P w = .ok v w := by
  rw [← he]
  have := eqIn_plain (G := G) d D hle t ks hks hD xs ys rx ry w hx hy fx fy
  rwa [hA] at this

end Go.Own

/- Operations that look at addresses, slices, parts; conversions. -/
namespace Go.Own
open Go.RowKit

/-- The kinds by which a type's values are compared. -/
def eqKinds (P : Program) (t : TypeId) : Option (List Kd) :=
  if P.eqGuardType P.depth t then none else plainKinds P 40 t
def aeqAgg (ks : Option (List Kd)) (xs ys : List AV) : Option Bool :=
  match ks with
  | some ks => if fitsAll ks xs && fitsAll ks ys then some (sameAll xs ys) else none
  | none => none
/-- '==' on what is neither a number nor a text. -/
def aeqv (d : Option TypeDesc) (ks : Option (List Kd)) (x y : AV) : Option Bool :=
  match d, x, y with
  | some (.struct _), .agg xs, .agg ys => aeqAgg ks xs ys
  | some (.array _ _), .agg xs, .agg ys => aeqAgg ks xs ys
  | some .bool, .bool a, .bool b => some (a == b)
  | some (.pointer _), .nilp, .nilp => some true
  | some (.pointer _), .nilp, .ptr _ _ _ => some false
  | some (.pointer _), .ptr _ _ _, .nilp => some false
  | some (.slice _), .nils, .nils => some true
  | some (.slice _), .lst _ _, .nils => some false
  | some (.slice _), .sl _ _ _ _ _, .nils => some false
  | some (.slice _), .emp, .nils => some false
  | some (.map _ _), .nilm, .nilm => some true
  | some (.map _ _), .map _, .nilm => some false
  | some (.func _ _ _), .nilf, .nilf => some true
  | some (.func _ _ _), .func _ _ _, .nilf => some false
  | _, _, _ => none
def aeq (op : BinOp) (d : Option TypeDesc) (ks : Option (List Kd)) (x y : AV) : Option AV :=
  match op, aeqv d ks x y with
  | .eql, some b => some (.bool b)
  | .neq, some b => some (.bool !b)
  | _, _ => none

theorem binOp_eql_other {t : TypeId} {x y : Value} (h : ∀ k n, x ≠ .int k n) (h' : ∀ s, x ≠ .string s) (hf : ∀ k n, x ≠ .float k n) (hc : ∀ k a b, x ≠ .complex k a b) : binOp .eql t x y = (do pure (.bool (← Op.equal t x y)) : Sem Value) := by
  unfold binOp
  cases x <;> first | rfl | (exact absurd rfl (h _ _)) | (exact absurd rfl (h' _)) | (exact absurd rfl (hf _ _)) | (exact absurd rfl (hc _ _ _)) | (cases y <;> rfl)
theorem binOp_neq_other {t : TypeId} {x y : Value} (h : ∀ k n, x ≠ .int k n) (h' : ∀ s, x ≠ .string s) (hf : ∀ k n, x ≠ .float k n) (hc : ∀ k a b, x ≠ .complex k a b) : binOp .neq t x y = (do pure (.bool (!(← Op.equal t x y))) : Sem Value) := by
  unfold binOp
  cases x <;> first | rfl | (exact absurd rfl (h _ _)) | (exact absurd rfl (h' _)) | (exact absurd rfl (hf _ _)) | (exact absurd rfl (hc _ _ _)) | (cases y <;> rfl)

theorem aeqv_run {G : Ghost} {P : Program} {t : TypeId} {x y : AV} {a b : Value} {v : Bool} {w : World} (hx : vrel G x a) (hy : vrel G y b) (hv : aeqv (P.underlying t) (eqKinds P t) x y = some v) :
    (Op.equal t a b).run P w = .ok v w ∧ (∀ op ox oy, (eqGuard op t ox oy a b).run P w = .ok () w) ∧ (∀ k n, a ≠ .int k n) ∧ (∀ s, a ≠ .string s) ∧ (∀ k n, a ≠ .float k n) ∧ (∀ k c d, a ≠ .complex k c d) := by
  have agg : ∀ (xs ys : List AV), x = .agg xs → y = .agg ys → aeqAgg (eqKinds P t) xs ys = some v → (P.underlying t).any isAggD = true →
      (Op.equal t a b).run P w = .ok v w ∧ (∀ op ox oy, (eqGuard op t ox oy a b).run P w = .ok () w) ∧ (∀ k n, a ≠ .int k n) ∧ (∀ s, a ≠ .string s) ∧ (∀ k n, a ≠ .float k n) ∧ (∀ k c d, a ≠ .complex k c d) := by
    intro xs ys ex ey he hd
    subst ex; subst ey
    simp only [vrel] at hx hy
    obtain ⟨rx, rfl, hx⟩ := hx
    obtain ⟨ry, rfl, hy⟩ := hy
    unfold eqKinds at he
    split at he
    · simp [aeqAgg] at he
    · rename_i hg
      simp only [aeqAgg] at he
      split at he
      · rename_i ks hks
        split at he
        · rename_i hf
          simp only [Option.some.injEq] at he
          simp only [Bool.and_eq_true] at hf
          have hk : ∃ D, P.underlying t = some D ∧ isAggD D = true := by
            cases hq : P.underlying t with
            | none => simp [hq] at hd
            | some D => exact ⟨D, rfl, by simpa [hq] using hd⟩
          obtain ⟨D, hD, hA⟩ := hk
          refine ⟨?_, ?_, by simp, by simp, by simp, by simp⟩
          · show (Op.equalIn 10000 t _ _).run P w = _
            exact eqIn_agg (G := G) hks hD hA hx hy hf.1 hf.2 (by omega) he
          · intro op ox oy
            have hg' : P.eqGuardType P.depth t = false := by simpa using hg
            exact run_eqGuard_agg w op t ox oy _ _ hg'
        · cases he
      · cases he
  have plain : ∀ (a b : Value), a.oneCell' = true → a ≠ .nilIface → ∀ op ox oy, (eqGuard op t ox oy a b).run P w = .ok () w := fun a b h1 h2 op ox oy => eqGuard_plain h1 h2
  unfold aeqv at hv
  split at hv
  · rename_i fs xs ys hd; exact agg xs ys rfl rfl hv (by rw [hd]; rfl)
  · rename_i n e xs ys hd; exact agg xs ys rfl rfl hv (by rw [hd]; rfl)
  all_goals first
    | (cases hv; done)
    | (rename_i hd
       simp only [Option.some.injEq] at hv
       simp only [vrel] at hx hy
       subst hv
       (first | subst hx | (obtain ⟨h1, _⟩ := hx; subst h1) | (obtain ⟨_, hx⟩ := hx; (first | subst hx | (obtain ⟨h1, _⟩ := hx; subst h1) | (obtain ⟨_, hx⟩ := hx; (first | subst hx | (obtain ⟨h1, _⟩ := hx; subst h1) | (obtain ⟨_, hx⟩ := hx; (first | subst hx | (obtain ⟨h1, _⟩ := hx; subst h1) | (obtain ⟨_, hx⟩ := hx; (first | subst hx | (obtain ⟨h1, _⟩ := hx; subst h1))))))))))
       (first | subst hy | (obtain ⟨h1, _⟩ := hy; subst h1) | (obtain ⟨_, hy⟩ := hy; (first | subst hy | (obtain ⟨h1, _⟩ := hy; subst h1) | (obtain ⟨_, hy⟩ := hy; (first | subst hy | (obtain ⟨h1, _⟩ := hy; subst h1) | (obtain ⟨_, hy⟩ := hy; (first | subst hy | (obtain ⟨h1, _⟩ := hy; subst h1) | (obtain ⟨_, hy⟩ := hy; (first | subst hy | (obtain ⟨h1, _⟩ := hy; subst h1))))))))))
       refine ⟨?_, plain _ _ rfl (by simp), by simp, by simp, by simp, by simp⟩
       show (Op.equalIn (9999 + 1) t _ _).run P w = _
       generalize (9999 : Nat) = d
       simp [Op.equalIn, run_underlying hd])

end Go.Own

/- Operations that look at addresses, slices, parts; conversions. -/
namespace Go.Own
open Go.RowKit

theorem aeq_run {G : Ghost} {P : Program} {op : BinOp} {t : TypeId} {x y v : AV} {a b : Value} {w : World} {ox oy : Operand} (hx : vrel G x a) (hy : vrel G y b) (hv : aeq op (P.underlying t) (eqKinds P t) x y = some v) :
    ∃ rv, (do eqGuard op t ox oy a b; binOp op t a b : Sem Value).run P w = .ok rv w ∧ vrel G v rv := by
  unfold aeq at hv
  split at hv
  · rename_i v' hv'
    simp only [Option.some.injEq] at hv; subst hv
    obtain ⟨h1, h2, h3, h4, h5, h6⟩ := aeqv_run (w := w) hx hy hv'
    refine ⟨.bool v', ?_, by simp only [vrel]⟩
    simp only [Sem.run_bind, h2, Result.andThen_ok, binOp_eql_other h3 h4 h5 h6, h1, Sem.run_pure]
  · rename_i v' hv'
    simp only [Option.some.injEq] at hv; subst hv
    obtain ⟨h1, h2, h3, h4, h5, h6⟩ := aeqv_run (w := w) hx hy hv'
    refine ⟨.bool !v', ?_, by simp only [vrel]⟩
    simp only [Sem.run_bind, h2, Result.andThen_ok, binOp_neq_other h3 h4 h5 h6, h1, Sem.run_pure]
  · cases hv

/-- A field's place. -/
def fieldOff (P : Program) (t : TypeId) (f : Nat) : Option Nat :=
  match P.underlying t with
  | some (.struct fs) => match fs[f]? with
    | some fd => match P.info? fd.type with
      | some i => if i.size = 0 then none else some fd.offset
      | none => none
    | none => none
  | _ => none
def afaddr (off : Nat) (p : AV) : Option AV :=
  match p with
  | .ptr i r o => some (.ptr i r (o + off))
  | .cptr cs => if off ≤ cs.length then some (.cptr (cs.drop off)) else none
  | _ => none
theorem afaddr_run {G : Ghost} {P : Program} {t : TypeId} {f off : Nat} {p v : AV} {a : Value} {w : World} (ho : fieldOff P t f = some off) (hp : vrel G p a) (hv : afaddr off p = some v) :
    ∃ rv, (Instr.fieldAt t a f).run P w = .ok rv w ∧ vrel G v rv := by
  unfold fieldOff at ho
  split at ho
  · rename_i fs hu
    split at ho
    · rename_i fd hfd
      split at ho
      · rename_i i hi
        split at ho
        · cases ho
        · rename_i hsz
          simp only [Option.some.injEq] at ho; subst ho
          have key : ∀ b o, (Instr.fieldAt t (.pointer (some ⟨b, o, none⟩)) f).run P w = .ok (.pointer (some ⟨b, o + fd.offset, none⟩)) w := by
            intro b o
            simp [Instr.fieldAt, run_underlying hu, hfd, Instr.sureAddr, fieldPlace, run_sizeOf hi, hsz, addr_add]
          unfold afaddr at hv
          split at hv
          · rename_i j r o
            simp only [Option.some.injEq] at hv; subst hv
            simp only [vrel] at hp
            obtain ⟨hok, rfl⟩ := hp
            exact ⟨_, key _ _, vrel_ptr hok⟩
          · rename_i cs
            split at hv
            · rename_i hle
              simp only [Option.some.injEq] at hv; subst hv
              simp only [vrel] at hp
              obtain ⟨b, o, rfl, hc⟩ := hp
              exact ⟨_, key _ _, by simp only [vrel]; exact ⟨b, _, rfl, crel_drop _ hc⟩⟩
            · cases hv
          · cases hv
      · cases ho
    · cases ho
  · cases ho

/-- A part of an aggregate: is it one itself, how many cells has it, where does it begin? -/
def apart (b : Bool) (n off : Nat) (x : AV) : Option AV :=
  match x with
  | .agg cs => if off + n ≤ cs.length ∧ (b = true ∨ n = 1) then (if b then some (.agg ((cs.drop off).take n)) else cs[off]?) else none
  | _ => none
theorem apart_run {G : Ghost} {P : Program} {t : TypeId} {b : Bool} {n off : Nat} {x v : AV} {rs : List Value} {w : World} (ht : tkind P t = some (b, n)) (hx : vrel G x (.agg rs.toArray)) (hv : apart b n off x = some v) :
    ∃ rv, (part t rs.toArray off).run P w = .ok rv w ∧ vrel G v rv := by
  unfold apart at hv
  split at hv
  · rename_i cs
    simp only [vrel] at hx
    obtain ⟨rs', e, hr⟩ := hx
    have : rs = rs' := by simpa using e
    subst this
    split at hv
    · rename_i hc
      have hl := lrel_length hr
      rw [run_part' ht (by omega) (fun hb => hc.2.resolve_left (by simp [hb]))]
      cases b with
      | true =>
        simp only [if_true, Option.some.injEq] at hv; subst hv
        refine ⟨_, rfl, ?_⟩
        simp only [packed, if_true, vrel]
        exact ⟨_, rfl, lrel_take _ (lrel_drop _ hr)⟩
      | false =>
        simp only [Bool.false_eq_true, if_false] at hv
        obtain ⟨r, h1, h2⟩ := lrel_get off hr hv
        refine ⟨_, rfl, ?_⟩
        have hn : n = 1 := hc.2.resolve_left (by simp)
        subst hn
        have : (rs.drop off).take 1 = [r] := by
          have hlt : off < rs.length := by omega
          rw [List.drop_eq_getElem_cons hlt, List.take_succ_cons, List.take_zero]
          rw [List.getElem?_eq_getElem hlt] at h1
          rw [Option.some.inj h1]
        simp only [packed, Bool.false_eq_true, if_false, this, List.headD_cons]
        exact h2
    · cases hv
  · cases hv
def fieldKind (P : Program) (t : TypeId) (f : Nat) : Option (Bool × Nat × Nat) :=
  match P.underlying t with
  | some (.struct fs) => match fs[f]? with
    | some fd => match tkind P fd.type with
      | some (b, n) => some (b, n, fd.offset)
      | none => none
    | none => none
  | _ => none
theorem field_run {G : Ghost} {P : Program} {t : TypeId} {f : Nat} {b : Bool} {n off : Nat} {x v : AV} {a : Value} {w : World} (hk : fieldKind P t f = some (b, n, off)) (hx : vrel G x a) (hv : apart b n off x = some v) :
    ∃ rv, (Instr.field t a f).run P w = .ok rv w ∧ vrel G v rv := by
  unfold fieldKind at hk
  split at hk
  · rename_i fs hu
    split at hk
    · rename_i fd hfd
      split at hk
      · rename_i b' n' ht
        simp only [Option.some.injEq, Prod.mk.injEq] at hk
        obtain ⟨rfl, rfl, rfl⟩ := hk
        have hag : ∃ rs : List Value, a = .agg rs.toArray := by
          cases x <;> simp [apart] at hv
          simp only [vrel] at hx
          obtain ⟨rs, e, _⟩ := hx
          exact ⟨rs, e⟩
        obtain ⟨rs, rfl⟩ := hag
        obtain ⟨rv, h1, h2⟩ := apart_run (w := w) ht hx hv
        exact ⟨rv, by simp [Instr.field, run_underlying hu, hfd, asAgg, h1], h2⟩
      · cases hk
    · cases hk
  · cases hk

/-- What an index is taken of: a text, or an array (its length, its elements' kind). -/
inductive IxK where
  | str | arr (len : Nat) (b : Bool) (n : Nat)
def ixKind (P : Program) (t : TypeId) : Option IxK :=
  match P.underlying t with
  | some .string => some .str
  | some (.array len e) => match tkind P e with
    | some (b, n) => some (.arr len b n)
    | none => none
  | _ => none
def aindex (k : IxK) (x i : AV) : Option AV :=
  match k, x, i with
  | .str, .str s, .int _ j => if 0 ≤ j then match s[j.toNat]? with
      | some c => some (.int .u8 c.toNat)
      | none => none
    else none
  | .arr len b n, x, .int _ j => if 0 ≤ j ∧ j < len then apart b n (j.toNat * n) x else none
  | _, _, _ => none
theorem str_get {s : List UInt8} {j : Nat} {c : UInt8} (h : s[j]? = some c) : (⟨s.toArray⟩ : ByteArray)[j]? = some c := by
  have hlt : j < s.length := by
    rcases Nat.lt_or_ge j s.length with h' | h'
    · exact h'
    · rw [List.getElem?_eq_none h'] at h; cases h
  rw [ByteArray.getElem?_lt' _ _ (by simpa [ByteArray.size] using hlt)]
  rw [List.getElem?_eq_getElem hlt] at h
  rw [← Option.some.inj h]
  rfl
theorem aindex_run {G : Ghost} {P : Program} {t : TypeId} {k : IxK} {x i v : AV} {a c : Value} {w : World} (hk : ixKind P t = some k) (hx : vrel G x a) (hi : vrel G i c) (hv : aindex k x i = some v) :
    ∃ rv, (Instr.index t a c).run P w = .ok rv w ∧ vrel G v rv := by
  unfold aindex at hv
  split at hv
  · rename_i s kk j
    simp only [vrel] at hx hi
    subst hx; subst hi
    split at hv
    · rename_i h0
      split at hv
      · rename_i ch hch
        simp only [Option.some.injEq] at hv; subst hv
        unfold ixKind at hk
        split at hk
        · rename_i hu
          exact ⟨.int .u8 ch.toNat, by simp [Instr.index, asIntOf, run_underlying hu, h0, str_get hch], by simp only [vrel]⟩
        · split at hk <;> cases hk
        · cases hk
      · cases hv
    · cases hv
  · rename_i len b n kk j
    split at hv
    · rename_i hj
      simp only [vrel] at hi
      subst hi
      unfold ixKind at hk
      split at hk
      · cases hk
      · rename_i len' e hu
        split at hk
        · rename_i b' n' ht
          simp only [Option.some.injEq, IxK.arr.injEq] at hk
          obtain ⟨rfl, rfl, rfl⟩ := hk
          have hag : ∃ rs : List Value, a = .agg rs.toArray := by
            cases x <;> simp [apart] at hv
            simp only [vrel] at hx
            obtain ⟨rs, e, _⟩ := hx
            exact ⟨rs, e⟩
          obtain ⟨rs, rfl⟩ := hag
          obtain ⟨rv, h1, h2⟩ := apart_run (w := w) ht hx hv
          exact ⟨rv, by simp [Instr.index, asIntOf, run_underlying hu, hj, tkind_size ht, h1], h2⟩
        · cases hk
      · cases hk
    · cases hv
  · cases hv

/-- What an element's address is taken of: an array behind a pointer (its length), or a slice; the cells of an element. -/
def iaKind (P : Program) (t : TypeId) : Option (Option Nat × Nat) :=
  match P.underlying t with
  | some (.array len e) => (P.info? e).map fun i => (some len, i.size)
  | some (.slice e) => (P.info? e).map fun i => (none, i.size)
  | _ => none
def aiaddr (len : Option Nat) (esz : Nat) (x i : AV) : Option AV :=
  match i with
  | .int _ j => if 0 ≤ j then match len, x with
      | some len, .ptr id r o => if j.toNat < len then some (.ptr id r (o + j.toNat * esz)) else none
      | some len, .cptr cs => if j.toNat < len ∧ j.toNat * esz ≤ cs.length then some (.cptr (cs.drop (j.toNat * esz))) else none
      | none, .sl id r off n e => if j.toNat < n ∧ e = esz then some (.ptr id r (off + j.toNat * esz)) else none
      | none, .lst cs n => if j.toNat < n ∧ j.toNat * esz ≤ cs.length then some (.cptr (cs.drop (j.toNat * esz))) else none
      | _, _ => none
    else none
  | _ => none
theorem aiaddr_run {G : Ghost} {P : Program} {t : TypeId} {len : Option Nat} {esz : Nat} {x i v : AV} {a c : Value} {w : World} (hk : iaKind P t = some (len, esz)) (hx : vrel G x a) (hi : vrel G i c) (hv : aiaddr len esz x i = some v) :
    ∃ rv, (Instr.indexAt t a c).run P w = .ok rv w ∧ vrel G v rv := by
  unfold aiaddr at hv
  split at hv
  · rename_i kk j
    simp only [vrel] at hi
    subst hi
    split at hv
    · rename_i h0
      have arr : ∀ (n : Nat) (b o : Nat), len = some n → j.toNat < n → (Instr.indexAt t (.pointer (some ⟨b, o, none⟩)) (.int kk j)).run P w = .ok (.pointer (some ⟨b, o + j.toNat * esz, none⟩)) w := by
        intro n b o hl hj
        subst hl
        unfold iaKind at hk
        split at hk
        · rename_i len' e hu
          cases hi' : P.info? e with
          | none => simp [hi'] at hk
          | some inf =>
            simp [hi'] at hk
            obtain ⟨rfl, rfl⟩ := hk
            have h2 : j < (len' : Int) := by omega
            simp [Instr.indexAt, asIntOf, run_underlying hu, Instr.sureAddr, h0, h2, run_sizeOf hi', addr_add]
        · rename_i e hu
          cases hi' : P.info? e <;> simp [hi'] at hk
        · cases hk
      have sli : ∀ (n cap : Nat) (b o : Nat), len = none → j.toNat < n → (Instr.indexAt t (.slice (some ⟨b, o, none⟩) n cap) (.int kk j)).run P w = .ok (.pointer (some ⟨b, o + j.toNat * esz, none⟩)) w := by
        intro n cap b o hl hj
        subst hl
        unfold iaKind at hk
        split at hk
        · rename_i len' e hu
          cases hi' : P.info? e <;> simp [hi'] at hk
        · rename_i e hu
          cases hi' : P.info? e with
          | none => simp [hi'] at hk
          | some inf =>
            simp [hi'] at hk
            subst hk
            have h2 : j < (n : Int) := by omega
            simp [Instr.indexAt, asIntOf, run_underlying hu, h0, h2, run_sizeOf hi', addr_add]
        · cases hk
      split at hv
      · rename_i n id r o
        split at hv
        · rename_i hj
          simp only [Option.some.injEq] at hv; subst hv
          simp only [vrel] at hx
          obtain ⟨hok, rfl⟩ := hx
          exact ⟨_, arr n _ _ rfl hj, vrel_ptr hok⟩
        · cases hv
      · rename_i n cs
        split at hv
        · rename_i hj
          simp only [Option.some.injEq] at hv; subst hv
          simp only [vrel] at hx
          obtain ⟨b, o, rfl, hc⟩ := hx
          exact ⟨_, arr n _ _ rfl hj.1, by simp only [vrel]; exact ⟨b, _, rfl, crel_drop _ hc⟩⟩
        · cases hv
      · rename_i id r off n e
        split at hv
        · rename_i hj
          simp only [Option.some.injEq] at hv; subst hv
          simp only [vrel] at hx
          obtain ⟨hok, b, o, cap, rfl, hle, hcap⟩ := hx
          obtain ⟨hjn, rfl⟩ := hj
          rcases hcap with h | ⟨rfl, rfl, _⟩
          · omega
          · exact ⟨_, sli n cap _ _ rfl hjn, vrel_ptr hok⟩
        · cases hv
      · rename_i cs n
        split at hv
        · rename_i hj
          simp only [Option.some.injEq] at hv; subst hv
          simp only [vrel] at hx
          obtain ⟨b, o, cap, rfl, hle, hc⟩ := hx
          exact ⟨_, sli n cap _ _ rfl hj.1, by simp only [vrel]; exact ⟨b, _, rfl, crel_drop _ hc⟩⟩
        · cases hv
      · cases hv
    · cases hv
  · cases hv

/-- What is cut: a text, a slice (the cells of an element), an array behind a pointer. -/
inductive SlK where
  | str | sl (esz : Nat) | arr (n esz : Nat)
def slKind (P : Program) (t : TypeId) : Option SlK :=
  match P.underlying t with
  | some .string => some .str
  | some (.slice e) => (P.info? e).map fun i => .sl i.size
  | some (.array n e) => (P.info? e).map fun i => .arr n i.size
  | _ => none
theorem slKind_sl {P : Program} {t : TypeId} {esz : Nat} (hk : slKind P t = some (.sl esz)) : ∃ e i, P.underlying t = some (.slice e) ∧ P.info? e = some i ∧ i.size = esz := by
  unfold slKind at hk
  split at hk
  · cases hk
  · rename_i e hu
    cases hi : P.info? e with
    | none => simp [hi] at hk
    | some i => simp [hi] at hk; exact ⟨e, i, hu, hi, hk⟩
  · rename_i n e hu
    cases hi : P.info? e <;> simp [hi] at hk
  · cases hk
theorem slKind_arr {P : Program} {t : TypeId} {n esz : Nat} (hk : slKind P t = some (.arr n esz)) : ∃ e i, P.underlying t = some (.array n e) ∧ P.info? e = some i ∧ i.size = esz := by
  unfold slKind at hk
  split at hk
  · cases hk
  · rename_i e hu
    cases hi : P.info? e <;> simp [hi] at hk
  · rename_i n' e hu
    cases hi : P.info? e with
    | none => simp [hi] at hk
    | some i => simp [hi] at hk; obtain ⟨rfl, hk⟩ := hk; exact ⟨e, i, hu, hi, hk⟩
  · cases hk
def abnd (x : Option AV) (d : Nat) : Option Nat :=
  match x with
  | none => some d
  | some (.int _ n) => if 0 ≤ n then some n.toNat else none
  | _ => none
theorem abnd_indep (x : AV) (d d' : Nat) : abnd (some x) d = abnd (some x) d' := by cases x <;> rfl
def aslice (k : SlK) (x : AV) (lo hi mx : Option AV) (h : AHeap) : Option AV :=
  match k, x with
  | .str, .str s => match mx, abnd hi s.length, abnd lo 0 with
    | none, some b, some a => if a ≤ b ∧ b ≤ s.length then some (.str ((s.drop a).take (b - a))) else none
    | _, _, _ => none
  | .sl esz, .lst cs n => match abnd hi n, abnd lo 0, abnd mx n with
    | some b, some a, some m => if a ≤ b ∧ b ≤ m ∧ m ≤ n then (if m = a ∧ mx.isSome then some .emp else some (.lst ((cs.drop (a * esz)).take ((b - a) * esz)) (b - a))) else none
    | _, _, _ => none
  | .sl _, .nils => match abnd hi 0, abnd lo 0, abnd mx 0 with
    | some 0, some 0, some 0 => some .nils
    | _, _, _ => none
  | .sl _, .emp => match abnd hi 0, abnd lo 0, abnd mx 0 with
    | some 0, some 0, some 0 => some .emp
    | _, _, _ => none
  | .sl esz, .sl i r off n e => match abnd hi n, abnd lo 0, abnd mx n with
    | some b, some a, some m => if a ≤ b ∧ b ≤ m ∧ m ≤ n ∧ e = esz then (if m = a ∧ mx.isSome then some .emp else some (.sl i r (off + a * esz) (b - a) esz)) else none
    | _, _, _ => none
  | .arr n esz, .ptr i r o => match abnd hi n, abnd lo 0, abnd mx n with
    | some b, some a, some m => if a ≤ b ∧ b ≤ m ∧ m ≤ n then match h.get i with
        | some (.cells r' cs) => if r' = r ∧ o + n * esz ≤ cs.length then some (.sl i r (o + a * esz) (b - a) esz) else none
        | _ => none
      else none
    | _, _, _ => none
  | _, _ => none

def vopt (G : Ghost) : Option AV → Option Value → Prop
  | none, none => True
  | some a, some v => vrel G a v
  | _, _ => False
theorem run_sliceBound {P : Program} {w : World} {k : IntKind} {j : Int} {y : Nat} {c : BoundsCode} (h0 : 0 ≤ j) (h1 : j.toNat ≤ y) : (Instr.sliceBound (.int k j) y c).run P w = .ok j.toNat w := by
  have : j ≤ (y : Int) := by omega
  simp [Instr.sliceBound, asIntOf, h0, this]
theorem bounds_run {G : Ghost} {P : Program} {w : World} {isS : Bool} {len cap : Nat} {lo hi mx : Option AV} {rlo rhi rmx : Option Value} {a b m : Nat} (hlo : vopt G lo rlo) (hhi : vopt G hi rhi) (hmx : vopt G mx rmx)
    (ha : abnd lo 0 = some a) (hb : abnd hi len = some b) (hm : abnd mx cap = some m) (hab : a ≤ b) (hbm : b ≤ m) (hmc : m ≤ cap) (hx : hi = none → mx = none) : (Instr.sliceBounds isS len cap rlo rhi rmx).run P w = .ok (a, b, m) w := by
  have one : ∀ (x : Option AV) (rx : Option Value) (d r : Nat), vopt G x rx → abnd x d = some r → (x = none ∧ rx = none ∧ r = d) ∨ ∃ k j, x = some (.int k j) ∧ rx = some (.int k j) ∧ 0 ≤ j ∧ r = j.toNat := by
    intro x rx d r hv hr
    cases x with
    | none => cases rx with
      | none => simp [abnd] at hr; exact .inl ⟨rfl, rfl, hr.symm⟩
      | some _ => simp [vopt] at hv
    | some x => cases rx with
      | none => simp [vopt] at hv
      | some rx =>
        cases x <;> simp [abnd] at hr
        simp only [vopt, vrel] at hv
        exact .inr ⟨_, _, rfl, by rw [hv], hr.1, hr.2.symm⟩
  rcases one mx rmx cap m hmx hm with ⟨rfl, rfl, rfl⟩ | ⟨km, jm, rfl, rfl, m0, rfl⟩
  · rcases one hi rhi len b hhi hb with ⟨rfl, rfl, rfl⟩ | ⟨kb, jb, rfl, rfl, b0, rfl⟩
    · rcases one lo rlo 0 a hlo ha with ⟨rfl, rfl, rfl⟩ | ⟨ka, ja, rfl, rfl, a0, rfl⟩
      · simp [Instr.sliceBounds]
      · simp [Instr.sliceBounds, run_sliceBound a0 hab]
    · rcases one lo rlo 0 a hlo ha with ⟨rfl, rfl, rfl⟩ | ⟨ka, ja, rfl, rfl, a0, rfl⟩
      · simp [Instr.sliceBounds, run_sliceBound b0 hbm]
      · simp [Instr.sliceBounds, run_sliceBound a0 hab, run_sliceBound b0 hbm]
  · rcases one hi rhi len b hhi hb with ⟨rfl, rfl, rfl⟩ | ⟨kb, jb, rfl, rfl, b0, rfl⟩
    · cases hx rfl
    · rcases one lo rlo 0 a hlo ha with ⟨rfl, rfl, rfl⟩ | ⟨ka, ja, rfl, rfl, a0, rfl⟩
      · simp [Instr.sliceBounds, run_sliceBound b0 hbm, run_sliceBound m0 hmc]
      · simp [Instr.sliceBounds, run_sliceBound a0 hab, run_sliceBound b0 hbm, run_sliceBound m0 hmc]

end Go.Own

/- Slices: cut, read, appended to, copied, made; conversions between texts and bytes. -/
namespace Go.Own
open Go.RowKit

theorem slice_run {G : Ghost} {h : AHeap} {P : Program} {t : TypeId} {k : SlK} {x v : AV} {lo hi mx : Option AV} {rlo rhi rmx : Option Value} {a : Value} {w : World} (r : Rel G h w) (hk : slKind P t = some k) (hx : vrel G x a)
    (hlo : vopt G lo rlo) (hhi : vopt G hi rhi) (hmx : vopt G mx rmx) (hh : hi = none → mx = none) (hv : aslice k x lo hi mx h = some v) :
    ∃ rv, (Instr.sliceAt t a rlo rhi rmx).run P w = .ok rv w ∧ vrel G v rv := by
  unfold aslice at hv
  split at hv
  · rename_i s
    split at hv
    · rename_i b a' hb ha
      split at hv
      · rename_i hc
        simp only [Option.some.injEq] at hv; subst hv
        simp only [vrel] at hx; subst hx
        unfold slKind at hk
        split at hk
        · rename_i hu
          have hm0 : rmx = none := by cases rmx <;> simp [vopt] at hmx ⊢
          subst hm0
          have := bounds_run (P := P) (w := w) (isS := false) (len := s.length) (cap := s.length) hlo hhi hmx ha hb (by simp [abnd]) hc.1 hc.2 (Nat.le_refl _) hh
          refine ⟨.string ⟨((s.drop a').take (b - a')).toArray⟩, ?_, by simp only [vrel]⟩
          simp only [Instr.sliceAt, Sem.run_bind, run_underlying hu, Result.andThen_ok, Instr.slice, Option.isSome_none, Bool.false_eq_true, if_false]
          have hsz : (⟨s.toArray⟩ : ByteArray).size = s.length := by simp [ByteArray.size]
          rw [hsz, this]
          simp only [Result.andThen_ok, Sem.run_pure]
          rw [ByteArray.extract_mk]
        · rename_i e hu; cases hi' : P.info? e <;> simp [hi'] at hk
        · rename_i n e hu; cases hi' : P.info? e <;> simp [hi'] at hk
        · cases hk
      · cases hv
    · cases hv
  · rename_i esz cs n
    simp only [vrel] at hx
    obtain ⟨b0, o0, cap, rfl, hle, hc⟩ := hx
    obtain ⟨e, i, hu, hi, rfl⟩ := slKind_sl hk
    split at hv
    · rename_i b a' m hb ha hm
      split at hv
      · rename_i hcc
        have run : ∀ m', abnd mx cap = some m' → b ≤ m' → m' ≤ cap → (Instr.sliceAt t (.slice (some ⟨b0, o0, none⟩) n cap) rlo rhi rmx).run P w = .ok (.slice (if m' = a' then some ⟨b0, o0, none⟩ else some ⟨b0, o0 + a' * i.size, none⟩) (b - a') (m' - a')) w := by
          intro m' h1 h2 h3
          have := bounds_run (P := P) (w := w) (isS := true) (len := n) (cap := cap) hlo hhi hmx ha hb h1 hcc.1 h2 h3 hh
          simp only [Instr.sliceAt, Sem.run_bind, run_underlying hu, Result.andThen_ok, Instr.slice, this, run_sizeOf hi, Sem.run_pure, Option.map_some, addr_add]
        split at hv
        · rename_i hm1
          simp only [Option.some.injEq] at hv; subst hv
          have hmx' : abnd mx cap = some m := by
            cases mx with
            | none => simp at hm1
            | some y => rw [abnd_indep y cap n]; exact hm
          refine ⟨_, run m hmx' hcc.2.1 (Nat.le_trans hcc.2.2 hle), ?_⟩
          rw [if_pos hm1.1]
          simp only [vrel]
          exact ⟨_, by rw [show b - a' = 0 by omega, show m - a' = 0 by omega]⟩
        · simp only [Option.some.injEq] at hv; subst hv
          have fin : ∀ m', abnd mx cap = some m' → b ≤ m' → m' ≤ cap → ∃ rv, (Instr.sliceAt t (.slice (some ⟨b0, o0, none⟩) n cap) rlo rhi rmx).run P w = .ok rv w ∧ vrel G (.lst ((cs.drop (a' * i.size)).take ((b - a') * i.size)) (b - a')) rv := by
            intro m' h1 h2 h3
            refine ⟨_, run m' h1 h2 h3, ?_⟩
            by_cases hm' : m' = a'
            · rw [if_pos hm']
              have hz : (b - a') * i.size = 0 := by rw [show b - a' = 0 by omega, Nat.zero_mul]
              rw [hz, List.take_zero]
              exact vrel_lst (by omega) (by simp only [crel])
            · rw [if_neg hm']
              exact vrel_lst (by omega) (crel_take _ (crel_drop _ hc))
          cases mx with
          | none => exact fin cap rfl (by simp [abnd] at hm; omega) (Nat.le_refl _)
          | some y => exact fin m (by rw [abnd_indep y cap n]; exact hm) hcc.2.1 (by omega)
      · cases hv
    · cases hv
  · rename_i esz
    simp only [vrel] at hx; subst hx
    obtain ⟨e, i, hu, hi, rfl⟩ := slKind_sl hk
    split at hv
    · rename_i hb ha hm
      simp only [Option.some.injEq] at hv; subst hv
      have := bounds_run (P := P) (w := w) (isS := true) (len := 0) (cap := 0) hlo hhi hmx ha hb hm (Nat.le_refl _) (Nat.le_refl _) (Nat.le_refl _) hh
      refine ⟨.slice none 0 0, ?_, by simp only [vrel]⟩
      simp only [Instr.sliceAt, Sem.run_bind, run_underlying hu, Result.andThen_ok, Instr.slice, this, run_sizeOf hi, Sem.run_pure, if_true, Nat.sub_self]
    · cases hv
  · rename_i esz
    simp only [vrel] at hx
    obtain ⟨ad, rfl⟩ := hx
    obtain ⟨e, i, hu, hi, rfl⟩ := slKind_sl hk
    split at hv
    · rename_i hb ha hm
      simp only [Option.some.injEq] at hv; subst hv
      have := bounds_run (P := P) (w := w) (isS := true) (len := 0) (cap := 0) hlo hhi hmx ha hb hm (Nat.le_refl _) (Nat.le_refl _) (Nat.le_refl _) hh
      refine ⟨.slice (some ad) 0 0, ?_, by simp only [vrel]; exact ⟨ad, rfl⟩⟩
      simp only [Instr.sliceAt, Sem.run_bind, run_underlying hu, Result.andThen_ok, Instr.slice, this, run_sizeOf hi, Sem.run_pure, if_true, Nat.sub_self]
    · cases hv
  · rename_i esz id rr off n e'
    simp only [vrel] at hx
    obtain ⟨hok, b0, o0, cap, rfl, hle, hcap⟩ := hx
    obtain ⟨e, i, hu, hi, rfl⟩ := slKind_sl hk
    split at hv
    · rename_i b a' m hb ha hm
      split at hv
      · rename_i hcc
        obtain ⟨hab, hbm, hmn, rfl⟩ := hcc
        have run : ∀ m', abnd mx cap = some m' → b ≤ m' → m' ≤ cap → (Instr.sliceAt t (.slice (some ⟨b0, o0, none⟩) n cap) rlo rhi rmx).run P w = .ok (.slice (if m' = a' then some ⟨b0, o0, none⟩ else some ⟨b0, o0 + a' * i.size, none⟩) (b - a') (m' - a')) w := by
          intro m' h1 h2 h3
          have := bounds_run (P := P) (w := w) (isS := true) (len := n) (cap := cap) hlo hhi hmx ha hb h1 hab h2 h3 hh
          simp only [Instr.sliceAt, Sem.run_bind, run_underlying hu, Result.andThen_ok, Instr.slice, this, run_sizeOf hi, Sem.run_pure, Option.map_some, addr_add]
        split at hv
        · rename_i hm1
          simp only [Option.some.injEq] at hv; subst hv
          have hmx' : abnd mx cap = some m := by
            cases mx with
            | none => simp at hm1
            | some y => rw [abnd_indep y cap n]; exact hm
          refine ⟨_, run m hmx' hbm (Nat.le_trans hmn hle), ?_⟩
          rw [if_pos hm1.1]
          simp only [vrel]
          exact ⟨_, by rw [show b - a' = 0 by omega, show m - a' = 0 by omega]⟩
        · simp only [Option.some.injEq] at hv; subst hv
          have fin : ∀ m', abnd mx cap = some m' → b ≤ m' → m' ≤ cap → ∃ rv, (Instr.sliceAt t (.slice (some ⟨b0, o0, none⟩) n cap) rlo rhi rmx).run P w = .ok rv w ∧ vrel G (.sl id rr (off + a' * i.size) (b - a') i.size) rv := by
            intro m' h1 h2 h3
            refine ⟨_, run m' h1 h2 h3, ?_⟩
            by_cases hm' : m' = a'
            · rw [if_pos hm']
              exact vrel_sl hok (by omega) (.inl (by omega))
            · rw [if_neg hm']
              refine vrel_sl hok (by omega) (.inr ?_)
              rcases hcap with h | ⟨hb', ho', hown⟩
              · omega
              · refine ⟨hb', by omega, ?_⟩
                have : a' * i.size + (m' - a') * i.size = m' * i.size := by rw [← Nat.add_mul]; congr 1; omega
                have h5 : m' * i.size ≤ cap * i.size := Nat.mul_le_mul_right _ h3
                omega
          cases mx with
          | none => exact fin cap rfl (by simp [abnd] at hm; omega) (Nat.le_refl _)
          | some y => exact fin m (by rw [abnd_indep y cap n]; exact hm) hbm (by omega)
      · cases hv
    · cases hv
  · rename_i n esz id rr o
    simp only [vrel] at hx
    obtain ⟨hok, rfl⟩ := hx
    obtain ⟨e, i, hu, hi, rfl⟩ := slKind_arr hk
    split at hv
    · rename_i b a' m hb ha hm
      split at hv
      · rename_i hcc
        split at hv
        · rename_i r' cs he
          split at hv
          · rename_i hr
            obtain ⟨rfl, hlen⟩ := hr
            simp only [Option.some.injEq] at hv; subst hv
            have := bounds_run (P := P) (w := w) (isS := false) (len := n) (cap := n) hlo hhi hmx ha hb hm hcc.1 hcc.2.1 hcc.2.2 hh
            obtain ⟨_, hown, _⟩ := r.cells he
            refine ⟨.slice (some (if m = a' then ⟨G.blk id r', o, none⟩ else ⟨G.blk id r', o + a' * i.size, none⟩)) (b - a') (m - a'), ?_, ?_⟩
            · simp only [Instr.sliceAt, Sem.run_bind, run_underlying hu, Result.andThen_ok, Instr.sureAddr, this, run_sizeOf hi, Sem.run_pure, addr_add]
            · by_cases hm' : m = a'
              · rw [if_pos hm']
                exact vrel_sl hok (by omega) (.inl (by omega))
              · rw [if_neg hm']
                refine vrel_sl hok (by omega) (.inr ⟨rfl, rfl, ?_⟩)
                have : a' * i.size + (m - a') * i.size = m * i.size := by rw [← Nat.add_mul]; congr 1; omega
                have h5 : m * i.size ≤ n * i.size := Nat.mul_le_mul_right _ hcc.2.2
                omega
          · cases hv
        · cases hv
      · cases hv
    · cases hv
  · cases hv

/-- What a slice holds. -/
def sread (h : AHeap) (esz : Nat) (x : AV) : Option (List AV) :=
  match x with
  | .lst cs n => if cs.length = n * esz then some cs else none
  | .sl i r off n e => match h.get i with
    | some (.cells r' cs) => if r' = r ∧ e = esz ∧ off + n * esz ≤ cs.length then some ((cs.drop off).take (n * esz)) else none
    | _ => none
  | .nils => some []
  | .emp => some []
  | _ => none
def slen (x : AV) : Option Nat :=
  match x with
  | .lst _ n => some n
  | .sl _ _ _ n _ => some n
  | .nils => some 0
  | .emp => some 0
  | _ => none
theorem slen_run {G : Ghost} {x : AV} {a : Value} {n : Nat} (hx : vrel G x a) (hn : slen x = some n) : ∃ ad cap, a = .slice ad n cap ∧ n ≤ cap := by
  unfold slen at hn
  split at hn <;> first | (cases hn; done) | (simp only [Option.some.injEq] at hn; subst hn; simp only [vrel] at hx)
  · obtain ⟨b, o, cap, rfl, hle, _⟩ := hx; exact ⟨_, cap, rfl, hle⟩
  · obtain ⟨_, b, o, cap, rfl, hle, _⟩ := hx; exact ⟨_, cap, rfl, hle⟩
  · exact ⟨none, 0, hx, Nat.le_refl _⟩
  · obtain ⟨ad, rfl⟩ := hx; exact ⟨some ad, 0, rfl, Nat.le_refl _⟩
/-- The first cells of a slice. -/
theorem sread_run {G : Ghost} {h : AHeap} {w : World} {P : Program} (r : Rel G h w) {esz n : Nat} {x : AV} {a : Value} {cs : List AV} (hx : vrel G x a) (hn : slen x = some n) (hs : sread h esz x = some cs) :
    cs.length = n * esz ∧ ∀ m, m ≤ n → ∃ rs, lrel G (cs.take (m * esz)) rs ∧ (Builtin.firstCells esz m a).run P w = .ok rs.toArray w := by
  unfold sread at hs
  split at hs
  · rename_i cs' n'
    split at hs
    · rename_i hl
      simp only [Option.some.injEq] at hs; subst hs
      simp only [slen, Option.some.injEq] at hn; subst hn
      refine ⟨hl, fun m hm => ?_⟩
      simp only [vrel] at hx
      obtain ⟨b, o, cap, rfl, hle, hc⟩ := hx
      have hmm : m * esz ≤ cs'.length := by rw [hl]; exact Nat.mul_le_mul_right _ hm
      exact r.readImm P hc (m * esz) hmm
    · cases hs
  · rename_i i k off n' e
    split at hs
    · rename_i k' cs' he
      split at hs
      · rename_i hc
        obtain ⟨rfl, rfl, hl⟩ := hc
        simp only [Option.some.injEq] at hs; subst hs
        simp only [slen, Option.some.injEq] at hn; subst hn
        refine ⟨by simp; omega, fun m hm => ?_⟩
        simp only [vrel] at hx
        obtain ⟨hok, b, o, cap, rfl, hle, hcap⟩ := hx
        have hmm : m * e ≤ n' * e := Nat.mul_le_mul_right _ hm
        rw [List.take_take, Nat.min_eq_left hmm]
        rcases hcap with h0 | ⟨rfl, rfl, hown⟩
        · have : m = 0 := by omega
          subst this
          refine ⟨[], by simp only [Nat.zero_mul, List.take_zero, lrel], ?_⟩
          simp [Builtin.firstCells, loadCells, loadCellsFrom]
        · exact r.readCells P he o (m * e) (by omega)
      · cases hs
    · cases hs
  · simp only [Option.some.injEq] at hs; subst hs
    simp only [slen, Option.some.injEq] at hn; subst hn
    simp only [vrel] at hx; subst hx
    refine ⟨by simp, fun m hm => ⟨[], by simp only [List.take_nil, lrel], ?_⟩⟩
    simp [Builtin.firstCells]
  · simp only [Option.some.injEq] at hs; subst hs
    simp only [slen, Option.some.injEq] at hn; subst hn
    simp only [vrel] at hx
    obtain ⟨ad, rfl⟩ := hx
    refine ⟨by simp, fun m hm => ⟨[], by simp only [List.take_nil, lrel], ?_⟩⟩
    have : m = 0 := by omega
    subst this
    simp [Builtin.firstCells, loadCells, loadCellsFrom]
  · cases hs

/-- Bytes as cells. -/
def ofBytes (s : List UInt8) : List AV := s.map fun c => .int .u8 c.toNat
def toBytes : List AV → Option (List UInt8)
  | [] => some []
  | .int .u8 n :: r => (toBytes r).map (UInt8.ofNat n.toNat :: ·)
  | _ :: _ => none
theorem toBytes_ofBytes : ∀ (s : List UInt8), toBytes (ofBytes s) = some s
  | [] => rfl
  | c :: s => by
    show (toBytes (ofBytes s)).map _ = _
    rw [toBytes_ofBytes s]; simp
theorem ofBytes_length (s : List UInt8) : (ofBytes s).length = s.length := by simp [ofBytes]
theorem lrel_ofBytes {G : Ghost} : ∀ (s : List UInt8), lrel G (ofBytes s) (s.map fun c => .int .u8 c.toNat)
  | [] => by simp only [ofBytes, List.map_nil, lrel]
  | c :: s => by
    simp only [ofBytes, List.map_cons, lrel, vrel]
    exact ⟨_, _, rfl, rfl, lrel_ofBytes s⟩

end Go.Own

/- append, copy, make, literals; conversions; len. -/
namespace Go.Own
open Go.RowKit

/-- What is appended, and how many elements that is. -/
def anews (h : AHeap) (esz : Nat) (x : AV) : Option (List AV × Nat) :=
  match x with
  | .str s => if esz = 1 then some (ofBytes s, s.length) else none
  | x => match sread h esz x, slen x with
    | some cs, some n => some (cs, n)
    | _, _ => none
theorem lenOf_run {G : Ghost} {h : AHeap} {P : Program} {w : World} {esz n : Nat} {x : AV} {a : Value} {cs : List AV} (hx : vrel G x a) (hn : anews h esz x = some (cs, n)) : (Builtin.lenOf a).run P w = .ok n w := by
  unfold anews at hn
  split at hn
  · rename_i s
    split at hn
    · simp only [Option.some.injEq, Prod.mk.injEq] at hn
      simp only [vrel] at hx; subst hx
      simp [Builtin.lenOf, ByteArray.size, hn.2]
    · cases hn
  · split at hn
    · rename_i cs' n' h1 h2
      simp only [Option.some.injEq, Prod.mk.injEq] at hn
      obtain ⟨ad, cap, rfl, _⟩ := slen_run hx h2
      simp [Builtin.lenOf, hn.2]
    · cases hn
theorem anews_run {G : Ghost} {h : AHeap} {P : Program} {w : World} (r : Rel G h w) {esz n : Nat} {x : AV} {a : Value} {cs : List AV} (hx : vrel G x a) (hn : anews h esz x = some (cs, n)) :
    cs.length = n * esz ∧ ∀ m, m ≤ n → ∃ rs, lrel G (cs.take (m * esz)) rs ∧ (Builtin.firstCells esz m a).run P w = .ok rs.toArray w := by
  unfold anews at hn
  split at hn
  · rename_i s
    split at hn
    · rename_i he
      simp only [Option.some.injEq, Prod.mk.injEq] at hn
      obtain ⟨rfl, rfl⟩ := hn
      simp only [vrel] at hx; subst hx
      refine ⟨by rw [ofBytes_length, he, Nat.mul_one], fun m hm => ?_⟩
      subst he
      refine ⟨(s.take m).map (fun c => .int .u8 c.toNat), ?_, ?_⟩
      · have := lrel_ofBytes (G := G) (s.take m)
        simpa [ofBytes, List.map_take] using this
      · have he : (ByteArray.mk s.toArray).extract 0 m = ⟨(s.take m).toArray⟩ := by rw [ByteArray.extract_mk]; simp
        simp [Builtin.firstCells, he]
    · cases hn
  · split at hn
    · rename_i cs' n' h1 h2
      simp only [Option.some.injEq, Prod.mk.injEq] at hn
      obtain ⟨rfl, rfl⟩ := hn
      exact sread_run r hx h2 h1
    · cases hn
theorem all_news {G : Ghost} {h : AHeap} {P : Program} {w : World} (r : Rel G h w) {esz n : Nat} {x : AV} {a : Value} {cs : List AV} (hx : vrel G x a) (hn : anews h esz x = some (cs, n)) :
    cs.length = n * esz ∧ ∃ rs, lrel G cs rs ∧ (Builtin.firstCells esz n a).run P w = .ok rs.toArray w := by
  obtain ⟨h1, h2⟩ := anews_run (P := P) r hx hn
  obtain ⟨rs, h3, h4⟩ := h2 n (Nat.le_refl _)
  exact ⟨h1, rs, by rwa [List.take_of_length_le (by omega)] at h3, h4⟩

theorem growBy_le (N : Nat) : ∀ (k c : Nat), c ≤ 2 * N + 200 → Builtin.growBy N k c ≤ 2 * N + 200
  | 0, c, h => h
  | k + 1, c, h => by
    simp only [Builtin.growBy]
    split
    · exact h
    · exact growBy_le N k _ (by omega)
theorem nextcap_le {need cap : Nat} (h : cap < need) : Builtin.nextslicecap need cap ≤ 2 * need + 200 := by
  unfold Builtin.nextslicecap
  split
  · omega
  · split
    · omega
    · exact growBy_le _ _ _ (by omega)

/-- So many bytes a slice may take. -/
def room : Nat := 35184372088832
def isIntD : TypeDesc → Bool
  | .int _ => true
  | _ => false
/-- The type of append's slice: its element's cells and bytes; of what is appended: no number. -/
def apKind (P : Program) (ts : Array TypeId) : Option (TypeId × Nat × Nat) :=
  match ts[0]?, ts[1]? with
  | some t, some x => match P.underlying t, P.underlying x with
    | some (.slice e), some d => match P.info? e, azero P e with
      | some i, some zc => if isIntD d = false ∧ 0 < i.bytes ∧ i.bytes ≤ 1073741824 ∧ 0 < i.size ∧ zc.length = i.size then some (e, i.size, i.bytes) else none
      | _, _ => none
    | _, _ => none
  | _, _ => none
def aappend (esz bytes : Nat) (s x : AV) (h : AHeap) : Option (AV × AHeap) :=
  match anews h esz x with
  | some (news, k) => match s with
    | .nils => if k = 0 then some (.nils, h) else if k * bytes ≤ room then some (.sl h.next 0 0 k esz, h.push (.cells 0 news)) else none
    | .emp => if k = 0 then some (.emp, h) else if k * bytes ≤ room then some (.sl h.next 0 0 k esz, h.push (.cells 0 news)) else none
    | .sl i r off n e => match h.get i with
      | some (.cells r' cs) => if r' = r ∧ off = 0 ∧ e = esz ∧ cs.length = n * esz then
          (if k = 0 then some (s, h) else if (n + k) * bytes ≤ room ∧ news.all AV.scalar = true then some (.sl i (r + 1) 0 (n + k) esz, h.set i (.cells (r + 1) (cs ++ news))) else none)
        else none
      | _ => none
    | _ => none
  | none => none

theorem lrel_take_append {G : Ghost} {cs : List AV} {rs rest : List Value} (h : lrel G cs rs) : lrel G cs ((rs ++ rest).take cs.length) := by
  rw [← lrel_length h, List.take_left']
  · exact h
  · rfl

theorem apKind_spec {P : Program} {ts : Array TypeId} {e : TypeId} {esz bytes : Nat} (hk : apKind P ts = some (e, esz, bytes)) :
    ∃ t x D i zc, ts[0]? = some t ∧ ts[1]? = some x ∧ P.underlying t = some (.slice e) ∧ P.underlying x = some D ∧ isIntD D = false ∧ P.info? e = some i ∧ i.size = esz ∧ i.bytes = bytes ∧
      azero P e = some zc ∧ zc.length = esz ∧ 0 < bytes ∧ bytes ≤ 1073741824 ∧ 0 < esz := by
  unfold apKind at hk
  split at hk
  · rename_i t x h0 h1
    split at hk
    · rename_i e' D ht hx
      split at hk
      · rename_i i zc hi hz
        split at hk
        · rename_i hc
          simp only [Option.some.injEq, Prod.mk.injEq] at hk
          obtain ⟨rfl, rfl, rfl⟩ := hk
          exact ⟨t, x, D, i, zc, h0, h1, ht, hx, hc.1, hi, rfl, rfl, hz, hc.2.2.2.2, hc.2.1, hc.2.2.1, hc.2.2.2.1⟩
        · cases hk
      · cases hk
    · cases hk
  · cases hk

theorem zeroCells_size (z : Array Value) (n : Nat) : (Builtin.zeroCells z n).size = n * z.size := by simp [Builtin.zeroCells]

section
variable {P : Program} {ts : Array TypeId} {ty e : TypeId} {esz bytes : Nat}
/-- The arm in which there is no room. -/
theorem append_grows (hk : apKind P ts = some (e, esz, bytes)) {w : World} {a : Value} {base : Option Addr} {n cap k : Nat} {old rs : List Value}
    (hlen : ∀ w, (Builtin.lenOf a).run P w = .ok k w) (hold : ∀ w', w' = w.drew → (Builtin.firstCells esz n (.slice base n cap)).run P w' = .ok old.toArray w')
    (hnew : ∀ w', w' = w.drew → (Builtin.firstCells esz k a).run P w' = .ok rs.toArray w') (ho : old.length = n * esz) (hr : rs.length = k * esz) (hroom : (n + k) * bytes ≤ room) (hcap : cap < n + k) :
    ∃ row c, (Builtin.append_ ts ty #[.slice base n cap, a]).run P w = .ok (.slice (some ⟨w.heap.size, 0, none⟩) (n + k) c) (w.drew.alloc (.cells row e (0, 0))) ∧ n + k ≤ c ∧ row.size = c * esz ∧
      row.toList.take (old.length + rs.length) = old ++ rs := by
  obtain ⟨t, x, D, i, zc, h0, h1, ht, hx, hD, hi, rfl, rfl, hz, hzl, hb0, hb1, hs0⟩ := apKind_spec hk
  obtain ⟨z, hzr, hzrel⟩ := azero_run (G := ⟨0, (w, false), fun _ _ => False, fun _ _ => 0, fun _ _ => 0, fun _ _ => none, fun _ _ => (#[], 0), fun _ => none⟩) (w := w.drew) hz
  have hzsz : z.cells.size = i.size := by have := lrel_length hzrel; simpa [hzl] using this
  have hneed : ¬ (n + k ≤ cap) := by omega
  have hnc : ¬ (Builtin.nextslicecap (n + k) cap * i.bytes > 2 ^ 48) := by
    have hh := nextcap_le hcap
    have : Builtin.nextslicecap (n + k) cap * i.bytes ≤ (2 * (n + k) + 200) * i.bytes := Nat.mul_le_mul_right _ hh
    have h3 : (2 * (n + k) + 200) * i.bytes = 2 * ((n + k) * i.bytes) + 200 * i.bytes := by rw [Nat.add_mul, Nat.mul_assoc]
    unfold room at hroom
    omega
  have hmx : ¬ (((n + k : Nat) : Int) > IntKind.i64.max ∧ (False ∨ i.bytes = 0)) := by
    rintro ⟨_, h | h⟩
    · exact h
    · omega
  let c := (Question.appendCap (n + k) cap e).cut (w.tape w.drawn (Question.appendCap (n + k) cap e))
  have hc : n + k ≤ c := Nat.le_add_right _ _
  have hzr' : (zeroValue e).run P w.drew = .ok z w.drew := hzr
  refine ⟨(old ++ rs).toArray ++ Builtin.zeroCells z.cells (c - (n + k)), c, ?_, hc, ?_, ?_⟩
  · unfold Builtin.append_
    have e0 : (#[Value.slice base n cap, a] : Array Value)[0]? = some (.slice base n cap) := rfl
    have e1 : (#[Value.slice base n cap, a] : Array Value)[1]? = some a := rfl
    cases D <;> first | (simp [isIntD] at hD; done) | skip
    all_goals
     simp only [h0, h1, e0, e1, Sem.run_bind, run_underlying ht, Result.andThen_ok, run_sizeOf hi, run_underlying hx, Sem.run_pure, Bool.false_eq_true, if_false, hlen, hneed, run_typeInfo hi, Bool.not_false, if_true, hmx, hnc,
       run_choose, Question.forced, run_askRoom]
     rw [hold { w with drawn := w.drawn + 1 } rfl]
     simp only [Result.andThen_ok]
     rw [hnew { w with drawn := w.drawn + 1 } rfl]
     simp only [Result.andThen_ok]
     have hzr'' : (zeroValue e).run P { w with drawn := w.drawn + 1 } = .ok z { w with drawn := w.drawn + 1 } := hzr'
     rw [hzr'']
     simp only [Result.andThen_ok, newRow, Sem.run_bind, run_newObj, Sem.run_pure]
     simp only [List.append_toArray]
     rfl
  · simp only [Array.size_append, List.size_toArray, List.length_append, ho, hr, zeroCells_size, hzsz]
    have : c * i.size = (n + k) * i.size + (c - (n + k)) * i.size := by rw [← Nat.add_mul]; congr 1; omega
    rw [this, Nat.add_mul]
  · simp only [Array.toList_append]
    rw [List.take_left']
    simp [ho, hr]
/-- The arm in which there is room. -/
theorem append_room (hk : apKind P ts = some (e, esz, bytes)) {w : World} {a : Value} {b o : Nat} {n cap k : Nat} {rs : List Value}
    (hlen : ∀ w, (Builtin.lenOf a).run P w = .ok k w) (hnew : (Builtin.firstCells esz k a).run P w = .ok rs.toArray w) (hcap : n + k ≤ cap) :
    (Builtin.append_ ts ty #[.slice (some ⟨b, o, none⟩) n cap, a]).run P w = ((storeCells ⟨b, o + n * esz, none⟩ rs).run P w).andThen fun _ w' => .ok (.slice (some ⟨b, o, none⟩) (n + k) cap) w' := by
  obtain ⟨t, x, D, i, zc, h0, h1, ht, hx, hD, hi, rfl, rfl, hz, hzl, hb0, hb1, hs0⟩ := apKind_spec hk
  unfold Builtin.append_
  have e0 : (#[Value.slice (some ⟨b, o, none⟩) n cap, a] : Array Value)[0]? = some (.slice (some ⟨b, o, none⟩) n cap) := rfl
  have e1 : (#[Value.slice (some ⟨b, o, none⟩) n cap, a] : Array Value)[1]? = some a := rfl
  cases D <;> first | (simp [isIntD] at hD; done) | skip
  all_goals
   simp only [h0, h1, e0, e1, Sem.run_bind, run_underlying ht, Result.andThen_ok, run_sizeOf hi, run_underlying hx, Sem.run_pure, Bool.false_eq_true, if_false, hlen, hcap, Bool.not_false, if_true, hnew, addr_add]
theorem append_room_nil (hk : apKind P ts = some (e, esz, bytes)) {w : World} {a : Value} {n cap k : Nat} {rs : List Value}
    (hlen : ∀ w, (Builtin.lenOf a).run P w = .ok k w) (hnew : (Builtin.firstCells esz k a).run P w = .ok rs.toArray w) (hcap : n + k ≤ cap) :
    (Builtin.append_ ts ty #[.slice none n cap, a]).run P w = .ok (.slice none (n + k) cap) w := by
  obtain ⟨t, x, D, i, zc, h0, h1, ht, hx, hD, hi, rfl, rfl, hz, hzl, hb0, hb1, hs0⟩ := apKind_spec hk
  unfold Builtin.append_
  have e0 : (#[Value.slice none n cap, a] : Array Value)[0]? = some (.slice none n cap) := rfl
  have e1 : (#[Value.slice none n cap, a] : Array Value)[1]? = some a := rfl
  cases D <;> first | (simp [isIntD] at hD; done) | skip
  all_goals
   simp only [h0, h1, e0, e1, Sem.run_bind, run_underlying ht, Result.andThen_ok, run_sizeOf hi, run_underlying hx, Sem.run_pure, Bool.false_eq_true, if_false, hlen, hcap, Bool.not_false, if_true, hnew]
end

theorem append_room_emp {P : Program} {ts : Array TypeId} {ty e : TypeId} {esz bytes : Nat} (hk : apKind P ts = some (e, esz, bytes)) {w : World} {a : Value} {ad : Addr}
    (hlen : ∀ w, (Builtin.lenOf a).run P w = .ok 0 w) (hnew : (Builtin.firstCells esz 0 a).run P w = .ok ([] : List Value).toArray w) :
    (Builtin.append_ ts ty #[.slice (some ad) 0 0, a]).run P w = .ok (.slice (some ad) 0 0) w := by
  obtain ⟨t, x, D, i, zc, h0, h1, ht, hx, hD, hi, rfl, rfl, hz, hzl, hb0, hb1, hs0⟩ := apKind_spec hk
  unfold Builtin.append_
  have e0 : (#[Value.slice (some ad) 0 0, a] : Array Value)[0]? = some (.slice (some ad) 0 0) := rfl
  have e1 : (#[Value.slice (some ad) 0 0, a] : Array Value)[1]? = some a := rfl
  cases D <;> first | (simp [isIntD] at hD; done) | skip
  all_goals
   simp only [h0, h1, e0, e1, Sem.run_bind, run_underlying ht, Result.andThen_ok, run_sizeOf hi, run_underlying hx, Sem.run_pure, Bool.false_eq_true, if_false, hlen, Nat.add_zero, Nat.le_refl, Bool.not_false, if_true, hnew, storeCells]
/-- What is read stays so behind a draw. -/
theorem loadCellsFrom_drew {P : Program} {a : Addr} {w : World} : ∀ (n i : Nat) (acc rs : Array Value), (loadCellsFrom a i n acc).run P w = .ok rs w → (loadCellsFrom a i n acc).run P w.drew = .ok rs w.drew
  | 0, _, _, _, h => by simp [loadCellsFrom] at h ⊢; exact h
  | n + 1, i, acc, rs, h => by
    simp only [loadCellsFrom, Sem.run_bind, run_load, World.cell?_drew] at h ⊢
    cases hc : w.cell? (a.add i) with
    | some v =>
      simp only [hc, Result.andThen_ok] at h ⊢
      exact loadCellsFrom_drew n (i + 1) _ _ h
    | none =>
      simp only [hc] at h ⊢
      have hf : w.drew.farLoad P (a.add i) (Mode.plain == .atomic) = w.farLoad P (a.add i) (Mode.plain == .atomic) := rfl
      rw [hf]
      cases hl : w.farLoad P (a.add i) (Mode.plain == .atomic) with
      | ok p =>
        obtain ⟨v, q⟩ := p
        simp only [hl, Result.andThen_ok] at h ⊢
        exact loadCellsFrom_drew n (i + 1) _ _ h
      | error hh => simp [hl] at h
theorem firstCells_drew {P : Program} {esz k : Nat} {a : Value} {w : World} {rs : Array Value} (h : (Builtin.firstCells esz k a).run P w = .ok rs w) : (Builtin.firstCells esz k a).run P w.drew = .ok rs w.drew := by
  unfold Builtin.firstCells at h ⊢
  split at h
  · exact loadCellsFrom_drew _ _ _ _ h
  · simp at h ⊢; exact h
  · simp at h ⊢; exact h
  · simp at h

theorem lenOf_any {G : Ghost} {h : AHeap} {P : Program} {esz n : Nat} {x : AV} {a : Value} {cs : List AV} (hx : vrel G x a) (hn : anews h esz x = some (cs, n)) : ∀ w, (Builtin.lenOf a).run P w = .ok n w := fun _ => lenOf_run hx hn

theorem lrel_take_eq {G : Ghost} {cs : List AV} {rs l : List Value} {n : Nat} (h : lrel G cs rs) (hl : l.take n = rs) (hn : n = cs.length) : lrel G cs (l.take cs.length) := by
  rw [← hn, hl]; exact h

/-- append. -/
theorem aappend_run {G : Ghost} {h h' : AHeap} {P : Program} {w : World} (r : Rel G h w) {ts : Array TypeId} {ty e : TypeId} {esz bytes : Nat} {s x v : AV} {rs rx : Value}
    (hk : apKind P ts = some (e, esz, bytes)) (hs : vrel G s rs) (hx : vrel G x rx) (ha : aappend esz bytes s x h = some (v, h')) :
    ∃ rv w' G', (Builtin.append_ ts ty #[rs, rx]).run P w = .ok rv w' ∧ Rel G' h' w' ∧ vrel G' v rv ∧ G.le G' := by
  obtain ⟨t, xt, D, i, zc, h0, h1, ht, hxt, hD, hi, hsz, hby, hz, hzl, hb0, hb1, hs0⟩ := apKind_spec hk
  unfold aappend at ha
  split at ha
  · rename_i news k hn
    have hlen := lenOf_any (P := P) hx hn
    obtain ⟨hnl, nr, hnr, hnrun⟩ := all_news (P := P) r hx hn
    have hnrl := lrel_length hnr
    have hnrun' : ∀ w', w' = w.drew → (Builtin.firstCells esz k rx).run P w' = .ok nr.toArray w' := by
      rintro w' rfl
      obtain ⟨_, nr', hnr', hnrun'⟩ := all_news (P := P) r.drew hx hn
      have e1 := firstCells_drew (P := P) (esz := esz) (k := k) (a := rx) hnrun
      exact e1
    -- a fresh row
    have fresh : ∀ (base : Option Addr) (v' : AV) (hh : AHeap), rs = .slice base 0 0 → k ≠ 0 → k * bytes ≤ room → v' = .sl h.next 0 0 k esz → hh = h.push (.cells 0 news) →
        ∃ rv w' G', (Builtin.append_ ts ty #[rs, rx]).run P w = .ok rv w' ∧ Rel G' hh w' ∧ vrel G' v' rv ∧ G.le G' := by
      intro base v' hh hb hk0 hroom hv hh'
      subst hb; subst hv; subst hh'
      have hz0 : ∀ w', w' = w.drew → (Builtin.firstCells esz 0 (.slice base 0 0)).run P w' = .ok ([] : List Value).toArray w' := by
        rintro w' rfl
        cases base <;> simp [Builtin.firstCells, loadCells, loadCellsFrom]
      obtain ⟨row, c, hrun, hc, hrow, htake⟩ := append_grows (ty := ty) hk (n := 0) (cap := 0) hlen hz0 hnrun' (by simp) (by rw [hnrl, hnl]) (by simpa using hroom) (by omega)
      simp only [List.length_nil, Nat.zero_add, List.nil_append] at htake hrun hc
      have hle : news.length ≤ row.size := by rw [hrow, hnl]; exact Nat.mul_le_mul_right _ hc
      obtain ⟨R, L⟩ := r.drew.newCells (row := row) (el := e) (fz := (0, 0)) (.inr (Nat.le_refl _)) hle (lrel_take_eq hnr htake (by rw [hnrl]))
      refine ⟨_, _, _, hrun, R, ?_, L⟩
      refine vrel_sl (Ghost.add_ok ..) hc (.inr ⟨(Ghost.add_blk ..).symm, rfl, ?_⟩)
      rw [Ghost.add_own, hrow]; omega
    split at ha
    · simp only [vrel] at hs
      split at ha
      · rename_i hk0
        simp only [Option.some.injEq, Prod.mk.injEq] at ha
        obtain ⟨rfl, rfl⟩ := ha
        subst hs; subst hk0
        exact ⟨_, w, G, append_room_nil hk hlen hnrun (Nat.le_refl _), r, by simp only [vrel, Nat.add_zero], .refl G⟩
      · rename_i hk0
        split at ha
        · rename_i hroom
          simp only [Option.some.injEq, Prod.mk.injEq] at ha
          exact fresh none v h' hs hk0 hroom ha.1.symm ha.2.symm
        · cases ha
    · simp only [vrel] at hs
      obtain ⟨ad, hs⟩ := hs
      split at ha
      · rename_i hk0
        simp only [Option.some.injEq, Prod.mk.injEq] at ha
        obtain ⟨rfl, rfl⟩ := ha
        subst hs; subst hk0
        have hnr0 : nr = [] := List.length_eq_zero_iff.1 (by rw [hnrl, hnl]; simp)
        subst hnr0
        refine ⟨_, w, G, append_room_emp hk hlen hnrun, r, by simp only [vrel]; exact ⟨ad, rfl⟩, .refl G⟩
      · rename_i hk0
        split at ha
        · rename_i hroom
          simp only [Option.some.injEq, Prod.mk.injEq] at ha
          exact fresh (some ad) v h' hs hk0 hroom ha.1.symm ha.2.symm
        · cases ha
    · rename_i id rr off n e'
      simp only [vrel] at hs
      obtain ⟨hok, b, o, cap, rfl, hncap, hcap⟩ := hs
      split at ha
      · rename_i r' cs he
        split at ha
        · rename_i hc
          obtain ⟨rfl, rfl, rfl, hcl⟩ := hc
          obtain ⟨_, hown, _⟩ := r.cells he
          split at ha
          · rename_i hk0
            simp only [Option.some.injEq, Prod.mk.injEq] at ha
            obtain ⟨rfl, rfl⟩ := ha
            subst hk0
            have hnr0 : nr = [] := List.length_eq_zero_iff.1 (by rw [hnrl, hnl]; simp)
            subst hnr0
            exact ⟨_, w, G, (append_room (ty := ty) hk hlen hnrun (by omega)).trans rfl, r, vrel_sl hok hncap hcap, .refl G⟩
          · rename_i hk0
            split at ha
            · rename_i hc2
              obtain ⟨hroom, hall⟩ := hc2
              simp only [Option.some.injEq, Prod.mk.injEq] at ha
              obtain ⟨rfl, rfl⟩ := ha
              by_cases hfit : n + k ≤ cap
              · -- in place
                rcases hcap with h00 | ⟨rfl, rfl, hown'⟩
                · omega
                · have hle' : cs.length + news.length ≤ G.own id r' := by
                    have h5 : (n + k) * e' ≤ cap * e' := Nat.mul_le_mul_right _ hfit
                    rw [Nat.add_mul] at h5
                    omega
                  obtain ⟨R1, L1⟩ := r.bump he
                  have hblk := Ghost.add_blk G id (r' + 1) (G.blk id r') (G.own id r') (#[], 0)
                  have hownb := Ghost.add_own G id (r' + 1) (G.blk id r') (G.own id r') (#[], 0)
                  obtain ⟨W1, W2⟩ := R1.write P (i := id) (k := r' + 1) (cs := cs) (by rw [set_get, if_pos rfl]) (o := cs.length) (lrel_mono L1 _ _ hnr) hall (Nat.le_refl _) (by rw [hownb]; exact hle')
                  rw [hblk] at W1 W2
                  have hsp : splice cs cs.length news = cs ++ news := by simp [splice]
                  rw [hsp] at W2
                  rw [set_set] at W2
                  have hrun := append_room (ty := ty) (b := G.blk id r') (o := 0) hk hlen hnrun hfit
                  rw [Nat.zero_add, ← hcl, W1, Result.andThen_ok] at hrun
                  exact ⟨_, _, _, hrun, W2, vrel_sl (Ghost.add_ok ..) hfit (.inr ⟨hblk.symm, rfl, by rw [hownb]; exact hown'⟩), L1⟩
              · -- a new row
                have hold : ∃ os : List Value, lrel G cs os ∧ ∀ w', w' = w.drew → (Builtin.firstCells e' n (.slice (some ⟨b, o, none⟩) n cap)).run P w' = .ok os.toArray w' := by
                  have hx' : vrel G (.sl id r' 0 n e') (.slice (some ⟨b, o, none⟩) n cap) := vrel_sl hok hncap hcap
                  obtain ⟨_, hh⟩ := sread_run (P := P) r (esz := e') (n := n) (cs := cs) hx' rfl (by simp only [sread, he, true_and, Nat.zero_add, hcl, Nat.le_refl, if_true, List.drop_zero]; rw [List.take_of_length_le (by omega)])
                  obtain ⟨os, h3, h4⟩ := hh n (Nat.le_refl _)
                  rw [List.take_of_length_le (by omega)] at h3
                  exact ⟨os, h3, fun w' hw' => by subst hw'; exact firstCells_drew h4⟩
                obtain ⟨os, hos, hosrun⟩ := hold
                obtain ⟨row, c, hrun, hc, hrow, htake⟩ := append_grows (ty := ty) hk (n := n) (cap := cap) hlen hosrun hnrun' (by rw [lrel_length hos, hcl]) (by rw [hnrl, hnl]) hroom (by omega)
                have hle : (cs ++ news).length ≤ row.size := by
                  rw [hrow, List.length_append, hcl, hnl, ← Nat.add_mul]; exact Nat.mul_le_mul_right _ hc
                obtain ⟨R, L⟩ := r.drew.regrow he (row := row) (el := e) (fz := (0, 0)) (cs' := cs ++ news) (.inr (Nat.le_refl _)) hle
                  (lrel_take_eq (lrel_append hos hnr) htake (by rw [List.length_append, lrel_length hos, hnrl]))
                refine ⟨_, _, _, hrun, R, ?_, L⟩
                refine vrel_sl (Ghost.add_ok ..) hc (.inr ⟨(Ghost.add_blk ..).symm, rfl, ?_⟩)
                rw [Ghost.add_own, hrow]; omega
            · cases ha
        · cases ha
      · cases ha
    · cases ha
  · cases ha

end Go.Own

/- copy, make, literals; conversions; len; new variables. -/
namespace Go.Own
open Go.RowKit

/-- A new variable that holds a value. -/
theorem box_run {G : Ghost} {h : AHeap} {P : Program} {w : World} (r : Rel G h w) {t : TypeId} {x : AV} {a : Value} {cs : List AV} (hx : vrel G x a) (hc : x.cells? = some cs) :
    ∃ rv w' G', (Instr.box t a).run P w = .ok rv w' ∧ Rel G' (h.push (.cells 0 cs)) w' ∧ vrel G' (.ptr h.next 0 0) rv ∧ G.le G' := by
  have hr := vrel_cells hc hx
  have hl : a.cells.size = cs.length := by have := lrel_length hr; simpa using this
  obtain ⟨R, L⟩ := r.newCells (row := a.cells) (el := t) (fz := (0, 0)) (cs := cs) (.inr (Nat.le_refl _)) (by omega) (by rw [List.take_of_length_le (by simp; omega)]; exact hr)
  refine ⟨.pointer (some ⟨w.heap.size, 0, none⟩), _, _, ?_, R, ?_, L⟩
  · simp [Instr.box, newVar, newRow]
  · have := vrel_ptr (G := G.add h.next 0 w.heap.size a.cells.size (#[], 0)) (o := 0) (Ghost.add_ok ..)
    rwa [Ghost.add_blk] at this
theorem alloc_run {G : Ghost} {h : AHeap} {P : Program} {w : World} (r : Rel G h w) {t : TypeId} {cs : List AV} (hz : azero P t = some cs) :
    ∃ rv w' G', (Instr.alloc t true (.tuple #[])).run P w = .ok rv w' ∧ Rel G' (h.push (.cells 0 cs)) w' ∧ vrel G' (.ptr h.next 0 0) rv ∧ G.le G' := by
  obtain ⟨z, hz1, hr⟩ := azero_run (G := G) (w := w) hz
  have hl : z.cells.size = cs.length := by have := lrel_length hr; simpa using this
  obtain ⟨R, L⟩ := r.newCells (row := z.cells) (el := t) (fz := (0, 0)) (cs := cs) (.inr (Nat.le_refl _)) (by omega) (by rw [List.take_of_length_le (by simp; omega)]; exact hr)
  refine ⟨.pointer (some ⟨w.heap.size, 0, none⟩), _, _, ?_, R, ?_, L⟩
  · simp [Instr.alloc, hz1, newVar, newRow]
  · have := vrel_ptr (G := G.add h.next 0 w.heap.size z.cells.size (#[], 0)) (o := 0) (Ghost.add_ok ..)
    rwa [Ghost.add_blk] at this

/-- Parts put into cells: where each begins, how many cells it has. -/
def afill : List AV → List (Nat × Nat × AV) → Option (List AV)
  | cs, [] => some cs
  | cs, (off, n, v) :: r => match v.cells? with
    | some vs => if vs.length = n ∧ off + n ≤ cs.length then afill (splice cs off vs) r else none
    | none => none
theorem fill_step (off : Nat) : ∀ (vs : List Value) (k : Nat) (cells : Array Value), off + k + vs.length ≤ cells.size →
    ((vs.zipIdx k).foldl (fun cs (c, j) => cs.setIfInBounds (off + j) c) cells).toList = cells.toList.take (off + k) ++ vs ++ cells.toList.drop (off + k + vs.length)
  | [], k, cells, _ => by simp
  | v :: r, k, cells, h => by
    simp only [List.length_cons] at h
    rw [List.zipIdx_cons, List.foldl_cons, fill_step off r (k + 1) _ (by simp; omega)]
    simp only [Array.toList_setIfInBounds, List.length_cons]
    have hl : cells.toList.length = cells.size := by simp
    generalize cells.toList = l at hl
    apply List.ext_getElem?
    intro j
    simp only [List.getElem?_append, List.length_append, List.length_take, List.length_set, List.getElem?_take, List.getElem?_set, List.getElem?_drop, List.length_cons, List.getElem?_cons, hl]
    have m1 : min (off + (k + 1)) cells.size = off + (k + 1) := by omega
    have m2 : min (off + k) cells.size = off + k := by omega
    simp only [m1, m2]
    by_cases h1 : j < off + k
    · have a1 : j < off + (k + 1) := by omega
      have a2 : ¬ off + k = j := by omega
      have a3 : j < off + (k + 1) + r.length := by omega
      have a4 : j < off + k + (r.length + 1) := by omega
      simp [h1, a1, a2, a3, a4]
    · by_cases h2 : j = off + k
      · subst h2
        have a1 : off + k < off + (k + 1) := by omega
        have a3 : off + k < off + (k + 1) + r.length := by omega
        have a5 : off + k < cells.size := by omega
        simp [a1, a3, a5]
      · have a1 : ¬ j < off + (k + 1) := by omega
        by_cases h3 : j < off + (k + 1) + r.length
        · have a4 : j < off + k + (r.length + 1) := by omega
          have a5 : ¬ j - (off + k) = 0 := by omega
          simp [h1, a1, h3, a4, a5, show j - (off + k) - 1 = j - (off + (k + 1)) by omega]
        · have a4 : ¬ j < off + k + (r.length + 1) := by omega
          have a5 : ¬ off + k = off + (k + 1) + r.length + (j - (off + (k + 1) + r.length)) := by omega
          simp [h3, a4, a5, show off + k + (r.length + 1) + (j - (off + k + (r.length + 1))) = off + (k + 1) + r.length + (j - (off + (k + 1) + r.length)) by omega]

/-- The parts with their places, as the model has them. -/
def prel (G : Ghost) (place : Nat → Option (Nat × Nat)) : List (Nat × Nat × AV) → List (Nat × Value) → Prop
  | [], ps => ps = []
  | (off, n, v) :: r, ps => ∃ i u rest, ps = (i, u) :: rest ∧ place i = some (off, n) ∧ vrel G v u ∧ prel G place r rest
theorem afill_run {G : Ghost} {place : Nat → Option (Nat × Nat)} : ∀ {ps : List (Nat × Nat × AV)} {rps : List (Nat × Value)} {cs cs' : List AV} {cells : Array Value}, prel G place ps rps → lrel G cs cells.toList → afill cs ps = some cs' →
    ∃ cells', Instr.fill place cells rps = some cells' ∧ lrel G cs' cells'.toList
  | [], _, cs, cs', cells, hp, hc, ha => by
    simp only [prel] at hp; subst hp
    simp only [afill, Option.some.injEq] at ha; subst ha
    exact ⟨cells, rfl, hc⟩
  | (off, n, v) :: r, rps, cs, cs', cells, hp, hc, ha => by
    simp only [prel] at hp
    obtain ⟨i, u, rest, rfl, hpl, hv, hr⟩ := hp
    simp only [afill] at ha
    split at ha
    · rename_i vs hvs
      split at ha
      · rename_i hcond
        have hu := vrel_cells hvs hv
        have hul : u.cells.size = n := by have := lrel_length hu; rw [← hcond.1, ← this]; simp
        have hcl : cells.size = cs.length := by have := lrel_length hc; simpa using this
        have hstep := fill_step off u.cells.toList 0 cells (by simp [hul]; omega)
        have hnew : lrel G (splice cs off vs) (u.cells.zipIdx.foldl (fun cs (c, j) => cs.setIfInBounds (off + j) c) cells).toList := by
          have e : u.cells.zipIdx.foldl (fun cs (c, j) => cs.setIfInBounds (off + j) c) cells = (u.cells.toList.zipIdx 0).foldl (fun cs (c, j) => cs.setIfInBounds (off + j) c) cells := by
            rw [← Array.foldl_toList]; simp
          rw [e, hstep, Nat.add_zero]
          have h1 := lrel_append (lrel_append (lrel_take off hc) hu) (lrel_drop (off + vs.length) hc)
          have h2 : vs.length = u.cells.toList.length := (lrel_length hu).symm
          rw [splice]
          rw [h2] at h1 ⊢
          exact h1
        obtain ⟨cells', h3, h4⟩ := afill_run hr hnew ha
        refine ⟨cells', ?_, h4⟩
        simp only [Instr.fill, hpl]
        rw [if_neg (by simp [hul]; omega)]
        exact h3
      · cases ha
    · cases ha

/-- Where the parts of an aggregate begin, and how many cells they have. -/
def fieldPlaces (P : Program) : List Field → Option (List (Nat × Nat))
  | [] => some []
  | f :: fs => match P.info? f.type, fieldPlaces P fs with
    | some i, some l => some ((f.offset, i.size) :: l)
    | _, _ => none
theorem fieldPlaces_run {P : Program} {w : World} : ∀ {fs : List Field} {l : List (Nat × Nat)}, fieldPlaces P fs = some l → (fs.mapM (fun f => do pure (f.offset, ← sizeOf f.type) : Field → Sem (Nat × Nat))).run P w = .ok l w
  | [], l, h => by simp only [fieldPlaces, Option.some.injEq] at h; subst h; rfl
  | f :: fs, l, h => by
    simp only [fieldPlaces] at h
    split at h
    · rename_i i l' hi hl
      simp only [Option.some.injEq] at h; subst h
      simp only [List.mapM_cons, Sem.run_bind, run_sizeOf hi, Result.andThen_ok, Sem.run_pure]
      rw [fieldPlaces_run (w := w) hl]; rfl
    · cases h
/-- The place of part number i of a type's value. -/
def bplace (P : Program) (t : TypeId) (i : Nat) : Option (Nat × Nat) :=
  match P.underlying t with
  | some (.struct fs) => match fieldPlaces P fs.toList with
    | some l => l[i]?
    | none => none
  | some (.array _ e) => match P.info? e with
    | some inf => some (i * inf.size, inf.size)
    | none => none
  | _ => none
def bparts (P : Program) (t : TypeId) (ev : Operand → AV) : List (Nat × Operand) → Option (List (Nat × Nat × AV))
  | [] => some []
  | (i, x) :: r => match bplace P t i, bparts P t ev r with
    | some (o, n), some l => some ((o, n, ev x) :: l)
    | _, _ => none
def bok (P : Program) (t : TypeId) : Bool :=
  match P.underlying t with
  | some (.struct fs) => (fieldPlaces P fs.toList).isSome
  | some (.array _ e) => (P.info? e).isSome
  | _ => false
theorem bparts_prel {G : Ghost} {P : Program} {t : TypeId} {ev : Operand → AV} {rev : Operand → Value} (hev : ∀ x, vrel G (ev x) (rev x)) {place : Nat → Option (Nat × Nat)} (hp : ∀ i, place i = bplace P t i) :
    ∀ {ps : List (Nat × Operand)} {l : List (Nat × Nat × AV)}, bparts P t ev ps = some l → prel G place l (ps.map fun (i, x) => (i, rev x))
  | [], l, h => by simp only [bparts, Option.some.injEq] at h; subst h; simp only [prel, List.map_nil]
  | (i, x) :: r, l, h => by
    simp only [bparts] at h
    split at h
    · rename_i o n l' h1 h2
      simp only [Option.some.injEq] at h; subst h
      simp only [prel, List.map_cons]
      exact ⟨i, rev x, _, rfl, (hp i).trans h1, hev x, bparts_prel hev hp h2⟩
    · cases h
theorem build_run {G : Ghost} {P : Program} {t : TypeId} {w : World} {ev : Operand → AV} {rev : Operand → Value} {ps : Array (Nat × Operand)} {l : List (Nat × Nat × AV)} {zc cs : List AV}
    (hev : ∀ x, vrel G (ev x) (rev x)) (hz : azero P t = some zc) (hok : bok P t = true) (hl : bparts P t ev ps.toList = some l) (hf : afill zc l = some cs) :
    ∃ rv, (Instr.build t (ps.map fun (i, x) => (i, rev x))).run P w = .ok rv w ∧ vrel G (.agg cs) rv := by
  obtain ⟨z, hz1, hr⟩ := azero_run (G := G) (w := w) hz
  have hlist : (ps.map fun (i, x) => (i, rev x)).toList = ps.toList.map fun (i, x) => (i, rev x) := by simp
  unfold bok at hok
  split at hok
  · rename_i fs hu
    obtain ⟨pl, hpl⟩ := Option.isSome_iff_exists.1 hok
    have hplace : ∀ i, (pl.toArray)[i]? = bplace P t i := by intro i; simp [bplace, hu, hpl]
    obtain ⟨cells', h1, h2⟩ := afill_run (bparts_prel hev hplace hl) hr hf
    refine ⟨.agg cells', ?_, by have := vrel_agg h2; simpa using this⟩
    have hm := fieldPlaces_run (w := w) hpl
    simp only [Instr.build, Sem.run_bind, hz1, Result.andThen_ok, run_underlying hu, Array.mapM_eq_mapM_toList, Sem.run_map]
    rw [hm]
    simp only [Result.andThen_ok, hlist]
    have h1' : Instr.fill (fun x => pl.toArray[x]?) z.cells (ps.toList.map fun (i, x) => (i, rev x)) = some cells' := h1
    rw [h1']; rfl
  · rename_i n e hu
    obtain ⟨inf, hi⟩ := Option.isSome_iff_exists.1 hok
    have hplace : ∀ i, (fun i => some (i * inf.size, inf.size) : Nat → Option (Nat × Nat)) i = bplace P t i := by intro i; simp [bplace, hu, hi]
    obtain ⟨cells', h1, h2⟩ := afill_run (bparts_prel hev hplace hl) hr hf
    refine ⟨.agg cells', ?_, by have := vrel_agg h2; simpa using this⟩
    simp only [Instr.build, Sem.run_bind, hz1, Result.andThen_ok, run_underlying hu, run_sizeOf hi, hlist]
    rw [h1]; rfl
  · cases hok

/-- A slice's literal. -/
def lparts (esz : Nat) (ev : Operand → AV) : List (Nat × Operand) → List (Nat × Nat × AV)
  | [] => []
  | (i, x) :: r => (i * esz, esz, ev x) :: lparts esz ev r
theorem lparts_prel {G : Ghost} {esz : Nat} {ev : Operand → AV} {rev : Operand → Value} (hev : ∀ x, vrel G (ev x) (rev x)) :
    ∀ {ps : List (Nat × Operand)}, prel G (fun i => some (i * esz, esz)) (lparts esz ev ps) (ps.map fun (i, x) => (i, rev x))
  | [] => by simp only [lparts, prel, List.map_nil]
  | (i, x) :: r => by
    simp only [lparts, prel, List.map_cons]
    exact ⟨i, rev x, _, rfl, rfl, hev x, lparts_prel hev⟩
/-- So many elements' zero cells. -/
def zcells (zc : List AV) (n : Nat) : List AV := (List.replicate n zc).flatten
theorem lrel_zcells {G : Ghost} {zc : List AV} {z : List Value} (h : lrel G zc z) : ∀ (n : Nat), lrel G (zcells zc n) (List.replicate n z).flatten
  | 0 => by simp only [zcells, List.replicate_zero, List.flatten_nil, lrel]
  | n + 1 => by
    have := lrel_append h (lrel_zcells h n)
    simpa [zcells, List.replicate_succ] using this
theorem range_zero (z : Array Value) (_hz : z.size ≠ 0) : ∀ (n : Nat), ((Array.range (n * z.size)).map (z[· % z.size]!)).toList = (List.replicate n z.toList).flatten := by
  intro n
  have key : ∀ j, j < n * z.size → z[j % z.size]! = ((List.replicate n z.toList).flatten)[j]?.getD default := by
    induction n with
    | zero => intro j hj; omega
    | succ n ih =>
      intro j hj
      rw [List.replicate_succ, List.flatten_cons, List.getElem?_append]
      by_cases h : j < z.size
      · have : j < z.toList.length := by simpa using h
        rw [if_pos this, Nat.mod_eq_of_lt h]
        simp [h]
      · have : ¬ j < z.toList.length := by simpa using h
        rw [if_neg this]
        rw [Nat.succ_mul] at hj
        have := ih (j - z.size) (by omega)
        have hm : j % z.size = (j - z.size) % z.size := by rw [Nat.mod_eq_sub_mod (by omega)]
        rw [hm]
        simpa using this
  apply List.ext_getElem?
  intro j
  have hlen : ((List.replicate n z.toList).flatten).length = n * z.size := by simp [List.length_flatten, List.sum_replicate_nat]
  by_cases hj : j < n * z.size
  · have h1 := key j hj
    have h2 : j < ((List.replicate n z.toList).flatten).length := by omega
    rw [List.getElem?_eq_getElem h2] at h1 ⊢
    simp [hj]
    simpa using h1
  · rw [List.getElem?_eq_none (by simp; omega), List.getElem?_eq_none (by omega)]

/-- The element of a slice type: its number, its cells, its bytes; the cells of its zero value. -/
def elKind (P : Program) (t : TypeId) : Option (TypeId × Nat × Nat × List AV) :=
  match P.underlying t with
  | some (.slice e) => match P.info? e, azero P e with
    | some i, some zc => if i.size = zc.length ∧ 0 < i.size then some (e, i.size, i.bytes, zc) else none
    | _, _ => none
  | _ => none
theorem elKind_spec {P : Program} {t e : TypeId} {esz bytes : Nat} {zc : List AV} (hk : elKind P t = some (e, esz, bytes, zc)) :
    ∃ i, P.underlying t = some (.slice e) ∧ P.info? e = some i ∧ i.size = esz ∧ i.bytes = bytes ∧ azero P e = some zc ∧ zc.length = esz ∧ 0 < esz := by
  unfold elKind at hk
  split at hk
  · rename_i e' hu
    split at hk
    · rename_i i zc' hi hz
      split at hk
      · rename_i hc
        simp only [Option.some.injEq, Prod.mk.injEq] at hk
        obtain ⟨rfl, rfl, rfl, rfl⟩ := hk
        exact ⟨i, hu, hi, rfl, rfl, hz, hc.1.symm, hc.2⟩
      · cases hk
    · cases hk
  · cases hk
theorem buildSlice_run {G : Ghost} {h : AHeap} {P : Program} {t e : TypeId} {esz bytes len : Nat} {w : World} (r : Rel G h w) {ev : Operand → AV} {rev : Operand → Value} {ps : Array (Nat × Operand)} {zc cs : List AV}
    (hev : ∀ x, vrel G (ev x) (rev x)) (hk : elKind P t = some (e, esz, bytes, zc)) (hlen : 0 < len ∧ len * esz ≤ 16777216) (hf : afill (zcells zc len) (lparts esz ev ps.toList) = some cs) :
    ∃ rv w' G', (Instr.buildSlice t len (ps.map fun (i, x) => (i, rev x))).run P w = .ok rv w' ∧ Rel G' (h.push (.cells 0 cs)) w' ∧ vrel G' (.sl h.next 0 0 len esz) rv ∧ G.le G' := by
  obtain ⟨i, hu, hi, rfl, rfl, hz, hzl, hs0⟩ := elKind_spec hk
  obtain ⟨z, hz1, hr⟩ := azero_run (G := G) (w := w) hz
  have hzsz : z.cells.size = i.size := by have := lrel_length hr; simpa [hzl] using this
  have hlist : (ps.map fun (i, x) => (i, rev x)).toList = ps.toList.map fun (i, x) => (i, rev x) := by simp
  have hne : len * i.size ≠ 0 := Nat.ne_of_gt (Nat.mul_pos hlen.1 hs0)
  have hcells : lrel G (zcells zc len) ((Array.range (len * i.size)).map (z.cells[· % z.cells.size]!)).toList := by
    rw [← hzsz, range_zero _ (by omega)]
    exact lrel_zcells hr len
  obtain ⟨cells', h1, h2⟩ := afill_run (lparts_prel hev) hcells hf
  have hcl : cells'.size = cs.length := by have := lrel_length h2; simpa using this
  have hcsl : cs.length = len * i.size := by
    have : ∀ (ps : List (Nat × Nat × AV)) (a b : List AV), afill a ps = some b → b.length = a.length := by
      intro ps
      induction ps with
      | nil => intro a b hab; simp only [afill, Option.some.injEq] at hab; rw [hab]
      | cons p ps ih =>
        obtain ⟨off, n, v⟩ := p
        intro a b hab
        simp only [afill] at hab
        split at hab
        · split at hab
          · rename_i hc
            rw [ih _ _ hab, splice_length (by omega)]
          · cases hab
        · cases hab
    rw [this _ _ _ hf]
    simp [zcells, List.length_flatten, List.sum_replicate_nat, hzl]
  obtain ⟨R, L⟩ := r.newCells (row := cells') (el := e) (fz := (0, 0)) (cs := cs) (.inr (Nat.le_refl _)) (by omega) (by rw [List.take_of_length_le (by simp; omega)]; exact h2)
  refine ⟨.slice (some ⟨w.heap.size, 0, none⟩) len len, _, _, ?_, R, ?_, L⟩
  · have hbig : ¬ (len * i.size > 2 ^ 24) := by omega
    simp only [Instr.buildSlice, Sem.run_bind, run_underlying hu, Result.andThen_ok, run_sizeOf hi, hbig, if_false, hne, hz1, hlist]
    simp only [Sem.run_pure, Result.andThen_ok, h1]
    simp [newRow]
  · refine vrel_sl (Ghost.add_ok ..) (Nat.le_refl _) (.inr ⟨(Ghost.add_blk ..).symm, rfl, ?_⟩)
    rw [Ghost.add_own, hcl, hcsl]; omega
theorem buildSlice_nil {G : Ghost} {h : AHeap} {P : Program} {t : TypeId} {w : World} (r : Rel G h w) (hk : (elKind P t).isSome = true) :
    ∃ rv w', (Instr.buildSlice t 0 #[]).run P w = .ok rv w' ∧ Rel G h w' ∧ vrel G .emp rv := by
  obtain ⟨⟨e, esz, bytes, zc⟩, hk⟩ := Option.isSome_iff_exists.1 hk
  obtain ⟨i, hu, hi, rfl, rfl, hz, hzl, hs0⟩ := elKind_spec hk
  refine ⟨.slice (some ⟨w.heap.size, 0, none⟩) 0 0, w.alloc (.cells #[] e), ?_, r.later ((Bel.refl _ _).alloc (Nat.le_refl _) _), by simp only [vrel]; exact ⟨_, rfl⟩⟩
  have e0 : Array.map (fun _ => (default : Value)) (Array.range 0) = #[] := by apply Array.ext'; simp
  simp [Instr.buildSlice, run_underlying hu, run_sizeOf hi, Instr.fill, newRow, e0]

/-- Conversions: a number to a kind; a text; a text's bytes; bytes' text. -/
inductive CvK where
  | int (k : IntKind) | str | sb (e : TypeId) | bs
def isU8 (P : Program) (e : TypeId) : Bool := match P.underlying e with | some (.int .u8) => true | _ => false
def cvKind (P : Program) (src dst : TypeId) : Option CvK :=
  match P.underlying src, P.underlying dst with
  | some (.int _), some (.int k) => some (.int k)
  | some .string, some .string => some .str
  | some .string, some (.slice e) => if isU8 P e then some (.sb e) else none
  | some (.slice e), some .string => if isU8 P e then some .bs else none
  | _, _ => none
theorem isU8_spec {P : Program} {e : TypeId} (h : isU8 P e = true) : P.underlying e = some (.int .u8) := by
  unfold isU8 at h
  split at h
  · assumption
  · cases h
def acv (k : CvK) (x : AV) (h : AHeap) : Option (AV × AHeap) :=
  match k, x with
  | .int k, .int _ n => some (.int k (k.wrap n), h)
  | .str, .str s => some (.str s, h)
  | .sb _, .str s => some (.sl h.next 0 0 s.length 1, h.push (.cells 0 (ofBytes s)))
  | .bs, x => match sread h 1 x with
    | some cs => match toBytes cs with
      | some s => some (.str s, h)
      | none => none
    | none => none
  | _, _ => none
theorem toBytes_run {G : Ghost} : ∀ {cs : List AV} {s : List UInt8} {rs : List Value}, toBytes cs = some s → lrel G cs rs → ∃ ns : List Int, rs = ns.map (Value.int .u8) ∧ s = ns.map (fun n => UInt8.ofNat n.toNat)
  | [], s, rs, h, hr => by
    simp only [toBytes, Option.some.injEq] at h; subst h
    simp only [lrel] at hr; subst hr
    exact ⟨[], rfl, rfl⟩
  | c :: cs, s, rs, h, hr => by
    cases c with
    | int k n =>
      cases k <;> simp only [toBytes] at h <;> try (cases h; done)
      cases hb : toBytes cs with
      | none => simp [hb] at h
      | some s' =>
        simp [hb] at h; subst h
        simp only [lrel, vrel] at hr
        obtain ⟨r, rest, rfl, rfl, hr⟩ := hr
        obtain ⟨ns, h1, h2⟩ := toBytes_run hb hr
        exact ⟨n :: ns, by rw [h1]; rfl, by rw [h2]; rfl⟩
    | _ => simp [toBytes] at h

end Go.Own

/- Conversions, len, copy, make. -/
namespace Go.Own
open Go.RowKit

theorem i64_id {x : Int} (a : -9223372036854775808 ≤ x) (b : x ≤ 9223372036854775807) : IntKind.i64.wrap x = x := by
  rw [IntKind.wrap_i64]; omega
theorem bytesWorld_eq (w : World) (e : TypeId) (s : ByteArray) : Lib.bytesWorld w e s = w.drew.alloc (.cells (Lib.bytesCells w e s) e ((Lib.bytesCells w e s).size, (Lib.bytesCells w e s).size + 1)) := by
  unfold Lib.bytesWorld World.freeze
  simp only [World.alloc, World.drew, Nat.succ_ne_zero, if_false]
  congr 1
  apply Array.ext'
  simp only [Array.toList_modify, Array.toList_push]
  have : w.heap.size = w.heap.toList.length := by simp
  rw [this]
  generalize w.heap.toList = l
  apply List.ext_getElem?
  intro j
  simp only [List.getElem?_modify, List.getElem?_append]
  by_cases hj : j < l.length
  · have : ¬ l.length = j := by omega
    simp [hj, this]
  · by_cases hj' : l.length = j
    · subst hj'; simp
    · have : j - l.length ≠ 0 := by omega
      simp [hj, hj', this]

theorem acv_run {G : Ghost} {h h' : AHeap} {P : Program} {w : World} (r : Rel G h w) {src dst : TypeId} {k : CvK} {x v : AV} {a : Value} (hk : cvKind P src dst = some k) (hx : vrel G x a) (hv : acv k x h = some (v, h')) :
    ∃ rv w' G', (convert src dst a).run P w = .ok rv w' ∧ Rel G' h' w' ∧ vrel G' v rv ∧ G.le G' := by
  unfold acv at hv
  split at hv
  · rename_i k' kk n
    simp only [Option.some.injEq, Prod.mk.injEq] at hv
    obtain ⟨rfl, rfl⟩ := hv
    simp only [vrel] at hx; subst hx
    unfold cvKind at hk
    split at hk
    · rename_i hs hd
      simp only [Option.some.injEq, CvK.int.injEq] at hk; subst hk
      exact ⟨(AV.int _ _).toVal, w, G, by simp [convert, run_underlying hs, run_underlying hd, Conv.intToInt, AV.toVal], r, vrel_toVal rfl, .refl G⟩
    · cases hk
    · split at hk <;> cases hk
    · split at hk <;> cases hk
    · cases hk
  · rename_i s
    simp only [Option.some.injEq, Prod.mk.injEq] at hv
    obtain ⟨rfl, rfl⟩ := hv
    simp only [vrel] at hx; subst hx
    unfold cvKind at hk
    split at hk
    · cases hk
    · rename_i hs hd
      exact ⟨.string ⟨s.toArray⟩, w, G, by simp [convert, run_underlying hs, run_underlying hd], r, by simp only [vrel], .refl G⟩
    · split at hk <;> cases hk
    · split at hk <;> cases hk
    · cases hk
  · rename_i e s
    simp only [Option.some.injEq, Prod.mk.injEq] at hv
    obtain ⟨rfl, rfl⟩ := hv
    simp only [vrel] at hx; subst hx
    unfold cvKind at hk
    split at hk
    · cases hk
    · cases hk
    · rename_i e' hs hd
      split at hk
      · rename_i he
        simp only [Option.some.injEq, CvK.sb.injEq] at hk; subst hk
        have hrun := Lib.run_convert_string_bytes w src dst e' ⟨s.toArray⟩ hs hd (isU8_spec he)
        rw [bytesWorld_eq] at hrun
        have hsz : (⟨s.toArray⟩ : ByteArray).size = s.length := by simp [ByteArray.size]
        have hcap : s.length ≤ grownCap w s.length 0 e' := Nat.le_add_right _ _
        have hrow : (Lib.bytesCells w e' ⟨s.toArray⟩).size = grownCap w s.length 0 e' := by
          simp [Lib.bytesCells, hsz]; omega
        obtain ⟨R, L⟩ := r.drew.newCells (row := Lib.bytesCells w e' ⟨s.toArray⟩) (el := e') (fz := ((Lib.bytesCells w e' ⟨s.toArray⟩).size, (Lib.bytesCells w e' ⟨s.toArray⟩).size + 1)) (cs := ofBytes s) (.inl (Nat.le_refl _))
          (by rw [hrow, ofBytes_length]; exact hcap) (by
            have h1 := lrel_ofBytes (G := G) s
            have h2 : (Lib.bytesCells w e' ⟨s.toArray⟩).toList.take (ofBytes s).length = s.map fun c => Value.int .u8 c.toNat := by
              simp only [Lib.bytesCells, Array.toList_append, Array.toList_map]
              rw [List.take_left']
              simp [ofBytes]
            rw [h2]; exact h1)
        refine ⟨_, _, _, hrun, R, ?_, L⟩
        rw [hsz]
        refine vrel_sl (Ghost.add_ok ..) hcap (.inr ⟨(Ghost.add_blk ..).symm, rfl, ?_⟩)
        rw [Ghost.add_own, hrow]; omega
      · cases hk
    · split at hk <;> cases hk
    · cases hk
  · split at hv
    · rename_i cs hcs
      split at hv
      · rename_i s hsb
        simp only [Option.some.injEq, Prod.mk.injEq] at hv
        obtain ⟨rfl, rfl⟩ := hv
        unfold cvKind at hk
        split at hk
        · cases hk
        · cases hk
        · split at hk <;> cases hk
        · rename_i e hs hd
          split at hk
          · rename_i he
            have hn : ∃ n, slen x = some n := by
              unfold sread at hcs
              split at hcs <;> first | exact ⟨_, rfl⟩ | cases hcs
            obtain ⟨n, hn⟩ := hn
            obtain ⟨hl, hrd⟩ := sread_run (P := P) r hx hn hcs
            obtain ⟨rs, h1, h2⟩ := hrd n (Nat.le_refl _)
            rw [List.take_of_length_le (by omega)] at h1
            obtain ⟨ns, rfl, hs'⟩ := toBytes_run hsb h1
            obtain ⟨ad, cap, rfl, _⟩ := slen_run hx hn
            have hfold : ∀ (l : List Int) (acc : ByteArray), l.foldl (fun r n => r.push (UInt8.ofNat n.toNat)) acc = ⟨(acc.data.toList ++ l.map fun n => UInt8.ofNat n.toNat).toArray⟩ := by
              intro l
              induction l with
              | nil => intro acc; simp
              | cons n l ih =>
                intro acc
                rw [List.foldl_cons, ih]
                simp [ByteArray.push]
            refine ⟨.string ⟨s.toArray⟩, w, G, ?_, r, by simp only [vrel], .refl G⟩
            rw [run_convert_bytes_string w src dst e ad n cap hs (isU8_spec he) hd]
            cases ad with
            | some ad =>
              have h3 : (loadCells ad n).run P w = .ok (ns.map (Value.int .u8)).toArray w := by simpa [Builtin.firstCells] using h2
              rw [run_bytesToString w ad n cap ns h3, hfold]
              rw [hs']; simp
            | none =>
              have : ns = [] := by simpa [Builtin.firstCells] using h2
              subst this
              rw [hs']
              simp [Conv.bytesToString]
              rfl
          · cases hk
        · cases hk
      · cases hv
    · cases hv
  · cases hv

/-- What a length is taken of. -/
inductive LnK where
  | str | fix (n : Nat) | sl | map
def lnKind (P : Program) (t : TypeId) : Option LnK :=
  match P.underlying t with
  | some .string => some .str
  | some (.array n _) => some (.fix n)
  | some (.pointer a) => match P.underlying a with
    | some (.array n _) => some (.fix n)
    | _ => none
  | some (.slice _) => some .sl
  | some (.map _ _) => some .map
  | _ => none
def alen (k : LnK) (x : AV) (h : AHeap) : Option AV :=
  match k, x with
  | .str, .str s => some (.int .i64 s.length)
  | .fix n, _ => some (.int .i64 n)
  | .sl, x => match slen x with
    | some n => some (.int .i64 n)
    | none => none
  | .map, .nilm => some (.int .i64 0)
  | .map, .map i => match h.get i with
    | some (.map _ kvs) => some (.int .i64 kvs.length)
    | _ => none
  | _, _ => none
theorem mrel_length {G : Ghost} : ∀ {kvs : List (AV × AV)} {es : List MapEntry}, mrel G kvs es → es.length = kvs.length
  | [], _, h => by simp only [mrel] at h; rw [h]; rfl
  | (k, v) :: r, es, h => by
    simp only [mrel] at h
    obtain ⟨e, rest, rfl, _, _, h3⟩ := h
    simp [mrel_length h3]
theorem alen_run {G : Ghost} {h : AHeap} {P : Program} {w : World} (r : Rel G h w) {ts : Array TypeId} {t ty : TypeId} {k : LnK} {x v : AV} {a : Value} (ht : ts[0]? = some t) (hk : lnKind P t = some k) (hx : vrel G x a) (hv : alen k x h = some v) :
    ∃ rv, (Builtin.len_ ts ty #[a]).run P w = .ok rv w ∧ vrel G v rv := by
  have e0 : (#[a] : Array Value)[0]? = some a := rfl
  unfold alen at hv
  unfold lnKind at hk
  split at hv
  · rename_i s
    simp only [Option.some.injEq] at hv; subst hv
    simp only [vrel] at hx; subst hx
    split at hk
    · rename_i hu
      have hsz : (⟨s.toArray⟩ : ByteArray).size = s.length := by simp [ByteArray.size]
      exact ⟨.int .i64 s.length, by simp [Builtin.len_, ht, run_underlying hu, goInt, hsz], by simp only [vrel]⟩
    all_goals first | (cases hk; done) | (split at hk <;> cases hk)
  · rename_i n _
    simp only [Option.some.injEq] at hv; subst hv
    split at hk
    · cases hk
    · rename_i n' e hu
      simp only [Option.some.injEq, LnK.fix.injEq] at hk; subst hk
      exact ⟨.int .i64 n', by simp [Builtin.len_, ht, run_underlying hu, goInt], by simp only [vrel]⟩
    · rename_i p hu
      split at hk
      · rename_i n' e hu'
        simp only [Option.some.injEq, LnK.fix.injEq] at hk; subst hk
        exact ⟨.int .i64 n', by simp [Builtin.len_, ht, run_underlying hu, run_underlying hu', goInt], by simp only [vrel]⟩
      · cases hk
    all_goals cases hk
  · split at hv
    · rename_i n hn
      simp only [Option.some.injEq] at hv; subst hv
      obtain ⟨ad, cap, rfl, _⟩ := slen_run hx hn
      split at hk
      · cases hk
      · cases hk
      · split at hk <;> cases hk
      · rename_i e hu
        exact ⟨.int .i64 n, by simp [Builtin.len_, ht, run_underlying hu, goInt], by simp only [vrel]⟩
      · cases hk
      · cases hk
    · cases hv
  · simp only [Option.some.injEq] at hv; subst hv
    simp only [vrel] at hx; subst hx
    split at hk
    · cases hk
    · cases hk
    · split at hk <;> cases hk
    · cases hk
    · rename_i kk e hu
      exact ⟨.int .i64 0, by simp [Builtin.len_, ht, run_underlying hu, goInt], by simp only [vrel]⟩
    · cases hk
  · rename_i i
    split at hv
    · rename_i rr kvs he
      simp only [Option.some.injEq] at hv; subst hv
      simp only [vrel] at hx
      obtain ⟨_, rfl⟩ := hx
      obtain ⟨_, _, es, cl, hb, _, hm, _⟩ := r.obj i _ he
      split at hk
      · cases hk
      · cases hk
      · split at hk <;> cases hk
      · cases hk
      · rename_i kk e hu
        refine ⟨.int .i64 kvs.length, ?_, by simp only [vrel]⟩
        have hl := mrel_length hm
        simp at hl
        simp [Builtin.len_, ht, run_underlying hu, goInt, getObj, Sem.run, hb, hl]
      · cases hk
    · cases hv
  · cases hv

/-- copy: the new content of what is copied to. -/
def acopy (esz : Nat) (d s : AV) (h : AHeap) : Option (AV × AHeap) :=
  match anews h esz s, slen d with
  | some (news, k), some n =>
    if min k n = 0 then some (.int .i64 0, h) else
    match d with
    | .sl i r off n' e => match h.get i with
      | some (.cells r' cs) => if r' = r ∧ e = esz ∧ off + n' * esz ≤ cs.length ∧ (news.take (min k n * esz)).all AV.scalar = true then
          some (.int .i64 (min k n : Nat), h.set i (.cells r (splice cs off (news.take (min k n * esz))))) else none
      | _ => none
    | _ => none
  | _, _ => none
theorem storeCells_nil {P : Program} {w : World} {a : Addr} : (storeCells a []).run P w = .ok () w := rfl
theorem acopy_run {G : Ghost} {h h' : AHeap} {P : Program} {w : World} (r : Rel G h w) {ts : Array TypeId} {t ty e : TypeId} {esz bytes : Nat} {zc : List AV} {d s v : AV} {rd rs : Value} (ht : ts[0]? = some t) (hk : elKind P t = some (e, esz, bytes, zc))
    (hd : vrel G d rd) (hs : vrel G s rs) (ha : acopy esz d s h = some (v, h')) : ∃ rv w', (Builtin.copy_ ts ty #[rd, rs]).run P w = .ok rv w' ∧ Rel G h' w' ∧ vrel G v rv := by
  obtain ⟨i, hu, hi, rfl, rfl, hz, hzl, hs0⟩ := elKind_spec hk
  have e0 : (#[rd, rs] : Array Value)[0]? = some rd := rfl
  have e1 : (#[rd, rs] : Array Value)[1]? = some rs := rfl
  unfold acopy at ha
  split at ha
  · rename_i news k n hn hdn
    obtain ⟨hnl, hnrun⟩ := anews_run (P := P) r hs hn
    obtain ⟨ad, cap, rfl, hncap⟩ := slen_run hd hdn
    obtain ⟨nr, hnr, hrun⟩ := hnrun (min k n) (Nat.min_le_left _ _)
    have hlen := lenOf_run (P := P) (w := w) hs hn
    have hstart : (Builtin.copy_ ts ty #[.slice ad n cap, rs]).run P w = match ad with
        | some a => ((storeCells a nr).run P w).andThen fun _ w' => .ok (goInt (min k n : Nat)) w'
        | none => .ok (goInt (min k n : Nat)) w := by
      unfold Builtin.copy_
      have hrun' : (Builtin.firstCells i.size (Nat.min k n) rs).run P w = .ok nr.toArray w := hrun
      simp only [ht, e0, e1, Sem.run_bind, run_underlying hu, Result.andThen_ok, hlen, run_sizeOf hi, hrun']
      cases ad <;> simp [Nat.min_def]
    split at ha
    · rename_i h0
      simp only [Option.some.injEq, Prod.mk.injEq] at ha
      obtain ⟨rfl, rfl⟩ := ha
      have hnr0 : nr = [] := List.length_eq_zero_iff.1 (by rw [lrel_length hnr, h0]; simp)
      subst hnr0
      refine ⟨.int .i64 0, w, ?_, r, by simp only [vrel]⟩
      rw [hstart, h0]
      cases ad <;> rfl
    · rename_i h0
      split at ha
      · rename_i id rr off n' e'
        split at ha
        · rename_i r' cs he
          split at ha
          · rename_i hc
            obtain ⟨rfl, rfl, hle, hall⟩ := hc
            simp only [Option.some.injEq, Prod.mk.injEq] at ha
            obtain ⟨rfl, rfl⟩ := ha
            simp only [slen, Option.some.injEq] at hdn; subst hdn
            simp only [vrel] at hd
            obtain ⟨hok, b, o, cap', hval, hnc, hcap⟩ := hd
            simp only [Value.slice.injEq, true_and] at hval
            obtain ⟨rfl, rfl⟩ := hval
            obtain ⟨_, hown, _⟩ := r.cells he
            rcases hcap with hz0 | ⟨rfl, rfl, hown'⟩
            · omega
            · have hle2 : min k n' * i.size ≤ n' * i.size := Nat.mul_le_mul_right _ (Nat.min_le_right _ _)
              have hnl2 : (news.take (min k n' * i.size)).length ≤ n' * i.size := by rw [List.length_take]; omega
              obtain ⟨W1, W2⟩ := r.write P he hnr hall (o := o) (by omega) (by omega)
              refine ⟨.int .i64 (min k n' : Nat), _, ?_, W2, by simp only [vrel]⟩
              rw [hstart]
              simp only [W1, Result.andThen_ok, goInt]
          · cases ha
        · cases ha
      · cases ha
  · cases ha

/-- make([]T, n). -/
def amake (esz bytes : Nat) (zc : List AV) (n c : AV) (h : AHeap) : Option (AV × AHeap) :=
  match n, c with
  | .int .i64 n, .int .i64 c => if n = c ∧ 0 ≤ n ∧ bytes * n ≤ room ∧ n ≤ 9223372036854775807 ∧ 0 < n then some (.sl h.next 0 0 n.toNat esz, h.push (.cells 0 (zcells zc n.toNat))) else none
  | _, _ => none
theorem amake_run {G : Ghost} {h h' : AHeap} {P : Program} {w : World} (r : Rel G h w) {t e : TypeId} {esz bytes : Nat} {zc : List AV} {n c v : AV} {rn rc : Value} (hk : elKind P t = some (e, esz, bytes, zc))
    (hn : vrel G n rn) (hc : vrel G c rc) (ha : amake esz bytes zc n c h = some (v, h')) : ∃ rv w' G', (Instr.makeSlice t rn rc).run P w = .ok rv w' ∧ Rel G' h' w' ∧ vrel G' v rv ∧ G.le G' := by
  obtain ⟨i, hu, hi, rfl, rfl, hz, hzl, hs0⟩ := elKind_spec hk
  unfold amake at ha
  split at ha
  · rename_i m m'
    split at ha
    · rename_i hcc
      obtain ⟨rfl, h0, hroom, hmx, hp⟩ := hcc
      simp only [Option.some.injEq, Prod.mk.injEq] at ha
      obtain ⟨rfl, rfl⟩ := ha
      simp only [vrel] at hn hc
      subst hn; subst hc
      obtain ⟨z, hz1, hr⟩ := azero_run (G := G) (w := w) hz
      have hzsz : z.cells.size = i.size := by have := lrel_length hr; simpa [hzl] using this
      have hwrap : IntKind.i64.wrap m = m := by
        have h1 : ∀ x : Int, 0 ≤ x → x ≤ 9223372036854775807 → IntKind.i64.wrap x = x := fun x a b => i64_id (by omega) b
        exact h1 m h0 hmx
      have hbig : ¬ ((2 : Int) ^ 48 < (i.bytes : Int) * m) := by
        unfold room at hroom
        omega
      have hneg : ¬ m < 0 := by omega
      have hne : m.toNat * i.size ≠ 0 := Nat.ne_of_gt (Nat.mul_pos (by omega) hs0)
      have hcells : lrel G (zcells zc m.toNat) ((Array.range (m.toNat * i.size)).map (z.cells[· % z.cells.size]!)).toList := by
        rw [← hzsz, range_zero _ (by omega)]
        exact lrel_zcells hr m.toNat
      have hcl := lrel_length hcells
      obtain ⟨R, L⟩ := r.newCells (row := (Array.range (m.toNat * i.size)).map (z.cells[· % z.cells.size]!)) (el := e) (fz := (0, 0)) (cs := zcells zc m.toNat) (.inr (Nat.le_refl _)) (by simp at hcl ⊢; omega) (by rw [List.take_of_length_le (by omega)]; exact hcells)
      refine ⟨.slice (some ⟨w.heap.size, 0, none⟩) m.toNat m.toNat, _, _, ?_, R, ?_, L⟩
      · simp only [Instr.makeSlice, Sem.run_bind, run_underlying hu, Result.andThen_ok, asInt, asIntOf, Sem.run_pure, run_typeInfo hi, hwrap]
        simp [hneg, run_sizeOf hi, hne, hz1, newRow]
        intro hh
        exact absurd hh (by simpa using hbig)
      · refine vrel_sl (Ghost.add_ok ..) (Nat.le_refl _) (.inr ⟨(Ghost.add_blk ..).symm, rfl, ?_⟩)
        rw [Ghost.add_own]
        simp
    · cases ha
  · cases ha

end Go.Own
