/- Part of the proofs: E1, C10, C11, C12, C13, C14, C15, C16, D1, D2, D3, D4, D5, C17, C18, C19, C20, C21. -/
import Derived.Test.YtmjmpnbnmcbngaaDoorOwnA
import Derived.Scope
import Derived.Still

/- An object of a block of its own is turned; ranging over a text; a slice as an array. -/
namespace Go.Own
open Go.RowKit

def noCells : Obj → Bool
  | .cells .. => false
  | _ => true
theorem getObj_run {P : Program} {w : World} {b : Nat} {x : Obj} (hn : noCells x = true) (h : w.heap[b]? = some x) : (getObj b).run P w = .ok x w := by
  cases x <;> first | (cases hn; done) | simp [getObj, Sem.run, h]
theorem setObj_run {P : Program} {w : World} {b : Nat} {x y : Obj} (hn : noCells x = true) (h : w.heap[b]? = some x) : (setObj b y).run P w = .ok () { w with heap := w.heap.setIfInBounds b y } := by
  cases x <;> first | (cases hn; done) | simp [setObj, Sem.run, h]
theorem newObj_run {P : Program} {w : World} {y : Obj} : (newObj y).run P w = .ok w.heap.size (w.alloc y) := rfl
theorem put_other {w : World} {b k : Nat} {y : Obj} (h : k ≠ b) : ({ w with heap := w.heap.setIfInBounds b y } : World).heap[k]? = w.heap[k]? := by
  show (w.heap.setIfInBounds b y)[k]? = _
  exact Array.getElem?_setIfInBounds_ne (Ne.symm h)
theorem put_same {w : World} {b : Nat} {x y : Obj} (h : w.heap[b]? = some x) : ({ w with heap := w.heap.setIfInBounds b y } : World).heap[b]? = some y := by
  show (w.heap.setIfInBounds b y)[b]? = _
  exact Array.getElem?_setIfInBounds_self_of_lt (heap_lt h)
theorem Rel.putObj {G : Ghost} {h : AHeap} {w : World} (r : Rel G h w) {i : Nat} {o o' : AObj} {y : Obj} (e : h.get i = some o) (hb : oblk G i o' = oblk G i o) (hv : o'.ver = o.ver)
    (ho : orel G ({ w with heap := w.heap.setIfInBounds (oblk G i o) y }) i o') :
    Rel G (h.set i o') ({ w with heap := w.heap.setIfInBounds (oblk G i o) y }) := by
  have hget : ∀ j oj, (h.set i o').get j = some oj → (j = i ∧ oj = o') ∨ (j ≠ i ∧ h.get j = some oj) := by
    intro j oj hj
    by_cases hji : j = i
    · left; simp [AHeap.set, hji] at hj; exact ⟨hji, hj.symm⟩
    · right; simp [AHeap.set, hji] at hj; exact ⟨hji, hj⟩
  have hblk : ∀ j oj, (h.set i o').get j = some oj → ∃ oj', h.get j = some oj' ∧ oblk G j oj = oblk G j oj' ∧ oj.ver = oj'.ver := by
    intro j oj hj
    rcases hget j oj hj with ⟨rfl, rfl⟩ | ⟨_, h2⟩
    · exact ⟨_, e, hb, hv⟩
    · exact ⟨_, h2, rfl, rfl⟩
  have hhi := r.high i o e
  refine ⟨r.start, ⟨r.below.b.trans ⟨rfl, rfl, rfl, by simp, fun k hk => put_other (by omega)⟩, r.below.drawn⟩, by simpa using r.N, ?_, r.okn, ?_, ?_, ?_, ?_, ?_, ?_, ?_⟩
  · intro b oo v hi
    have hne := r.simm b oo v hi i _ e
    have := r.imm b oo v hi
    rwa [World.cell?_of_block (w := w) (put_other (Ne.symm hne))]
  · intro j s oj hj hs
    obtain ⟨oj', h2, _, h3⟩ := hblk j oj hj
    rw [h3]; exact r.okv j s oj' h2 hs
  · intro j hj
    have hne : j ≠ i := fun he => by rw [he] at hj; have := r.fresh i hj; rw [e] at this; cases this
    simp [AHeap.set, hne]; exact r.fresh j hj
  · intro j oj hj
    rcases hget j oj hj with ⟨rfl, rfl⟩ | ⟨hne, h2⟩
    · exact ho
    · have hne' := r.sep j i oj _ h2 e hne
      exact orel_block (put_other hne') (r.obj j oj h2)
  · intro j oj hj
    obtain ⟨oj', h2, h3, _⟩ := hblk j oj hj
    rw [h3]; exact r.high j oj' h2
  · intro a b oa ob ha hb' hne
    obtain ⟨oa', h2, h3, _⟩ := hblk a oa ha
    obtain ⟨ob', h2', h3', _⟩ := hblk b ob hb'
    rw [h3, h3']; exact r.sep a b oa' ob' h2 h2' hne
  · intro b oo v hi j oj hj
    obtain ⟨oj', h2, h3, _⟩ := hblk j oj hj
    rw [h3]; exact r.simm b oo v hi j oj' h2
  · intro b ob eb
    obtain ⟨k1, k2, k3⟩ := r.keep b ob eb
    refine ⟨?_, k2, fun j oj hj => ?_⟩
    · have hk3 : oblk G i o ≠ b := k3 i _ e
      rw [put_other (Ne.symm hk3)]; exact k1
    · obtain ⟨oj', h2, h3, _⟩ := hblk j oj hj
      rw [h3]; exact k3 j oj' h2

def isStrT (P : Program) (t : TypeId) : Bool := match P.underlying t with
  | some .string => true
  | _ => false
/-- Ranging over a text. -/
def arange (x : AV) (h : AHeap) : Option (AV × AHeap) := match x with
  | .str s => some (.iter h.next, h.push (.siter s 0))
  | _ => none
def adec (s : List UInt8) (pos : Nat) : Nat × Nat := Utf8.decode ⟨s.toArray⟩ pos
def anext (it : AV) (h : AHeap) : Option (AV × AHeap) := match it with
  | .iter i => match h.get i with
    | some (.siter s pos) => if pos < s.length then some (.tuple [.bool true, .int .i64 pos, .int .i32 (adec s pos).1], h.set i (.siter s (pos + (adec s pos).2))) else some (.tuple [.bool false], h)
    | _ => none
  | _ => none
def arrN (P : Program) (t : TypeId) : Option Nat := match P.underlying t with
  | some (.array n _) => some n
  | _ => none
/-- A slice as a pointer to an array. -/
def asarr (n : Nat) (x : AV) : Option AV := match x with
  | .lst cs len => if n ≤ len then some (.cptr cs) else none
  | .sl i r off len _ => if n ≤ len ∧ 0 < n then some (.ptr i r off) else none
  | _ => none

theorem arange_run {G : Ghost} {h h' : AHeap} {w : World} {P : Program} (r : Rel G h w) {t : TypeId} {x v : AV} {rx : Value} (ht : isStrT P t = true) (hx : vrel G x rx) (hs : arange x h = some (v, h')) :
    ∃ rv w' G', (Instr.range t rx).run P w = .ok rv w' ∧ Rel G' h' w' ∧ vrel G' v rv ∧ G.le G' := by
  unfold arange at hs
  split at hs
  · rename_i s
    simp only [Option.some.injEq, Prod.mk.injEq] at hs
    obtain ⟨rfl, rfl⟩ := hs
    simp only [vrel] at hx
    subst hx
    have hu : P.underlying t = some .string := by
      unfold isStrT at ht
      split at ht
      · rename_i h1; exact h1
      · cases ht
    have hl := Ghost.le_add (b := w.heap.size) (n := 0) (m := (#[], 0)) (r.nok 0)
    have hnew : (w.alloc (.stringIter ⟨s.toArray⟩ 0)).heap[w.heap.size]? = some (.stringIter ⟨s.toArray⟩ 0) := by show (w.heap.push _)[w.heap.size]? = _; simp
    refine ⟨.pointer (some ⟨w.heap.size, 0, none⟩), w.alloc (.stringIter ⟨s.toArray⟩ 0), G.add h.next 0 w.heap.size 0 (#[], 0), ?_, r.push rfl (Ghost.add_blk ..) ?_, ?_, hl⟩
    · simp only [Instr.range, Sem.run_bind, run_underlying hu, Result.andThen_ok, Sem.run_pure, newObj_run]
    · exact ⟨Ghost.add_ok .., by rw [Ghost.add_blk]; exact hnew⟩
    · simp only [vrel]
      exact ⟨Ghost.add_ok .., by rw [Ghost.add_blk]⟩
  · cases hs
theorem anext_run {G : Ghost} {h h' : AHeap} {w : World} {P : Program} (r : Rel G h w) {t : TypeId} {x v : AV} {rx : Value} (hx : vrel G x rx) (hs : anext x h = some (v, h')) :
    ∃ rv w' G', (Instr.next rx true t).run P w = .ok rv w' ∧ Rel G' h' w' ∧ vrel G' v rv ∧ G.le G' := by
  unfold anext at hs
  split at hs
  · rename_i i
    split at hs
    · rename_i s pos e
      simp only [vrel] at hx
      obtain ⟨hok, rfl⟩ := hx
      have hb := (r.obj i _ e).2
      have hsz : (⟨s.toArray⟩ : ByteArray).size = s.length := by simp [ByteArray.size]
      split at hs
      · rename_i hlt
        simp only [Option.some.injEq, Prod.mk.injEq] at hs
        obtain ⟨rfl, rfl⟩ := hs
        refine ⟨.tuple #[.bool true, .int .i64 pos, .int .i32 (adec s pos).1], _, G, ?_, r.putObj (o' := .siter s (pos + (adec s pos).2)) (y := .stringIter ⟨s.toArray⟩ (pos + (adec s pos).2)) e rfl rfl ⟨hok, put_same hb⟩, ?_, .refl G⟩
        rotate_left
        · simp only [vrel, lrel]
          exact ⟨[.bool true, .int .i64 pos, .int .i32 (adec s pos).1], rfl, _, _, rfl, rfl, _, _, rfl, rfl, _, _, rfl, rfl, rfl⟩
        · simp only [Instr.next, Sem.run_bind, getObj_run rfl hb, Result.andThen_ok, hsz, hlt, if_true, setObj_run rfl hb, Sem.run_pure]
          rfl
      · rename_i hlt
        simp only [Option.some.injEq, Prod.mk.injEq] at hs
        obtain ⟨rfl, rfl⟩ := hs
        refine ⟨.tuple #[.bool false], w, G, ?_, r, ?_, .refl G⟩
        · simp only [Instr.next, Sem.run_bind, getObj_run rfl hb, Result.andThen_ok, hsz, hlt, if_false, Sem.run_pure]
        · simp only [vrel, lrel]
          exact ⟨[.bool false], rfl, _, _, rfl, rfl, rfl⟩
    · cases hs
  · cases hs
theorem asarr_run {G : Ghost} {w : World} {P : Program} {t : TypeId} {n : Nat} {x v : AV} {rx : Value} (hn : arrN P t = some n) (hx : vrel G x rx) (hs : asarr n x = some v) :
    ∃ rv, (Instr.arrayAt t rx).run P w = .ok rv w ∧ vrel G v rv := by
  have hu : ∃ e, P.underlying t = some (.array n e) := by
    unfold arrN at hn
    split at hn
    · rename_i m e h1; simp only [Option.some.injEq] at hn; subst hn; exact ⟨e, h1⟩
    · cases hn
  obtain ⟨e, hu⟩ := hu
  unfold asarr at hs
  split at hs
  · rename_i cs len
    split at hs
    · rename_i hle
      simp only [Option.some.injEq] at hs; subst hs
      simp only [vrel] at hx ⊢
      obtain ⟨b, o, cap, rfl, _, hc⟩ := hx
      exact ⟨.pointer (some ⟨b, o, none⟩), by simp [Instr.arrayAt, underlying, hu, Sem.run_bind, show ¬ len < n by omega], b, o, rfl, hc⟩
    · cases hs
  · rename_i i k off len esz
    split at hs
    · rename_i hle
      simp only [Option.some.injEq] at hs; subst hs
      simp only [vrel] at hx ⊢
      obtain ⟨hok, b, o, cap, rfl, hcap, h1⟩ := hx
      have h2 : b = G.blk i k ∧ o = off := by
        rcases h1 with h1 | h1
        · omega
        · exact ⟨h1.1, h1.2.1⟩
      obtain ⟨rfl, rfl⟩ := h2
      exact ⟨.pointer (some ⟨G.blk i k, o, none⟩), by simp [Instr.arrayAt, underlying, hu, Sem.run_bind, show ¬ len < n by omega], hok, rfl⟩
    · cases hs
  · cases hs

end Go.Own

/- Frames, contracts of calls, single operations. -/
namespace Go.Own
open Go.RowKit

abbrev Fr := Nat → AV
def upd (fr : Fr) (i : Nat) (v : AV) : Fr := fun j => if j = i then v else fr j
/-- The frame in which a function begins. -/
def frame0 (args : List AV) : Fr := fun j => args.getD j .junk
def ev (fr : Fr) : Operand → AV
  | .tmp t => fr t
  | .const v => match ofVal v with
    | some a => a
    | none => .junk
  | .func f => .func (.func f) [] []
  | .global _ => .junk
def evs (fr : Fr) (xs : Array Operand) : List AV := xs.toList.map (ev fr)

structure frel (G : Ghost) (n : Nat) (fr : Fr) (a : Act) : Prop where
  size : a.tmps.size = n
  defers : a.defers = []
  at_ : ∀ j, vrel G (fr j) (a.tmps.getD j undef)
theorem frel_mono {G G' : Ghost} (hl : G.le G') {n : Nat} {fr : Fr} {a : Act} (h : frel G n fr a) : frel G' n fr a := ⟨h.size, h.defers, fun j => vrel_mono hl _ _ (h.at_ j)⟩
theorem ev_rel {G : Ghost} {n : Nat} {fr : Fr} {a : Act} (h : frel G n fr a) (x : Operand) : vrel G (ev fr x) (a.eval x) := by
  cases x with
  | tmp t => exact h.at_ t
  | const v =>
    simp only [ev, Act.eval]
    split
    · rename_i a' h'; exact ofVal_rel h'
    · simp only [vrel]
  | global g => simp only [ev, vrel]
  | func f => simp only [ev, Act.eval, vrel]; exact ⟨[], [], rfl, by simp only [lrel], by simp only [lrel]⟩
theorem evs_rel {G : Ghost} {n : Nat} {fr : Fr} {a : Act} (h : frel G n fr a) (xs : Array Operand) : lrel G (evs fr xs) (xs.map a.eval).toList := by
  simp only [evs, Array.toList_map]
  generalize xs.toList = l
  induction l with
  | nil => simp only [List.map_nil, lrel]
  | cons x l ih => simp only [List.map_cons, lrel]; exact ⟨_, _, rfl, ev_rel h x, ih⟩
theorem frel_upd {G : Ghost} {n : Nat} {fr : Fr} {a : Act} (h : frel G n fr a) {d : Nat} (hd : d < n) {v : AV} {rv : Value} (hv : vrel G v rv) : frel G n (upd fr d v) (a.put (some d) rv) := by
  refine ⟨by simp [Act.put, h.size], h.defers, fun j => ?_⟩
  simp only [upd, Act.put]
  by_cases hj : j = d
  · subst hj
    simp only [if_true]
    have : (a.tmps.setIfInBounds j rv).getD j undef = rv := by
      rw [Array.getD_eq_getD_getElem?, Array.getElem?_setIfInBounds_self_of_lt (by rw [h.size]; exact hd)]; rfl
    rw [this]; exact hv
  · have : (a.tmps.setIfInBounds d rv).getD j undef = a.tmps.getD j undef := by
      rw [Array.getD_eq_getD_getElem?, Array.getD_eq_getD_getElem?, Array.getElem?_setIfInBounds_ne (Ne.symm hj)]
    rw [if_neg hj, this]; exact h.at_ j

/-- A function, called with these arguments in this heap, returns; what it returns, and the heap then, meet Q. -/
structure ACalls (P : Program) (f : FuncId) (args : List AV) (h : AHeap) (Q : AV → AHeap → Prop) : Prop where
  run : ∀ (G : Ghost) (w : World) (cargs : List Value), Rel G h w → lrel G args cargs →
    Calls P f cargs.toArray w fun e w' => ∃ rv v h' G', e = .returned rv ∧ Rel G' h' w' ∧ vrel G' v rv ∧ Q v h' ∧ G.le G'
theorem ACalls.mono {P : Program} {f : FuncId} {args : List AV} {h : AHeap} {Q Q' : AV → AHeap → Prop} (H : ACalls P f args h Q) (hq : ∀ v h', Q v h' → Q' v h') : ACalls P f args h Q' :=
  ⟨fun G w cargs r l => (H.run G w cargs r l).mono fun _e _w' ⟨rv, v, h', G', a, b, c, d, e'⟩ => ⟨rv, v, h', G', a, b, c, hq v h' d, e'⟩⟩

def some1 {α : Type} (o : Option α) (k : α → Prop) : Prop := ∃ v, o = some v ∧ k v
theorem some1_of {α : Type} {o : Option α} {k : α → Prop} {v : α} (h : o = some v) (hk : k v) : some1 o k := ⟨v, h, hk⟩
def aif (c : AV) (A B : Prop) : Prop := match c with
  | .bool b => if b = true then A else B
  | _ => False
/-- A guarded operation: carried out, or passed over. -/
def agrd (c : AV) (want : Bool) (A B : Prop) : Prop := match c with
  | .bool b => if b = want then A else B
  | _ => False
def aext (x : AV) (i : Nat) : Option AV := match x with
  | .tuple vs => vs[i]?
  | _ => none
def anil (x : AV) : Bool := match x with
  | .ptr _ _ _ | .cptr _ => true
  | .func (.func _) _ _ => true
  | _ => false
/-- Is the type one of numbers or texts? -/
def numT (P : Program) (t : TypeId) : Bool := match P.underlying t with
  | some (.int _) | some .string => true
  | _ => false
def aeqP (P : Program) (op : BinOp) (t : TypeId) (x y : AV) : Option AV := aeq op (P.underlying t) (eqKinds P t) x y
def hasBody (P : Program) (f : FuncId) : Bool := match P.funcs[f]? with
  | some fn => fn.body.isSome && !(fn.name == "runtime.NumGoroutine")
  | none => false
/-- A call of a function that has a body. -/
def acall (P : Program) (f : FuncId) (args : List AV) (h : AHeap) (k : AV → AHeap → Prop) : Prop := match hasBody P f with
  | true => ACalls P f args h k
  | false => False
/-- A call of a function value. -/
def acallv (P : Program) (f : AV) (args : List AV) (h : AHeap) (k : AV → AHeap → Prop) : Prop := match f with
  | .func (.func fid) first captured => hasBody P fid = true ∧ ACalls P fid (first ++ args ++ captured) h k
  | _ => False
def amin (x y : AV) : Option AV := match x, y with
  | .int k a, .int _ b => some (.int k (if b < a then b else a))
  | _, _ => none
def amax (x y : AV) : Option AV := match x, y with
  | .int k a, .int _ b => some (.int k (if b > a then b else a))
  | _, _ => none
def abuiltin (P : Program) (b : Builtin) (ts : Array TypeId) (args : List AV) (h : AHeap) (k : AV → AHeap → Prop) : Prop :=
  match b, args with
  | .len, [x] => match ts[0]? with
    | some t => match lnKind P t with
      | some kd => some1 (alen kd x h) fun v => k v h
      | none => False
    | none => False
  | .append, [s, x] => match apKind P ts with
    | some (_, esz, bytes) => some1 (aappend esz bytes s x h) fun r => k r.1 r.2
    | none => False
  | .copy, [d, s] => match ts[0]? with
    | some t => match elKind P t with
      | some (_, esz, _, _) => some1 (acopy esz d s h) fun r => k r.1 r.2
      | none => False
    | none => False
  | .min, [x, y] => some1 (amin x y) fun v => k v h
  | .max, [x, y] => some1 (amax x y) fun v => k v h
  | _, _ => False
def staticF : Operand → Option FuncId
  | .func f => some f
  | _ => none
/-- A new object. -/
def anew (cs : List AV) (h : AHeap) (k : AV → AHeap → Prop) : Prop := k (.ptr h.next 0 0) (h.push (.cells 0 cs))
def anewsl (n esz : Nat) (cs : List AV) (h : AHeap) (k : AV → AHeap → Prop) : Prop := k (.sl h.next 0 0 n esz) (h.push (.cells 0 cs))
/-- What an operation comes to. -/
def vop (P : Program) (op : Op) (fr : Fr) (h : AHeap) (k : AV → AHeap → Prop) : Prop :=
  match op with
  | .move x => k (ev fr x) h
  | .assign x => k (ev fr x) h
  | .pick c a b => aif (ev fr c) (k (ev fr a) h) (k (ev fr b) h)
  | .alloc t => some1 (azero P t) fun cs => anew cs h k
  | .box _ x => some1 (ev fr x).cells? fun cs => anew cs h k
  | .load t a => match tkind P t with
    | some (b, n) => some1 (aloadv b n (ev fr a) h) fun v => k v h
    | none => False
  | .store t a x => match tkind P t with
    | some (_, n) => some1 (astorev n (ev fr a) (ev fr x) h) fun h => k .junk h
    | none => False
  | .nilCheck x => anil (ev fr x) = true ∧ k (ev fr x) h
  | .binOp op t x y _ => match numT P t with
    | true => some1 (abin op (ev fr x) (ev fr y)) fun v => k v h
    | false => some1 (aeqP P op t (ev fr x) (ev fr y)) fun v => k v h
  | .unOp op _ x => some1 (aun op (ev fr x)) fun v => k v h
  | .convert s d x => match cvKind P s d with
    | some c => some1 (acv c (ev fr x) h) fun r => k r.1 r.2
    | none => False
  | .makeFunc fn first captured => k (.func fn (evs fr first) (evs fr captured)) h
  | .makeSlice t l c => match elKind P t with
    | some (_, esz, bytes, zc) => some1 (amake esz bytes zc (ev fr l) (ev fr c) h) fun r => k r.1 r.2
    | none => False
  | .slice t x lo hi mx => match slKind P t, hi, mx with
    | some _, none, some _ => False
    | some kd, hi, mx => some1 (aslice kd (ev fr x) (lo.map (ev fr)) (hi.map (ev fr)) (mx.map (ev fr)) h) fun v => k v h
    | none, _, _ => False
  | .fieldAddr t x f => match fieldOff P t f with
    | some off => some1 (afaddr off (ev fr x)) fun v => k v h
    | none => False
  | .field t x f => match fieldKind P t f with
    | some (b, n, off) => some1 (apart b n off (ev fr x)) fun v => k v h
    | none => False
  | .indexAddr t x i => match iaKind P t with
    | some (len, esz) => some1 (aiaddr len esz (ev fr x) (ev fr i)) fun v => k v h
    | none => False
  | .index t x i => match ixKind P t with
    | some kd => some1 (aindex kd (ev fr x) (ev fr i)) fun v => k v h
    | none => False
  | .extract x i => some1 (aext (ev fr x) i) fun v => k v h
  | .build t ps => match bok P t, azero P t, bparts P t (ev fr) ps.toList with
    | true, some zc, some l => some1 (afill zc l) fun cs => k (.agg cs) h
    | _, _, _ => False
  | .buildSlice t n ps => match elKind P t with
    | some (_, esz, _, zc) => match n, ps.toList with
      | 0, [] => k .emp h
      | n, l => 0 < n ∧ n * esz ≤ 16777216 ∧ some1 (afill (zcells zc n) (lparts esz (ev fr) l)) fun cs => anewsl n esz cs h k
    | none => False
  | .range t x => match isStrT P t with
    | true => some1 (arange (ev fr x) h) fun r => k r.1 r.2
    | false => False
  | .next it s => match s with
    | true => some1 (anext (ev fr it) h) fun r => k r.1 r.2
    | false => False
  | .sliceToArrayPointer t x => match arrN P t with
    | some n => some1 (asarr n (ev fr x)) fun v => k v h
    | none => False
  | .call c => match c.callee with
    | .builtin b => abuiltin P b c.argTypes (evs fr c.args) h k
    | .value f => match staticF f with
      | some fid => acall P fid (evs fr c.args) h k
      | none => acallv P (ev fr f) (evs fr c.args) h k
    | _ => False
  | _ => False

/-- What an operation's run may come to. -/
def Good (P : Program) (k : AV → AHeap → Prop) (G : Ghost) : Result Next → Prop
  | .ok (.value rv) w' => ∃ v h' G', Rel G' h' w' ∧ vrel G' v rv ∧ k v h' ∧ G.le G'
  | .ok .skip w' => ∃ h' G', Rel G' h' w' ∧ k .junk h' ∧ G.le G'
  | .ok (.enter f args) w' => ∃ h' largs, Rel G h' w' ∧ lrel G largs args.toList ∧ ACalls P f largs h' k
  | _ => False

theorem good_value {P : Program} {k : AV → AHeap → Prop} {G : Ghost} {h : AHeap} {w : World} {s : Sem Value} {v : AV} (r : Rel G h w) (hs : ∃ rv, s.run P w = .ok rv w ∧ vrel G v rv) (hk : k v h) :
    Good P k G ((do pure (.value (← s)) : Sem Next).run P w) := by
  obtain ⟨rv, h1, h2⟩ := hs
  simp only [Sem.run_bind, h1, Result.andThen_ok, Sem.run_pure]
  exact ⟨v, h, G, r, h2, hk, .refl G⟩
theorem good_value' {P : Program} {k : AV → AHeap → Prop} {G : Ghost} {h' : AHeap} {w : World} {s : Sem Value} {v : AV} (hs : ∃ rv w' G', s.run P w = .ok rv w' ∧ Rel G' h' w' ∧ vrel G' v rv ∧ G.le G') (hk : k v h') :
    Good P k G ((do pure (.value (← s)) : Sem Next).run P w) := by
  obtain ⟨rv, w', G', h1, h2, h3, h4⟩ := hs
  simp only [Sem.run_bind, h1, Result.andThen_ok, Sem.run_pure]
  exact ⟨v, h', G', h2, h3, hk, h4⟩
theorem callFunc_run {P : Program} {f : FuncId} {args : Array Value} {w : World} (hb : hasBody P f = true) : (callFunc f args).run P w = .ok (.enter f args) w := by
  unfold hasBody at hb
  split at hb
  · rename_i fn hfn
    simp only [Bool.and_eq_true, Bool.not_eq_true'] at hb
    have h1 : fn.body.isNone = false := by rw [Option.isNone_eq_false_iff]; exact hb.1
    simp only [callFunc, Sem.run_bind, run_program, Result.andThen_ok, hfn, hb.2, Bool.false_eq_true, if_false, h1, Sem.run_pure]
  · cases hb

end Go.Own

/- A single operation of the model does what the abstract one says. -/
namespace Go.Own
open Go.RowKit

theorem good_unit {P : Program} {k : AV → AHeap → Prop} {G : Ghost} {h' : AHeap} {w : World} {s : Sem Unit} (hs : ∃ w' G', s.run P w = .ok () w' ∧ Rel G' h' w' ∧ G.le G') (hk : k .junk h') :
    Good P k G ((do s; pure .skip : Sem Next).run P w) := by
  obtain ⟨w', G', h1, h2, h3⟩ := hs
  simp only [Sem.run_bind, h1, Result.andThen_ok, Sem.run_pure]
  exact ⟨h', G', h2, hk, h3⟩

theorem lrel_one' {G : Ghost} {x : AV} {l : List Value} (h : lrel G [x] l) : ∃ a, l = [a] ∧ vrel G x a := by
  simp only [lrel] at h
  obtain ⟨a, rest, rfl, ha, rfl⟩ := h
  exact ⟨a, rfl, ha⟩
theorem lrel_two {G : Ghost} {x y : AV} {l : List Value} (h : lrel G [x, y] l) : ∃ a b, l = [a, b] ∧ vrel G x a ∧ vrel G y b := by
  simp only [lrel] at h
  obtain ⟨a, rest, rfl, ha, b, rest', rfl, hb, rfl⟩ := h
  exact ⟨a, b, rfl, ha, hb⟩
theorem lrel_one {G : Ghost} {x : AV} {l : List Value} (h : lrel G [x] l) : ∃ a, l = [a] ∧ vrel G x a := by
  simp only [lrel] at h
  obtain ⟨a, rest, rfl, ha, rfl⟩ := h
  exact ⟨a, rfl, ha⟩
theorem vopt_map {G : Ghost} {n : Nat} {fr : Fr} {a : Act} (hf : frel G n fr a) (x : Option Operand) : vopt G (x.map (ev fr)) (x.map a.eval) := by
  cases x with
  | none => trivial
  | some x => exact ev_rel hf x

theorem builtin_good {P : Program} {b : Builtin} {ts : Array TypeId} {ty : TypeId} {consts : Array Bool} {args : List AV} {cargs : List Value} {h : AHeap} {k : AV → AHeap → Prop} {G : Ghost} {w : World} (r : Rel G h w)
    (hl : lrel G args cargs) (hv : abuiltin P b ts args h k) : Good P k G ((builtin b ts ty consts cargs.toArray).run P w) := by
  unfold abuiltin at hv
  split at hv
  · rename_i x
    obtain ⟨a, rfl, ha⟩ := lrel_one hl
    split at hv
    · rename_i t ht
      split at hv
      · rename_i kd hk
        obtain ⟨v, h1, h2⟩ := hv
        exact good_value r (alen_run (ty := ty) r ht hk ha h1) h2
      · exact hv.elim
    · exact hv.elim
  · rename_i s x
    obtain ⟨a, b, rfl, ha, hb⟩ := lrel_two hl
    split at hv
    · rename_i e esz bytes hk
      obtain ⟨⟨v, h'⟩, h1, h2⟩ := hv
      obtain ⟨rv, w', G', e1, e2, e3, e4⟩ := aappend_run (ty := ty) r hk ha hb h1
      exact good_value' ⟨rv, w', G', e1, e2, e3, e4⟩ h2
    · exact hv.elim
  · rename_i d s
    obtain ⟨a, b, rfl, ha, hb⟩ := lrel_two hl
    split at hv
    · rename_i t ht
      split at hv
      · rename_i e esz bytes zc hk
        obtain ⟨⟨v, h'⟩, h1, h2⟩ := hv
        obtain ⟨rv, w', e1, e2, e3⟩ := acopy_run (ty := ty) r ht hk ha hb h1
        exact good_value' ⟨rv, w', G, e1, e2, e3, .refl G⟩ h2
      · exact hv.elim
    · exact hv.elim
  · rename_i x y
    obtain ⟨a, b, rfl, ha, hb⟩ := lrel_two hl
    obtain ⟨v, h1, h2⟩ := hv
    refine good_value r ?_ h2
    unfold amin at h1
    split at h1
    · simp only [Option.some.injEq] at h1; subst h1
      simp only [vrel] at ha hb
      subst ha; subst hb
      exact ⟨_, by simp [Builtin.min_, Builtin.min2]; rfl, by simp only [vrel]⟩
    · cases h1
  · rename_i x y
    obtain ⟨a, b, rfl, ha, hb⟩ := lrel_two hl
    obtain ⟨v, h1, h2⟩ := hv
    refine good_value r ?_ h2
    unfold amax at h1
    split at h1
    · simp only [Option.some.injEq] at h1; subst h1
      simp only [vrel] at ha hb
      subst ha; subst hb
      exact ⟨_, by simp [Builtin.max_, Builtin.max2]; rfl, by simp only [vrel]⟩
    · cases h1
  · exact hv.elim

theorem acallv_good {P : Program} {f : AV} {rf : Value} {args : List AV} {cargs : List Value} {h : AHeap} {k : AV → AHeap → Prop} {G : Ghost} {w : World} (r : Rel G h w)
    (hf : vrel G f rf) (hl : lrel G args cargs) (hv : acallv P f args h k) : Good P k G ((do let d ← Deferred.ofValue rf cargs.toArray; invoke d.target d.args : Sem Next).run P w) := by
  unfold acallv at hv
  split at hv
  · rename_i fid first captured
    obtain ⟨hb, hc⟩ := hv
    simp only [vrel] at hf
    obtain ⟨r1, r2, rfl, h1, h2⟩ := hf
    simp only [Deferred.ofValue, Sem.run_bind, Sem.run_pure, Result.andThen_ok, invoke, callFunc_run hb]
    refine ⟨h, first ++ args ++ captured, r, ?_, hc⟩
    simp only [Array.toList_append]
    exact lrel_append (lrel_append h1 hl) h2
  · exact hv.elim

theorem acall_spec {P : Program} {f : FuncId} {args : List AV} {h : AHeap} {k : AV → AHeap → Prop} (hv : acall P f args h k) : hasBody P f = true ∧ ACalls P f args h k := by
  unfold acall at hv
  split at hv
  · rename_i hb; exact ⟨hb, hv⟩
  · exact hv.elim
theorem acall_of {P : Program} {f : FuncId} {args : List AV} {h : AHeap} {k : AV → AHeap → Prop} (hb : hasBody P f = true) (hv : ACalls P f args h k) : acall P f args h k := by
  unfold acall
  rw [hb]; exact hv
theorem vop_good {P : Program} {o : Oper} {fr : Fr} {n : Nat} {a : Act} {h : AHeap} {k : AV → AHeap → Prop} {G : Ghost} {w : World} (r : Rel G h w) (hf : frel G n fr a) (hv : vop P o.op fr h k) :
    Good P k G ((execOp a.eval o).run P w) := by
  obtain ⟨dst, op, type, pos, after, guard⟩ := o
  simp only at hv
  cases op <;> simp only [vop] at hv <;> simp only [execOp] <;> try exact hv.elim
  case move x => exact ⟨_, h, G, r, ev_rel hf x, hv, .refl G⟩
  case assign x => exact ⟨_, h, G, r, ev_rel hf x, hv, .refl G⟩
  case pick c x y =>
    unfold aif at hv
    have hc := ev_rel hf c
    split at hv
    · rename_i b hb
      rw [hb] at hc
      simp only [vrel] at hc
      simp only [hc, asBool, Sem.run_bind, Sem.run_pure, Result.andThen_ok]
      cases b with
      | true => exact ⟨_, h, G, r, ev_rel hf x, by simpa using hv, .refl G⟩
      | false => exact ⟨_, h, G, r, ev_rel hf y, by simpa using hv, .refl G⟩
    · exact hv.elim
  case alloc t =>
    obtain ⟨cs, h1, h2⟩ := hv
    exact good_value' (alloc_run r h1) h2
  case box t x =>
    obtain ⟨cs, h1, h2⟩ := hv
    exact good_value' (box_run r (ev_rel hf x) h1) h2
  case load t x =>
    split at hv
    · rename_i b m ht
      obtain ⟨v, h1, h2⟩ := hv
      exact good_value r (aloadv_run r ht (ev_rel hf x) h1) h2
    · exact hv.elim
  case store t x y =>
    split at hv
    · rename_i b m ht
      obtain ⟨h', h1, h2⟩ := hv
      obtain ⟨w', e1, e2⟩ := astorev_run r ht (ev_rel hf x) (ev_rel hf y) h1
      exact good_unit ⟨w', G, e1, e2, .refl G⟩ h2
    · exact hv.elim
  case nilCheck x =>
    obtain ⟨h1, h2⟩ := hv
    have hx := ev_rel hf x
    unfold anil at h1
    split at h1
    · rename_i i rr o he
      rw [he] at hx h2
      simp only [vrel] at hx
      obtain ⟨hok, hx⟩ := hx
      simp only [hx]
      exact ⟨_, h, G, r, vrel_ptr hok, h2, .refl G⟩
    · rename_i cs he
      rw [he] at hx h2
      have hx0 := hx
      simp only [vrel] at hx
      obtain ⟨b, o, hx, _⟩ := hx
      rw [hx] at hx0
      simp only [hx]
      exact ⟨_, h, G, r, hx0, h2, .refl G⟩
    · rename_i fid f1 f2 he
      rw [he] at hx h2
      have hx0 := hx
      simp only [vrel] at hx
      obtain ⟨r1, r2, hx, _⟩ := hx
      rw [hx] at hx0
      simp only [hx]
      exact ⟨_, h, G, r, hx0, h2, .refl G⟩
    · cases h1
  case binOp op t x y yt =>
    split at hv
    · obtain ⟨v, h1, h2⟩ := hv
      exact good_value r (abin_run (ev_rel hf x) (ev_rel hf y) h1) h2
    · obtain ⟨v, h1, h2⟩ := hv
      exact good_value r (aeq_run (ev_rel hf x) (ev_rel hf y) h1) h2
  case unOp op t x =>
    obtain ⟨v, h1, h2⟩ := hv
    exact good_value r (aun_run (ev_rel hf x) h1) h2
  case convert s d x =>
    split at hv
    · rename_i c hc
      obtain ⟨⟨v, h'⟩, h1, h2⟩ := hv
      exact good_value' (acv_run r hc (ev_rel hf x) h1) h2
    · exact hv.elim
  case makeFunc fn first captured =>
    refine good_value r (v := .func fn (evs fr first) (evs fr captured)) ?_ hv
    refine ⟨.func fn (first.map a.eval) (captured.map a.eval), rfl, ?_⟩
    simp only [vrel]
    exact ⟨(first.map a.eval).toList, (captured.map a.eval).toList, by rw [Array.toArray_toList, Array.toArray_toList], evs_rel hf first, evs_rel hf captured⟩
  case makeSlice t l c =>
    split at hv
    · rename_i e esz bytes zc hk
      obtain ⟨⟨v, h'⟩, h1, h2⟩ := hv
      exact good_value' (amake_run r hk (ev_rel hf l) (ev_rel hf c) h1) h2
    · exact hv.elim
  case slice t x lo hi mx =>
    split at hv
    · exact hv.elim
    · rename_i hk hno
      obtain ⟨v, h1, h2⟩ := hv
      refine good_value r (slice_run r hk (ev_rel hf x) (vopt_map hf lo) (vopt_map hf _) (vopt_map hf _) ?_ h1) h2
      intro hh
      refine Option.map_eq_none_iff.2 ?_
      have h3 := Option.map_eq_none_iff.1 hh
      exact Option.eq_none_iff_forall_ne_some.2 fun m hm => hno m h3 hm
    · exact hv.elim
  case fieldAddr t x f =>
    split at hv
    · rename_i off ho
      obtain ⟨v, h1, h2⟩ := hv
      exact good_value r (afaddr_run ho (ev_rel hf x) h1) h2
    · exact hv.elim
  case field t x f =>
    split at hv
    · rename_i b m off hk
      obtain ⟨v, h1, h2⟩ := hv
      exact good_value r (field_run hk (ev_rel hf x) h1) h2
    · exact hv.elim
  case indexAddr t x i =>
    split at hv
    · rename_i len esz hk
      obtain ⟨v, h1, h2⟩ := hv
      exact good_value r (aiaddr_run hk (ev_rel hf x) (ev_rel hf i) h1) h2
    · exact hv.elim
  case index t x i =>
    split at hv
    · rename_i kd hk
      obtain ⟨v, h1, h2⟩ := hv
      exact good_value r (aindex_run hk (ev_rel hf x) (ev_rel hf i) h1) h2
    · exact hv.elim
  case extract x i =>
    obtain ⟨v, h1, h2⟩ := hv
    have hx := ev_rel hf x
    refine good_value r (v := v) ?_ h2
    unfold aext at h1
    split at h1
    · rename_i vs he
      rw [he] at hx
      simp only [vrel] at hx
      obtain ⟨rs, hx, hl⟩ := hx
      obtain ⟨rv, e1, e2⟩ := lrel_get i hl h1
      exact ⟨rv, by simp [Instr.extract, hx, e1], e2⟩
    · cases h1
  case build t ps =>
    split at hv
    · rename_i zc l hb hz hl
      obtain ⟨cs, h1, h2⟩ := hv
      exact good_value r (build_run (ev_rel hf) hz hb hl h1) h2
    · exact hv.elim
  case buildSlice t m ps =>
    split at hv
    · rename_i e esz bytes zc hk
      split at hv
      · rename_i hps
        have hps' : ps = #[] := by cases ps; simp_all
        subst hps'
        obtain ⟨rv, w', e1, e2, e3⟩ := buildSlice_nil r (by rw [hk]; rfl)
        exact good_value' ⟨rv, w', G, by simpa using e1, e2, e3, .refl G⟩ hv
      · obtain ⟨h0, hle, cs, h1, h2⟩ := hv
        exact good_value' (buildSlice_run r (ev_rel hf) hk ⟨h0, hle⟩ h1) h2
    · exact hv.elim
  case range t x =>
    split at hv
    · rename_i ht
      obtain ⟨⟨v, h'⟩, h1, h2⟩ := hv
      exact good_value' (arange_run r ht (ev_rel hf x) h1) h2
    · exact hv.elim
  case next it s =>
    split at hv
    · obtain ⟨⟨v, h'⟩, h1, h2⟩ := hv
      exact good_value' (anext_run r (ev_rel hf it) h1) h2
    · exact hv.elim
  case sliceToArrayPointer t x =>
    split at hv
    · rename_i m hm
      obtain ⟨v, h1, h2⟩ := hv
      exact good_value r (asarr_run hm (ev_rel hf x) h1) h2
    · exact hv.elim
  case call c =>
    obtain ⟨callee, args, argTypes⟩ := c
    simp only at hv
    have hl := evs_rel hf args
    cases callee with
    | builtin b =>
      simp only at hv
      simp only [resolve, Sem.run_bind, Sem.run_pure, Result.andThen_ok, invoke]
      have := builtin_good (ty := type) (consts := args.map fun | .const _ => true | _ => false) r hl hv
      rw [Array.toArray_toList] at this
      exact this
    | value f =>
      simp only at hv
      split at hv
      · rename_i fid hst
        have : f = .func fid := by cases f <;> simp [staticF] at hst; rw [hst]
        subst this
        obtain ⟨hb, hc⟩ := acall_spec hv
        simp only [resolve, Act.eval, Deferred.ofValue, Sem.run_bind, Sem.run_pure, Result.andThen_ok, invoke, callFunc_run hb]
        exact ⟨h, _, r, by simpa using hl, hc⟩
      · have := acallv_good r (ev_rel hf f) hl hv
        rw [Array.toArray_toList] at this
        exact this
    | invoke x m => exact hv.elim

end Go.Own

/- Regions whose order is fixed. -/
namespace Go.Own
open Go.RowKit

def aput (n : Nat) (dst : Option Tmp) (v : AV) (fr : Fr) (k : Fr → Prop) : Prop := match dst with
  | none => k fr
  | some d => if d < n then k (upd fr d v) else False
def gdst (ops : Array Oper) (j : Nat) : Option Tmp := (ops[j]?).bind (·.dst)
/-- What a temporary holds whose operation was passed over. -/
abbrev skipv : AV := .tuple []
def isU : AV → Bool
  | .tuple [] => true
  | _ => false
theorem isU_eq {v : AV} (h : isU v = true) : v = skipv := by
  unfold isU at h
  split at h
  · rfl
  · cases h
def addsk (dst : Option Tmp) (sk : List Nat) : List Nat := match dst with
  | none => sk
  | some d => d :: sk
/-- Operations one behind the other. -/
def opsc (P : Program) (n : Nat) (ops : Array Oper) : List Oper → List Nat → (Fr → AHeap → Prop) → Fr → AHeap → Prop
  | [], _, K, fr, h => K fr h
  | o :: rest, sk, K, fr, h => match o.guard with
    | none => vop P o.op fr h fun v h => aput n o.dst v fr fun fr => opsc P n ops rest sk K fr h
    | some (j, want) => match gdst ops j with
      | some t => match sk.contains t with
        | true => match isU (fr t) with
          | true => aput n o.dst skipv fr fun fr => opsc P n ops rest (addsk o.dst sk) K fr h
          | false => False
        | false => agrd (fr t) want (vop P o.op (upd fr t (.bool want)) h fun v h => aput n o.dst v (upd fr t (.bool want)) fun fr => opsc P n ops rest sk K fr h) (aput n o.dst skipv (upd fr t (.bool (!want))) fun fr => opsc P n ops rest (addsk o.dst sk) K fr h)
      | none => False

theorem upd_same {fr : Fr} {t : Nat} {v : AV} (h : fr t = v) : upd fr t v = fr := by
  funext j
  simp only [upd]
  split
  · rename_i hj; rw [hj, h]
  · rfl
theorem frel_put {G : Ghost} {n : Nat} {fr : Fr} {a : Act} {dst : Option Tmp} {v : AV} {rv : Value} {k : Fr → Prop} (hf : frel G n fr a) (hv : vrel G v rv) (hp : aput n dst v fr k) : ∃ fr', k fr' ∧ frel G n fr' (a.put dst rv) := by
  unfold aput at hp
  split at hp
  · exact ⟨fr, hp, hf⟩
  · rename_i d
    split at hp
    · rename_i hd; exact ⟨_, hp, frel_upd hf hd hv⟩
    · exact hp.elim

/-- From what an operation comes to, on to what follows. -/
theorem good_next {P : Program} {o : Oper} {n : Nat} {fr : Fr} {a : Act} {G : Ghost} {K : Fr → AHeap → Prop} {next : Act → World → Prop} {Q : Exit → Act → World → Prop} {res : Result Next} (hf : frel G n fr a)
    (hg : Good P (fun v h => aput n o.dst v fr fun fr => K fr h) G res)
    (hn : ∀ G' fr' h' a' w', G.le G' → Rel G' h' w' → frel G' n fr' a' → K fr' h' → next a' w') : o.upon P a next Q res := by
  unfold Good at hg
  split at hg
  · rename_i rv w'
    obtain ⟨v, h', G', r, hv, hk, hl⟩ := hg
    rw [Oper.upon_value]
    obtain ⟨fr', h1, h2⟩ := frel_put (frel_mono hl hf) hv hk
    exact hn G' fr' h' _ w' hl r h2 h1
  · rename_i w'
    obtain ⟨h', G', r, hk, hl⟩ := hg
    rw [Oper.upon_skip]
    obtain ⟨fr', h1, h2⟩ := frel_put (frel_mono hl hf) (rv := undef) (by simp only [vrel]) hk
    exact hn G' fr' h' _ w' hl r h2 h1
  · rename_i f args w'
    obtain ⟨h', largs, r, hla, hc⟩ := hg
    rw [Oper.upon_enter]
    have := hc.run G w' args.toList r hla
    rw [Array.toArray_toList] at this
    refine this.mono ?_
    rintro e w'' ⟨rv, v, h'', G', rfl, r', hv, hk, hl⟩
    obtain ⟨fr', h1, h2⟩ := frel_put (frel_mono hl hf) hv hk
    exact hn G' fr' h'' _ w'' hl r' h2 h1
  · exact hg.elim

theorem vrel_skip {G : Ghost} : vrel G skipv undef := by
  simp only [vrel, lrel]
  exact ⟨[], rfl, rfl⟩
theorem guard_skip {G : Ghost} {n : Nat} {fr : Fr} {a : Act} {ops : Array Oper} {j t : Nat} (hf : frel G n fr a) (ht : gdst ops j = some t) (hb : fr t = skipv) : yielded ops a.tmps j = none := by
  have h1 := hf.at_ t
  rw [hb] at h1
  simp only [vrel, lrel] at h1
  obtain ⟨rs, h1, rfl⟩ := h1
  unfold gdst at ht
  unfold yielded
  rw [ht]
  rw [Array.getD_eq_getD_getElem?] at h1
  cases h3 : a.tmps[t]? with
  | none => simp [h3]
  | some x =>
    rw [h3] at h1
    simp at h1
    simp [h3, h1]
theorem guard_bool {G : Ghost} {n : Nat} {fr : Fr} {a : Act} {ops : Array Oper} {j t : Nat} {b : Bool} (hf : frel G n fr a) (ht : gdst ops j = some t) (hb : fr t = .bool b) : yielded ops a.tmps j = some b := by
  have h1 := hf.at_ t
  rw [hb] at h1
  simp only [vrel] at h1
  have h2 : a.tmps[t]? = some (.bool b) := by
    rw [Array.getD_eq_getD_getElem?] at h1
    cases h3 : a.tmps[t]? with
    | none => rw [h3] at h1; simp [undef] at h1
    | some x => rw [h3] at h1; simpa using h1
  unfold gdst at ht
  unfold yielded
  rw [ht]
  simp [h2]

/-- One operation, guarded or not. -/
theorem opc_sound {P : Program} {n : Nat} {ops : Array Oper} {o : Oper} {rest : List Oper} {sk : List Nat} {K : Fr → AHeap → Prop} {fr : Fr} {h : AHeap} {G : Ghost} {w : World} {a : Act} {next : Act → World → Prop} {Q : Exit → Act → World → Prop}
    (hv : opsc P n ops (o :: rest) sk K fr h) (r : Rel G h w) (hf : frel G n fr a) (hn : ∀ G' sk' fr' h' a' w', G.le G' → Rel G' h' w' → frel G' n fr' a' → opsc P n ops rest sk' K fr' h' → next a' w') :
    if Region.wanted o (yielded ops a.tmps) then o.wp P a w next Q ∨ (o.asks P a w ∧ LetsOut Q) else next (a.put o.dst undef) w := by
  simp only [opsc] at hv
  split at hv
  · rename_i hg
    have hw : Region.wanted o (yielded ops a.tmps) = true := by simp [Region.wanted, hg]
    rw [if_pos hw]
    exact .inl (good_next hf (vop_good r hf hv) fun G' fr' h' a' w' => hn G' sk fr' h' a' w')
  · rename_i j want hg
    split at hv
    · rename_i t ht
      split at hv
      · split at hv
        · rename_i hu
          have hy := guard_skip hf ht (isU_eq hu)
          have hw : ¬ Region.wanted o (yielded ops a.tmps) = true := by simp [Region.wanted, hg, hy]
          rw [if_neg hw]
          obtain ⟨fr', h1, h2⟩ := frel_put hf (rv := undef) vrel_skip hv
          exact hn G _ fr' h _ w (.refl G) r h2 h1
        · exact hv.elim
      unfold agrd at hv
      split at hv
      · rename_i b hb
        have hy := guard_bool hf ht hb
        split at hv
        · rename_i hbw
          rw [upd_same (by rw [hb, hbw])] at hv
          have hw : Region.wanted o (yielded ops a.tmps) = true := by simp [Region.wanted, hg, hy, hbw]
          rw [if_pos hw]
          exact .inl (good_next hf (vop_good r hf hv) fun G' fr' h' a' w' => hn G' sk fr' h' a' w')
        · rename_i hbw
          rw [upd_same (by rw [hb]; congr 1; cases b <;> cases want <;> simp_all)] at hv
          have hw : ¬ Region.wanted o (yielded ops a.tmps) = true := by simp [Region.wanted, hg, hy, hbw]
          rw [if_neg hw]
          obtain ⟨fr', h1, h2⟩ := frel_put hf (rv := undef) vrel_skip hv
          exact hn G _ fr' h _ w (.refl G) r h2 h1
      · exact hv.elim
    · exact hv.elim

theorem opsc_sound {P : Program} {n : Nat} {ops : Array Oper} {K : Fr → AHeap → Prop} {Q : Exit → Act → World → Prop} : ∀ (l : List Oper) (is : List Nat), is.map (ops[·]?) = l.map some →
    ∀ {sk : List Nat} {fr : Fr} {h : AHeap} {G : Ghost} {w : World} {a : Act}, opsc P n ops l sk K fr h → Rel G h w → frel G n fr a →
    (∀ G' fr' h' a' w', G.le G' → Rel G' h' w' → frel G' n fr' a' → K fr' h' → Q .normal a' w') → wpOps P ops Q is a w
  | [], is, his, sk, fr, h, G, w, a, hv, r, hf, hq => by
    have : is = [] := by simpa using his
    subst this
    simp only [wpOps]
    exact hq G fr h a w (.refl G) r hf hv
  | o :: l, [], his, _, _, _, _, _, _, _, _, _, _ => by simp at his
  | o :: l, i :: is, his, sk, fr, h, G, w, a, hv, r, hf, hq => by
    simp only [List.map_cons, List.cons.injEq] at his
    simp only [wpOps, his.1]
    refine opc_sound hv r hf ?_
    intro G' sk' fr' h' a' w' hl r' hf' hv'
    exact opsc_sound l is his.2 hv' r' hf' fun G'' fr'' h'' a'' w'' hl' r'' hf'' hk => hq G'' fr'' h'' a'' w'' (hl.trans hl') r'' hf'' hk

end Go.Own

/- Regions that draw their order: quiet operations first, in whatever order; then a tail whose order is forced. -/
namespace Go.Own
open Go.RowKit

/-- Operations that leave the heap as it is, and come to one value. -/
def pureOp (P : Program) : Op → Bool
  | .move _ | .assign _ | .load _ _ | .nilCheck _ | .binOp .. | .unOp .. | .makeFunc .. | .slice .. | .fieldAddr .. | .field .. | .indexAddr .. | .index .. | .extract .. | .build .. | .sliceToArrayPointer .. => true
  | .convert s d _ => match cvKind P s d with
    | some (.sb _) => false
    | _ => true
  | .call { callee := .builtin .len, .. } | .call { callee := .builtin .min, .. } | .call { callee := .builtin .max, .. } => true
  | _ => false
def apick (c a b : AV) : Option AV := match c with
  | .bool t => some (if t then a else b)
  | _ => none
/-- A call that leaves the heap as it is. -/
def aqcall (P : Program) (f : FuncId) (args : List AV) (h : AHeap) (k : AV → Prop) : Prop := ∃ v0, ACalls P f args h (fun v h' => v = v0 ∧ h' = h) ∧ k v0
def qop (P : Program) (op : Op) (fr : Fr) (h : AHeap) (k : AV → Prop) : Prop :=
  match op with
  | .pick c a b => some1 (apick (ev fr c) (ev fr a) (ev fr b)) k
  | .call { callee := .value f, args, .. } => match staticF f with
    | some fid => match hasBody P fid with
      | true => aqcall P fid (evs fr args) h k
      | false => False
    | none => False
  | op => match pureOp P op with
    | true => vop P op fr h fun v _ => k v
    | false => False

/-- What is common to all that an operation may be asked: it comes to v, the heap as it was. -/
def Quiet (P : Program) (op : Op) (fr : Fr) (h : AHeap) (v : AV) : Prop := ∀ k : AV → AHeap → Prop, k v h → vop P op fr h k

theorem pure_vop {P : Program} {op : Op} {fr : Fr} {h : AHeap} {k : AV → Prop} (hp : pureOp P op = true) (hv : vop P op fr h fun v _ => k v) : ∃ v, Quiet P op fr h v ∧ k v := by
  unfold Quiet
  cases op <;> simp only [pureOp, Bool.false_eq_true] at hp <;> simp only [vop] at hv ⊢
  case move x => exact ⟨_, fun k hk => hk, hv⟩
  case assign x => exact ⟨_, fun k hk => hk, hv⟩
  case load t x =>
    split at hv
    · obtain ⟨v, h1, h2⟩ := hv; exact ⟨v, fun k hk => ⟨v, h1, hk⟩, h2⟩
    · exact hv.elim
  case nilCheck x => exact ⟨_, fun k hk => ⟨hv.1, hk⟩, hv.2⟩
  case binOp op t x y yt =>
    split at hv
    · obtain ⟨v, h1, h2⟩ := hv; exact ⟨v, fun k hk => ⟨v, h1, hk⟩, h2⟩
    · obtain ⟨v, h1, h2⟩ := hv; exact ⟨v, fun k hk => ⟨v, h1, hk⟩, h2⟩
  case unOp op t x => obtain ⟨v, h1, h2⟩ := hv; exact ⟨v, fun k hk => ⟨v, h1, hk⟩, h2⟩
  case makeFunc fn a b => exact ⟨_, fun k hk => hk, hv⟩
  case convert s d x =>
    split at hv
    · rename_i c hc
      obtain ⟨⟨v, h'⟩, h1, h2⟩ := hv
      have hh : h' = h := by
        rw [hc] at hp
        unfold acv at h1
        split at h1
        · simp only [Option.some.injEq, Prod.mk.injEq] at h1; exact h1.2.symm
        · simp only [Option.some.injEq, Prod.mk.injEq] at h1; exact h1.2.symm
        · simp at hp
        · split at h1
          · split at h1
            · simp only [Option.some.injEq, Prod.mk.injEq] at h1; exact h1.2.symm
            · cases h1
          · cases h1
        · cases h1
      subst hh
      exact ⟨v, fun k hk => ⟨(v, h'), h1, hk⟩, h2⟩
    · exact hv.elim
  case slice t x lo hi mx =>
    split at hv
    · exact hv.elim
    · obtain ⟨v, h1, h2⟩ := hv; exact ⟨v, fun k hk => ⟨v, h1, hk⟩, h2⟩
    · exact hv.elim
  case fieldAddr t x f =>
    split at hv
    · obtain ⟨v, h1, h2⟩ := hv; exact ⟨v, fun k hk => ⟨v, h1, hk⟩, h2⟩
    · exact hv.elim
  case field t x f =>
    split at hv
    · obtain ⟨v, h1, h2⟩ := hv; exact ⟨v, fun k hk => ⟨v, h1, hk⟩, h2⟩
    · exact hv.elim
  case indexAddr t x f =>
    split at hv
    · obtain ⟨v, h1, h2⟩ := hv; exact ⟨v, fun k hk => ⟨v, h1, hk⟩, h2⟩
    · exact hv.elim
  case index t x f =>
    split at hv
    · obtain ⟨v, h1, h2⟩ := hv; exact ⟨v, fun k hk => ⟨v, h1, hk⟩, h2⟩
    · exact hv.elim
  case extract x i => obtain ⟨v, h1, h2⟩ := hv; exact ⟨v, fun k hk => ⟨v, h1, hk⟩, h2⟩
  case build t ps =>
    split at hv
    · obtain ⟨v, h1, h2⟩ := hv; exact ⟨_, fun k hk => ⟨v, h1, hk⟩, h2⟩
    · exact hv.elim
  case sliceToArrayPointer t x =>
    split at hv
    · obtain ⟨v, h1, h2⟩ := hv; exact ⟨v, fun k hk => ⟨v, h1, hk⟩, h2⟩
    · exact hv.elim
  case call c =>
    obtain ⟨callee, args, ts⟩ := c
    cases callee with
    | builtin b =>
      cases b <;> simp only [Bool.false_eq_true] at hp <;> simp only [abuiltin] at hv ⊢
      case len =>
        split at hv
        all_goals first
          | contradiction
          | exact hv.elim
          | (split at hv
             · split at hv
               · obtain ⟨v, h1, h2⟩ := hv; exact ⟨v, fun k hk => ⟨v, h1, hk⟩, h2⟩
               · exact hv.elim
             · exact hv.elim)
      case min =>
        split at hv
        all_goals first
          | contradiction
          | exact hv.elim
          | (obtain ⟨v, h1, h2⟩ := hv; exact ⟨v, fun k hk => ⟨v, h1, hk⟩, h2⟩)
      case max =>
        split at hv
        all_goals first
          | contradiction
          | exact hv.elim
          | (obtain ⟨v, h1, h2⟩ := hv; exact ⟨v, fun k hk => ⟨v, h1, hk⟩, h2⟩)
    | value f => simp at hp
    | invoke x m => simp at hp

theorem ev_congr {fr fr' : Fr} {x : Operand} (h : ∀ t, x = .tmp t → fr t = fr' t) : ev fr x = ev fr' x := by
  cases x with
  | tmp t => exact h t rfl
  | _ => rfl
theorem evs_congr {fr fr' : Fr} {xs : Array Operand} (h : ∀ x ∈ xs, ev fr x = ev fr' x) : evs fr xs = evs fr' xs := by
  unfold evs
  exact List.map_congr_left fun x hx => h x (by simpa using hx)
theorem bparts_congr {P : Program} {t : TypeId} {e e' : Operand → AV} : ∀ {ps : List (Nat × Operand)}, (∀ p ∈ ps, e p.2 = e' p.2) → bparts P t e ps = bparts P t e' ps
  | [], _ => rfl
  | (i, x) :: r, h => by
    simp only [bparts]
    rw [bparts_congr (ps := r) fun p hp => h p (by simp [hp]), h (i, x) (by simp)]
theorem lparts_congr {n : Nat} {e e' : Operand → AV} : ∀ {ps : List (Nat × Operand)}, (∀ p ∈ ps, e p.2 = e' p.2) → lparts n e ps = lparts n e' ps
  | [], _ => rfl
  | (i, x) :: r, h => by
    simp only [lparts]
    rw [lparts_congr (ps := r) fun p hp => h p (by simp [hp]), h (i, x) (by simp)]
/-- An operation looks at its operands alone. -/
theorem vop_congr {P : Program} {op : Op} {fr fr' : Fr} {h : AHeap} {k : AV → AHeap → Prop} (he : ∀ x ∈ op.operands, ev fr x = ev fr' x) : vop P op fr h k = vop P op fr' h k := by
  cases op <;> simp only [Op.operands] at he <;> simp only [vop]
  case move x => rw [he x (by simp)]
  case assign x => rw [he x (by simp)]
  case pick c x y => rw [he c (by simp), he x (by simp), he y (by simp)]
  case box t x => rw [he x (by simp)]
  case load t x => rw [he x (by simp)]
  case store t x y => rw [he x (by simp), he y (by simp)]
  case nilCheck x => rw [he x (by simp)]
  case binOp op t x y yt => rw [he x (by simp), he y (by simp)]
  case unOp op t x => rw [he x (by simp)]
  case convert s d x => rw [he x (by simp)]
  case makeFunc fn a b => rw [evs_congr fun x hx => he x (by simp [hx]), evs_congr fun x hx => he x (by simp [hx])]
  case makeSlice t x y => rw [he x (by simp), he y (by simp)]
  case slice t x lo hi mx =>
    have e1 : lo.map (ev fr) = lo.map (ev fr') := by cases lo with | none => rfl | some y => simp [he y (by simp)]
    rw [he x (by simp), e1]
    cases slKind P t with
    | none => cases hi <;> cases mx <;> rfl
    | some kd =>
      cases hi with
      | none => cases mx <;> rfl
      | some y =>
        have e2 := he y (by simp)
        cases mx with
        | none => simp only [Option.map_some, Option.map_none, e2]
        | some z => simp only [Option.map_some, e2, he z (by simp)]
  case fieldAddr t x f => rw [he x (by simp)]
  case field t x f => rw [he x (by simp)]
  case indexAddr t x i => rw [he x (by simp), he i (by simp)]
  case index t x i => rw [he x (by simp), he i (by simp)]
  case extract x i => rw [he x (by simp)]
  case range t x => rw [he x (by simp)]
  case next x s => rw [he x (by simp)]
  case sliceToArrayPointer t x => rw [he x (by simp)]
  case build t ps => rw [bparts_congr (e := ev fr) (e' := ev fr') fun p hp => he p.2 (by simp; exact ⟨p.1, by simpa using hp⟩)]
  case buildSlice t n ps =>
    have key : ∀ (m : Nat) (l : List (Nat × Operand)), l = ps.toList → lparts m (ev fr) l = lparts m (ev fr') l := fun m l hl => lparts_congr fun p hp => he p.2 (by simp; exact ⟨p.1, by rw [hl] at hp; simpa using hp⟩)
    cases elKind P t with
    | none => rfl
    | some q =>
      obtain ⟨e, esz, b, zc⟩ := q
      simp only
      generalize hl : ps.toList = l at key ⊢
      cases n with
      | zero => cases l with
        | nil => rfl
        | cons p l => simp only [key esz _ rfl]
      | succ n => simp only [key esz _ rfl]
  case call c =>
    obtain ⟨callee, args, ts⟩ := c
    simp only [Call.operands] at he
    have e1 : evs fr args = evs fr' args := evs_congr fun x hx => he x (by simp [hx])
    cases callee with
    | builtin b => simp only [e1]
    | value f => simp only [e1]; rw [he f (by simp)]
    | invoke x m => rfl

end Go.Own

/- Regions that draw their order: whatever order is drawn, the end is the lexical one's. -/
namespace Go.Own
open Go.RowKit

/-- What surely comes ahead of each operation: bit j of number i. -/
def maskOf (acc : List Nat) (es : List Edge) : Nat := es.foldl (fun s e => if Region.binds .any e then s ||| 2 ^ e.on ||| acc.getD e.on 0 else s) 0
def masks : List Oper → List Nat → List Nat
  | [], acc => acc
  | o :: r, acc => masks r (acc ++ [maskOf acc o.after.toList])
def tailStart (ms : List Nat) : Nat := ms.length - ((List.range ms.length).reverse.takeWhile fun i => ms.getD i 0 == 2 ^ i - 1).length
def dokB (ops : Array Oper) (ms : List Nat) (m : Nat) : Bool :=
  let l := ops.toList.zipIdx
  l.all (fun (o, i) => o.after.toList.all fun e => !Region.binds .any e || e.on < i) &&
  l.all (fun (o, i) => l.all fun (o', k) => i == k || m ≤ i || m ≤ k || (match o'.dst with
    | some t => o.dst != some t && (!(o.looksAt ops).contains t || (ms.getD i 0).testBit k || (ms.getD k 0).testBit i)
    | none => true)) &&
  l.all (fun (_, i) => i < m || (List.range i).all fun j => (ms.getD i 0).testBit j)

/-- The direct predecessors of an operation lie in D. -/
def Preds (ops : Array Oper) (D : Nat → Prop) (i : Nat) : Prop := ∀ o, ops[i]? = some o → ∀ e ∈ o.after.toList, Region.binds .any e = true → D e.on
def DownC (ops : Array Oper) (D : Nat → Prop) : Prop := ∀ i, D i → Preds ops D i
/-- j comes ahead of i in every order. -/
def Ahead (ops : Array Oper) (j i : Nat) : Prop := j < i ∧ ∀ D, DownC ops D → Preds ops D i → D j

theorem maskOf_bit {acc : List Nat} : ∀ (es : List Edge) (s j : Nat), (es.foldl (fun s e => if Region.binds .any e then s ||| 2 ^ e.on ||| acc.getD e.on 0 else s) s).testBit j = true →
    s.testBit j = true ∨ ∃ e ∈ es, Region.binds .any e = true ∧ (e.on = j ∨ (acc.getD e.on 0).testBit j = true)
  | [], s, j, h => .inl h
  | e :: es, s, j, h => by
    simp only [List.foldl_cons] at h
    rcases maskOf_bit es _ j h with h | ⟨e', h1, h2⟩
    · split at h
      · rename_i hb
        simp only [Nat.testBit_or, Bool.or_eq_true] at h
        rcases h with (h | h) | h
        · exact .inl h
        · rw [Nat.testBit_two_pow] at h
          exact .inr ⟨e, by simp, hb, .inl (by simpa using h)⟩
        · exact .inr ⟨e, by simp, hb, .inr h⟩
      · exact .inl h
    · exact .inr ⟨e', by simp [h1], h2⟩
theorem masks_length : ∀ (l : List Oper) (acc : List Nat), (masks l acc).length = acc.length + l.length
  | [], acc => by simp [masks]
  | o :: r, acc => by simp [masks, masks_length r]; omega
theorem masks_old : ∀ (l : List Oper) (acc : List Nat) (i : Nat), i < acc.length → (masks l acc).getD i 0 = acc.getD i 0
  | [], acc, i, _ => rfl
  | o :: r, acc, i, h => by
    simp only [masks]
    rw [masks_old r _ i (by simp; omega)]
    simp only [List.getD_eq_getElem?_getD, List.getElem?_append]
    rw [if_pos h]
theorem masks_new : ∀ (l : List Oper) (acc : List Nat) (k : Nat) (o : Oper), l[k]? = some o → ∃ acc', (∀ i, i < acc'.length → acc'.getD i 0 = (masks l acc).getD i 0) ∧ acc'.length = acc.length + k ∧ (masks l acc).getD (acc.length + k) 0 = maskOf acc' o.after.toList
  | [], _, _, _, h => by simp at h
  | o :: r, acc, 0, o', h => by
    simp at h; subst h
    refine ⟨acc, fun i hi => (masks_old (o :: r) acc i hi).symm, rfl, ?_⟩
    simp only [masks, Nat.add_zero]
    rw [masks_old r _ _ (by simp)]
    simp [List.getD_eq_getElem?_getD]
  | o :: r, acc, k + 1, o', h => by
    obtain ⟨acc', h1, h2, h3⟩ := masks_new r (acc ++ [maskOf acc o.after.toList]) k o' (by simpa using h)
    refine ⟨acc', h1, by rw [h2]; simp; omega, ?_⟩
    simp only [masks]
    rw [← h3]
    congr 1
    simp; omega

structure DOK (ops : Array Oper) (m : Nat) : Prop where
  lt : ∀ i o, ops[i]? = some o → ∀ e ∈ o.after.toList, Region.binds .any e = true → e.on < i
  uniq : ∀ i k o o' t, i < m → k < m → i ≠ k → ops[i]? = some o → ops[k]? = some o' → o'.dst = some t → o.dst ≠ some t
  dep : ∀ i k o o' t, i < m → k < m → i ≠ k → ops[i]? = some o → ops[k]? = some o' → o'.dst = some t → t ∈ o.looksAt ops → Ahead ops k i ∨ Ahead ops i k
  tail : ∀ i, m ≤ i → i < ops.size → ∀ j, j < i → Ahead ops j i

theorem mask_ahead {ops : Array Oper} (hlt : ∀ i o, ops[i]? = some o → ∀ e ∈ o.after.toList, Region.binds .any e = true → e.on < i) : ∀ (i : Nat), i < ops.size → ∀ j, ((masks ops.toList []).getD i 0).testBit j = true → Ahead ops j i := by
  intro i
  induction i using Nat.strongRecOn with
  | _ i ih =>
    intro hi j hb
    have ho : ops.toList[i]? = some ops[i] := by simp [hi]
    have ho' : ops[i]? = some ops[i] := by simp [hi]
    obtain ⟨acc', h1, h2, h3⟩ := masks_new ops.toList [] i ops[i] ho
    simp only [List.length_nil, Nat.zero_add] at h2 h3
    rw [h3] at hb
    rcases maskOf_bit _ 0 j hb with h | ⟨e, he, hbind, h⟩
    · simp at h
    · have hlt' := hlt i _ ho' e he hbind
      rcases h with rfl | h
      · exact ⟨hlt', fun D _ hp => hp _ ho' e he hbind⟩
      · have hon : e.on < ops.size := by omega
        rw [h1 _ (by omega)] at h
        have := ih e.on hlt' hon j h
        exact ⟨by have := this.1; omega, fun D hD hp => this.2 D hD (hD _ (hp _ ho' e he hbind))⟩

theorem dok_of {ops : Array Oper} {m : Nat} (h : dokB ops (masks ops.toList []) m = true) : DOK ops m := by
  simp only [dokB, Bool.and_eq_true, List.all_eq_true] at h
  obtain ⟨⟨h1, h2⟩, h3⟩ := h
  have mem : ∀ i o, ops[i]? = some o → (o, i) ∈ ops.toList.zipIdx := by
    intro i o ho
    rw [List.mem_zipIdx_iff_getElem?]
    simpa using ho
  have hlt : ∀ i o, ops[i]? = some o → ∀ e ∈ o.after.toList, Region.binds .any e = true → e.on < i := by
    intro i o ho e he hb
    have := h1 _ (mem i o ho) e he
    simp [hb] at this
    exact this
  have hsz : ∀ i o, ops[i]? = some o → i < ops.size := by
    intro i o ho
    rcases Nat.lt_or_ge i ops.size with h' | h'
    · exact h'
    · simp [Array.getElem?_eq_none h'] at ho
  refine ⟨hlt, ?_, ?_, ?_⟩
  · intro i k o o' t hi hk hne ho ho' hd
    have := h2 _ (mem i o ho) _ (mem k o' ho')
    have n1 : ¬ m ≤ i := by omega
    have n2 : ¬ m ≤ k := by omega
    simp [hne, n1, n2, hd] at this
    exact this.1
  · intro i k o o' t hi hk hne ho ho' hd ht
    have := h2 _ (mem i o ho) _ (mem k o' ho')
    have n1 : ¬ m ≤ i := by omega
    have n2 : ¬ m ≤ k := by omega
    simp [hne, n1, n2, hd] at this
    rcases this.2 with (h' | h') | h'
    · exact absurd ht h'
    · exact .inl (mask_ahead hlt i (hsz i o ho) k (by simpa [List.getD_eq_getElem?_getD] using h'))
    · exact .inr (mask_ahead hlt k (hsz k o' ho') i (by simpa [List.getD_eq_getElem?_getD] using h'))
  · intro i hm hi j hj
    have ho' : ops[i]? = some ops[i] := by simp [hi]
    have := h3 _ (mem i _ ho')
    have n1 : ¬ i < m := by omega
    simp [n1] at this
    exact mask_ahead hlt i hi j (by simpa [List.getD_eq_getElem?_getD] using this j hj)

end Go.Own

/- Regions that draw their order: the theorem. -/
namespace Go.Own
open Go.RowKit

/-- Quiet operations one behind the other. -/
def opsq (P : Program) (n : Nat) (ops : Array Oper) (h : AHeap) : List Oper → List Nat → (List Nat → Fr → Prop) → Fr → Prop
  | [], sk, K, fr => K sk fr
  | o :: rest, sk, K, fr => match o.guard with
    | none => qop P o.op fr h fun v => aput n o.dst v fr fun fr => opsq P n ops h rest sk K fr
    | some (j, want) => match gdst ops j with
      | some t => match sk.contains t with
        | true => match isU (fr t) with
          | true => aput n o.dst skipv fr fun fr => opsq P n ops h rest (addsk o.dst sk) K fr
          | false => False
        | false => agrd (fr t) want (qop P o.op (upd fr t (.bool want)) h fun v => aput n o.dst v (upd fr t (.bool want)) fun fr => opsq P n ops h rest sk K fr) (aput n o.dst skipv (upd fr t (.bool (!want))) fun fr => opsq P n ops h rest (addsk o.dst sk) K fr)
      | none => False
def drawc (P : Program) (n : Nat) (ops : Array Oper) (K : Fr → AHeap → Prop) (fr : Fr) (h : AHeap) : Prop :=
  match tailStart (masks ops.toList []) with
  | m => match dokB ops (masks ops.toList []) m with
    | true => opsq P n ops h (ops.toList.take m) [] (fun sk fr => opsc P n ops (ops.toList.drop m) sk K fr h) fr
    | false => False

def updO (dst : Option Tmp) (v : AV) (fr : Fr) : Fr := match dst with
  | none => fr
  | some d => upd fr d v
/-- In this frame the operation comes to v. -/
def Yields (P : Program) (ops : Array Oper) (h : AHeap) (o : Oper) (fr : Fr) (v : AV) : Prop :=
  match o.guard with
  | none => Quiet P o.op fr h v
  | some (j, want) => ∃ t, gdst ops j = some t ∧ ((∃ b, fr t = .bool b ∧ ((b = want ∧ Quiet P o.op fr h v) ∨ (b ≠ want ∧ v = skipv))) ∨ (fr t = skipv ∧ v = skipv))
theorem qop_quiet {P : Program} {op : Op} {fr : Fr} {h : AHeap} {k : AV → Prop} (hq : qop P op fr h k) : ∃ v, Quiet P op fr h v ∧ k v := by
  unfold qop at hq
  split at hq
  · obtain ⟨v, h1, h2⟩ := hq
    refine ⟨v, fun K hK => ?_, h2⟩
    simp only [vop]
    unfold apick at h1
    split at h1
    · rename_i c a b t hc
      simp only [Option.some.injEq] at h1
      rw [hc]
      simp only [aif]
      subst h1
      cases t <;> simpa using hK
    · cases h1
  · split at hq
    · rename_i f args ts fid hst
      split at hq
      all_goals first | exact hq.elim | skip
      rename_i hb
      obtain ⟨v0, hc, hk⟩ := hq
      refine ⟨v0, fun K hK => ?_, hk⟩
      simp only [vop, hst]
      exact acall_of hb (hc.mono fun v h' ⟨e1, e2⟩ => by rw [e1, e2]; exact hK)
    · exact hq.elim
  · split at hq
    · rename_i hp; exact pure_vop hp hq
    · exact hq.elim

def chain (P : Program) (n : Nat) (ops : Array Oper) (h : AHeap) : List Oper → List AV → Fr → Prop
  | [], [], _ => True
  | o :: l, v :: vs, fr => Yields P ops h o fr v ∧ (∀ d, o.dst = some d → d < n) ∧ chain P n ops h l vs (updO o.dst v fr)
  | _, _, _ => False
def runF : List Oper → List AV → Fr → Fr
  | o :: l, v :: vs, fr => runF l vs (updO o.dst v fr)
  | _, _, fr => fr
theorem aput_spec {n : Nat} {dst : Option Tmp} {v : AV} {fr : Fr} {k : Fr → Prop} (h : aput n dst v fr k) : k (updO dst v fr) ∧ ∀ d, dst = some d → d < n := by
  unfold aput at h
  split at h
  · exact ⟨h, by simp⟩
  · split at h
    · rename_i d hd; exact ⟨h, fun e he => by rw [← Option.some.inj he]; exact hd⟩
    · exact h.elim
theorem opsq_chain {P : Program} {n : Nat} {ops : Array Oper} {h : AHeap} {K : List Nat → Fr → Prop} : ∀ (l : List Oper) (sk : List Nat) (fr : Fr), opsq P n ops h l sk K fr → ∃ vs sk', vs.length = l.length ∧ chain P n ops h l vs fr ∧ K sk' (runF l vs fr)
  | [], sk, fr, hq => ⟨[], sk, rfl, trivial, hq⟩
  | o :: l, sk, fr, hq => by
    simp only [opsq] at hq
    have fin : ∀ v sk1, Yields P ops h o fr v → aput n o.dst v fr (fun fr => opsq P n ops h l sk1 K fr) → ∃ vs sk', vs.length = (o :: l).length ∧ chain P n ops h (o :: l) vs fr ∧ K sk' (runF (o :: l) vs fr) := by
      intro v sk1 hy hp
      obtain ⟨h1, h2⟩ := aput_spec hp
      obtain ⟨vs, sk', h3, h4, h5⟩ := opsq_chain l _ _ h1
      exact ⟨v :: vs, sk', by simp [h3], ⟨hy, h2, h4⟩, h5⟩
    split at hq
    · rename_i hg
      obtain ⟨v, h1, h2⟩ := qop_quiet hq
      exact fin v _ (by simp only [Yields, hg]; exact h1) h2
    · rename_i j want hg
      split at hq
      · rename_i t ht
        split at hq
        · split at hq
          · rename_i hu
            exact fin skipv _ (by simp only [Yields, hg]; exact ⟨t, ht, .inr ⟨isU_eq hu, trivial⟩⟩) hq
          · exact hq.elim
        unfold agrd at hq
        split at hq
        · rename_i b hb
          split at hq
          · rename_i hbw
            rw [upd_same (by rw [hb, hbw])] at hq
            obtain ⟨v, h1, h2⟩ := qop_quiet hq
            exact fin v _ (by simp only [Yields, hg]; exact ⟨t, ht, .inl ⟨b, hb, .inl ⟨hbw, h1⟩⟩⟩) h2
          · rename_i hbw
            rw [upd_same (by rw [hb]; congr 1; cases b <;> cases want <;> simp_all)] at hq
            exact fin skipv _ (by simp only [Yields, hg]; exact ⟨t, ht, .inl ⟨b, hb, .inr ⟨hbw, trivial⟩⟩⟩) hq
        · exact hq.elim
      · exact hq.elim

theorem Yields.congr {P : Program} {ops : Array Oper} {h : AHeap} {o : Oper} {fr fr' : Fr} {v : AV} (hy : Yields P ops h o fr v) (he : ∀ t ∈ o.looksAt ops, fr t = fr' t) : Yields P ops h o fr' v := by
  have hop : ∀ x ∈ o.op.operands, ev fr x = ev fr' x := by
    intro x hx
    refine ev_congr fun t ht => he t ?_
    subst ht
    simp only [Oper.looksAt, List.mem_append, List.mem_filterMap]
    exact .inl ⟨.tmp t, by simpa using hx, rfl⟩
  have hq : Quiet P o.op fr h v → Quiet P o.op fr' h v := fun hq k hk => by rw [← vop_congr hop]; exact hq k hk
  unfold Yields at *
  split at hy
  · exact hq hy
  · rename_i j want hg
    obtain ⟨t, ht, hh⟩ := hy
    have htm : t ∈ o.looksAt ops := by
      simp only [Oper.looksAt, List.mem_append]
      right
      unfold gdst at ht
      simp [hg, ht]
    refine ⟨t, ht, ?_⟩
    rw [← he t htm]
    rcases hh with ⟨b, hb, ⟨h1, h2⟩ | hh⟩ | hh
    · exact .inl ⟨b, hb, .inl ⟨h1, hq h2⟩⟩
    · exact .inl ⟨b, hb, .inr hh⟩
    · exact .inr hh

/-- The frame in which the operations of D (below m) have come up. -/
noncomputable def frD (ops : Array Oper) (m : Nat) (vs : List AV) (fr : Fr) (D : Nat → Prop) : Fr := fun t =>
  open Classical in if h : ∃ k, k < m ∧ D k ∧ ∃ o, ops[k]? = some o ∧ o.dst = some t then vs.getD h.choose .junk else fr t
section
variable {ops : Array Oper} {m : Nat} {vs : List AV} {fr : Fr} {D : Nat → Prop}
theorem frD_in (hd : DOK ops m) {k t : Nat} {o : Oper} (hk : k < m) (hD : D k) (ho : ops[k]? = some o) (ht : o.dst = some t) : frD ops m vs fr D t = vs.getD k .junk := by
  have hex : ∃ k, k < m ∧ D k ∧ ∃ o, ops[k]? = some o ∧ o.dst = some t := ⟨k, hk, hD, o, ho, ht⟩
  unfold frD
  rw [dif_pos hex]
  obtain ⟨c1, c2, o', c3, c4⟩ := hex.choose_spec
  by_cases hne : hex.choose = k
  · rw [hne]
  · exact absurd c4 (hd.uniq _ k o' o t c1 hk hne c3 ho ht)
theorem frD_out {t : Nat} (h : ∀ k o, k < m → D k → ops[k]? = some o → o.dst ≠ some t) : frD ops m vs fr D t = fr t := by
  unfold frD
  rw [dif_neg]
  rintro ⟨k, h1, h2, o, h3, h4⟩
  exact h k o h1 h2 h3 h4
theorem frD_step (hd : DOK ops m) {i : Nat} {o : Oper} (hi : i < m) (ho : ops[i]? = some o) (D' : Nat → Prop) (hD' : ∀ k, D' k ↔ D k ∨ k = i) : frD ops m vs fr D' = updO o.dst (vs.getD i .junk) (frD ops m vs fr D) := by
  funext t
  cases hdst : o.dst with
  | none =>
    simp only [updO]
    by_cases hex : ∃ k o, k < m ∧ D k ∧ ops[k]? = some o ∧ o.dst = some t
    · obtain ⟨k, o', h1, h2, h3, h4⟩ := hex
      rw [frD_in hd h1 h2 h3 h4, frD_in hd h1 ((hD' k).2 (.inl h2)) h3 h4]
    · rw [frD_out (D := D) fun k o' h1 h2 h3 h4 => hex ⟨k, o', h1, h2, h3, h4⟩, frD_out]
      intro k o' h1 h2 h3 h4
      rcases (hD' k).1 h2 with h2 | rfl
      · exact hex ⟨k, o', h1, h2, h3, h4⟩
      · rw [ho] at h3; cases h3; rw [hdst] at h4; cases h4
  | some d =>
    simp only [updO, upd]
    by_cases htd : t = d
    · subst htd
      rw [if_pos rfl, frD_in hd hi ((hD' i).2 (.inr rfl)) ho hdst]
    · rw [if_neg htd]
      by_cases hex : ∃ k o, k < m ∧ D k ∧ ops[k]? = some o ∧ o.dst = some t
      · obtain ⟨k, o', h1, h2, h3, h4⟩ := hex
        rw [frD_in hd h1 h2 h3 h4, frD_in hd h1 ((hD' k).2 (.inl h2)) h3 h4]
      · rw [frD_out (D := D) fun k o' h1 h2 h3 h4 => hex ⟨k, o', h1, h2, h3, h4⟩, frD_out]
        intro k o' h1 h2 h3 h4
        rcases (hD' k).1 h2 with h2 | rfl
        · exact hex ⟨k, o', h1, h2, h3, h4⟩
        · rw [ho] at h3; cases h3; rw [hdst] at h4; cases h4; exact htd rfl
theorem frD_none : frD ops m vs fr (fun _ => False) = fr := by
  funext t
  exact frD_out fun _ _ _ h => h.elim
theorem frD_congr {D' : Nat → Prop} (hd : DOK ops m) (h : ∀ k, k < m → (D k ↔ D' k)) : frD ops m vs fr D = frD ops m vs fr D' := by
  funext t
  by_cases hex : ∃ k o, k < m ∧ D k ∧ ops[k]? = some o ∧ o.dst = some t
  · obtain ⟨k, o', h1, h2, h3, h4⟩ := hex
    rw [frD_in hd h1 h2 h3 h4, frD_in hd h1 ((h k h1).1 h2) h3 h4]
  · rw [frD_out (D := D) fun k o' h1 h2 h3 h4 => hex ⟨k, o', h1, h2, h3, h4⟩, frD_out]
    intro k o' h1 h2 h3 h4
    exact hex ⟨k, o', h1, (h k h1).2 h2, h3, h4⟩

/-- The lexical frames. -/
theorem chain_frames {P : Program} {n : Nat} {h : AHeap} (hd : DOK ops m) : ∀ (l : List Oper) (vs' : List AV) (i : Nat), i + l.length = m → (∀ j, l[j]? = if i + j < m then ops[i + j]? else none) → (∀ j, vs'[j]?.getD .junk = vs.getD (i + j) .junk) →
    chain P n ops h l vs' (frD ops m vs fr (· < i)) → (∀ k o, i ≤ k → k < m → ops[k]? = some o → Yields P ops h o (frD ops m vs fr (· < k)) (vs.getD k .junk) ∧ ∀ d, o.dst = some d → d < n) ∧ runF l vs' (frD ops m vs fr (· < i)) = frD ops m vs fr (· < m)
  | [], [], i, hi, _, _, _ => by
    simp at hi; subst hi
    exact ⟨fun k o h1 h2 _ => by omega, rfl⟩
  | o :: l, v :: vs', i, hi, hl, hv, hc => by
    simp only [List.length_cons] at hi
    obtain ⟨h1, h2, h3⟩ := hc
    have ho : ops[i]? = some o := by have := hl 0; simpa [show i < m by omega] using this.symm
    have hv0 : v = vs.getD i .junk := by have := hv 0; simpa using this
    have hstep := frD_step (vs := vs) (fr := fr) (D := (· < i)) hd (show i < m by omega) ho (· < i + 1) (fun k => by omega)
    rw [hv0, ← hstep] at h3
    obtain ⟨g1, g2⟩ := chain_frames hd l vs' (i + 1) (by omega) (fun j => by have := hl (j + 1); simpa [Nat.add_assoc, Nat.add_comm 1 j] using this) (fun j => by have := hv (j + 1); simpa [Nat.add_assoc, Nat.add_comm 1 j] using this) h3
    refine ⟨fun k o' hk1 hk2 hk3 => ?_, ?_⟩
    · by_cases hki : k = i
      · subst hki
        rw [ho] at hk3; cases hk3
        exact ⟨hv0 ▸ h1, h2⟩
      · exact g1 k o' (by omega) hk2 hk3
    · simp only [runF]
      rw [hv0, ← hstep]
      exact g2
  | [], _ :: _, _, _, _, _, hc => by simp [chain] at hc
  | _ :: _, [], _, _, _, _, hc => by simp [chain] at hc

/-- The lexical frame and the frame of D show an operation the same. -/
theorem yields_at {P : Program} {n : Nat} {h : AHeap} (hd : DOK ops m) {i : Nat} {o : Oper} (hi : i < m) (ho : ops[i]? = some o) (hy : Yields P ops h o (frD ops m vs fr (· < i)) (vs.getD i .junk))
    (hD : DownC ops D) (hp : Preds ops D i) (hni : ¬ D i) : Yields P ops h o (frD ops m vs fr D) (vs.getD i .junk) := by
  have _ := n
  refine hy.congr fun t ht => ?_
  by_cases hex : ∃ k o', k < m ∧ k ≠ i ∧ ops[k]? = some o' ∧ o'.dst = some t
  · obtain ⟨k, o', h1, hne, h2, h3⟩ := hex
    rcases hd.dep i k o o' t hi h1 (Ne.symm hne) ho h2 h3 ht with h4 | h4
    · rw [frD_in hd h1 h4.1 h2 h3, frD_in hd h1 (h4.2 D hD hp) h2 h3]
    · have hnk : ¬ D k := fun hk => hni (h4.2 D hD (hD k hk))
      have hnk' : ¬ k < i := by have := h4.1; omega
      have out : ∀ (E : Nat → Prop), ¬ E k → (∀ j o'', j < m → E j → ops[j]? = some o'' → o''.dst ≠ some t) := by
        intro E hE j o'' hj hEj hoj hdj
        have hjk : j ≠ k := fun e => hE (e ▸ hEj)
        exact hd.uniq j k o'' o' t hj h1 hjk hoj h2 h3 hdj
      rw [frD_out (out _ hnk'), frD_out (out _ hnk)]
  · have out : ∀ (E : Nat → Prop), ¬ E i → (∀ j o'', j < m → E j → ops[j]? = some o'' → o''.dst ≠ some t) := by
      intro E hE j o'' hj hEj hoj hdj
      exact hex ⟨j, o'', hj, fun e => hE (e ▸ hEj), hoj, hdj⟩
    rw [frD_out (out (· < i) (Nat.lt_irrefl i)), frD_out (out _ hni)]
end

end Go.Own

/- Regions that draw their order: they come to what the lexical order comes to. -/
namespace Go.Own
open Go.RowKit

section
variable {P : Program} {n : Nat} {ops : Array Oper} {K : Fr → AHeap → Prop} {Q : Exit → Act → World → Prop} {m : Nat} {vs : List AV} {fr : Fr} {h : AHeap}

theorem ready_spec {listed : Array Bool} {i : Nat} : i ∈ Region.ready .any ops listed ↔ listed.getD i true = false ∧ ∃ o, ops[i]? = some o ∧ ∀ e ∈ o.after.toList, Region.binds .any e = true → listed.getD e.on false = true := by
  rw [mem_ready]
  constructor
  · rintro ⟨h1, o, h2, h3⟩; exact ⟨h1, o, h2, fun e he => h3 e (by simpa using he)⟩
  · rintro ⟨h1, o, h2, h3⟩; exact ⟨h1, o, h2, fun e he => h3 e (by simpa using he)⟩
theorem getD_false {listed : Array Bool} {i : Nat} : listed.getD i true = false ↔ i < listed.size ∧ listed.getD i false = false := by
  rw [Array.getD_eq_getD_getElem?, Array.getD_eq_getD_getElem?]
  by_cases h : i < listed.size
  · simp [h]
  · simp [h]
theorem getD_set {listed : Array Bool} {i k : Nat} (hi : i < listed.size) : (listed.setIfInBounds i true).getD k false = true ↔ listed.getD k false = true ∨ k = i := by
  rw [Array.getD_eq_getD_getElem?, Array.getD_eq_getD_getElem?]
  by_cases h : k = i
  · subst h; simp [hi]
  · rw [Array.getElem?_setIfInBounds_ne (Ne.symm h)]; simp [h]
def LD (listed : Array Bool) (k : Nat) : Prop := listed.getD k false = true

theorem wpOp_of {i : Nat} {o : Oper} {Kn : Act → World → Prop} {a : Act} {w : World} (ho : ops[i]? = some o)
    (hh : if Region.wanted o (yielded ops a.tmps) then o.wp P a w Kn Q ∨ (o.asks P a w ∧ LetsOut Q) else Kn (a.put o.dst undef) w) : wpOp P ops Q i Kn a w := by
  unfold wpOp
  simp only [ho]
  exact hh

/-- A quiet operation. -/
theorem quiet_step {o : Oper} {f : Fr} {v : AV} {G : Ghost} {w : World} {a : Act} {Kn : Act → World → Prop} (hy : Yields P ops h o f v) (hb : ∀ d, o.dst = some d → d < n) (r : Rel G h w) (hf : frel G n f a)
    (hn : ∀ G' a' w', G.le G' → Rel G' h w' → frel G' n (updO o.dst v f) a' → Kn a' w') :
    if Region.wanted o (yielded ops a.tmps) then o.wp P a w Kn Q ∨ (o.asks P a w ∧ LetsOut Q) else Kn (a.put o.dst undef) w := by
  have hput : ∀ (K' : Fr → Prop) (u : AV), K' (updO o.dst u f) → aput n o.dst u f K' := by
    intro K' u hk
    unfold aput
    cases hd : o.dst with
    | none => rw [hd] at hk; exact hk
    | some d => rw [hd] at hk; show (if d < n then _ else _); rw [if_pos (hb d hd)]; exact hk
  have run : Quiet P o.op f h v → o.wp P a w Kn Q := by
    intro hq
    refine good_next hf (vop_good r hf (hq (fun v' h' => aput n o.dst v' f fun f' => f' = updO o.dst v f ∧ h' = h) (hput _ v ⟨rfl, rfl⟩))) (K := fun f' h' => f' = updO o.dst v f ∧ h' = h) ?_
    rintro G' fr' h' a' w' hl r' hf' ⟨rfl, rfl⟩
    exact hn G' a' w' hl r' hf'
  unfold Yields at hy
  split at hy
  · rename_i hg
    have hw : Region.wanted o (yielded ops a.tmps) = true := by simp [Region.wanted, hg]
    rw [if_pos hw]
    exact .inl (run hy)
  · rename_i j want hg
    obtain ⟨t, ht, hh⟩ := hy
    rcases hh with ⟨b, hbt, hh⟩ | ⟨hbt, rfl⟩
    rotate_left
    · have hyd := guard_skip hf ht hbt
      have hw : ¬ Region.wanted o (yielded ops a.tmps) = true := by simp [Region.wanted, hg, hyd]
      rw [if_neg hw]
      obtain ⟨fr', h1, h2⟩ := frel_put (k := fun f' => f' = updO o.dst skipv f) hf (rv := undef) (v := skipv) vrel_skip (hput _ skipv rfl)
      subst h1
      exact hn G _ w (.refl G) r h2
    have hyd := guard_bool hf ht hbt
    rcases hh with ⟨hbw, hq⟩ | ⟨hbw, hv⟩
    · have hw : Region.wanted o (yielded ops a.tmps) = true := by simp [Region.wanted, hg, hyd, hbw]
      rw [if_pos hw]
      exact .inl (run hq)
    · have hw : ¬ Region.wanted o (yielded ops a.tmps) = true := by simp [Region.wanted, hg, hyd, hbw]
      rw [if_neg hw]
      subst hv
      obtain ⟨fr', h1, h2⟩ := frel_put (k := fun f' => f' = updO o.dst skipv f) hf (rv := undef) (v := skipv) vrel_skip (hput _ skipv rfl)
      subst h1
      exact hn G _ w (.refl G) r h2

/-- The tail. -/
theorem tail_sound (hd : DOK ops m) : ∀ (fuel j : Nat), m ≤ j → j + fuel = ops.size → ∀ (listed : Array Bool), listed.size = ops.size → (∀ k, LD listed k ↔ k < j) → ∀ {sk : List Nat} {f : Fr} {hh : AHeap} {G : Ghost} {w : World} {a : Act},
    opsc P n ops (ops.toList.drop j) sk K f hh → Rel G hh w → frel G n f a → (∀ G' fr' h' a' w', G.le G' → Rel G' h' w' → frel G' n fr' a' → K fr' h' → Q .normal a' w') → wpAny P .any ops Q fuel listed a w := by
  intro fuel
  induction fuel with
  | zero =>
    intro j hm hj listed hsz hL sk f hh G w a hv r hf hq
    have hnone : Region.ready .any ops listed = [] := by
      rw [List.eq_nil_iff_forall_not_mem]
      intro i hi
      rw [ready_spec, getD_false] at hi
      have := (hL i).2 (by omega)
      rw [LD, hi.1.2] at this
      cases this
    rw [List.drop_of_length_le (by simp; omega)] at hv
    exact ⟨hnone, hq G f hh a w (.refl G) r hf hv⟩
  | succ fuel ih =>
    intro j hm hj listed hsz hL sk f hh G w a hv r hf hq
    have hjs : j < ops.size := by omega
    have hoj : ops[j]? = some ops[j] := by simp [hjs]
    have hjr : j ∈ Region.ready .any ops listed := by
      rw [ready_spec, getD_false]
      refine ⟨⟨by omega, ?_⟩, _, hoj, fun e he hb => (hL e.on).2 (hd.lt j _ hoj e he hb)⟩
      have : ¬ LD listed j := fun hl => Nat.lt_irrefl j ((hL j).1 hl)
      simpa [LD] using this
    refine ⟨fun h0 => absurd hjr (by rw [h0]; simp), fun i hi => ?_⟩
    have hij : i = j := by
      rw [ready_spec, getD_false] at hi
      have h1 : ¬ i < j := fun hlt => by have := (hL i).2 hlt; rw [LD, hi.1.2] at this; cases this
      rcases Nat.lt_or_ge j i with hlt | hge
      · have ha := hd.tail i (by omega) (by omega) j hlt
        have := ha.2 (LD listed) (fun k hk o ho e he hb => (hL e.on).2 (Nat.lt_trans (hd.lt k o ho e he hb) ((hL k).1 hk))) (by
          obtain ⟨_, o, ho, hall⟩ := hi
          intro o' ho' e he hb
          rw [ho] at ho'; cases ho'
          exact hall e he hb)
        exact absurd ((hL j).1 this) (Nat.lt_irrefl j)
      · omega
    subst hij
    have hdrop : ops.toList.drop i = ops[i] :: ops.toList.drop (i + 1) := by
      rw [List.drop_eq_getElem_cons (by simpa using hjs)]; simp
    rw [hdrop] at hv
    refine wpOp_of hoj (opc_sound hv r hf ?_)
    intro G' sk' fr' h' a' w' hl r' hf' hv'
    refine ih (i + 1) (by omega) (by omega) (listed.setIfInBounds i true) (by simpa using hsz) (fun k => ?_) hv' r' hf' fun G'' fr'' h'' a'' w'' hl' r'' hf'' hk => hq G'' fr'' h'' a'' w'' (hl.trans hl') r'' hf'' hk
    rw [LD, getD_set (by omega)]
    have := hL k
    rw [LD] at this
    rw [this]
    constructor
    · rintro (h1 | h1) <;> omega
    · intro h1; omega

/-- The quiet part. -/
theorem quiet_sound (hd : DOK ops m) (hms : m ≤ ops.size) (hY : ∀ k o, k < m → ops[k]? = some o → Yields P ops h o (frD ops m vs fr (· < k)) (vs.getD k .junk) ∧ ∀ d, o.dst = some d → d < n)
    {sk : List Nat} (hK : opsc P n ops (ops.toList.drop m) sk K (frD ops m vs fr (· < m)) h) :
    ∀ (fuel : Nat) (listed : Array Bool), listed.size = ops.size → (List.range ops.size).countP (fun k => !listed.getD k false) = fuel → DownC ops (LD listed) → (∀ k, LD listed k → k < m) →
      ∀ {G : Ghost} {w : World} {a : Act}, Rel G h w → frel G n (frD ops m vs fr (LD listed)) a → (∀ G' fr' h' a' w', G.le G' → Rel G' h' w' → frel G' n fr' a' → K fr' h' → Q .normal a' w') → wpAny P .any ops Q fuel listed a w := by
  -- when all of the prefix is listed, the tail follows
  have full : ∀ (fuel : Nat) (listed : Array Bool), listed.size = ops.size → (List.range ops.size).countP (fun k => !listed.getD k false) = fuel → (∀ k, LD listed k → k < m) → (∀ k, k < m → LD listed k) →
      ∀ {G : Ghost} {w : World} {a : Act}, Rel G h w → frel G n (frD ops m vs fr (LD listed)) a → (∀ G' fr' h' a' w', G.le G' → Rel G' h' w' → frel G' n fr' a' → K fr' h' → Q .normal a' w') → wpAny P .any ops Q fuel listed a w := by
    intro fuel listed hsz hcnt hL1 hL2 G w a r hf hq
    have hL : ∀ k, LD listed k ↔ k < m := fun k => ⟨hL1 k, hL2 k⟩
    have hfu : m + fuel = ops.size := by
      rw [← hcnt]
      have : (List.range ops.size).countP (fun k => !listed.getD k false) = ops.size - m := by
        have h1 : (List.range ops.size).countP (fun k => !listed.getD k false) = (List.range ops.size).countP (fun k => decide (m ≤ k)) := by
          apply List.countP_congr
          intro k _
          have := hL k
          rw [LD] at this
          cases hb : listed.getD k false with
          | true => simp; exact this.1 hb
          | false =>
            simp
            rcases Nat.lt_or_ge k m with h' | h'
            · have := this.2 h'; rw [hb] at this; cases this
            · exact h'
        rw [h1]
        have h2 : ∀ s, (List.range s).countP (fun k => decide (m ≤ k)) = s - m := by
          intro s
          induction s with
          | zero => simp
          | succ s ihs =>
            rw [List.range_succ, List.countP_append, ihs]
            by_cases hs : m ≤ s
            · simp [hs]; omega
            · simp [hs]; omega
        exact h2 _
      omega
    have hfr : frD ops m vs fr (LD listed) = frD ops m vs fr (· < m) := frD_congr hd fun k _ => hL k
    rw [hfr] at hf
    exact tail_sound hd fuel m (Nat.le_refl _) hfu listed hsz hL hK r hf hq
  intro fuel
  induction fuel with
  | zero =>
    intro listed hsz hcnt hdc hL G w a r hf hq
    refine full 0 listed hsz hcnt hL (fun k hk => ?_) r hf hq
    rw [List.countP_eq_zero] at hcnt
    have := hcnt k (by simp; omega)
    simpa [LD] using this
  | succ fuel ih =>
    intro listed hsz hcnt hdc hL G w a r hf hq
    by_cases hall : ∀ k, k < m → LD listed k
    · exact full (fuel + 1) listed hsz hcnt hL hall r hf hq
    · -- the least that is not listed may come up
      have hex : ∃ k, k < m ∧ ¬ LD listed k := by
        apply Classical.byContradiction
        intro hno
        exact hall fun k hk => Classical.byContradiction fun hl => hno ⟨k, hk, hl⟩
      refine ⟨fun h0 => ?_, fun i hi => ?_⟩
      · exfalso
        obtain ⟨k, hk, hkl⟩ := hex
        have least : ∀ b, ∀ k, k ≤ b → k < m → ¬ LD listed k → False := by
          intro b
          induction b with
          | zero =>
            intro k hkb hkm hkl
            have hk0 : k = 0 := by omega
            subst hk0
            have ho : ops[0]? = some (ops[0]'(by omega)) := by simp
            have : 0 ∈ Region.ready .any ops listed := by
              rw [ready_spec, getD_false]
              exact ⟨⟨by omega, by simpa [LD] using hkl⟩, _, ho, fun e he hb => absurd (hd.lt 0 _ ho e he hb) (Nat.not_lt_zero _)⟩
            rw [h0] at this; cases this
          | succ b ihb =>
            intro k hkb hkm hkl
            by_cases hlow : ∃ k', k' < k ∧ ¬ LD listed k'
            · obtain ⟨k', h1, h2⟩ := hlow
              exact ihb k' (by omega) (by omega) h2
            · have hks : k < ops.size := by omega
              have ho : ops[k]? = some ops[k] := by simp [hks]
              have : k ∈ Region.ready .any ops listed := by
                rw [ready_spec, getD_false]
                refine ⟨⟨by omega, by simpa [LD] using hkl⟩, _, ho, fun e he hb => ?_⟩
                have hlt := hd.lt k _ ho e he hb
                exact Classical.byContradiction fun hl => hlow ⟨e.on, hlt, hl⟩
              rw [h0] at this; cases this
        exact least k k (Nat.le_refl _) hk hkl
      · have hi' := hi
        rw [ready_spec, getD_false] at hi'
        obtain ⟨⟨his, hil⟩, o, ho, hpre⟩ := hi'
        have hnl : ¬ LD listed i := by simp [LD, hil]
        have hpreds : Preds ops (LD listed) i := by
          intro o' ho' e he hb
          rw [ho] at ho'; cases ho'
          exact hpre e he hb
        have him : i < m := by
          rcases Nat.lt_or_ge i m with h' | h'
          · exact h'
          · exfalso
            apply hall
            intro k hk
            exact (hd.tail i h' (by omega) k (by omega)).2 _ hdc hpreds
        obtain ⟨hy, hb⟩ := hY i o him ho
        have hy' := yields_at (n := n) hd him ho hy hdc hpreds hnl
        refine wpOp_of ho (quiet_step hy' hb r hf ?_)
        intro G' a' w' hl r' hf'
        have hset : ∀ k, LD (listed.setIfInBounds i true) k ↔ LD listed k ∨ k = i := fun k => getD_set his
        have hstep := frD_step (vs := vs) (fr := fr) (D := LD listed) hd him ho (LD (listed.setIfInBounds i true)) hset
        rw [← hstep] at hf'
        refine ih (listed.setIfInBounds i true) (by simpa using hsz) ?_ ?_ ?_ r' hf' fun G'' fr'' h'' a'' w'' hl' r'' hf'' hk => hq G'' fr'' h'' a'' w'' (hl.trans hl') r'' hf'' hk
        · -- one fewer is left
          have key : ∀ s, i < s → (List.range s).countP (fun k => !listed.getD k false) = (List.range s).countP (fun k => !(listed.setIfInBounds i true).getD k false) + 1 := by
            intro s
            induction s with
            | zero => intro hs; omega
            | succ s ihs =>
              intro hs
              rw [List.range_succ, List.countP_append, List.countP_append]
              by_cases his' : i < s
              · rw [ihs his']
                have hne : s ≠ i := by omega
                have : (listed.setIfInBounds i true).getD s false = listed.getD s false := by
                  rw [Array.getD_eq_getD_getElem?, Array.getD_eq_getD_getElem?, Array.getElem?_setIfInBounds_ne (Ne.symm hne)]
                simp only [List.countP_singleton, this]; omega
              · have hse : s = i := by omega
                subst hse
                have h1 : (List.range s).countP (fun k => !listed.getD k false) = (List.range s).countP (fun k => !(listed.setIfInBounds s true).getD k false) := by
                  apply List.countP_congr
                  intro k hk
                  have hne : k ≠ s := by simp at hk; omega
                  rw [Array.getD_eq_getD_getElem?, Array.getD_eq_getD_getElem?, Array.getElem?_setIfInBounds_ne (Ne.symm hne)]
                have h2 : (listed.setIfInBounds s true).getD s false = true := (hset s).2 (.inr rfl)
                simp only [List.countP_singleton, hil, h2, h1]; simp
          have := key ops.size (by omega)
          omega
        · intro k hk
          rcases (hset k).1 hk with hk | rfl
          · intro o' ho' e he hb
            exact (hset _).2 (.inl (hdc k hk o' ho' e he hb))
          · intro o' ho' e he hb
            exact (hset _).2 (.inl (hpreds o' ho' e he hb))
        · intro k hk
          rcases (hset k).1 hk with hk | rfl
          · exact hL k hk
          · exact him

end

theorem drawc_sound {P : Program} {n : Nat} {ops : Array Oper} {K : Fr → AHeap → Prop} {Q : Exit → Act → World → Prop} {fr : Fr} {h : AHeap} {G : Ghost} {w : World} {a : Act} (hv : drawc P n ops K fr h) (r : Rel G h w) (hf : frel G n fr a)
    (hq : ∀ G' fr' h' a' w', G.le G' → Rel G' h' w' → frel G' n fr' a' → K fr' h' → Q .normal a' w') : wpAny P .any ops Q ops.size (Array.replicate ops.size false) a w := by
  unfold drawc at hv
  generalize hm : tailStart (masks ops.toList []) = m at hv
  simp only at hv
  split at hv
  all_goals first | exact hv.elim | skip
  rename_i hdok
  have hqs := hv
  have hd := dok_of hdok
  have hms : m ≤ ops.size := by
    rw [← hm]; unfold tailStart; rw [masks_length]; simp
  obtain ⟨vs, sk, h1, h2, h3⟩ := opsq_chain _ _ _ hqs
  have hlen : (ops.toList.take m).length = m := by simp; omega
  have hfr0 : frD ops m vs fr (· < 0) = fr := by
    rw [frD_congr (D' := fun _ => False) hd (fun k _ => ⟨fun hk => absurd hk (Nat.not_lt_zero _), fun hk => hk.elim⟩)]; exact frD_none
  obtain ⟨g1, g2⟩ := chain_frames (vs := vs) (fr := fr) hd (ops.toList.take m) vs 0 (by omega) (fun j => by
      rw [List.getElem?_take]; simp) (fun j => by simp [List.getD_eq_getElem?_getD]) (by rw [hfr0]; exact h2)
  rw [hfr0] at g2
  rw [g2] at h3
  have hnone : ∀ k, ¬ LD (Array.replicate ops.size false) k := by
    intro k
    rw [LD, Array.getD_eq_getD_getElem?, Array.getElem?_replicate]
    split <;> simp
  refine quiet_sound hd hms (fun k o hk ho => g1 k o (Nat.zero_le _) hk ho) h3 ops.size _ (by simp) ?_ (fun k hk => absurd hk (hnone k)) (fun k hk => absurd hk (hnone k)) r ?_ hq
  · have : (List.range ops.size).countP (fun k => !(Array.replicate ops.size false).getD k false) = (List.range ops.size).length := by
      rw [List.countP_eq_length]
      intro k _
      have := hnone k
      rw [LD] at this
      simpa using this
    rw [this]; simp
  · rw [frD_congr (D' := fun _ => False) hd (fun k _ => ⟨fun hk => hnone k hk, fun hk => hk.elim⟩), frD_none]
    exact hf

end Go.Own

/- New memory that may be laid early: it is kept till the tree comes to it. -/
namespace Go.Own
open Go.RowKit

def Ghost.keeps (G : Ghost) (b : Nat) (o : Option Obj) : Ghost := { G with keep := fun c => if c = b then o else G.keep c }
theorem Ghost.leV_keeps (G : Ghost) (b : Nat) (o : Option Obj) : G.leV (G.keeps b o) := ⟨rfl, rfl, fun _ _ h => ⟨h, rfl, rfl, rfl⟩, fun _ _ _ h => h⟩
/-- A block is laid that no value names. -/
theorem Rel.early {G : Ghost} {h : AHeap} {w : World} (r : Rel G h w) (o : Obj) : Rel (G.keeps w.heap.size (some o)) h (w.alloc o) := by
  have hl := G.leV_keeps w.heap.size (some o)
  have r' : Rel G h (w.alloc o) := r.later ((Bel.refl _ _).alloc (Nat.le_refl _) o)
  have ho : ∀ i oi, h.get i = some oi → oblk (G.keeps w.heap.size (some o)) i oi = oblk G i oi := fun i oi e => (orel_monoV hl (r.obj i oi e)).2
  refine ⟨r'.start, r'.below, r'.N, r'.imm, r'.okn, r'.okv, r'.fresh, fun i oi e => (orel_monoV hl (r'.obj i oi e)).1, fun i oi e => by rw [ho i oi e]; exact r'.high i oi e,
    fun i j oi oj ei ej hne => by rw [ho i oi ei, ho j oj ej]; exact r'.sep i j oi oj ei ej hne, fun b k v e i oi ei => by rw [ho i oi ei]; exact r'.simm b k v e i oi ei, ?_⟩
  intro b ob e
  simp only [Ghost.keeps] at e
  split at e
  · rename_i hb
    subst hb
    simp only [Option.some.injEq] at e; subst e
    refine ⟨by show (w.heap.push _)[w.heap.size]? = _; simp, fun k => ?_, fun i oi ei => ?_⟩
    · rw [Option.eq_none_iff_forall_ne_some]
      intro v hv
      have := World.block_lt_of_cell? w ⟨w.heap.size, k, none⟩ (r.imm _ k v hv)
      exact Nat.lt_irrefl _ this
    · rw [ho i oi ei]; exact Nat.ne_of_lt (orel_lt (r.obj i oi ei))
  · obtain ⟨k1, k2, k3⟩ := r'.keep b ob e
    exact ⟨k1, k2, fun i oi ei => by rw [ho i oi ei]; exact k3 i oi ei⟩
/-- A kept block becomes an object. -/
theorem Rel.adopt {G : Ghost} {h : AHeap} {w : World} (r : Rel G h w) {b : Nat} {row : Array Value} {el : TypeId} {fz : Nat × Nat} {cs : List AV} (hk : G.keep b = some (.cells row el fz)) (hN : G.N ≤ b)
    (hf : row.size ≤ fz.1 ∨ fz.2 ≤ fz.1) (hle : cs.length ≤ row.size) (hr : lrel G cs (row.toList.take cs.length)) :
    Rel ((G.add h.next 0 b row.size (#[], 0)).keeps b none) (h.push (.cells 0 cs)) w ∧ G.leV ((G.add h.next 0 b row.size (#[], 0)).keeps b none) := by
  have hl0 := (Ghost.le_add (b := b) (n := row.size) (m := (#[], 0)) (r.nok 0)).toleV
  have hl := hl0.trans (Ghost.leV_keeps (G.add h.next 0 b row.size (#[], 0)) b none)
  generalize hG : (G.add h.next 0 b row.size (#[], 0)).keeps b none = G' at *
  have hblk : G'.blk h.next 0 = b := by rw [← hG]; exact Ghost.add_blk G h.next 0 b row.size (#[], 0)
  have hown : G'.own h.next 0 = row.size := by rw [← hG]; exact Ghost.add_own G h.next 0 b row.size (#[], 0)
  have hok : G'.ok h.next 0 := by rw [← hG]; exact Ghost.add_ok G h.next 0 b row.size (#[], 0)
  have hkeep : ∀ c, G'.keep c = if c = b then none else G.keep c := by intro c; rw [← hG]; rfl
  have hoks : ∀ i k, G'.ok i k → G.ok i k ∨ (i = h.next ∧ k = 0) := by intro i k; rw [← hG]; exact id
  have himm : G'.imm = G.imm := by rw [← hG]; rfl
  obtain ⟨kb, ki, ko⟩ := r.keep b _ hk
  have hold : ∀ i oi, (h.push (.cells 0 cs)).get i = some oi → i ≠ h.next → h.get i = some oi := fun i oi e hne => by rw [AHeap.push_get, if_neg hne] at e; exact e
  have hnew : ∀ i oi, (h.push (.cells 0 cs)).get i = some oi → i = h.next → oi = .cells 0 cs := fun i oi e he => by rw [AHeap.push_get, if_pos he] at e; exact (Option.some.inj e).symm
  have ho : ∀ i oi, h.get i = some oi → oblk G' i oi = oblk G i oi := fun i oi e => (orel_monoV hl (r.obj i oi e)).2
  refine ⟨⟨by rw [hl.N, hl.w0]; exact r.start, by rw [hl.N, hl.w0]; exact r.below, by rw [hl.N]; exact r.N, fun c k v e => r.imm c k v (by rw [himm] at e; exact e), ?_, ?_, ?_, ?_, ?_, ?_, ?_, ?_⟩, hl⟩
  · intro i k hi
    rcases hoks i k hi with h1 | ⟨h1, _⟩
    · exact Nat.lt_succ_of_lt (r.okn i k h1)
    · rw [h1]; exact Nat.lt_succ_self _
  · intro i k oi e hi
    by_cases hne : i = h.next
    · rw [hnew i oi e hne]
      rcases hoks i k hi with h1 | ⟨_, h1⟩
      · exact absurd (hne ▸ h1) (r.nok k)
      · rw [h1]; exact Nat.le_refl _
    · rcases hoks i k hi with h1 | ⟨h1, _⟩
      · exact r.okv i k oi (hold i oi e hne) h1
      · exact absurd h1 hne
  · intro i hi
    rw [AHeap.push_next] at hi
    rw [AHeap.push_get, if_neg (by omega)]
    exact r.fresh i (by omega)
  · intro i oi e
    by_cases hne : i = h.next
    · subst hne
      rw [hnew _ oi e rfl]
      refine ⟨hok, row, el, fz, by rw [hblk]; exact kb, hown.symm, hf, hle, lrel_monoV hl _ _ hr⟩
    · exact (orel_monoV hl (r.obj i oi (hold i oi e hne))).1
  · intro i oi e
    rw [hl.N]
    by_cases hne : i = h.next
    · subst hne
      rw [hnew _ oi e rfl]
      show G.N ≤ G'.blk h.next 0
      rw [hblk]; exact hN
    · rw [ho i oi (hold i oi e hne)]; exact r.high i oi (hold i oi e hne)
  · intro i j oi oj ei ej hne
    by_cases hi : i = h.next
    · have hj : j ≠ h.next := fun e => hne (hi.trans e.symm)
      have ej' := hold j oj ej hj
      subst hi
      rw [hnew _ oi ei rfl, ho j oj ej']
      show G'.blk h.next 0 ≠ _
      rw [hblk]; exact (ko j oj ej').symm
    · have ei' := hold i oi ei hi
      by_cases hj : j = h.next
      · subst hj
        rw [hnew _ oj ej rfl, ho i oi ei']
        show _ ≠ G'.blk h.next 0
        rw [hblk]; exact ko i oi ei'
      · have ej' := hold j oj ej hj
        rw [ho i oi ei', ho j oj ej']; exact r.sep i j oi oj ei' ej' hne
  · intro c k v e i oi ei
    rw [himm] at e
    by_cases hi : i = h.next
    · subst hi
      rw [hnew _ oi ei rfl]
      show G'.blk h.next 0 ≠ c
      rw [hblk]
      intro hbc
      rw [← hbc, ki k] at e; cases e
    · rw [ho i oi (hold i oi ei hi)]; exact r.simm c k v e i oi (hold i oi ei hi)
  · intro c oc e
    rw [hkeep] at e
    split at e
    · cases e
    · rename_i hcb
      obtain ⟨k1, k2, k3⟩ := r.keep c oc e
      refine ⟨k1, fun k => by rw [himm]; exact k2 k, fun i oi ei => ?_⟩
      by_cases hi : i = h.next
      · subst hi
        rw [hnew _ oi ei rfl]
        show G'.blk h.next 0 ≠ c
        rw [hblk]; exact fun e' => hcb e'.symm
      · rw [ho i oi (hold i oi ei hi)]; exact k3 i oi (hold i oi ei hi)

/-- What a new row of memory holds, and how it is shown. -/
def fcs (P : Program) (op : Op) (fr : Fr) : Option (List AV × Option (Nat × Nat)) :=
  match op with
  | .alloc t => (azero P t).map fun cs => (cs, none)
  | .box _ x => (ev fr x).cells?.map fun cs => (cs, none)
  | .buildSlice t n ps => match elKind P t with
    | some (_, esz, _, zc) => if 0 < n ∧ n * esz ≤ 16777216 then (afill (zcells zc n) (lparts esz (ev fr) ps.toList)).map fun cs => (cs, some (n, esz)) else none
    | none => none
  | _ => none
def fval (s : Option (Nat × Nat)) (id : Nat) : AV := match s with
  | none => .ptr id 0 0
  | some (n, esz) => .sl id 0 0 n esz
def cval (s : Option (Nat × Nat)) (b : Nat) : Value := match s with
  | none => .pointer (some ⟨b, 0, none⟩)
  | some (n, _) => .slice (some ⟨b, 0, none⟩) n n
theorem fval_rel {G : Ghost} {s : Option (Nat × Nat)} {id : Nat} (hok : G.ok id 0) (hs : ∀ n esz, s = some (n, esz) → n * esz ≤ G.own id 0) : vrel G (fval s id) (cval s (G.blk id 0)) := by
  cases s with
  | none => exact vrel_ptr hok
  | some q =>
    obtain ⟨n, esz⟩ := q
    exact vrel_sl hok (Nat.le_refl _) (.inr ⟨rfl, rfl, by rw [Nat.zero_add]; exact hs n esz rfl⟩)
theorem afill_length : ∀ {ps : List (Nat × Nat × AV)} {a b : List AV}, afill a ps = some b → b.length = a.length
  | [], a, b, hab => by simp only [afill, Option.some.injEq] at hab; rw [hab]
  | (off, n, v) :: ps, a, b, hab => by
    simp only [afill] at hab
    split at hab
    · split at hab
      · rename_i hc
        rw [afill_length hab, splice_length (by omega)]
      · cases hab
    · cases hab
/-- The run of such an operation. -/
theorem fcs_run {P : Program} {o : Oper} {fr : Fr} {n : Nat} {a : Act} {G : Ghost} {w : World} {cs : List AV} {s : Option (Nat × Nat)} (hf : frel G n fr a) (hc : fcs P o.op fr = some (cs, s)) :
    ∃ (row : Array Value) (el : TypeId) (fz : Nat × Nat), (execOp a.eval o).run P w = .ok (.value (cval s w.heap.size)) (w.alloc (.cells row el fz)) ∧ (row.size ≤ fz.1 ∨ fz.2 ≤ fz.1) ∧ cs.length ≤ row.size ∧
      lrel G cs (row.toList.take cs.length) ∧ ∀ m esz, s = some (m, esz) → m * esz ≤ row.size := by
  obtain ⟨dst, op, type, pos, after, guard⟩ := o
  simp only at hc
  cases op <;> simp only [fcs] at hc <;> try (cases hc; done)
  case alloc t =>
    cases hz : azero P t with
    | none => simp [hz] at hc
    | some zc =>
      simp only [hz, Option.map_some, Option.some.injEq, Prod.mk.injEq] at hc
      obtain ⟨rfl, rfl⟩ := hc
      obtain ⟨z, hz1, hr⟩ := azero_run (G := G) (w := w) hz
      have hl : z.cells.size = zc.length := by have := lrel_length hr; simpa using this
      refine ⟨z.cells, t, (0, 0), ?_, .inr (Nat.le_refl _), by omega, by rw [List.take_of_length_le (by simp; omega)]; exact hr, fun _ _ h => by cases h⟩
      simp [execOp, Instr.alloc, hz1, newVar, newRow, cval]
  case box t x =>
    cases hx : (ev fr x).cells? with
    | none => simp [hx] at hc
    | some zc =>
      simp only [hx, Option.map_some, Option.some.injEq, Prod.mk.injEq] at hc
      obtain ⟨rfl, rfl⟩ := hc
      have hr := vrel_cells hx (ev_rel hf x)
      have hl : (a.eval x).cells.size = zc.length := by have := lrel_length hr; simpa using this
      refine ⟨(a.eval x).cells, t, (0, 0), ?_, .inr (Nat.le_refl _), by omega, by rw [List.take_of_length_le (by simp; omega)]; exact hr, fun _ _ h => by cases h⟩
      simp [execOp, Instr.box, newVar, newRow, cval]
  case buildSlice t len ps =>
    split at hc
    · rename_i e esz bytes zc hk
      split at hc
      · rename_i hlen
        cases hfl : afill (zcells zc len) (lparts esz (ev fr) ps.toList) with
        | none => simp [hfl] at hc
        | some cs' =>
          simp only [hfl, Option.map_some, Option.some.injEq, Prod.mk.injEq] at hc
          obtain ⟨rfl, rfl⟩ := hc
          obtain ⟨i, hu, hi, rfl, rfl, hz, hzl, hs0⟩ := elKind_spec hk
          obtain ⟨z, hz1, hr⟩ := azero_run (G := G) (w := w) hz
          have hzsz : z.cells.size = i.size := by have := lrel_length hr; simpa [hzl] using this
          have hlist : (ps.map fun (i, x) => (i, a.eval x)).toList = ps.toList.map fun (i, x) => (i, a.eval x) := by simp
          have hne : len * i.size ≠ 0 := Nat.ne_of_gt (Nat.mul_pos hlen.1 hs0)
          have hcells : lrel G (zcells zc len) ((Array.range (len * i.size)).map (z.cells[· % z.cells.size]!)).toList := by
            rw [← hzsz, range_zero _ (by omega)]
            exact lrel_zcells hr len
          obtain ⟨cells', h1, h2⟩ := afill_run (lparts_prel (ev_rel hf)) hcells hfl
          have hcl : cells'.size = cs'.length := by have := lrel_length h2; simpa using this
          have hcsl : cs'.length = len * i.size := by
            rw [afill_length hfl]
            simp [zcells, List.length_flatten, List.sum_replicate_nat, hzl]
          refine ⟨cells', e, (0, 0), ?_, .inr (Nat.le_refl _), by omega, by rw [List.take_of_length_le (by simp; omega)]; exact h2, fun m q h => by
            simp only [Option.some.injEq, Prod.mk.injEq] at h; obtain ⟨rfl, rfl⟩ := h; omega⟩
          have hbig : ¬ (len * i.size > 2 ^ 24) := by omega
          simp only [execOp, Instr.buildSlice, Sem.run_bind, run_underlying hu, Result.andThen_ok, run_sizeOf hi, hbig, if_false, hne, hz1, hlist]
          simp only [Sem.run_pure, Result.andThen_ok, h1]
          simp [newRow, cval]
      · cases hc
    · cases hc
/-- It looks at its operands alone. -/
theorem fcs_congr {P : Program} {op : Op} {fr fr' : Fr} (he : ∀ x ∈ op.operands, ev fr x = ev fr' x) : fcs P op fr = fcs P op fr' := by
  cases op <;> simp only [Op.operands] at he <;> simp only [fcs]
  case box t x => rw [he x (by simp)]
  case buildSlice t n ps =>
    have key : ∀ m, lparts m (ev fr) ps.toList = lparts m (ev fr') ps.toList := fun m => lparts_congr fun p hp => he p.2 (by simp; exact ⟨p.1, by simpa using hp⟩)
    simp only [key]
end Go.Own

/- Regions that draw their order: an order in which the tree takes them. -/
namespace Go.Own
open Go.RowKit

/-- Operations that lay a new row; those that leave the heap as it is. -/
def kF (o : Oper) : Bool := o.guard.isNone && match o.op with
  | .alloc _ => true
  | .box _ _ => true
  | .buildSlice _ n _ => n != 0
  | _ => false
def kQ (P : Program) (o : Oper) : Bool := pureOp P o.op || match o.op with
  | .pick _ _ _ => true
  | _ => false
def isF (ops : Array Oper) (i : Nat) : Bool := match ops[i]? with
  | some o => kF o
  | none => false
def isQ (P : Program) (ops : Array Oper) (i : Nat) : Bool := match ops[i]? with
  | some o => !kF o && kQ P o
  | none => false
def nonq (P : Program) (ops : Array Oper) (y : Nat × Bool) : Bool := y.2 || !(isF ops y.1 || isQ P ops y.1)
def doneB (ops : Array Oper) (acc : List (Nat × Bool)) (j : Nat) : Bool := acc.contains (j, isF ops j)
def qpass (P : Program) (ops : Array Oper) (ms : List Nat) (m : Nat) (acc : List (Nat × Bool)) : List (Nat × Bool) :=
  (List.range m).foldl (fun acc i => if !acc.contains (i, false) && (isF ops i || isQ P ops i) && (List.range i).all (fun j => !(ms.getD i 0).testBit j || doneB ops acc j) then acc ++ [(i, false)] else acc) acc
def fpass (P : Program) (ops : Array Oper) (ms : List Nat) (m mask : Nat) (acc : List (Nat × Bool)) : List (Nat × Bool) :=
  (List.range m).foldl (fun acc i => if isF ops i && mask.testBit i && !acc.contains (i, true) then qpass P ops ms m (acc ++ [(i, true)]) else acc) acc
def sched (P : Program) (ops : Array Oper) (ms : List Nat) (m : Nat) : List (Nat × Bool) :=
  fpass P ops ms m (2 ^ m - 1) ((List.range m).foldl (fun acc c => if isF ops c || isQ P ops c then acc else qpass P ops ms m (fpass P ops ms m (ms.getD c 0) acc ++ [(c, false)])) (qpass P ops ms m []))
def sokL (P : Program) (ops : Array Oper) (ms : List Nat) (m : Nat) : List (Nat × Bool) → List (Nat × Bool) → Bool
  | _, [] => true
  | pre, (i, b) :: l => !pre.contains (i, b) && decide (i < m) && (match b with
      | true => isF ops i && pre.contains (i, false)
      | false => (match ops[i]? with
        | some o => o.after.toList.all fun e => !Region.binds .any e || doneB ops pre e.on
        | none => false) && pre.all fun y => !nonq P ops y || (ms.getD i 0).testBit y.1) && sokL P ops ms m (pre ++ [(i, b)]) l
def sokB (P : Program) (ops : Array Oper) (ms : List Nat) (m : Nat) (π : List (Nat × Bool)) : Bool :=
  sokL P ops ms m [] π && (List.range m).all fun i => π.contains (i, false) && π.contains (i, isF ops i)

structure SOK (P : Program) (ops : Array Oper) (m : Nat) (π : List (Nat × Bool)) : Prop where
  d : DOK ops m
  sz : m ≤ ops.size
  all : ∀ i, i < m → (i, false) ∈ π ∧ (i, isF ops i) ∈ π
  nin : ∀ l1 i b l2, π = l1 ++ (i, b) :: l2 → (i, b) ∉ l1 ∧ i < m
  item : ∀ l1 i l2, π = l1 ++ (i, false) :: l2 → Preds ops (fun k => (k, isF ops k) ∈ l1) i ∧ ∀ y ∈ l1, nonq P ops y = true → Ahead ops y.1 i
  push : ∀ l1 i l2, π = l1 ++ (i, true) :: l2 → isF ops i = true ∧ (i, false) ∈ l1

theorem sokL_spec {P : Program} {ops : Array Oper} {ms : List Nat} {m : Nat} (ha : ∀ i, i < m → ∀ j, (ms.getD i 0).testBit j = true → Ahead ops j i) : ∀ (l pre : List (Nat × Bool)), sokL P ops ms m pre l = true →
    ∀ l1 i b l2, l = l1 ++ (i, b) :: l2 → ((i, b) ∉ pre ++ l1 ∧ i < m) ∧ (b = true → isF ops i = true ∧ (i, false) ∈ pre ++ l1) ∧
      (b = false → Preds ops (fun k => (k, isF ops k) ∈ pre ++ l1) i ∧ ∀ y ∈ pre ++ l1, nonq P ops y = true → Ahead ops y.1 i)
  | [], pre, _, l1, i, b, l2, e => by simp at e
  | (i', b') :: l, pre, h, l1, i, b, l2, e => by
    simp only [sokL, Bool.and_eq_true, decide_eq_true_eq] at h
    obtain ⟨⟨⟨h1, h2⟩, h3⟩, h4⟩ := h
    cases l1 with
    | nil =>
      simp only [List.nil_append, List.cons.injEq, Prod.mk.injEq] at e
      obtain ⟨⟨rfl, rfl⟩, rfl⟩ := e
      rw [List.append_nil]
      refine ⟨⟨by simpa using h1, h2⟩, fun hb => ?_, fun hb => ?_⟩
      · subst hb
        simpa using h3
      · subst hb
        simp only [Bool.and_eq_true] at h3
        obtain ⟨h5, h6⟩ := h3
        refine ⟨fun o ho e he hbi => ?_, fun y hy hn => ?_⟩
        · rw [ho] at h5
          simp only [List.all_eq_true] at h5
          have := h5 e he
          simp only [hbi, Bool.not_true, Bool.false_or, doneB] at this
          simpa using this
        · rw [List.all_eq_true] at h6
          have := h6 y hy
          simp only [hn, Bool.not_true, Bool.false_or] at this
          exact ha _ h2 _ this
    | cons x l1 =>
      simp only [List.cons_append, List.cons.injEq] at e
      obtain ⟨rfl, rfl⟩ := e
      have := sokL_spec ha _ _ h4 l1 i b l2 rfl
      rwa [List.append_assoc, List.singleton_append] at this
theorem sok_of {P : Program} {ops : Array Oper} {m : Nat} {π : List (Nat × Bool)} (hd : DOK ops m) (hsz : m ≤ ops.size) (h : sokB P ops (masks ops.toList []) m π = true) : SOK P ops m π := by
  simp only [sokB, Bool.and_eq_true] at h
  have key := sokL_spec (fun i hi j hj => mask_ahead hd.lt i (by omega) j hj) π [] h.1
  refine ⟨hd, hsz, fun i hi => ?_, fun l1 i b l2 e => by simpa using (key l1 i b l2 e).1, fun l1 i l2 e => by simpa using (key l1 i false l2 e).2.2 rfl, fun l1 i l2 e => by simpa using (key l1 i true l2 e).2.1 rfl⟩
  have := h.2
  rw [List.all_eq_true] at this
  have := this i (by simpa using hi)
  simpa using this

/-- A quiet operation, under its guard. -/
def qg (P : Program) (ops : Array Oper) (sk : List Nat) (h : AHeap) (o : Oper) (fr : Fr) (k : Bool → List Nat → AV → Fr → Prop) : Prop := match o.guard with
  | none => qop P o.op fr h fun v => k false sk v fr
  | some (j, want) => match gdst ops j with
    | some t => match sk.contains t with
      | true => match isU (fr t) with
        | true => k true (addsk o.dst sk) skipv fr
        | false => False
      | false => agrd (fr t) want (qop P o.op (upd fr t (.bool want)) h fun v => k false sk v (upd fr t (.bool want))) (k true (addsk o.dst sk) skipv (upd fr t (.bool (!want))))
    | none => False
theorem qg_spec {P : Program} {ops : Array Oper} {sk : List Nat} {h : AHeap} {o : Oper} {fr : Fr} {k : Bool → List Nat → AV → Fr → Prop} (hq : qg P ops sk h o fr k) : ∃ v u sk', Yields P ops h o fr v ∧ (u = true → ∀ h', Yields P ops h' o fr v) ∧ k u sk' v fr := by
  unfold qg at hq
  split at hq
  · rename_i hg
    obtain ⟨v, h1, h2⟩ := qop_quiet hq
    exact ⟨v, _, _, by simp only [Yields, hg]; exact h1, fun h => (by cases h), h2⟩
  · rename_i j want hg
    split at hq
    · rename_i t ht
      split at hq
      · split at hq
        · rename_i hu
          exact ⟨skipv, _, _, by simp only [Yields, hg]; exact ⟨t, ht, .inr ⟨isU_eq hu, trivial⟩⟩, fun _ h' => (by simp only [Yields, hg]; exact ⟨t, ht, .inr ⟨isU_eq hu, trivial⟩⟩), hq⟩
        · exact hq.elim
      unfold agrd at hq
      split at hq
      · rename_i b hb
        split at hq
        · rename_i hbw
          rw [upd_same (by rw [hb, hbw])] at hq
          obtain ⟨v, h1, h2⟩ := qop_quiet hq
          exact ⟨v, _, _, by simp only [Yields, hg]; exact ⟨t, ht, .inl ⟨b, hb, .inl ⟨hbw, h1⟩⟩⟩, fun h => (by cases h), h2⟩
        · rename_i hbw
          rw [upd_same (by rw [hb]; congr 1; cases b <;> cases want <;> simp_all)] at hq
          exact ⟨skipv, _, _, by simp only [Yields, hg]; exact ⟨t, ht, .inl ⟨b, hb, .inr ⟨hbw, trivial⟩⟩⟩, fun _ h' => (by simp only [Yields, hg]; exact ⟨t, ht, .inl ⟨b, hb, .inr ⟨hbw, trivial⟩⟩⟩), hq⟩
      · exact hq.elim
    · exact hq.elim

/-- Operations that do not look at the heap. -/
def hless (P : Program) (op : Op) : Bool := match op with
  | .move _ | .assign _ | .pick _ _ _ | .nilCheck _ | .binOp .. | .unOp .. | .makeFunc .. | .fieldAddr .. | .field .. | .indexAddr .. | .index .. | .extract .. | .build .. => true
  | .convert s d _ => match cvKind P s d with
    | some (.int _) | some .str => true
    | _ => false
  | .slice t _ _ _ _ => match slKind P t with
    | some (.arr _ _) => false
    | _ => true
  | .call { callee := .builtin .min, .. } | .call { callee := .builtin .max, .. } => true
  | .call { callee := .builtin .len, argTypes, .. } => match argTypes[0]? with
    | some t => match lnKind P t with
      | some .map => false
      | _ => true
    | none => false
  | _ => false
theorem some1_const {α : Type} {o : Option α} {v : α} (h : some1 o fun u => u = v) : o = some v := by
  obtain ⟨u, h1, rfl⟩ := h; exact h1
theorem hless_quiet {P : Program} {op : Op} {fr : Fr} {h h' : AHeap} {v : AV} (hp : hless P op = true) (hq : Quiet P op fr h v) : Quiet P op fr h' v := by
  have hq' := hq (fun v' _ => v' = v) rfl
  intro k hk
  cases op <;> simp only [hless, Bool.false_eq_true] at hp <;> simp only [vop] at hq' ⊢
  case move x => rw [hq']; exact hk
  case assign x => rw [hq']; exact hk
  case pick c a b =>
    unfold aif at hq' ⊢
    split at hq'
    · rename_i t ht
      split at hq'
      · rename_i hb; simp only [hb, if_true]; rw [hq']; exact hk
      · rename_i hb; rw [if_neg hb, hq']; exact hk
    · exact hq'.elim
  case nilCheck x => exact ⟨hq'.1, by rw [hq'.2]; exact hk⟩
  case binOp op t x y yt =>
    split at hq'
    · exact ⟨v, some1_const hq', hk⟩
    · exact ⟨v, some1_const hq', hk⟩
  case unOp op t x => exact ⟨v, some1_const hq', hk⟩
  case makeFunc fn a b => rw [hq']; exact hk
  case convert s d x =>
    split at hq'
    · rename_i c hc
      rw [hc] at hp
      obtain ⟨⟨u, hh⟩, h1, h2⟩ := hq'
      simp only at h2
      subst h2
      cases c with
      | int kk =>
        refine ⟨(u, h'), ?_, hk⟩
        cases hx : ev fr x <;> simp only [hx, acv] at h1 ⊢ <;> first | (cases h1; done) | (simp only [Option.some.injEq, Prod.mk.injEq] at h1 ⊢; exact ⟨h1.1, trivial⟩)
      | str =>
        refine ⟨(u, h'), ?_, hk⟩
        cases hx : ev fr x <;> simp only [hx, acv] at h1 ⊢ <;> first | (cases h1; done) | (simp only [Option.some.injEq, Prod.mk.injEq] at h1 ⊢; exact ⟨h1.1, trivial⟩)
      | sb e => simp at hp
      | bs => simp at hp
    · exact hq'.elim
  case slice t x lo hi mx =>
    cases hsk : slKind P t with
    | none => simp only [hsk] at hq'
    | some kd =>
      simp only [hsk] at hq' hp ⊢
      have key : ∀ (lo hi mx : Option AV), aslice kd (ev fr x) lo hi mx h = some v → aslice kd (ev fr x) lo hi mx h' = some v := by
        intro lo hi mx h1
        cases kd with
        | arr a b => simp at hp
        | str => cases hx : ev fr x <;> simp only [hx, aslice] at h1 ⊢ <;> first | (cases h1; done) | exact h1
        | sl e => cases hx : ev fr x <;> simp only [hx, aslice] at h1 ⊢ <;> first | (cases h1; done) | exact h1
      cases hi with
      | none => cases mx with
        | none => exact ⟨v, key _ _ _ (some1_const hq'), hk⟩
        | some z => exact hq'.elim
      | some y => cases mx <;> exact ⟨v, key _ _ _ (some1_const hq'), hk⟩
  case fieldAddr t x f =>
    split at hq'
    · exact ⟨v, some1_const hq', hk⟩
    · exact hq'.elim
  case field t x f =>
    split at hq'
    · exact ⟨v, some1_const hq', hk⟩
    · exact hq'.elim
  case indexAddr t x i =>
    split at hq'
    · exact ⟨v, some1_const hq', hk⟩
    · exact hq'.elim
  case index t x i =>
    split at hq'
    · exact ⟨v, some1_const hq', hk⟩
    · exact hq'.elim
  case extract x i => exact ⟨v, some1_const hq', hk⟩
  case build t ps =>
    split at hq'
    · obtain ⟨u, h1, h2⟩ := hq'
      exact ⟨u, h1, by show k (.agg u) h'; rw [h2]; exact hk⟩
    · exact hq'.elim
  case call c =>
    obtain ⟨callee, args, ts⟩ := c
    cases callee with
    | builtin b =>
      cases b <;> simp only [Bool.false_eq_true] at hp <;> simp only [abuiltin] at hq' ⊢
      case len =>
        split at hq'
        all_goals first
          | contradiction
          | exact hq'.elim
          | (split at hq'
             · rename_i x _ hx _ t ht
               rw [ht] at hp
               split at hq'
               · rename_i kd hkd
                 simp only [hkd] at hp
                 refine ⟨v, ?_, hk⟩
                 have h1 := some1_const hq'
                 cases kd <;> first | (simp at hp; done) | (cases x <;> simp only [alen] at h1 ⊢ <;> exact h1)
               · exact hq'.elim
             · exact hq'.elim)
      case min =>
        split at hq'
        all_goals first
          | contradiction
          | exact hq'.elim
          | exact ⟨v, some1_const hq', hk⟩
      case max =>
        split at hq'
        all_goals first
          | contradiction
          | exact hq'.elim
          | exact ⟨v, some1_const hq', hk⟩
    | value f => simp at hp
    | invoke x m => simp at hp
def isLoad (op : Op) : Bool := match op with
  | .load _ _ => true
  | _ => false
/-- A new object changes no load. -/
theorem load_push {P : Program} {op : Op} {fr : Fr} {h : AHeap} {ob : AObj} {v : AV} (hf : h.get h.next = none) (hp : isLoad op = true) (hq : Quiet P op fr h v) : Quiet P op fr (h.push ob) v := by
  have hq' := hq (fun v' _ => v' = v) rfl
  intro k hk
  cases op <;> simp only [isLoad, Bool.false_eq_true] at hp
  case load t x =>
    simp only [vop] at hq' ⊢
    split at hq'
    · rename_i b n ht
      refine ⟨v, ?_, hk⟩
      have h1 := some1_const hq'
      cases hx : ev fr x <;> simp only [hx, aloadv] at h1 ⊢ <;> first | (cases h1; done) | exact h1 | skip
      rename_i i r o
      rw [AHeap.push_get]
      by_cases hi : i = h.next
      · rw [hi, hf] at h1; cases h1
      · rw [if_neg hi]; exact h1
    · exact hq'.elim
theorem Yields.of_quiet {P : Program} {ops : Array Oper} {h h' : AHeap} {o : Oper} {fr : Fr} {v : AV} (hy : Yields P ops h o fr v) (hq : Quiet P o.op fr h v → Quiet P o.op fr h' v) : Yields P ops h' o fr v := by
  unfold Yields at *
  split at hy
  · exact hq hy
  · obtain ⟨t, h1, h3⟩ := hy
    exact ⟨t, h1, h3.imp (fun ⟨b, h2, h3⟩ => ⟨b, h2, h3.imp (fun h => ⟨h.1, hq h.2⟩) id⟩) id⟩

/-- A quiet operation that the tree has come to, in this frame, to this value. -/
structure Pd where
  i : Nat
  o : Oper
  fr : Fr
  v : AV
  sk : List Nat
  u : Bool
def rech1 (P : Program) (ops : Array Oper) (h : AHeap) (p : Pd) : Prop := qg P ops p.sk h p.o p.fr fun _ _ v' _ => v' = p.v
theorem rech1_spec {P : Program} {ops : Array Oper} {h : AHeap} {i : Nat} {o : Oper} {f : Fr} {v : AV} {sk : List Nat} {u : Bool} (h1 : rech1 P ops h ⟨i, o, f, v, sk, u⟩) : Yields P ops h o f v := by
  obtain ⟨v', _, _, h2, _, h3⟩ := qg_spec h1
  simp only at h3
  subst h3; exact h2
/-- What is still to be carried out comes to the same in this heap. -/
def rech (P : Program) (ops : Array Oper) (pushed : Bool) (h : AHeap) : List Pd → Prop → Prop
  | [], K => K
  | p :: l, K => match p.u || (hless P p.o.op || (pushed && isLoad p.o.op)) with
    | true => rech P ops pushed h l K
    | false => rech1 P ops h p ∧ rech P ops pushed h l K
theorem rech_spec {P : Program} {ops : Array Oper} {b : Bool} {h : AHeap} : ∀ {l : List Pd} {K : Prop}, rech P ops b h l K → K ∧ ∀ p ∈ l, p.u = true ∨ hless P p.o.op = true ∨ (b = true ∧ isLoad p.o.op = true) ∨ rech1 P ops h p
  | [], K, hr => ⟨hr, fun p hp => by cases hp⟩
  | p :: l, K, hr => by
    simp only [rech] at hr
    split at hr
    · rename_i hc
      obtain ⟨h1, h2⟩ := rech_spec hr
      refine ⟨h1, fun q hq => ?_⟩
      rcases List.mem_cons.1 hq with rfl | hq
      · simp only [Bool.or_eq_true, Bool.and_eq_true] at hc
        exact hc.imp id fun h => h.imp id .inl
      · exact h2 q hq
    · obtain ⟨h0, hr⟩ := hr
      obtain ⟨h1, h2⟩ := rech_spec hr
      refine ⟨h1, fun q hq => ?_⟩
      rcases List.mem_cons.1 hq with rfl | hq
      · exact .inr (.inr (.inr h0))
      · exact h2 q hq

/-- What a new row holds; the row is laid. -/
def alitQ (P : Program) (t : TypeId) (n : Nat) (ps : List (Nat × Nat × AV)) (k : List AV → Prop) : Prop := match elKind P t with
  | some (_, esz, _, zc) => (0 < n ∧ n * esz ≤ 16777216) ∧ some1 (afill (zcells zc n) ps) k
  | none => False
def eszOf (P : Program) (t : TypeId) : Nat := match elKind P t with
  | some (_, esz, _, _) => esz
  | none => 0
def fprep (P : Program) (op : Op) (fr : Fr) (k : List AV → Option (Nat × Nat) → Prop) : Prop := match op with
  | .alloc t => some1 (azero P t) fun cs => k cs none
  | .box _ x => some1 (ev fr x).cells? fun cs => k cs none
  | .buildSlice t n ps => alitQ P t n (lparts (eszOf P t) (ev fr) ps.toList) fun cs => k cs (some (n, eszOf P t))
  | _ => False
theorem fprep_spec {P : Program} {op : Op} {fr : Fr} {k : List AV → Option (Nat × Nat) → Prop} (hp : fprep P op fr k) : ∃ cs s, fcs P op fr = some (cs, s) ∧ k cs s := by
  unfold fprep at hp
  split at hp
  · obtain ⟨cs, h1, h2⟩ := hp; exact ⟨cs, none, by simp [fcs, h1], h2⟩
  · obtain ⟨cs, h1, h2⟩ := hp; exact ⟨cs, none, by simp [fcs, h1], h2⟩
  · rename_i t n ps
    unfold alitQ at hp
    split at hp
    · rename_i e esz b zc hk
      obtain ⟨h0, cs, h1, h2⟩ := hp
      have he : eszOf P t = esz := by simp [eszOf, hk]
      rw [he] at h1 h2
      exact ⟨cs, some (n, esz), by simp [fcs, hk, h0, h1], h2⟩
    · exact hp.elim
  · exact hp.elim
def fpush (cs : List AV) (s : Option (Nat × Nat)) (h : AHeap) (k : AV → AHeap → Prop) : Prop := match s with
  | none => anew cs h k
  | some (n, esz) => anewsl n esz cs h k
theorem fpush_spec {cs : List AV} {s : Option (Nat × Nat)} {h : AHeap} {k : AV → AHeap → Prop} (hp : fpush cs s h k) : k (fval s h.next) (h.push (.cells 0 cs)) := by
  cases s <;> exact hp
abbrev Flo := List (Nat × List AV × Option (Nat × Nat))
def Flo.get (l : Flo) (i : Nat) : Option (List AV × Option (Nat × Nat)) := match l with
  | [] => none
  | (j, x) :: r => if j = i then some x else Flo.get r i
/-- One operation that is not quiet. -/
def opsk (P : Program) (n : Nat) (ops : Array Oper) (o : Oper) (sk : List Nat) (K : List Nat → Fr → AHeap → Prop) (fr : Fr) (h : AHeap) : Prop := match o.guard with
  | none => vop P o.op fr h fun v h => aput n o.dst v fr fun fr => K sk fr h
  | some (j, want) => match gdst ops j with
    | some t => match sk.contains t with
      | true => match isU (fr t) with
        | true => aput n o.dst skipv fr fun fr => K (addsk o.dst sk) fr h
        | false => False
      | false => agrd (fr t) want (vop P o.op (upd fr t (.bool want)) h fun v h => aput n o.dst v (upd fr t (.bool want)) fun fr => K sk fr h) (aput n o.dst skipv (upd fr t (.bool (!want))) fun fr => K (addsk o.dst sk) fr h)
    | none => False
def dstOk (n : Nat) (dst : Option Tmp) : Bool := match dst with
  | none => true
  | some d => decide (d < n)
/-- The operations in the order of the tree. -/
def sgo (P : Program) (n : Nat) (ops : Array Oper) (ms : List Nat) (K : List Nat → Fr → AHeap → Prop) : List (Nat × Bool) → List Nat → List Pd → Flo → Fr → AHeap → Prop
  | [], sk, _, _, fr, h => K sk fr h
  | (i, b) :: rest, sk, pd, fl, fr, h => match ops[i]? with
    | none => False
    | some o => match b with
      | true => match Flo.get fl i with
        | some (cs, s) => fpush cs s h fun v h => aput n o.dst v fr fun fr => rech P ops true h (pd.filter fun p => !(ms.getD i 0).testBit p.i) (sgo P n ops ms K rest sk (pd.filter fun p => !(ms.getD i 0).testBit p.i) fl fr h)
        | none => False
      | false => match kF o with
        | true => match dstOk n o.dst with
          | true => fprep P o.op fr fun cs s => sgo P n ops ms K rest sk pd ((i, cs, s) :: fl) fr h
          | false => False
        | false => match kQ P o with
          | true => qg P ops sk h o fr fun u sk' v fr' => aput n o.dst v fr' fun fr'' => sgo P n ops ms K rest sk' (⟨i, o, fr', v, sk, u⟩ :: pd) fl fr'' h
          | false => opsk P n ops o sk (fun sk fr h => rech P ops false h (pd.filter fun p => !(ms.getD i 0).testBit p.i) (sgo P n ops ms K rest sk (pd.filter fun p => !(ms.getD i 0).testBit p.i) fl fr h)) fr h
/-- Is the elder reading of use: are all operations quiet that come ahead of a forced tail? -/
def oldq (P : Program) (o : Oper) : Bool := kQ P o || match o.op with
  | .call { callee := .value f, .. } => (staticF f).isSome
  | _ => false
def drawn (nw : Bool) (P : Program) (n : Nat) (ops : Array Oper) (K : Fr → AHeap → Prop) (fr : Fr) (h : AHeap) : Prop :=
  match tailStart (masks ops.toList []) with
  | m => match (ops.toList.take m).all (fun o => if nw then kQ P o else oldq P o) with
    | true => drawc P n ops K fr h
    | false => match dokB ops (masks ops.toList []) m && sokB P ops (masks ops.toList []) m (sched P ops (masks ops.toList []) m) with
      | true => sgo P n ops (masks ops.toList []) (fun sk fr h => opsc P n ops (ops.toList.drop m) sk K fr h) (sched P ops (masks ops.toList []) m) [] [] [] fr h
      | false => False
end Go.Own

/- Regions that draw their order: frames, the state between two operations. -/
namespace Go.Own
open Go.RowKit

/-- Other temporaries are as they were. -/
def Apart (dst : Option Tmp) (a a' : Act) : Prop := ∀ d, dst ≠ some d → a'.tmps.getD d undef = a.tmps.getD d undef
theorem apart_put (dst : Option Tmp) (a : Act) (v : Value) : Apart dst a (a.put dst v) := by
  intro d hd
  cases dst with
  | none => rfl
  | some e =>
    have : e ≠ d := fun h => hd (by rw [h])
    simp only [Act.put]
    rw [Array.getD_eq_getD_getElem?, Array.getD_eq_getD_getElem?, Array.getElem?_setIfInBounds_ne this]
theorem frel_updO {G : Ghost} {n : Nat} {fr : Fr} {a : Act} {dst : Option Tmp} {v : AV} {rv : Value} (hf : frel G n fr a) (hv : vrel G v rv) (hd : ∀ d, dst = some d → d < n) : frel G n (updO dst v fr) (a.put dst rv) := by
  cases dst with
  | none => exact hf
  | some d => exact frel_upd hf (hd d rfl) hv

/-- From what an operation comes to, on to what follows. -/
theorem good_nextX {P : Program} {o : Oper} {n : Nat} {fr : Fr} {a : Act} {G : Ghost} {K : AV → AHeap → Prop} {next : Act → World → Prop} {Q : Exit → Act → World → Prop} {res : Result Next} (hf : frel G n fr a) (hb : ∀ v h, K v h → ∀ d, o.dst = some d → d < n)
    (hg : Good P K G res)
    (hn : ∀ G' v h' a' w', G.le G' → Rel G' h' w' → frel G' n (updO o.dst v fr) a' → Apart o.dst a a' → K v h' → next a' w') : o.upon P a next Q res := by
  unfold Good at hg
  split at hg
  · rename_i rv w'
    obtain ⟨v, h', G', r, hv, hk, hl⟩ := hg
    rw [Oper.upon_value]
    exact hn G' v h' _ w' hl r (frel_updO (frel_mono hl hf) hv (hb _ _ hk)) (apart_put _ _ _) hk
  · rename_i w'
    obtain ⟨h', G', r, hk, hl⟩ := hg
    rw [Oper.upon_skip]
    exact hn G' .junk h' _ w' hl r (frel_updO (frel_mono hl hf) (by simp only [vrel]) (hb _ _ hk)) (apart_put _ _ _) hk
  · rename_i f args w'
    obtain ⟨h', largs, r, hla, hc⟩ := hg
    rw [Oper.upon_enter]
    have := hc.run G w' args.toList r hla
    rw [Array.toArray_toList] at this
    refine this.mono ?_
    rintro e w'' ⟨rv, v, h'', G', rfl, r', hv, hk, hl⟩
    exact hn G' v h'' _ w'' hl r' (frel_updO (frel_mono hl hf) hv (hb _ _ hk)) (apart_put _ _ _) hk
  · exact hg.elim
theorem ops_agree {ops : Array Oper} {o : Oper} {f g : Fr} (he : ∀ t ∈ o.looksAt ops, f t = g t) : ∀ x ∈ o.op.operands, ev f x = ev g x := by
  intro x hx
  refine ev_congr fun t ht => he t ?_
  subst ht
  simp only [Oper.looksAt, List.mem_append, List.mem_filterMap]
  exact .inl ⟨.tmp t, by simpa using hx, rfl⟩
theorem guard_looks {ops : Array Oper} {o : Oper} {j t : Nat} {want : Bool} (hg : o.guard = some (j, want)) (ht : gdst ops j = some t) : t ∈ o.looksAt ops := by
  simp only [Oper.looksAt, List.mem_append]
  right
  unfold gdst at ht
  simp [hg, ht]
/-- One operation, out of a frame that agrees with the tree's where it looks. -/
theorem chain_step {P : Program} {n : Nat} {ops : Array Oper} {o : Oper} {sk : List Nat} {K : List Nat → Fr → AHeap → Prop} {fr fD : Fr} {h : AHeap} {G : Ghost} {w : World} {a : Act} {next : Act → World → Prop} {Q : Exit → Act → World → Prop}
    (hv : opsk P n ops o sk K fr h) (he : ∀ t ∈ o.looksAt ops, fr t = fD t) (r : Rel G h w) (hf : frel G n fD a)
    (hn : ∀ G' v sk' h' a' w', G.le G' → Rel G' h' w' → frel G' n (updO o.dst v fD) a' → Apart o.dst a a' → (∀ d, o.dst = some d → d < n) → K sk' (updO o.dst v fr) h' → next a' w') :
    if Region.wanted o (yielded ops a.tmps) then o.wp P a w next Q ∨ (o.asks P a w ∧ LetsOut Q) else next (a.put o.dst undef) w := by
  simp only [opsk] at hv
  have run : vop P o.op fr h (fun v h => aput n o.dst v fr fun fr => K sk fr h) → o.wp P a w next Q := by
    intro hv
    rw [vop_congr (ops_agree he)] at hv
    refine good_nextX hf (fun v h hk => (aput_spec hk).2) (vop_good r hf hv) ?_
    intro G' v h' a' w' hl r' hf' ha hk
    exact hn G' v sk h' a' w' hl r' hf' ha (aput_spec hk).2 (aput_spec hk).1
  split at hv
  · rename_i hg
    have hw : Region.wanted o (yielded ops a.tmps) = true := by simp [Region.wanted, hg]
    rw [if_pos hw]
    exact .inl (run hv)
  · rename_i j want hg
    split at hv
    · rename_i t ht
      have htD : fr t = fD t := he t (guard_looks hg ht)
      split at hv
      · split at hv
        · rename_i hu
          have hy := guard_skip hf ht (htD ▸ isU_eq hu)
          have hw : ¬ Region.wanted o (yielded ops a.tmps) = true := by simp [Region.wanted, hg, hy]
          rw [if_neg hw]
          obtain ⟨h1, h2⟩ := aput_spec hv
          exact hn G skipv _ h _ w (.refl G) r (frel_updO hf vrel_skip h2) (apart_put _ _ _) h2 h1
        · exact hv.elim
      unfold agrd at hv
      split at hv
      · rename_i b hb
        have hy := guard_bool hf ht (htD ▸ hb)
        split at hv
        · rename_i hbw
          rw [upd_same (by rw [hb, hbw])] at hv
          have hw : Region.wanted o (yielded ops a.tmps) = true := by simp [Region.wanted, hg, hy, hbw]
          rw [if_pos hw]
          exact .inl (run hv)
        · rename_i hbw
          rw [upd_same (by rw [hb]; congr 1; cases b <;> cases want <;> simp_all)] at hv
          have hw : ¬ Region.wanted o (yielded ops a.tmps) = true := by simp [Region.wanted, hg, hy, hbw]
          rw [if_neg hw]
          obtain ⟨h1, h2⟩ := aput_spec hv
          exact hn G skipv _ h _ w (.refl G) r (frel_updO hf vrel_skip h2) (apart_put _ _ _) h2 h1
      · exact hv.elim
    · exact hv.elim
/-- A quiet operation. -/
theorem quiet_stepX {P : Program} {n : Nat} {ops : Array Oper} {h : AHeap} {Q : Exit → Act → World → Prop} {o : Oper} {f : Fr} {v : AV} {G : Ghost} {w : World} {a : Act} {Kn : Act → World → Prop} (hy : Yields P ops h o f v) (hb : ∀ d, o.dst = some d → d < n) (r : Rel G h w) (hf : frel G n f a)
    (hn : ∀ G' a' w', G.le G' → Rel G' h w' → frel G' n (updO o.dst v f) a' → Apart o.dst a a' → Kn a' w') :
    if Region.wanted o (yielded ops a.tmps) then o.wp P a w Kn Q ∨ (o.asks P a w ∧ LetsOut Q) else Kn (a.put o.dst undef) w := by
  have run : Quiet P o.op f h v → o.wp P a w Kn Q := by
    intro hq
    refine good_nextX (K := fun v' h' => v' = v ∧ h' = h) hf (fun _ _ _ => hb) (vop_good r hf (hq _ ⟨rfl, rfl⟩)) ?_
    rintro G' v' h' a' w' hl r' hf' ha ⟨rfl, rfl⟩
    exact hn G' a' w' hl r' hf' ha
  unfold Yields at hy
  split at hy
  · rename_i hg
    have hw : Region.wanted o (yielded ops a.tmps) = true := by simp [Region.wanted, hg]
    rw [if_pos hw]
    exact .inl (run hy)
  · rename_i j want hg
    obtain ⟨t, ht, hh⟩ := hy
    rcases hh with ⟨b, hbt, hh⟩ | ⟨hbt, rfl⟩
    rotate_left
    · have hyd := guard_skip hf ht hbt
      have hw : ¬ Region.wanted o (yielded ops a.tmps) = true := by simp [Region.wanted, hg, hyd]
      rw [if_neg hw]
      exact hn G _ w (.refl G) r (frel_updO hf vrel_skip hb) (apart_put _ _ _)
    have hyd := guard_bool hf ht hbt
    rcases hh with ⟨hbw, hq⟩ | ⟨hbw, hv⟩
    · have hw : Region.wanted o (yielded ops a.tmps) = true := by simp [Region.wanted, hg, hyd, hbw]
      rw [if_pos hw]
      exact .inl (run hq)
    · have hw : ¬ Region.wanted o (yielded ops a.tmps) = true := by simp [Region.wanted, hg, hyd, hbw]
      rw [if_neg hw]
      subst hv
      exact hn G _ w (.refl G) r (frel_updO hf vrel_skip hb) (apart_put _ _ _)

section
variable {P : Program} {n : Nat} {ops : Array Oper} {m : Nat} {fr0 : Fr}
/-- The frame in which the operations of D have come to their values. -/
noncomputable abbrev FR (ops : Array Oper) (m : Nat) (fr0 : Fr) (val : Nat → AV) (D : Nat → Prop) : Fr := frD ops m ((List.range m).map val) fr0 D
theorem FR_in {val : Nat → AV} {D : Nat → Prop} (hd : DOK ops m) {k t : Nat} {o : Oper} (hk : k < m) (hD : D k) (ho : ops[k]? = some o) (ht : o.dst = some t) : FR ops m fr0 val D t = val k := by
  rw [FR, frD_in hd hk hD ho ht]; simp [List.getD_eq_getElem?_getD, hk]
theorem FR_val {val val' : Nat → AV} {D : Nat → Prop} (hd : DOK ops m) (hv : ∀ k, D k → val' k = val k) : FR ops m fr0 val' D = FR ops m fr0 val D := by
  funext t
  by_cases hex : ∃ k o, k < m ∧ D k ∧ ops[k]? = some o ∧ o.dst = some t
  · obtain ⟨k, o, h1, h2, h3, h4⟩ := hex
    rw [FR_in hd h1 h2 h3 h4, FR_in hd h1 h2 h3 h4, hv k h2]
  · rw [FR, FR, frD_out fun k o h1 h2 h3 h4 => hex ⟨k, o, h1, h2, h3, h4⟩, frD_out fun k o h1 h2 h3 h4 => hex ⟨k, o, h1, h2, h3, h4⟩]
theorem FR_step {val val' : Nat → AV} {D D' : Nat → Prop} (hd : DOK ops m) {i : Nat} {o : Oper} (hi : i < m) (ho : ops[i]? = some o) (hD' : ∀ k, D' k ↔ D k ∨ k = i) (hv : ∀ k, D k → val' k = val k) :
    FR ops m fr0 val' D' = updO o.dst (val' i) (FR ops m fr0 val D) := by
  rw [FR, frD_step hd hi ho D' hD']
  have : ((List.range m).map val').getD i .junk = val' i := by simp [List.getD_eq_getElem?_getD, hi]
  rw [this, ← FR_val hd hv]

/-- Where an operation looks, the frame shows what those ahead of it came to. -/
def Agr (ops : Array Oper) (m : Nat) (fr0 : Fr) (val : Nat → AV) (q : Nat) (o : Oper) (f : Fr) : Prop := ∀ t ∈ o.looksAt ops,
  (∀ k o', k < m → k ≠ q → ops[k]? = some o' → o'.dst = some t → Ahead ops k q → f t = val k) ∧
  (∀ k o', k < m → k ≠ q → ops[k]? = some o' → o'.dst = some t → Ahead ops q k → f t = fr0 t) ∧
  ((∀ k o', k < m → k ≠ q → ops[k]? = some o' → o'.dst ≠ some t) → f t = fr0 t)
theorem agr_at {val : Nat → AV} (hd : DOK ops m) {q : Nat} {o : Oper} (hq : q < m) (ho : ops[q]? = some o) {D : Nat → Prop} (hD : DownC ops D) (hp : Preds ops D q) (hn : ¬ D q) : Agr ops m fr0 val q o (FR ops m fr0 val D) := by
  have _ := hq
  have _ := ho
  intro t ht
  refine ⟨fun k o' hk hne ho' hd' ha => FR_in hd hk (ha.2 D hD hp) ho' hd', fun k o' hk hne ho' hd' ha => ?_, fun hno => ?_⟩
  · have hnk : ¬ D k := fun h => hn (ha.2 D hD (hD k h))
    rw [FR, frD_out]
    intro j o'' hj hDj hoj hdj
    have hjk : j ≠ k := fun e => hnk (e ▸ hDj)
    exact hd.uniq j k o'' o' t hj hk hjk hoj ho' hd' hdj
  · rw [FR, frD_out]
    intro j o'' hj hDj hoj hdj
    exact hno j o'' hj (fun e => hn (e ▸ hDj)) hoj hdj
theorem agr_eq {val : Nat → AV} (hd : DOK ops m) {q : Nat} {o : Oper} (hq : q < m) (ho : ops[q]? = some o) {f g : Fr} (hf : Agr ops m fr0 val q o f) (hg : Agr ops m fr0 val q o g) : ∀ t ∈ o.looksAt ops, f t = g t := by
  intro t ht
  by_cases hex : ∃ k o', k < m ∧ k ≠ q ∧ ops[k]? = some o' ∧ o'.dst = some t
  · obtain ⟨k, o', hk, hne, ho', hd'⟩ := hex
    rcases hd.dep q k o o' t hq hk (Ne.symm hne) ho ho' hd' ht with h1 | h1
    · rw [(hf t ht).1 k o' hk hne ho' hd' h1, (hg t ht).1 k o' hk hne ho' hd' h1]
    · rw [(hf t ht).2.1 k o' hk hne ho' hd' h1, (hg t ht).2.1 k o' hk hne ho' hd' h1]
  · have hno : ∀ k o', k < m → k ≠ q → ops[k]? = some o' → o'.dst ≠ some t := fun k o' h1 h2 h3 h4 => hex ⟨k, o', h1, h2, h3, h4⟩
    rw [(hf t ht).2.2 hno, (hg t ht).2.2 hno]
theorem agr_val {val val' : Nat → AV} {q : Nat} {o : Oper} {f : Fr} (h : Agr ops m fr0 val q o f) (hv : ∀ k, Ahead ops k q → val' k = val k) : Agr ops m fr0 val' q o f := by
  intro t ht
  obtain ⟨h1, h2, h3⟩ := h t ht
  exact ⟨fun k o' a b c d e => (h1 k o' a b c d e).trans (hv k e).symm, h2, h3⟩

theorem SOK.down {π : List (Nat × Bool)} (S : SOK P ops m π) {x y : List (Nat × Bool)} (e : π = x ++ y) : DownC ops (fun k => (k, isF ops k) ∈ x) := by
  have key : ∀ k, (k, false) ∈ x → Preds ops (fun k => (k, isF ops k) ∈ x) k := by
    intro k hk
    obtain ⟨a, b, rfl⟩ := List.append_of_mem hk
    have := (S.item a k (b ++ y) (by rw [e]; simp)).1
    intro o ho ed he hb
    exact List.mem_append_left _ (this o ho ed he hb)
  intro k hk
  cases hF : isF ops k with
  | false => rw [hF] at hk; exact key k hk
  | true =>
    rw [hF] at hk
    obtain ⟨a, b, rfl⟩ := List.append_of_mem hk
    exact key k (List.mem_append_left _ (S.push a k (b ++ y) (by rw [e]; simp)).2)
theorem SOK.ahead {π : List (Nat × Bool)} (S : SOK P ops m π) {x y : List (Nat × Bool)} (e : π = x ++ y) {q k : Nat} (hq : (q, false) ∈ x) (ha : Ahead ops k q) : (k, isF ops k) ∈ x := by
  obtain ⟨a, b, rfl⟩ := List.append_of_mem hq
  have h1 := S.item a q (b ++ y) (by rw [e]; simp)
  have h2 := ha.2 _ (S.down (x := a) (y := (q, false) :: (b ++ y)) (by rw [e]; simp)) h1.1
  exact List.mem_append_left _ h2

/-- The state between two operations: what was carried out (D), what the tree has come to (l1). -/
structure Inv (P : Program) (n : Nat) (ops : Array Oper) (ms : List Nat) (m : Nat) (π : List (Nat × Bool)) (K : List Nat → Fr → AHeap → Prop) (fr0 : Fr) (G0 : Ghost) (D : Nat → Prop) (l1 l2 : List (Nat × Bool)) (val : Nat → AV) (blk : Nat → Nat) (pd : List Pd) (fl : Flo) (h : AHeap) (G : Ghost) (w : World) (a : Act) : Prop where
  split : π = l1 ++ l2
  down : DownC ops D
  low : ∀ k, D k → k < m
  rel : Rel G h w
  le : G0.leV G
  frel : frel G n (FR ops m fr0 val D) a
  valj : ∀ k, (k, isF ops k) ∉ l1 → val k = .junk
  dst : ∀ k o, (k, isF ops k) ∈ l1 → ops[k]? = some o → ∀ d, o.dst = some d → d < n
  exec : ∀ y ∈ l1, nonq P ops y = true → D y.1
  prep : ∀ k, D k → (k, false) ∈ l1
  run : ∃ sk, sgo P n ops ms K l2 sk pd fl (FR ops m fr0 val (fun k => (k, isF ops k) ∈ l1)) h
  pend : ∀ q o, (q, false) ∈ l1 → isQ P ops q = true → ¬ D q → ops[q]? = some o → ∃ f sk u, (⟨q, o, f, val q, sk, u⟩ : Pd) ∈ pd ∧ Agr ops m fr0 val q o f ∧ Yields P ops h o f (val q) ∧ (u = true → ∀ h', Yields P ops h' o f (val q))
  flo : ∀ q o, (q, false) ∈ l1 → isF ops q = true → (q, true) ∉ l1 → ops[q]? = some o → (∀ d, o.dst = some d → d < n) ∧ ∃ f cs s, Flo.get fl q = some (cs, s) ∧ fcs P o.op f = some (cs, s) ∧ Agr ops m fr0 val q o f
  early : ∀ q o, D q → isF ops q = true → (q, true) ∉ l1 → ops[q]? = some o → ∃ cs s row el fz, Flo.get fl q = some (cs, s) ∧ G.keep (blk q) = some (.cells row el fz) ∧ G0.keep (blk q) = none ∧ G.N ≤ blk q ∧ (row.size ≤ fz.1 ∨ fz.2 ≤ fz.1) ∧
    cs.length ≤ row.size ∧ lrel G cs (row.toList.take cs.length) ∧ (∀ m esz, s = some (m, esz) → m * esz ≤ row.size) ∧ ∀ d, o.dst = some d → a.tmps.getD d undef = cval s (blk q)
  inj : ∀ q q', D q → D q' → isF ops q = true → isF ops q' = true → (q, true) ∉ l1 → (q', true) ∉ l1 → blk q = blk q' → q = q'
  keep0 : ∀ b o, G0.keep b = some o → G.keep b = some o
  keep1 : ∀ b o, G.keep b = some o → G0.keep b = some o ∨ ∃ q, D q ∧ isF ops q = true ∧ (q, true) ∉ l1 ∧ blk q = b

theorem isQ_F {q : Nat} (h : isQ P ops q = true) : isF ops q = false := by
  unfold isQ at h
  unfold isF
  split at h
  · simp only [Bool.and_eq_true, Bool.not_eq_true'] at h; exact h.1
  · cases h
end
end Go.Own

/- Regions that draw their order: the tree goes on as far as it may. -/
namespace Go.Own
open Go.RowKit

section
variable {P : Program} {n : Nat} {ops : Array Oper} {m : Nat} {fr0 : Fr} {ms : List Nat} {π : List (Nat × Bool)} {K : List Nat → Fr → AHeap → Prop} {G0 : Ghost} {D : Nat → Prop} {w : World} {a : Act} {blk : Nat → Nat}

theorem Flo.get_cons {fl : Flo} {i q : Nat} {x : List AV × Option (Nat × Nat)} : Flo.get ((i, x) :: fl) q = if i = q then some x else Flo.get fl q := by
  rw [Flo.get]
theorem isF_spec {i : Nat} {o : Oper} (ho : ops[i]? = some o) : isF ops i = kF o := by simp [isF, ho]
theorem isQ_spec {i : Nat} {o : Oper} (ho : ops[i]? = some o) : isQ P ops i = (!kF o && kQ P o) := by simp [isQ, ho]
theorem S_op (S : SOK P ops m π) {i : Nat} (hi : i < m) : ∃ o, ops[i]? = some o := ⟨ops[i]'(Nat.lt_of_lt_of_le hi S.sz), by simp [Nat.lt_of_lt_of_le hi S.sz]⟩

/-- A float's row comes into the abstract heap. -/
theorem settle_push (S : SOK P ops m π) (hms : ∀ i, i < m → ∀ j, (ms.getD i 0).testBit j = true → Ahead ops j i) {i : Nat} {rest l1 : List (Nat × Bool)} {val : Nat → AV} {pd : List Pd} {fl : Flo} {h : AHeap} {G : Ghost}
    (I : Inv P n ops ms m π K fr0 G0 D l1 ((i, true) :: rest) val blk pd fl h G w a) (hD : D i) :
    ∃ val' pd' h' G', Inv P n ops ms m π K fr0 G0 D (l1 ++ [(i, true)]) rest val' blk pd' fl h' G' w a := by
  obtain ⟨hni, him⟩ := S.nin _ _ _ _ I.split
  obtain ⟨hF, hpre⟩ := S.push _ _ _ I.split
  obtain ⟨o, ho⟩ := S_op S him
  obtain ⟨cs, s, row, el, fz, e1, e2, e3, e4, e5, e6, e7, e8, e9⟩ := I.early i o hD hF hni ho
  obtain ⟨sk, run⟩ := I.run
  simp only [sgo, ho, e1] at run
  obtain ⟨r1, hdst⟩ := aput_spec (fpush_spec run)
  obtain ⟨r2, hre⟩ := rech_spec r1
  obtain ⟨R, L⟩ := I.rel.adopt e2 e4 e5 e6 e7
  generalize hG : (G.add h.next 0 (blk i) row.size (#[], 0)).keeps (blk i) none = G' at R L
  have hkeep : ∀ c, G'.keep c = if c = blk i then none else G.keep c := by intro c; rw [← hG]; rfl
  have hblk : G'.blk h.next 0 = blk i := by rw [← hG]; exact Ghost.add_blk G h.next 0 (blk i) row.size (#[], 0)
  have hown : G'.own h.next 0 = row.size := by rw [← hG]; exact Ghost.add_own G h.next 0 (blk i) row.size (#[], 0)
  have hok : G'.ok h.next 0 := by rw [← hG]; exact Ghost.add_ok G h.next 0 (blk i) row.size (#[], 0)
  have hv : vrel G' (fval s h.next) (cval s (blk i)) := by
    have := fval_rel (s := s) hok (fun a b e => by rw [hown]; exact e8 a b e)
    rwa [hblk] at this
  have hmem : ∀ k, (k, isF ops k) ∈ l1 ++ [(i, true)] ↔ (k, isF ops k) ∈ l1 ∨ k = i := by
    intro k
    simp only [List.mem_append, List.mem_singleton, Prod.mk.injEq]
    constructor
    · rintro (h | h); exact .inl h; exact .inr h.1
    · rintro (h | rfl); exact .inl h; exact .inr ⟨rfl, hF⟩
  let val' : Nat → AV := fun k => if k = i then fval s h.next else val k
  have hvi : val' i = fval s h.next := if_pos rfl
  have hvn : ∀ k, k ≠ i → val' k = val k := fun k hk => if_neg hk
  have hni' : (i, isF ops i) ∉ l1 := by rw [hF]; exact hni
  have hvl : ∀ k, (k, isF ops k) ∈ l1 → val' k = val k := fun k hk => hvn k fun e => hni' (e ▸ hk)
  have hval : ∀ q k, (q, false) ∈ l1 → Ahead ops k q → val' k = val k := fun q k hq ha => hvl k (S.ahead I.split hq ha)
  have hq1 : ∀ q, (q, false) ∈ l1 ++ [(i, true)] → (q, false) ∈ l1 := fun q hq => by simpa using hq
  have hq2 : ∀ q, (q, true) ∉ l1 ++ [(i, true)] → (q, true) ∉ l1 ∧ q ≠ i := fun q hq => by
    simp only [List.mem_append, List.mem_singleton, Prod.mk.injEq, and_true, not_or] at hq; exact hq
  have hFR : FR ops m fr0 val' (fun k => (k, isF ops k) ∈ l1 ++ [(i, true)]) = updO o.dst (fval s h.next) (FR ops m fr0 val fun k => (k, isF ops k) ∈ l1) := by
    rw [FR_step S.d him ho hmem hvl, hvi]
  have hfr : frel G' n (FR ops m fr0 val' D) a := by
    refine ⟨I.frel.size, I.frel.defers, fun j => ?_⟩
    by_cases hex : ∃ k o', k < m ∧ D k ∧ ops[k]? = some o' ∧ o'.dst = some j
    · obtain ⟨k, o', h1, h2, h3, h4⟩ := hex
      rw [FR_in S.d h1 h2 h3 h4]
      by_cases hki : k = i
      · subst hki
        rw [ho] at h3; cases h3
        rw [hvi, e9 j h4]; exact hv
      · rw [hvn k hki]
        have := I.frel.at_ j
        rw [FR_in S.d h1 h2 h3 h4] at this
        exact vrel_monoV L _ _ this
    · have e : FR ops m fr0 val' D j = FR ops m fr0 val D j := by
        rw [FR, FR, frD_out fun k o h1 h2 h3 h4 => hex ⟨k, o, h1, h2, h3, h4⟩, frD_out fun k o h1 h2 h3 h4 => hex ⟨k, o, h1, h2, h3, h4⟩]
      rw [e]; exact vrel_monoV L _ _ (I.frel.at_ j)
  refine ⟨val', pd.filter fun p => !(ms.getD i 0).testBit p.i, h.push (.cells 0 cs), G', ⟨by rw [I.split]; simp, I.down, I.low, R, I.le.trans L, hfr, ?_, ?_, ?_, fun k hk => List.mem_append_left _ (I.prep k hk), by rw [hFR]; exact ⟨sk, r2⟩, ?_, ?_, ?_, ?_, ?_, ?_⟩⟩
  · intro k hk
    rw [hmem] at hk
    rw [hvn k fun e => hk (.inr e)]
    exact I.valj k fun e => hk (.inl e)
  · intro k o' hk ho'
    rcases (hmem k).1 hk with hk | rfl
    · exact I.dst k o' hk ho'
    · rw [ho] at ho'; cases ho'; exact hdst
  · intro y hy hn
    simp only [List.mem_append, List.mem_singleton] at hy
    rcases hy with hy | rfl
    · exact I.exec y hy hn
    · exact hD
  · intro q o' hq hQ hnD ho'
    have hq := hq1 q hq
    have hqi : q ≠ i := fun e => by rw [e] at hnD; exact hnD hD
    obtain ⟨f, skp, up, f1, f2, f3, f4⟩ := I.pend q o' hq hQ hnD ho'
    have hmask : (ms.getD i 0).testBit q = false := by
      cases hb : (ms.getD i 0).testBit q with
      | false => rfl
      | true => exact absurd ((hms i him q hb).2 D I.down (I.down i hD)) hnD
    have hin : (⟨q, o', f, val q, skp, up⟩ : Pd) ∈ pd.filter fun p => !(ms.getD i 0).testBit p.i := by
      rw [List.mem_filter]; exact ⟨f1, by show (!(ms.getD i 0).testBit q) = true; rw [hmask]; rfl⟩
    rw [hvn q hqi]
    refine ⟨f, skp, up, hin, agr_val f2 fun k hk => hval q k hq hk, ?_, f4⟩
    rcases hre _ hin with h1 | h1 | ⟨_, h1⟩ | h1
    · exact f4 h1 _
    · exact f3.of_quiet (hless_quiet h1)
    · exact f3.of_quiet (load_push (I.rel.fresh _ (Nat.le_refl _)) h1)
    · exact rech1_spec h1
  · intro q o' hq hQ hnq ho'
    obtain ⟨g1, f, cs', s', f1, f2, f3⟩ := I.flo q o' (hq1 q hq) hQ (hq2 q hnq).1 ho'
    exact ⟨g1, f, cs', s', f1, f2, agr_val f3 fun k hk => hval q k (hq1 q hq) hk⟩
  · intro q o' hDq hQ hnq ho'
    obtain ⟨hnq1, hqi⟩ := hq2 q hnq
    obtain ⟨cs', s', row', el', fz', f1, f2, f3, f4, f5, f6, f7, f8, f9⟩ := I.early q o' hDq hQ hnq1 ho'
    have hne : blk q ≠ blk i := fun e => hqi (I.inj q i hDq hD hQ hF hnq1 hni e)
    exact ⟨cs', s', row', el', fz', f1, by rw [hkeep, if_neg hne]; exact f2, f3, by rw [L.N]; exact f4, f5, f6, lrel_monoV L _ _ f7, f8, f9⟩
  · intro q q' h1 h2 h3 h4 h5 h6 h7
    exact I.inj q q' h1 h2 h3 h4 (hq2 q h5).1 (hq2 q' h6).1 h7
  · intro b ob e
    have hne : b ≠ blk i := fun h' => by rw [h', e3] at e; cases e
    rw [hkeep, if_neg hne]; exact I.keep0 b ob e
  · intro b ob e
    rw [hkeep] at e
    split at e
    · cases e
    · rename_i hb
      rcases I.keep1 b ob e with h1 | ⟨q, h1, h2, h3, h4⟩
      · exact .inl h1
      · refine .inr ⟨q, h1, h2, ?_, h4⟩
        have hqi : q ≠ i := fun e => hb (by rw [← h4, e])
        simp only [List.mem_append, List.mem_singleton, Prod.mk.injEq, and_true, not_or]
        exact ⟨h3, hqi⟩

/-- A float's row is thought of. -/
theorem settle_prep (S : SOK P ops m π) {i : Nat} {rest l1 : List (Nat × Bool)} {val : Nat → AV} {pd : List Pd} {fl : Flo} {h : AHeap} {G : Ghost}
    (I : Inv P n ops ms m π K fr0 G0 D l1 ((i, false) :: rest) val blk pd fl h G w a) (hF : isF ops i = true) :
    ∃ fl', Inv P n ops ms m π K fr0 G0 D (l1 ++ [(i, false)]) rest val blk pd fl' h G w a := by
  obtain ⟨hni, him⟩ := S.nin _ _ _ _ I.split
  obtain ⟨hpr, hord⟩ := S.item _ _ _ I.split
  obtain ⟨o, ho⟩ := S_op S him
  have hkF : kF o = true := by rw [← isF_spec ho]; exact hF
  obtain ⟨sk, run⟩ := I.run
  simp only [sgo, ho, hkF] at run
  split at run
  all_goals first | exact run.elim | skip
  rename_i hdok
  obtain ⟨cs, s, hc, run⟩ := fprep_spec run
  have hnD : ¬ D i := fun hd => hni (I.prep i hd)
  have hmem : ∀ k, (k, isF ops k) ∈ l1 ++ [(i, false)] ↔ (k, isF ops k) ∈ l1 := by
    intro k
    simp only [List.mem_append, List.mem_singleton, Prod.mk.injEq]
    constructor
    · rintro (h | ⟨rfl, h⟩); exact h; rw [hF] at h; cases h
    · exact .inl
  have hset : (fun k => (k, isF ops k) ∈ l1 ++ [(i, false)]) = fun k => (k, isF ops k) ∈ l1 := funext fun k => propext (hmem k)
  have hT : ∀ q, (q, true) ∈ l1 ++ [(i, false)] ↔ (q, true) ∈ l1 := fun q => by simp
  have hnt : (i, true) ∉ l1 := by
    intro e
    obtain ⟨x, y, e'⟩ := List.append_of_mem e
    have := (S.push x i (y ++ (i, false) :: rest) (by rw [I.split, e']; simp)).2
    exact hni (by rw [e']; exact List.mem_append_left _ this)
  refine ⟨(i, cs, s) :: fl, ⟨by rw [I.split]; simp, I.down, I.low, I.rel, I.le, I.frel, fun k hk => I.valj k fun e => hk ((hmem k).2 e), fun k o' hk => I.dst k o' ((hmem k).1 hk), ?_, fun k hk => List.mem_append_left _ (I.prep k hk), by rw [hset]; exact ⟨sk, run⟩, ?_, ?_, ?_, ?_, I.keep0, ?_⟩⟩
  · intro y hy hn
    simp only [List.mem_append, List.mem_singleton] at hy
    rcases hy with hy | rfl
    · exact I.exec y hy hn
    · simp [nonq, hF] at hn
  · intro q o' hq hQ hnq ho'
    refine I.pend q o' ?_ hQ hnq ho'
    simp only [List.mem_append, List.mem_singleton, Prod.mk.injEq, and_true] at hq
    rcases hq with hq | rfl
    · exact hq
    · rw [isQ_F hQ] at hF; cases hF
  · intro q o' hq hQ hnq ho'
    rw [hT] at hnq
    by_cases hqi : q = i
    · subst hqi
      rw [ho] at ho'; cases ho'
      refine ⟨fun d hd => ?_, FR ops m fr0 val (fun k => (k, isF ops k) ∈ l1), cs, s, by rw [Flo.get_cons, if_pos rfl], hc, ?_⟩
      · rw [hd] at hdok; simpa [dstOk] using hdok
      · exact agr_at S.d him ho (S.down I.split) hpr (by rw [hF]; exact hnt)
    · simp only [List.mem_append, List.mem_singleton, Prod.mk.injEq, and_true] at hq
      rcases hq with hq | hq
      · obtain ⟨g1, f, cs', s', f1, f2⟩ := I.flo q o' hq hQ hnq ho'
        exact ⟨g1, f, cs', s', by rw [Flo.get_cons, if_neg (Ne.symm hqi)]; exact f1, f2⟩
      · exact absurd hq hqi
  · intro q o' hDq hQ hnq ho'
    rw [hT] at hnq
    have hqi : q ≠ i := fun e => hnD (e ▸ hDq)
    obtain ⟨cs', s', row', el', fz', f1, f2⟩ := I.early q o' hDq hQ hnq ho'
    exact ⟨cs', s', row', el', fz', by rw [Flo.get_cons, if_neg (Ne.symm hqi)]; exact f1, f2⟩
  · intro q q' h1 h2 h3 h4 h5 h6 h7
    rw [hT] at h5 h6
    exact I.inj q q' h1 h2 h3 h4 h5 h6 h7
  · intro b ob e
    rcases I.keep1 b ob e with h1 | ⟨q, h1, h2, h3, h4⟩
    · exact .inl h1
    · exact .inr ⟨q, h1, h2, by rw [hT]; exact h3, h4⟩

/-- A quiet operation comes to its value. -/
theorem settle_quiet (S : SOK P ops m π) {i : Nat} {rest l1 : List (Nat × Bool)} {val : Nat → AV} {pd : List Pd} {fl : Flo} {h : AHeap} {G : Ghost}
    (I : Inv P n ops ms m π K fr0 G0 D l1 ((i, false) :: rest) val blk pd fl h G w a) (hQ : isQ P ops i = true) :
    ∃ val' pd', Inv P n ops ms m π K fr0 G0 D (l1 ++ [(i, false)]) rest val' blk pd' fl h G w a := by
  obtain ⟨hni, him⟩ := S.nin _ _ _ _ I.split
  obtain ⟨hpr, hord⟩ := S.item _ _ _ I.split
  obtain ⟨o, ho⟩ := S_op S him
  have hF := isQ_F hQ
  have hkF : kF o = false := by rw [← isF_spec ho]; exact hF
  have hkQ : kQ P o = true := by rw [isQ_spec ho, hkF] at hQ; simpa using hQ
  obtain ⟨sk, run⟩ := I.run
  simp only [sgo, ho, hkF, hkQ] at run
  have hnD : ¬ D i := fun hd => hni (I.prep i hd)
  have hni' : (i, isF ops i) ∉ l1 := by rw [hF]; exact hni
  obtain ⟨v, u, sk', hy, hyu, run⟩ := qg_spec run
  obtain ⟨run, hdst⟩ := aput_spec run
  have hmem : ∀ k, (k, isF ops k) ∈ l1 ++ [(i, false)] ↔ (k, isF ops k) ∈ l1 ∨ k = i := by
    intro k
    simp only [List.mem_append, List.mem_singleton, Prod.mk.injEq]
    constructor
    · rintro (h | h); exact .inl h; exact .inr h.1
    · rintro (h | rfl); exact .inl h; exact .inr ⟨rfl, hF⟩
  have hT : ∀ q, (q, true) ∈ l1 ++ [(i, false)] ↔ (q, true) ∈ l1 := fun q => by simp
  let val' : Nat → AV := fun k => if k = i then v else val k
  have hvi : val' i = v := if_pos rfl
  have hvn : ∀ k, k ≠ i → val' k = val k := fun k hk => if_neg hk
  have hvl : ∀ k, (k, isF ops k) ∈ l1 → val' k = val k := fun k hk => hvn k fun e => hni' (e ▸ hk)
  have hval : ∀ q k, (q, false) ∈ l1 → Ahead ops k q → val' k = val k := fun q k hq ha => hvl k (S.ahead I.split hq ha)
  have hFR : FR ops m fr0 val' (fun k => (k, isF ops k) ∈ l1 ++ [(i, false)]) = updO o.dst v (FR ops m fr0 val fun k => (k, isF ops k) ∈ l1) := by
    rw [FR_step S.d him ho hmem hvl, hvi]
  have hFD : FR ops m fr0 val' D = FR ops m fr0 val D := FR_val S.d fun k hk => hvn k fun e => hnD (e ▸ hk)
  refine ⟨val', ⟨i, o, _, v, sk, u⟩ :: pd, ⟨by rw [I.split]; simp, I.down, I.low, I.rel, I.le, by rw [hFD]; exact I.frel, ?_, ?_, ?_, fun k hk => List.mem_append_left _ (I.prep k hk), by rw [hFR]; exact ⟨sk', run⟩, ?_, ?_, ?_, ?_, I.keep0, ?_⟩⟩
  · intro k hk
    rw [hmem] at hk
    rw [hvn k fun e => hk (.inr e)]
    exact I.valj k fun e => hk (.inl e)
  · intro k o' hk ho'
    rcases (hmem k).1 hk with hk | rfl
    · exact I.dst k o' hk ho'
    · rw [ho] at ho'; cases ho'; exact hdst
  · intro y hy hn
    simp only [List.mem_append, List.mem_singleton] at hy
    rcases hy with hy | rfl
    · exact I.exec y hy hn
    · simp [nonq, hQ] at hn
  · intro q o' hq hQ' hnq ho'
    by_cases hqi : q = i
    · subst hqi
      rw [ho] at ho'; cases ho'
      rw [hvi]
      refine ⟨_, _, _, List.mem_cons_self .., ?_, hy, hyu⟩
      exact agr_val (agr_at S.d him ho (S.down I.split) hpr hni') fun k hk => hvn k (Nat.ne_of_lt hk.1)
    · simp only [List.mem_append, List.mem_singleton, Prod.mk.injEq, and_true] at hq
      rcases hq with hq | hq
      · obtain ⟨f, skp, up, f1, f2, f3, f4⟩ := I.pend q o' hq hQ' hnq ho'
        rw [hvn q hqi]
        exact ⟨f, skp, up, List.mem_cons_of_mem _ f1, agr_val f2 fun k hk => hval q k hq hk, f3, f4⟩
      · exact absurd hq hqi
  · intro q o' hq hQ' hnq ho'
    rw [hT] at hnq
    simp only [List.mem_append, List.mem_singleton, Prod.mk.injEq, and_true] at hq
    rcases hq with hq | rfl
    · obtain ⟨g1, f, cs', s', f1, f2, f3⟩ := I.flo q o' hq hQ' hnq ho'
      exact ⟨g1, f, cs', s', f1, f2, agr_val f3 fun k hk => hval q k hq hk⟩
    · rw [hF] at hQ'; cases hQ'
  · intro q o' hDq hQ' hnq ho'
    rw [hT] at hnq
    exact I.early q o' hDq hQ' hnq ho'
  · intro q q' h1 h2 h3 h4 h5 h6 h7
    rw [hT] at h5 h6
    exact I.inj q q' h1 h2 h3 h4 h5 h6 h7
  · intro b ob e
    rcases I.keep1 b ob e with h1 | ⟨q, h1, h2, h3, h4⟩
    · exact .inl h1
    · exact .inr ⟨q, h1, h2, by rw [hT]; exact h3, h4⟩

/-- As far as it may. -/
theorem settle (S : SOK P ops m π) (hms : ∀ i, i < m → ∀ j, (ms.getD i 0).testBit j = true → Ahead ops j i) : ∀ (l2 l1 : List (Nat × Bool)) {val : Nat → AV} {pd : List Pd} {fl : Flo} {h : AHeap} {G : Ghost},
    Inv P n ops ms m π K fr0 G0 D l1 l2 val blk pd fl h G w a →
    ∃ l1' l2' val' pd' fl' h' G', Inv P n ops ms m π K fr0 G0 D l1' l2' val' blk pd' fl' h' G' w a ∧ ∀ y r, l2' = y :: r → nonq P ops y = true ∧ ¬ D y.1
  | [], l1, val, pd, fl, h, G, I => ⟨l1, [], val, pd, fl, h, G, I, fun _ _ e => by cases e⟩
  | (i, true) :: rest, l1, val, pd, fl, h, G, I => by
    by_cases hD : D i
    · obtain ⟨val', pd', h', G', I'⟩ := settle_push S hms I hD
      exact settle S hms rest _ I'
    · exact ⟨l1, _, val, pd, fl, h, G, I, fun y r e => by cases e; exact ⟨by simp [nonq], hD⟩⟩
  | (i, false) :: rest, l1, val, pd, fl, h, G, I => by
    cases hF : isF ops i with
    | true =>
      obtain ⟨fl', I'⟩ := settle_prep S I hF
      exact settle S hms rest _ I'
    | false =>
      cases hQ : isQ P ops i with
      | true =>
        obtain ⟨val', pd', I'⟩ := settle_quiet S I hQ
        exact settle S hms rest _ I'
      | false =>
        refine ⟨l1, _, val, pd, fl, h, G, I, fun y r e => by cases e; exact ⟨by simp [nonq, hF, hQ], fun hd => (S.nin _ _ _ _ I.split).1 (I.prep i hd)⟩⟩
end
end Go.Own

/- Regions that draw their order: whatever order is drawn, the tree's end. -/
namespace Go.Own
open Go.RowKit

theorem count_low {listed : Array Bool} {m s : Nat} (hL : ∀ k, LD listed k ↔ k < m) (hm : m ≤ s) : m + (List.range s).countP (fun k => !listed.getD k false) = s := by
  have h1 : (List.range s).countP (fun k => !listed.getD k false) = (List.range s).countP (fun k => decide (m ≤ k)) := by
    apply List.countP_congr
    intro k _
    have := hL k
    rw [LD] at this
    cases hb : listed.getD k false with
    | true => simp; exact this.1 hb
    | false =>
      simp
      rcases Nat.lt_or_ge k m with h' | h'
      · have := this.2 h'; rw [hb] at this; cases this
      · exact h'
  have h2 : ∀ s, (List.range s).countP (fun k => decide (m ≤ k)) = s - m := by
    intro s
    induction s with
    | zero => simp
    | succ s ihs =>
      rw [List.range_succ, List.countP_append, ihs]
      by_cases hs : m ≤ s
      · simp [hs]; omega
      · simp [hs]; omega
  rw [h1, h2]; omega
theorem count_step {listed : Array Bool} {i : Nat} (his : i < listed.size) (hil : listed.getD i false = false) : ∀ s, i < s → (List.range s).countP (fun k => !listed.getD k false) = (List.range s).countP (fun k => !(listed.setIfInBounds i true).getD k false) + 1 := by
  intro s
  induction s with
  | zero => intro hs; omega
  | succ s ihs =>
    intro hs
    rw [List.range_succ, List.countP_append, List.countP_append]
    by_cases his' : i < s
    · rw [ihs his']
      have hne : s ≠ i := by omega
      have : (listed.setIfInBounds i true).getD s false = listed.getD s false := by
        rw [Array.getD_eq_getD_getElem?, Array.getD_eq_getD_getElem?, Array.getElem?_setIfInBounds_ne (Ne.symm hne)]
      simp only [List.countP_singleton, this]; omega
    · have hse : s = i := by omega
      subst hse
      have h1 : (List.range s).countP (fun k => !listed.getD k false) = (List.range s).countP (fun k => !(listed.setIfInBounds s true).getD k false) := by
        apply List.countP_congr
        intro k hk
        have hne : k ≠ s := by simp at hk; omega
        rw [Array.getD_eq_getD_getElem?, Array.getD_eq_getD_getElem?, Array.getElem?_setIfInBounds_ne (Ne.symm hne)]
      have h2 : (listed.setIfInBounds s true).getD s false = true := (getD_set his).2 (.inr rfl)
      simp only [List.countP_singleton, hil, h2, h1]; simp
theorem ready_some {ops : Array Oper} {m : Nat} (hd : DOK ops m) (hms : m ≤ ops.size) {listed : Array Bool} (hsz : listed.size = ops.size) (h0 : Region.ready .any ops listed = []) : ∀ b k, k ≤ b → k < m → ¬ LD listed k → False := by
  intro b
  induction b with
  | zero =>
    intro k hkb hkm hkl
    have hk0 : k = 0 := by omega
    subst hk0
    have ho : ops[0]? = some (ops[0]'(by omega)) := by simp
    have : 0 ∈ Region.ready .any ops listed := by
      rw [ready_spec, getD_false]
      exact ⟨⟨by omega, by simpa [LD] using hkl⟩, _, ho, fun e he hb => absurd (hd.lt 0 _ ho e he hb) (Nat.not_lt_zero _)⟩
    rw [h0] at this; cases this
  | succ b ihb =>
    intro k hkb hkm hkl
    by_cases hlow : ∃ k', k' < k ∧ ¬ LD listed k'
    · obtain ⟨k', h1, h2⟩ := hlow
      exact ihb k' (by omega) (by omega) h2
    · have hks : k < ops.size := by omega
      have ho : ops[k]? = some ops[k] := by simp [hks]
      have : k ∈ Region.ready .any ops listed := by
        rw [ready_spec, getD_false]
        refine ⟨⟨by omega, by simpa [LD] using hkl⟩, _, ho, fun e he hb => ?_⟩
        have hlt := hd.lt k _ ho e he hb
        exact Classical.byContradiction fun hl => hlow ⟨e.on, hlt, hl⟩
      rw [h0] at this; cases this

section
variable {P : Program} {n : Nat} {ops : Array Oper} {m : Nat} {fr0 : Fr} {ms : List Nat} {π : List (Nat × Bool)} {Kf : Fr → AHeap → Prop} {G0 : Ghost} {Q : Exit → Act → World → Prop}

/-- One operation is carried out. -/
theorem exec_step (S : SOK P ops m π) (hms : ∀ i, i < m → ∀ j, (ms.getD i 0).testBit j = true → Ahead ops j i) {K : List Nat → Fr → AHeap → Prop} {D : Nat → Prop} {l1 l2 : List (Nat × Bool)} {val : Nat → AV} {blk : Nat → Nat} {pd : List Pd} {fl : Flo} {h : AHeap} {G : Ghost} {w : World} {a : Act}
    (I : Inv P n ops ms m π K fr0 G0 D l1 l2 val blk pd fl h G w a) (hfront : ∀ y r, l2 = y :: r → nonq P ops y = true ∧ ¬ D y.1) {i : Nat} {o : Oper} (him : i < m) (ho : ops[i]? = some o) (hni : ¬ D i) (hpr : Preds ops D i) {next : Act → World → Prop}
    (hnext : ∀ l1' l2' val' blk' pd' fl' h' G' w' a', Inv P n ops ms m π K fr0 G0 (fun k => D k ∨ k = i) l1' l2' val' blk' pd' fl' h' G' w' a' → next a' w') :
    if Region.wanted o (yielded ops a.tmps) then o.wp P a w next Q ∨ (o.asks P a w ∧ LetsOut Q) else next (a.put o.dst undef) w := by
  have hdown : DownC ops (fun k => D k ∨ k = i) := by
    rintro k (hk | rfl) o' ho' e he hb
    · exact .inl (I.down k hk o' ho' e he hb)
    · exact .inl (hpr o' ho' e he hb)
  have hlow : ∀ k, (D k ∨ k = i) → k < m := by
    rintro k (hk | rfl); exact I.low k hk; exact him
  have hagD : Agr ops m fr0 val i o (FR ops m fr0 val D) := agr_at S.d him ho I.down hpr hni
  by_cases hin : (i, false) ∈ l1
  · cases hF : isF ops i with
    | true =>
      have hnt : (i, true) ∉ l1 := fun e => hni (I.exec (i, true) e (by simp [nonq]))
      obtain ⟨hdst, f, cs, s, f1, f2, f3⟩ := I.flo i o hin hF hnt ho
      rw [fcs_congr (ops_agree (agr_eq S.d him ho f3 hagD))] at f2
      obtain ⟨row, el, fz, g1, g2, g3, g4, g5⟩ := fcs_run (w := w) I.frel f2
      have hkF : kF o = true := by rw [← isF_spec ho]; exact hF
      have hg : o.guard = none := by unfold kF at hkF; simp only [Bool.and_eq_true, Option.isNone_iff_eq_none] at hkF; exact hkF.1
      have hw : Region.wanted o (yielded ops a.tmps) = true := by simp [Region.wanted, hg]
      rw [if_pos hw]
      left
      show o.upon P a next Q ((execOp a.eval o).run P w)
      rw [g1, Oper.upon_value]
      let blk' : Nat → Nat := fun k => if k = i then w.heap.size else blk k
      have hbi : blk' i = w.heap.size := if_pos rfl
      have hbn : ∀ k, k ≠ i → blk' k = blk k := fun k hk => if_neg hk
      have hni' : (i, isF ops i) ∉ l1 := by rw [hF]; exact hnt
      have hvj : val i = .junk := I.valj i hni'
      have hL := G.leV_keeps w.heap.size (some (.cells row el fz))
      have hkeep : ∀ c, (G.keeps w.heap.size (some (.cells row el fz))).keep c = if c = w.heap.size then some (.cells row el fz) else G.keep c := fun c => rfl
      have hklt : ∀ c ob, G.keep c = some ob → c < w.heap.size := fun c ob e => heap_lt (I.rel.keep c ob e).1
      have hearlt : ∀ q, D q → isF ops q = true → (q, true) ∉ l1 → blk q < w.heap.size := by
        intro q h1 h2 h3
        obtain ⟨o', ho'⟩ := S_op S (I.low q h1)
        obtain ⟨_, _, _, _, _, _, e2, _⟩ := I.early q o' h1 h2 h3 ho'
        exact hklt _ _ e2
      refine hnext l1 l2 val blk' pd fl h _ _ _ ⟨I.split, hdown, hlow, I.rel.early _, I.le.trans hL, ?_, I.valj, I.dst, fun y hy hn => .inl (I.exec y hy hn), ?_, I.run, ?_, I.flo, ?_, ?_, ?_, ?_⟩
      · rw [FR_step S.d him ho (D := D) (fun k => Iff.rfl) (fun _ _ => rfl), hvj]
        refine frel_updO ⟨I.frel.size, I.frel.defers, fun j => vrel_monoV hL _ _ (I.frel.at_ j)⟩ (by simp only [vrel]) hdst
      · rintro k (hk | rfl); exact I.prep k hk; exact hin
      · intro q o' hq hQ hnq ho'
        exact I.pend q o' hq hQ (fun h => hnq (.inl h)) ho'
      · rintro q o' hq hQ hnq ho'
        by_cases hqi : q = i
        · subst hqi
          rw [ho] at ho'; cases ho'
          refine ⟨cs, s, row, el, fz, f1, by rw [hkeep, hbi, if_pos rfl], ?_, by rw [hbi]; exact I.rel.N, g2, g3, lrel_monoV hL _ _ g4, g5, fun d hd => ?_⟩
          · rw [hbi, Option.eq_none_iff_forall_ne_some]
            intro ob e
            exact Nat.lt_irrefl _ (hklt _ _ (I.keep0 _ _ e))
          · have hd' := hdst d hd
            simp only [Act.put, hd]
            rw [Array.getD_eq_getD_getElem?, Array.getElem?_setIfInBounds_self_of_lt (by rw [I.frel.size]; exact hd'), hbi]; rfl
        · have hDq : D q := by rcases hq with h | h; exact h; exact absurd h hqi
          obtain ⟨cs', s', row', el', fz', e1, e2, e3, e4, e5, e6, e7, e8, e9⟩ := I.early q o' hDq hQ hnq ho'
          rw [hbn q hqi]
          refine ⟨cs', s', row', el', fz', e1, by rw [hkeep, if_neg (Nat.ne_of_lt (hklt _ _ e2))]; exact e2, e3, e4, e5, e6, lrel_monoV hL _ _ e7, e8, fun d hd => ?_⟩
          rw [apart_put o.dst a _ d (S.d.uniq i q o o' d him (I.low q hDq) (Ne.symm hqi) ho ho' hd)]
          exact e9 d hd
      · intro q q' h1 h2 h3 h4 h5 h6 h7
        by_cases hqi : q = i
        · by_cases hqi' : q' = i
          · rw [hqi, hqi']
          · have hDq : D q' := by rcases h2 with h | h; exact h; exact absurd h hqi'
            rw [hqi, hbi, hbn q' hqi'] at h7
            have := hearlt q' hDq h4 h6
            omega
        · have hDq : D q := by rcases h1 with h | h; exact h; exact absurd h hqi
          by_cases hqi' : q' = i
          · rw [hqi', hbi, hbn q hqi] at h7
            have := hearlt q hDq h3 h5
            omega
          · have hDq' : D q' := by rcases h2 with h | h; exact h; exact absurd h hqi'
            rw [hbn q hqi, hbn q' hqi'] at h7
            exact I.inj q q' hDq hDq' h3 h4 h5 h6 h7
      · intro b ob e
        have h1 := I.keep0 b ob e
        rw [hkeep, if_neg (Nat.ne_of_lt (hklt _ _ h1))]; exact h1
      · intro b ob e
        rw [hkeep] at e
        split at e
        · rename_i hb
          exact .inr ⟨i, .inr rfl, hF, hnt, by rw [hbi, hb]⟩
        · rcases I.keep1 b ob e with h1 | ⟨q, h1, h2, h3, h4⟩
          · exact .inl h1
          · have hqi : q ≠ i := fun e => hni (e ▸ h1)
            exact .inr ⟨q, .inl h1, h2, h3, by rw [hbn q hqi]; exact h4⟩
    | false =>
      cases hQ : isQ P ops i with
      | false => exact absurd (I.exec (i, false) hin (by simp [nonq, hF, hQ])) hni
      | true =>
        obtain ⟨f, _, _, f1, f2, f3, _⟩ := I.pend i o hin hQ hni ho
        have hy : Yields P ops h o (FR ops m fr0 val D) (val i) := f3.congr (agr_eq S.d him ho f2 hagD)
        have hdst : ∀ d, o.dst = some d → d < n := I.dst i o (by rw [hF]; exact hin) ho
        refine quiet_stepX hy hdst I.rel I.frel ?_
        intro G' a' w' hl r' hf' hap
        refine hnext l1 l2 val blk pd fl h G' w' a' ⟨I.split, hdown, hlow, r', I.le.trans hl.toleV, ?_, I.valj, I.dst, fun y hy hn => .inl (I.exec y hy hn), ?_, I.run, ?_, I.flo, ?_, ?_, ?_, ?_⟩
        · rw [FR_step S.d him ho (D := D) (fun k => Iff.rfl) (fun _ _ => rfl)]; exact hf'
        · rintro k (hk | rfl); exact I.prep k hk; exact hin
        · intro q o' hq hQ hnq ho'
          exact I.pend q o' hq hQ (fun h => hnq (.inl h)) ho'
        · rintro q o' hq hQ' hnq ho'
          have hqi : q ≠ i := fun e => by rw [e, hF] at hQ'; cases hQ'
          have hDq : D q := by rcases hq with h | h; exact h; exact absurd h hqi
          obtain ⟨cs', s', row', el', fz', e1, e2, e3, e4, e5, e6, e7, e8, e9⟩ := I.early q o' hDq hQ' hnq ho'
          refine ⟨cs', s', row', el', fz', e1, by rw [hl.keep]; exact e2, e3, by rw [hl.N]; exact e4, e5, e6, lrel_mono hl _ _ e7, e8, fun d hd => ?_⟩
          rw [hap d (S.d.uniq i q o o' d him (I.low q hDq) (Ne.symm hqi) ho ho' hd)]
          exact e9 d hd
        · intro q q' h1 h2 h3 h4 h5 h6 h7
          have hqi : q ≠ i := fun e => by rw [e, hF] at h3; cases h3
          have hqi' : q' ≠ i := fun e => by rw [e, hF] at h4; cases h4
          exact I.inj q q' (h1.resolve_right hqi) (h2.resolve_right hqi') h3 h4 h5 h6 h7
        · intro b ob e; rw [hl.keep]; exact I.keep0 b ob e
        · intro b ob e
          rw [hl.keep] at e
          rcases I.keep1 b ob e with h1 | ⟨q, h1, h2, h3, h4⟩
          · exact .inl h1
          · exact .inr ⟨q, .inl h1, h2, h3, h4⟩
  · -- it is the one that the tree waits for
    have hmem : (i, false) ∈ l2 := by
      have := (S.all i him).1
      rw [I.split, List.mem_append] at this
      exact this.resolve_left hin
    obtain ⟨y, rest, rfl⟩ : ∃ y r, l2 = y :: r := by
      cases l2 with
      | nil => cases hmem
      | cons y r => exact ⟨y, r, rfl⟩
    obtain ⟨hyn, hyD⟩ := hfront y rest rfl
    have hyi : y = (i, false) := by
      rcases List.mem_cons.1 hmem with h1 | h1
      · exact h1.symm
      · exfalso
        obtain ⟨x, z, rfl⟩ := List.append_of_mem h1
        have := (S.item (l1 ++ y :: x) i z (by rw [I.split]; simp)).2 y (by simp) hyn
        exact hyD (this.2 D I.down hpr)
    subst hyi
    have hnonq : (isF ops i || isQ P ops i) = false := by simpa [nonq] using hyn
    simp only [Bool.or_eq_false_iff] at hnonq
    obtain ⟨hF, hQ⟩ := hnonq
    have hkF : kF o = false := by rw [← isF_spec ho]; exact hF
    have hkQ : kQ P o = false := by rw [isQ_spec ho, hkF] at hQ; simpa using hQ
    obtain ⟨sk, run⟩ := I.run
    simp only [sgo, ho, hkF, hkQ] at run
    have hni' : (i, isF ops i) ∉ l1 := by rw [hF]; exact hin
    have hagA := agr_at (fr0 := fr0) (val := val) S.d him ho (S.down I.split) (S.item _ _ _ I.split).1 hni'
    refine chain_step run (agr_eq S.d him ho hagA hagD) I.rel I.frel ?_
    intro G' v sk' h' a' w' hl r' hf' hap hdst run
    obtain ⟨run, hre⟩ := rech_spec run
    have hmm : ∀ k, (k, isF ops k) ∈ l1 ++ [(i, false)] ↔ (k, isF ops k) ∈ l1 ∨ k = i := by
      intro k
      simp only [List.mem_append, List.mem_singleton, Prod.mk.injEq]
      constructor
      · rintro (h | h); exact .inl h; exact .inr h.1
      · rintro (h | rfl); exact .inl h; exact .inr ⟨rfl, hF⟩
    have hT : ∀ q, (q, true) ∈ l1 ++ [(i, false)] ↔ (q, true) ∈ l1 := fun q => by simp
    have hS : ∀ q, q ≠ i → ((q, false) ∈ l1 ++ [(i, false)] ↔ (q, false) ∈ l1) := fun q hq => by simp [hq]
    let val' : Nat → AV := fun k => if k = i then v else val k
    have hvi : val' i = v := if_pos rfl
    have hvn : ∀ k, k ≠ i → val' k = val k := fun k hk => if_neg hk
    have hvl : ∀ k, (k, isF ops k) ∈ l1 → val' k = val k := fun k hk => hvn k fun e => hni' (e ▸ hk)
    have hval : ∀ q k, (q, false) ∈ l1 → Ahead ops k q → val' k = val k := fun q k hq ha => hvl k (S.ahead I.split hq ha)
    have hvD : ∀ k, D k → val' k = val k := fun k hk => hvn k fun e => hni (e ▸ hk)
    refine hnext (l1 ++ [(i, false)]) rest val' blk (pd.filter fun p => !(ms.getD i 0).testBit p.i) fl h' G' w' a' ⟨by rw [I.split]; simp, hdown, hlow, r', I.le.trans hl.toleV, ?_, ?_, ?_, ?_, ?_, ?_, ?_, ?_, ?_, ?_, ?_, ?_⟩
    · rw [FR_step S.d him ho (D := D) (fun k => Iff.rfl) hvD, hvi]; exact hf'
    · intro k hk
      rw [hmm] at hk
      rw [hvn k fun e => hk (.inr e)]
      exact I.valj k fun e => hk (.inl e)
    · intro k o' hk ho'
      rcases (hmm k).1 hk with hk | rfl
      · exact I.dst k o' hk ho'
      · rw [ho] at ho'; cases ho'; exact hdst
    · intro y hy hn
      simp only [List.mem_append, List.mem_singleton] at hy
      rcases hy with hy | rfl
      · exact .inl (I.exec y hy hn)
      · exact .inr rfl
    · rintro k (hk | rfl)
      · exact List.mem_append_left _ (I.prep k hk)
      · simp
    · rw [FR_step S.d him ho hmm hvl, hvi]; exact ⟨sk', run⟩
    · intro q o' hq hQ' hnq ho'
      have hqi : q ≠ i := fun e => hnq (.inr e)
      have hnD : ¬ D q := fun h => hnq (.inl h)
      have hq := (hS q hqi).1 hq
      obtain ⟨f, skp, up, f1, f2, f3, f4⟩ := I.pend q o' hq hQ' hnD ho'
      have hmask : (ms.getD i 0).testBit q = false := by
        cases hb : (ms.getD i 0).testBit q with
        | false => rfl
        | true => exact absurd ((hms i him q hb).2 D I.down hpr) hnD
      have hin' : (⟨q, o', f, val q, skp, up⟩ : Pd) ∈ pd.filter fun p => !(ms.getD i 0).testBit p.i := by
        rw [List.mem_filter]; exact ⟨f1, by show (!(ms.getD i 0).testBit q) = true; rw [hmask]; rfl⟩
      rw [hvn q hqi]
      refine ⟨f, skp, up, hin', agr_val f2 fun k hk => hval q k hq hk, ?_, f4⟩
      rcases hre _ hin' with h1 | h1 | ⟨h1, _⟩ | h1
      · exact f4 h1 _
      · exact f3.of_quiet (hless_quiet h1)
      · cases h1
      · exact rech1_spec h1
    · intro q o' hq hQ' hnq ho'
      rw [hT] at hnq
      have hqi : q ≠ i := fun e => by rw [e, hF] at hQ'; cases hQ'
      have hq := (hS q hqi).1 hq
      obtain ⟨g1, f, cs', s', f1, f2, f3⟩ := I.flo q o' hq hQ' hnq ho'
      exact ⟨g1, f, cs', s', f1, f2, agr_val f3 fun k hk => hval q k hq hk⟩
    · rintro q o' hq hQ' hnq ho'
      rw [hT] at hnq
      have hqi : q ≠ i := fun e => by rw [e, hF] at hQ'; cases hQ'
      have hDq : D q := hq.resolve_right hqi
      obtain ⟨cs', s', row', el', fz', e1, e2, e3, e4, e5, e6, e7, e8, e9⟩ := I.early q o' hDq hQ' hnq ho'
      refine ⟨cs', s', row', el', fz', e1, by rw [hl.keep]; exact e2, e3, by rw [hl.N]; exact e4, e5, e6, lrel_mono hl _ _ e7, e8, fun d hd => ?_⟩
      rw [hap d (S.d.uniq i q o o' d him (I.low q hDq) (Ne.symm hqi) ho ho' hd)]
      exact e9 d hd
    · intro q q' h1 h2 h3 h4 h5 h6 h7
      rw [hT] at h5 h6
      have hqi : q ≠ i := fun e => by rw [e, hF] at h3; cases h3
      have hqi' : q' ≠ i := fun e => by rw [e, hF] at h4; cases h4
      exact I.inj q q' (h1.resolve_right hqi) (h2.resolve_right hqi') h3 h4 h5 h6 h7
    · intro b ob e; rw [hl.keep]; exact I.keep0 b ob e
    · intro b ob e
      rw [hl.keep] at e
      rcases I.keep1 b ob e with h1 | ⟨q, h1, h2, h3, h4⟩
      · exact .inl h1
      · exact .inr ⟨q, .inl h1, h2, by rw [hT]; exact h3, h4⟩

theorem sgo_sound (S : SOK P ops m π) (hms : ∀ i, i < m → ∀ j, (ms.getD i 0).testBit j = true → Ahead ops j i) (hq : ∀ G' fr' h' a' w', G0.le G' → Rel G' h' w' → frel G' n fr' a' → Kf fr' h' → Q .normal a' w') :
    ∀ (fuel : Nat) (listed : Array Bool), listed.size = ops.size → (List.range ops.size).countP (fun k => !listed.getD k false) = fuel →
      ∀ {l1 l2 : List (Nat × Bool)} {val : Nat → AV} {blk : Nat → Nat} {pd : List Pd} {fl : Flo} {h : AHeap} {G : Ghost} {w : World} {a : Act},
      Inv P n ops ms m π (fun sk fr h => opsc P n ops (ops.toList.drop m) sk Kf fr h) fr0 G0 (LD listed) l1 l2 val blk pd fl h G w a → wpAny P .any ops Q fuel listed a w := by
  have full : ∀ (fuel : Nat) (listed : Array Bool), listed.size = ops.size → (List.range ops.size).countP (fun k => !listed.getD k false) = fuel →
      ∀ {l1 l2 : List (Nat × Bool)} {val : Nat → AV} {blk : Nat → Nat} {pd : List Pd} {fl : Flo} {h : AHeap} {G : Ghost} {w : World} {a : Act},
      Inv P n ops ms m π (fun sk fr h => opsc P n ops (ops.toList.drop m) sk Kf fr h) fr0 G0 (LD listed) l1 l2 val blk pd fl h G w a → (∀ y r, l2 = y :: r → nonq P ops y = true ∧ ¬ LD listed y.1) →
      (∀ k, k < m → LD listed k) → wpAny P .any ops Q fuel listed a w := by
    intro fuel listed hsz hcnt l1 l2 val blk pd fl h G w a I hfront hall
    have hL : ∀ k, LD listed k ↔ k < m := fun k => ⟨I.low k, hall k⟩
    have h2 : l2 = [] := by
      cases l2 with
      | nil => rfl
      | cons y r =>
        exact absurd (hall _ (S.nin l1 y.1 y.2 r (by rw [I.split])).2) (hfront y r rfl).2
    subst h2
    have h1 : π = l1 := by rw [I.split, List.append_nil]
    have hallF : ∀ k, k < m → (k, isF ops k) ∈ l1 := fun k hk => by rw [← h1]; exact (S.all k hk).2
    obtain ⟨sk, run⟩ := I.run
    simp only [sgo] at run
    have hFR : FR ops m fr0 val (fun k => (k, isF ops k) ∈ l1) = FR ops m fr0 val (LD listed) := frD_congr S.d fun k hk => ⟨fun _ => hall k hk, fun _ => hallF k hk⟩
    rw [hFR] at run
    have hkeep : G.keep = G0.keep := by
      funext b
      cases hb : G.keep b with
      | some ob =>
        rcases I.keep1 b ob hb with h | ⟨q, hq1, hq2, hq3, _⟩
        · exact h.symm
        · have := hallF q (I.low q hq1)
          rw [hq2] at this
          exact absurd this hq3
      | none =>
        cases hb0 : G0.keep b with
        | none => rfl
        | some ob => rw [I.keep0 b ob hb0] at hb; cases hb
    have hle : G0.le G := ⟨I.le, hkeep⟩
    have hfu : m + fuel = ops.size := by rw [← hcnt]; exact count_low hL S.sz
    exact tail_sound S.d fuel m (Nat.le_refl _) hfu listed hsz hL run I.rel I.frel fun G' fr' h' a' w' hl r' hf' hk => hq G' fr' h' a' w' (hle.trans hl) r' hf' hk
  intro fuel
  induction fuel with
  | zero =>
    intro listed hsz hcnt l1 l2 val blk pd fl h G w a I
    obtain ⟨l1', l2', val', pd', fl', h', G', I', hfront⟩ := settle S hms l2 l1 I
    refine full 0 listed hsz hcnt I' hfront fun k hk => ?_
    rw [List.countP_eq_zero] at hcnt
    have := hcnt k (by have := S.sz; simp; omega)
    simpa [LD] using this
  | succ fuel ih =>
    intro listed hsz hcnt l1 l2 val blk pd fl h G w a I
    obtain ⟨l1', l2', val', pd', fl', h', G', I', hfront⟩ := settle S hms l2 l1 I
    by_cases hall : ∀ k, k < m → LD listed k
    · exact full (fuel + 1) listed hsz hcnt I' hfront hall
    · have hex : ∃ k, k < m ∧ ¬ LD listed k := by
        apply Classical.byContradiction
        intro hno
        exact hall fun k hk => Classical.byContradiction fun hl => hno ⟨k, hk, hl⟩
      refine ⟨fun h0 => ?_, fun i hi => ?_⟩
      · obtain ⟨k, hk, hkl⟩ := hex
        exact (ready_some S.d S.sz hsz h0 k k (Nat.le_refl _) hk hkl).elim
      · have hi' := hi
        rw [ready_spec, getD_false] at hi'
        obtain ⟨⟨his, hil⟩, o, ho, hpre⟩ := hi'
        have hnl : ¬ LD listed i := by simp [LD, hil]
        have hpreds : Preds ops (LD listed) i := by
          intro o' ho' e he hb
          rw [ho] at ho'; cases ho'
          exact hpre e he hb
        have him : i < m := by
          rcases Nat.lt_or_ge i m with h' | h'
          · exact h'
          · exfalso
            apply hall
            intro k hk
            exact (S.d.tail i h' (by omega) k (by omega)).2 _ I'.down hpreds
        refine wpOp_of ho (exec_step S hms I' hfront him ho hnl hpreds ?_)
        intro m1 m2 val2 blk2 pd2 fl2 h2 G2 w2 a2 I2
        have hset : (fun k => LD listed k ∨ k = i) = LD (listed.setIfInBounds i true) := by
          funext k; exact propext (getD_set his).symm
        rw [hset] at I2
        refine ih (listed.setIfInBounds i true) (by simpa using hsz) ?_ I2
        have := count_step his hil ops.size (by omega)
        omega
end

theorem drawn_sound {nw : Bool} {P : Program} {n : Nat} {ops : Array Oper} {K : Fr → AHeap → Prop} {Q : Exit → Act → World → Prop} {fr : Fr} {h : AHeap} {G : Ghost} {w : World} {a : Act} (hv : drawn nw P n ops K fr h) (r : Rel G h w) (hf : frel G n fr a)
    (hq : ∀ G' fr' h' a' w', G.le G' → Rel G' h' w' → frel G' n fr' a' → K fr' h' → Q .normal a' w') : wpAny P .any ops Q ops.size (Array.replicate ops.size false) a w := by
  unfold drawn at hv
  generalize hm : tailStart (masks ops.toList []) = m at hv
  simp only at hv
  split at hv
  · exact drawc_sound hv r hf hq
  · split at hv
    all_goals first | exact hv.elim | skip
    rename_i hc
    simp only [Bool.and_eq_true] at hc
    have hd := dok_of hc.1
    have hsz : m ≤ ops.size := by
      rw [← hm]; unfold tailStart; rw [masks_length]; simp
    have S := sok_of hd hsz hc.2
    have hnone : ∀ k, ¬ LD (Array.replicate ops.size false) k := by
      intro k
      rw [LD, Array.getD_eq_getD_getElem?, Array.getElem?_replicate]
      split <;> simp
    have e0 : ∀ (D : Nat → Prop), (∀ k, ¬ D k) → FR ops m fr (fun _ => .junk) D = fr := fun D hD => by
      rw [FR, frD_congr (D' := fun _ => False) hd (fun k _ => ⟨fun h => hD k h, fun h => h.elim⟩), frD_none]
    refine sgo_sound (fr0 := fr) (G0 := G) S (fun i hi j hj => mask_ahead hd.lt i (by omega) j hj) hq ops.size _ (by simp) ?_ (l1 := []) (l2 := sched P ops (masks ops.toList []) m) (val := fun _ => .junk) (blk := fun _ => 0) (pd := []) (fl := []) (h := h) (G := G)
      ⟨rfl, fun k hk => absurd hk (hnone k), fun k hk => absurd hk (hnone k), r, .refl G, by rw [e0 _ hnone]; exact hf, fun _ _ => rfl, fun _ _ hk => (by cases hk), fun _ hy => (by cases hy), fun k hk => absurd hk (hnone k), ?_, fun _ _ hk => (by cases hk), fun _ _ hk => (by cases hk), fun k _ hk => absurd hk (hnone k), fun k _ hk => absurd hk (hnone k), fun _ _ e => e, fun _ _ e => .inl e⟩
    · have : (List.range ops.size).countP (fun k => !(Array.replicate ops.size false).getD k false) = (List.range ops.size).length := by
        rw [List.countP_eq_length]
        intro k _
        have := hnone k
        rw [LD] at this
        simpa using this
      rw [this]; simp
    · rw [e0 _ (fun k hk => by cases hk)]
      exact ⟨_, hv⟩
end Go.Own

/- Code, functions. -/
namespace Go.Own
open Go.RowKit

/-- A loop: a relation that holds at every round's head, with a number that every round lowers. -/
def ALoop (fr : Fr) (h : AHeap) (B : (Nat → Fr → AHeap → Prop) → Nat → Fr → AHeap → Prop) : Prop :=
  ∃ I : Nat → Fr → AHeap → Prop, (∃ m, I m fr h) ∧ ∀ m fr h, I m fr h → B I m fr h
def inext (I : Nat → Fr → AHeap → Prop) (m : Nat) (fr : Fr) (h : AHeap) : Prop := ∃ m', m' < m ∧ I m' fr h
def updl (fr : Fr) : List (Nat × AV) → Fr
  | [] => fr
  | (i, v) :: l => updl (upd fr i v) l
def wpcB (nw : Bool) (P : Program) (n : Nat) : Code → (Exit → Fr → AHeap → Prop) → Fr → AHeap → Prop
  | .skip, K, fr, h => K .normal fr h
  | .label _, K, fr, h => K .normal fr h
  | .region _ ops draw, K, fr, h => match draw with
    | true => drawn nw P n ops (K .normal) fr h
    | false => opsc P n ops ops.toList [] (K .normal) fr h
  | .seq a b, K, fr, h => wpcB nw P n a (fun e fr h => match e with | .normal => wpcB nw P n b K fr h | e => K e fr h) fr h
  | .cond c a b, K, fr, h => aif (ev fr c) (wpcB nw P n a K fr h) (wpcB nw P n b K fr h)
  | .block id c, K, fr, h => wpcB nw P n c (fun e fr h => match e with | .exit i => if i = id then K .normal fr h else K (.exit i) fr h | e => K e fr h) fr h
  | .loop c, K, fr, h => ALoop fr h fun I m fr h => wpcB nw P n c (fun e fr h => match e with | .normal => inext I m fr h | e => K e fr h) fr h
  | .scope c, K, fr, h => wpcB nw P n c (fun e fr h => match e with | .goto _ => False | e => K e fr h) fr h
  | .exit id, K, fr, h => K (.exit id) fr h
  | .ret, K, fr, h => K .ret fr h
  | _, _, _, _ => False

def okExit : Exit → Prop
  | .panic _ | .outgrown => False
  | _ => True
def APost (n : Nat) (G : Ghost) (K : Exit → Fr → AHeap → Prop) : Exit → Act → World → Prop := fun e a w => okExit e ∧ ∃ G' fr h, G.le G' ∧ Rel G' h w ∧ frel G' n fr a ∧ K e fr h
theorem APost.mono {n : Nat} {G G' : Ghost} {K : Exit → Fr → AHeap → Prop} (hl : G.le G') {e : Exit} {a : Act} {w : World} (h : APost n G' K e a w) : APost n G K e a w := by
  obtain ⟨h0, G'', fr, hh, h1, h2⟩ := h
  exact ⟨h0, G'', fr, hh, hl.trans h1, h2⟩

theorem wp_loop' {P : Program} {Q : Exit → Act → World → Prop} {c : Code} (I : Nat → Act → World → Prop) (round : ∀ m a w, I m a w → c.wp P (Exit.then (fun a' w' => ∃ m', m' < m ∧ I m' a' w') Q) a w) {a : Act} {w : World} {m : Nat} (h₀ : I m a w) : (Code.loop c).wp P Q a w := by
  intro b k cs
  have key : ∀ m a w, I m a w → ∃ e a' w', Q e a' w' ∧ Arrives P (lone (b.at a (.code c :: .inLoop c :: k)) cs w) b k cs e a' w' := by
    intro m
    induction m using Nat.strongRecOn with
    | _ m ih =>
      intro a w hI
      obtain ⟨e, a₁, w₁, hq, harr⟩ := round m a w hI b (.inLoop c :: k) cs
      cases e with
      | normal =>
        obtain ⟨m', hlt, hI₁⟩ := hq
        obtain ⟨e₂, a₂, w₂, hq₂, harr₂⟩ := ih m' hlt a₁ w₁ hI₁
        exact ⟨e₂, a₂, w₂, hq₂, .of_steps (Steps.trans harr (.one step_inLoop)) harr₂⟩
      | exit id => exact ⟨_, a₁, w₁, hq, .pass (x := .inLoop c) rfl (fun _ _ => .inl (by simp)) harr⟩
      | goto l => exact ⟨_, a₁, w₁, hq, .pass (x := .inLoop c) rfl (fun _ _ => .inl (by simp)) harr⟩
      | ret => exact ⟨_, a₁, w₁, hq, .pass (x := .inLoop c) rfl (fun _ _ => .inl (by simp)) harr⟩
      | panic ch => exact ⟨_, a₁, w₁, hq, .pass (x := .inLoop c) rfl (fun _ _ => .inl (by simp)) harr⟩
      | outgrown => exact ⟨_, a₁, w₁, hq, .pass (x := .inLoop c) rfl (fun _ _ => .inl (by simp)) harr⟩
  obtain ⟨e, a', w', hq, harr⟩ := key m a w h₀
  exact ⟨e, a', w', hq, .of_steps (.one step_loop) harr⟩

theorem wpc_sound {nw : Bool} {P : Program} {n : Nat} (hm : P.follows .mixedOrders = true) : ∀ (c : Code) {K : Exit → Fr → AHeap → Prop} {fr : Fr} {h : AHeap} {G : Ghost} {w : World} {a : Act}, wpcB nw P n c K fr h → Rel G h w → frel G n fr a → c.wp P (APost n G K) a w := by
  intro c
  induction c with
  | skip => intro K fr h G w a hv r hf; exact wp_skip ⟨trivial, G, fr, h, .refl G, r, hf, hv⟩
  | label l => intro K fr h G w a hv r hf; exact wp_label ⟨trivial, G, fr, h, .refl G, r, hf, hv⟩
  | region id ops draw =>
    intro K fr h G w a hv r hf
    simp only [wpcB] at hv
    cases draw with
    | true =>
      refine wp_region_any hm ?_
      exact drawn_sound hv r.drew hf fun G' fr' h' a' w' hl r' hf' hk => ⟨trivial, G', fr', h', hl, r', hf', hk⟩
    | false =>
      refine wp_region ?_
      refine opsc_sound ops.toList (List.range ops.size) ?_ hv r hf fun G' fr' h' a' w' hl r' hf' hk => ⟨trivial, G', fr', h', hl, r', hf', hk⟩
      apply List.ext_getElem?
      intro i
      simp only [List.getElem?_map]
      by_cases hi : i < ops.size
      · simp [hi]
      · simp [hi]
  | seq x y ihx ihy =>
    intro K fr h G w a hv r hf
    simp only [wpcB] at hv
    refine wp_seq (wp_mono (ihx hv r hf) ?_)
    rintro e a' w' ⟨hok, G', fr', h', hl, r', hf', hk⟩
    cases e with
    | normal => exact wp_mono (ihy hk r' hf') fun e a w hp => APost.mono hl hp
    | panic ch => exact hok.elim
    | outgrown => exact hok.elim
    | _ => exact ⟨trivial, G', fr', h', hl, r', hf', hk⟩
  | cond cnd x y ihx ihy =>
    intro K fr h G w a hv r hf
    simp only [wpcB, aif] at hv
    have hc := ev_rel hf cnd
    split at hv
    · rename_i b hb
      rw [hb] at hc
      simp only [vrel] at hc
      cases b with
      | true => exact wp_cond hc (ihx (by simpa using hv) r hf)
      | false => exact wp_cond hc (ihy (by simpa using hv) r hf)
    · exact hv.elim
  | block id x ih =>
    intro K fr h G w a hv r hf
    simp only [wpcB] at hv
    refine wp_block (wp_mono (ih hv r hf) ?_)
    rintro e a' w' ⟨hok, G', fr', h', hl, r', hf', hk⟩
    cases e with
    | exit i =>
      simp only [Exit.inBlock]
      by_cases hi : i = id
      · simp only [hi, if_true] at hk ⊢; exact ⟨trivial, G', fr', h', hl, r', hf', hk⟩
      · simp only [hi, if_false] at hk ⊢; exact ⟨trivial, G', fr', h', hl, r', hf', hk⟩
    | panic ch => exact hok.elim
    | outgrown => exact hok.elim
    | _ => exact ⟨trivial, G', fr', h', hl, r', hf', hk⟩
  | loop x ih =>
    intro K fr h G w a hv r hf
    simp only [wpcB, ALoop] at hv
    obtain ⟨I, ⟨m, h0⟩, round⟩ := hv
    refine wp_loop' (fun m a w => ∃ G' fr h, G.le G' ∧ Rel G' h w ∧ frel G' n fr a ∧ I m fr h) ?_ ⟨G, fr, h, .refl G, r, hf, h0⟩
    rintro m a w ⟨G', fr', h', hl, r', hf', hI⟩
    refine wp_mono (ih (round m fr' h' hI) r' hf') ?_
    rintro e a'' w'' ⟨hok, G'', fr'', h'', hl', r'', hf'', hk⟩
    cases e with
    | normal =>
      obtain ⟨m', hlt, hI'⟩ : inext I m fr'' h'' := hk
      exact ⟨m', hlt, G'', fr'', h'', hl.trans hl', r'', hf'', hI'⟩
    | panic ch => exact hok.elim
    | outgrown => exact hok.elim
    | _ => exact ⟨trivial, G'', fr'', h'', hl.trans hl', r'', hf'', hk⟩
  | scope x ih =>
    intro K fr h G w a hv r hf
    simp only [wpcB] at hv
    refine wp_scope_straight (wp_mono (ih hv r hf) ?_)
    rintro e a' w' ⟨hok, G', fr', h', hl, r', hf', hk⟩
    cases e with
    | goto l => exact hk.elim
    | panic ch => exact hok.elim
    | outgrown => exact hok.elim
    | _ => exact ⟨trivial, G', fr', h', hl, r', hf', hk⟩
  | exit id => intro K fr h G w a hv r hf; exact wp_exit ⟨trivial, G, fr, h, .refl G, r, hf, hv⟩
  | ret => intro K fr h G w a hv r hf; exact wp_ret ⟨trivial, G, fr, h, .refl G, r, hf, hv⟩
  | rangeFunc f ps x y _ _ => intro K fr h G w a hv; simp [wpcB] at hv
  | goto l => intro K fr h G w a hv; simp [wpcB] at hv
  | refuse s => intro K fr h G w a hv; simp [wpcB] at hv

/-- Less may be known of a heap and a value at a function's end than is. -/
def Weak (h0 : AHeap) (v : AV) (h : AHeap) (v' : AV) (h' : AHeap) : Prop :=
  ∀ (G0 G : Ghost) (w0 w : World) (rv : Value), Rel G0 h0 w0 → G0.le G → Rel G h w → vrel G v rv → ∃ G', G0.le G' ∧ Rel G' h' w ∧ vrel G' v' rv
def Ret (h0 : AHeap) (v : AV) (h : AHeap) (Q : AV → AHeap → Prop) : Prop := ∃ v' h', Weak h0 v h v' h' ∧ Q v' h'
theorem Weak.refl (h0 : AHeap) (v : AV) (h : AHeap) : Weak h0 v h v h := fun _ G _ _ _ _ hl r hv => ⟨G, hl, r, hv⟩
theorem Weak.trans {h0 : AHeap} {v v' v'' : AV} {h h' h'' : AHeap} (a : Weak h0 v h v' h') (b : Weak h0 v' h' v'' h'') : Weak h0 v h v'' h'' :=
  fun G0 G w0 w rv r0 hl r hv => let ⟨G', hl', r', hv'⟩ := a G0 G w0 w rv r0 hl r hv; b G0 G' w0 w rv r0 hl' r' hv'

def aresult (P : Program) (fr : Fr) (h : AHeap) : ResultVar → Option AV
  | .tmp t => some (fr t)
  | .cell a t => match tkind P t with
    | some (b, n) => aloadv b n (fr a) h
    | none => none
def aresults (P : Program) (fr : Fr) (h : AHeap) : List ResultVar → (List AV → Prop) → Prop
  | [], k => k []
  | .tmp t :: r, k => aresults P fr h r fun vs => k (fr t :: vs)
  | .cell a t :: r, k => match tkind P t with
    | some (b, n) => some1 (aloadv b n (fr a) h) fun v => aresults P fr h r fun vs => k (v :: vs)
    | none => False
def packv : List AV → AV
  | [v] => v
  | vs => .tuple vs
def funK (P : Program) (rs : List ResultVar) (h0 : AHeap) (Q : AV → AHeap → Prop) (e : Exit) (fr : Fr) (h : AHeap) : Prop :=
  match e with
  | .normal => aresults P fr h rs fun vs => Ret h0 (packv vs) h Q
  | .ret => aresults P fr h rs fun vs => Ret h0 (packv vs) h Q
  | _ => False

def resv (tmps : Array Value) : ResultVar → Sem Value
  | .tmp t => pure (tmps.getD t undef)
  | .cell x t => do loadVar t (← asAddr (tmps.getD x undef))
theorem aresults_run {P : Program} {n : Nat} {fr : Fr} {h : AHeap} {G : Ghost} {w : World} {a : Act} (r : Rel G h w) (hf : frel G n fr a) : ∀ (rs : List ResultVar) {k : List AV → Prop}, aresults P fr h rs k →
    ∃ vs rvs, (rs.mapM (resv a.tmps)).run P w = .ok rvs w ∧ lrel G vs rvs ∧ k vs
  | [], k, hk => ⟨[], [], rfl, by simp only [lrel], hk⟩
  | .tmp t :: r', k, hk => by
    simp only [aresults] at hk
    obtain ⟨vs, rvs, h1, h2, h3⟩ := aresults_run r hf r' hk
    refine ⟨fr t :: vs, a.tmps.getD t undef :: rvs, ?_, by simp only [lrel]; exact ⟨_, _, rfl, hf.at_ t, h2⟩, h3⟩
    simp only [List.mapM_cons, resv, Sem.run_bind, Sem.run_pure, Result.andThen_ok, h1]
  | .cell x t :: r', k, hk => by
    simp only [aresults] at hk
    split at hk
    · rename_i b m ht
      obtain ⟨v, hv, hk⟩ := hk
      obtain ⟨rv, e1, e2⟩ := aloadv_run r ht (hf.at_ x) hv
      obtain ⟨vs, rvs, h1, h2, h3⟩ := aresults_run r hf r' hk
      refine ⟨v :: vs, rv :: rvs, ?_, by simp only [lrel]; exact ⟨_, _, rfl, e2, h2⟩, h3⟩
      have hload : ((do loadVar t (← asAddr (a.tmps.getD x undef))) : Sem Value).run P w = .ok rv w := by
        have hx := hf.at_ x
        simp only [Instr.loadAt, Sem.run_bind] at e1
        simp only [Sem.run_bind]
        cases hfx : fr x <;> rw [hfx] at hv hx <;> simp [aloadv] at hv
        · simp only [vrel] at hx
          rw [hx.2] at e1 ⊢
          simpa [Instr.sureAddr, asAddr] using e1
        · simp only [vrel] at hx
          obtain ⟨bb, o, hx, _⟩ := hx
          rw [hx] at e1 ⊢
          simpa [Instr.sureAddr, asAddr] using e1
      simp only [List.mapM_cons, resv, Sem.run_bind] at hload ⊢
      rw [hload]
      simp only [Result.andThen_ok, h1, Sem.run_pure]
    · exact hk.elim

theorem results_run {P : Program} {fn : Func} {tmps : Array Value} {w : World} {rvs : List Value} (h : (fn.results.toList.mapM (resv tmps)).run P w = .ok rvs w) :
    (results fn tmps).run P w = .ok (if rvs.length = 1 then rvs.headD .nilFunc else .tuple rvs.toArray) w := by
  have e : results fn tmps = (do let vs ← fn.results.mapM (resv tmps); pure (if h : vs.size = 1 then vs[0] else .tuple vs) : Sem Value) := rfl
  rw [e]
  simp only [Array.mapM_eq_mapM_toList, Sem.run_bind, Sem.run_map, h, Result.andThen_ok, Sem.run_pure]
  congr 1
  by_cases hl : rvs.length = 1
  · rw [dif_pos (by simpa using hl), if_pos hl]
    match rvs, hl with
    | [v], _ => rfl
  · rw [dif_neg (by simpa using hl), if_neg hl]
theorem packv_rel {G : Ghost} {vs : List AV} {rvs : List Value} (h : lrel G vs rvs) : vrel G (packv vs) (if rvs.length = 1 then rvs.headD .nilFunc else .tuple rvs.toArray) := by
  have hl := lrel_length h
  unfold packv
  split
  · rename_i v
    obtain ⟨a, rfl, ha⟩ := lrel_one' h
    simpa using ha
  · rename_i hno
    have : ¬ rvs.length = 1 := by
      rw [hl]
      intro h1
      match vs, h1 with
      | [v], _ => exact hno v rfl
    rw [if_neg this]
    exact vrel_tuple h

abbrev wpc (P : Program) (n : Nat) : Code → (Exit → Fr → AHeap → Prop) → Fr → AHeap → Prop := wpcB false P n
/-- A function's contract out of its code. -/
theorem ACalls.of_wpc {nw : Bool} {P : Program} {f : FuncId} {fn : Func} {c : Code} {args : List AV} {h : AHeap} {Q : AV → AHeap → Prop} (hm : P.follows .mixedOrders = true) (hf : P.funcs[f]? = some fn) (hb : fn.body = some c)
    (hw : wpcB nw P (max args.length fn.ntmps) c (funK P fn.results.toList h Q) (frame0 args) h) : ACalls P f args h Q := by
  refine ⟨fun G w cargs r hl => ?_⟩
  refine calls_of_wp hf hb ?_
  have hlen := lrel_length hl
  have hfr : frel G (max args.length fn.ntmps) (frame0 args) { tmps := cargs.toArray ++ Array.replicate (fn.ntmps - cargs.toArray.size) undef, defers := [] } := by
    refine ⟨?_, rfl, fun j => ?_⟩
    · simp [hlen]; omega
    · simp only [frame0]
      by_cases hj : j < args.length
      · have hg : args[j]? = some args[j] := by simp [hj]
        obtain ⟨rv, e1, e2⟩ := lrel_get j hl hg
        have : args.getD j .junk = args[j] := by simp [List.getD_eq_getElem?_getD, hg]
        rw [this, Array.getD_eq_getD_getElem?, Array.getElem?_append_left (by simp; omega)]
        simp only [List.getElem?_toArray, e1, Option.getD_some]
        exact e2
      · have : args.getD j .junk = .junk := by simp [List.getD_eq_getElem?_getD, List.getElem?_eq_none (Nat.le_of_not_lt hj)]
        rw [this]; simp only [vrel]
  refine wp_mono (wpc_sound hm c hw r hfr) ?_
  rintro e a' w' ⟨hok, G', fr', h', hle, r', hf', hk⟩
  have fin : aresults P fr' h' fn.results.toList (fun vs => Ret h (packv vs) h' Q) → a'.defers = [] ∧ ∃ v, (results fn a'.tmps).run P w' = .ok v w' ∧ ∃ rv v' hh GG, Ending.returned v = .returned rv ∧ Rel GG hh w' ∧ vrel GG v' rv ∧ Q v' hh ∧ G.le GG := by
    intro hk
    obtain ⟨vs, rvs, h1, h2, v', hh, hwk, hq⟩ := aresults_run r' hf' _ hk
    obtain ⟨GG, g1, g2, g3⟩ := hwk G G' w w' _ r hle r' (packv_rel h2)
    exact ⟨hf'.defers, _, results_run h1, _, v', hh, GG, rfl, g2, g3, hq, g1⟩
  cases e with
  | normal => exact fin hk
  | ret => exact fin hk
  | exit id => exact hk.elim
  | goto l => exact hk.elim
  | panic ch => exact hok.elim
  | outgrown => exact hok.elim

/-- The words of the printed trees. -/
def abuildP (P : Program) (t : TypeId) (ps : List (Nat × Nat × AV)) (k : AV → Prop) : Prop := match azero P t with
  | some zc => some1 (afill zc ps) fun cs => k (.agg cs)
  | none => False
def alitP (P : Program) (t : TypeId) (n : Nat) (ps : List (Nat × Nat × AV)) (h : AHeap) (k : AV → AHeap → Prop) : Prop := match elKind P t with
  | some (_, esz, _, zc) => 0 < n ∧ n * esz ≤ 16777216 ∧ some1 (afill (zcells zc n) ps) fun cs => anewsl n esz cs h k
  | none => False
def amakeP (P : Program) (t : TypeId) (l c : AV) (h : AHeap) : Option (AV × AHeap) := match elKind P t with
  | some (_, esz, bytes, zc) => amake esz bytes zc l c h
  | none => none
def bodyOf (fn : Func) : Code := match fn.body with
  | some c => c
  | none => .skip
theorem ACalls.of_tree {nw : Bool} {P : Program} {f : FuncId} {fn : Func} {args : List AV} {h : AHeap} {Q : AV → AHeap → Prop} {T : Prop} (hm : P.follows .mixedOrders = true) (hf : P.funcs[f]? = some fn) (hb : fn.body.isSome = true)
    (he : T = wpcB nw P (max args.length fn.ntmps) (bodyOf fn) (funK P fn.results.toList h Q) (frame0 args) h) (H : T) : ACalls P f args h Q := by
  obtain ⟨c, hc⟩ := Option.isSome_iff_exists.1 hb
  have : bodyOf fn = c := by simp [bodyOf, hc]
  rw [he, this] at H
  exact ACalls.of_wpc hm hf hc H

end Go.Own

/- What may be forgotten at a function's end; lists that are read and built. -/
namespace Go.Own
open Go.RowKit

/-- Ways that meet: a word of the printed trees. -/
def join (A : (Fr → AHeap → Prop) → Prop) (K : Fr → AHeap → Prop) : Prop := A K

mutual
/-- All objects that a value names have a number below n. -/
def AV.und (n : Nat) : AV → Prop
  | .ptr i _ _ => i < n
  | .cptr cs => belows n cs
  | .lst cs _ => belows n cs
  | .sl i _ _ _ _ => i < n
  | .map i => i < n
  | .iter i => i < n
  | .func _ fs cs => belows n fs ∧ belows n cs
  | .agg cs => belows n cs
  | .tuple cs => belows n cs
  | _ => True
def belows (n : Nat) : List AV → Prop
  | [] => True
  | c :: cs => c.und n ∧ belows n cs
end
theorem belows_iff {n : Nat} : ∀ {l : List AV}, belows n l ↔ ∀ x ∈ l, x.und n
  | [] => by simp [belows]
  | c :: cs => by simp [belows, belows_iff (l := cs)]

def Ghost.restr (G : Ghost) (n : Nat) : Ghost := { G with ok := fun i r => G.ok i r ∧ i < n }

mutual
theorem vrel_restr {G : Ghost} {n : Nat} : ∀ (a : AV) (v : Value), a.und n → vrel G a v → vrel (G.restr n) a v
  | .bool _, _, _, h | .int _ _, _, _, h | .str _, _, _, h | .nilp, _, _, h | .nils, _, _, h | .emp, _, _, h | .nilm, _, _, h | .nilf, _, _, h => by
    simp only [vrel] at h ⊢; exact h
  | .junk, _, _, _ => by simp only [vrel]
  | .ptr i r o, v, hb, h => by
    simp only [vrel] at h ⊢; simp only [AV.und] at hb
    exact ⟨⟨h.1, hb⟩, h.2⟩
  | .cptr cs, v, hb, h => by
    simp only [vrel] at h ⊢; simp only [AV.und] at hb
    obtain ⟨b, o, e, hc⟩ := h
    exact ⟨b, o, e, crel_restr cs b o hb hc⟩
  | .lst cs len, v, hb, h => by
    simp only [vrel] at h ⊢; simp only [AV.und] at hb
    obtain ⟨b, o, cap, e, hle, hc⟩ := h
    exact ⟨b, o, cap, e, hle, crel_restr cs b o hb hc⟩
  | .sl i r off len esz, v, hb, h => by
    simp only [vrel] at h ⊢; simp only [AV.und] at hb
    exact ⟨⟨h.1, hb⟩, h.2⟩
  | .map i, v, hb, h => by
    simp only [vrel] at h ⊢; simp only [AV.und] at hb
    exact ⟨⟨h.1, hb⟩, h.2⟩
  | .iter i, v, hb, h => by
    simp only [vrel] at h ⊢; simp only [AV.und] at hb
    exact ⟨⟨h.1, hb⟩, h.2⟩
  | .func fn fs cs, v, hb, h => by
    simp only [vrel] at h ⊢; simp only [AV.und] at hb
    obtain ⟨rf, rc, e, h1, h2⟩ := h
    exact ⟨rf, rc, e, lrel_restr fs rf hb.1 h1, lrel_restr cs rc hb.2 h2⟩
  | .agg cs, v, hb, h => by
    simp only [vrel] at h ⊢; simp only [AV.und] at hb
    obtain ⟨rs, e, h1⟩ := h
    exact ⟨rs, e, lrel_restr cs rs hb h1⟩
  | .tuple vs, v, hb, h => by
    simp only [vrel] at h ⊢; simp only [AV.und] at hb
    obtain ⟨rs, e, h1⟩ := h
    exact ⟨rs, e, lrel_restr vs rs hb h1⟩
theorem crel_restr {G : Ghost} {n : Nat} : ∀ (cs : List AV) (b o : Nat), belows n cs → crel G cs b o → crel (G.restr n) cs b o
  | [], _, _, _, _ => by simp only [crel]
  | c :: cs, b, o, hb, h => by
    simp only [crel] at h ⊢; simp only [belows] at hb
    obtain ⟨⟨u, hu, hv⟩, hr⟩ := h
    exact ⟨⟨u, hu, vrel_restr c u hb.1 hv⟩, crel_restr cs b (o + 1) hb.2 hr⟩
theorem lrel_restr {G : Ghost} {n : Nat} : ∀ (cs : List AV) (rs : List Value), belows n cs → lrel G cs rs → lrel (G.restr n) cs rs
  | [], _, _, h => by simp only [lrel] at h ⊢; exact h
  | c :: cs, rs, hb, h => by
    simp only [lrel] at h ⊢; simp only [belows] at hb
    obtain ⟨r, rest, e, hv, hr⟩ := h
    exact ⟨r, rest, e, vrel_restr c r hb.1 hv, lrel_restr cs rest hb.2 hr⟩
end
mutual
theorem vrel_below {G : Ghost} {n : Nat} (ho : ∀ i r, G.ok i r → i < n) : ∀ (a : AV) (v : Value), vrel G a v → a.und n
  | .bool _, _, _ | .int _ _, _, _ | .str _, _, _ | .nilp, _, _ | .nils, _, _ | .emp, _, _ | .nilm, _, _ | .nilf, _, _ | .junk, _, _ => by simp only [AV.und]
  | .ptr i r o, v, h => by simp only [vrel] at h; simp only [AV.und]; exact ho _ _ h.1
  | .cptr cs, v, h => by
    simp only [vrel] at h; simp only [AV.und]
    obtain ⟨b, o, e, hc⟩ := h
    exact crel_below ho cs b o hc
  | .lst cs len, v, h => by
    simp only [vrel] at h; simp only [AV.und]
    obtain ⟨b, o, cap, e, hle, hc⟩ := h
    exact crel_below ho cs b o hc
  | .sl i r off len esz, v, h => by simp only [vrel] at h; simp only [AV.und]; exact ho _ _ h.1
  | .map i, v, h => by simp only [vrel] at h; simp only [AV.und]; exact ho _ _ h.1
  | .iter i, v, h => by simp only [vrel] at h; simp only [AV.und]; exact ho _ _ h.1
  | .func fn fs cs, v, h => by
    simp only [vrel] at h; simp only [AV.und]
    obtain ⟨rf, rc, e, h1, h2⟩ := h
    exact ⟨lrel_below ho fs rf h1, lrel_below ho cs rc h2⟩
  | .agg cs, v, h => by
    simp only [vrel] at h; simp only [AV.und]
    obtain ⟨rs, e, h1⟩ := h
    exact lrel_below ho cs rs h1
  | .tuple vs, v, h => by
    simp only [vrel] at h; simp only [AV.und]
    obtain ⟨rs, e, h1⟩ := h
    exact lrel_below ho vs rs h1
theorem crel_below {G : Ghost} {n : Nat} (ho : ∀ i r, G.ok i r → i < n) : ∀ (cs : List AV) (b o : Nat), crel G cs b o → belows n cs
  | [], _, _, _ => by simp only [belows]
  | c :: cs, b, o, h => by
    simp only [crel] at h; simp only [belows]
    obtain ⟨⟨u, hu, hv⟩, hr⟩ := h
    exact ⟨vrel_below ho c u hv, crel_below ho cs b (o + 1) hr⟩
theorem lrel_below {G : Ghost} {n : Nat} (ho : ∀ i r, G.ok i r → i < n) : ∀ (cs : List AV) (rs : List Value), lrel G cs rs → belows n cs
  | [], _, _ => by simp only [belows]
  | c :: cs, rs, h => by
    simp only [lrel] at h; simp only [belows]
    obtain ⟨r, rest, e, hv, hr⟩ := h
    exact ⟨vrel_below ho c r hv, lrel_below ho cs rest hr⟩
end
def mbelow (n : Nat) : List (AV × AV) → Prop
  | [] => True
  | (k, v) :: r => k.und n ∧ v.und n ∧ mbelow n r
theorem mrel_restr {G : Ghost} {n : Nat} : ∀ (kvs : List (AV × AV)) (es : List MapEntry), mbelow n kvs → mrel G kvs es → mrel (G.restr n) kvs es
  | [], _, _, h => h
  | (k, v) :: r, es, hb, h => by
    obtain ⟨e, rest, e1, h1, h2, h3⟩ := h
    exact ⟨e, rest, e1, vrel_restr _ _ hb.1 h1, vrel_restr _ _ hb.2.1 h2, mrel_restr r rest hb.2.2 h3⟩
theorem mrel_below {G : Ghost} {n : Nat} (ho : ∀ i r, G.ok i r → i < n) : ∀ (kvs : List (AV × AV)) (es : List MapEntry), mrel G kvs es → mbelow n kvs
  | [], _, _ => trivial
  | (k, v) :: r, es, h => by
    obtain ⟨e, rest, e1, h1, h2, h3⟩ := h
    exact ⟨vrel_below ho _ _ h1, vrel_below ho _ _ h2, mrel_below ho r rest h3⟩
def AObj.und (n : Nat) : AObj → Prop
  | .cells _ cs => belows n cs
  | .map _ kvs => mbelow n kvs
  | .miter m _ _ _ => m < n
  | _ => True
theorem orel_below {G : Ghost} {w : World} {n i : Nat} {o : AObj} (ho : ∀ i r, G.ok i r → i < n) (h : orel G w i o) : o.und n := by
  cases o with
  | cells r cs => obtain ⟨_, row, el, fz, hb, _, _, _, hr⟩ := h; exact lrel_below ho _ _ hr
  | map r kvs => obtain ⟨_, _, es, c, hb, _, hm, _⟩ := h; exact mrel_below ho _ _ hm
  | miter m r kvs seen => exact ho _ _ h.2.2.1
  | _ => trivial
theorem orel_restr {G : Ghost} {w : World} {n i : Nat} {o : AObj} (hi : i < n) (hb : o.und n) (h : orel G w i o) : orel (G.restr n) w i o := by
  cases o with
  | cells r cs =>
    obtain ⟨hok, row, el, fz, h1, h2, h3, h4, hr⟩ := h
    exact ⟨⟨hok, hi⟩, row, el, fz, h1, h2, h3, h4, lrel_restr _ _ hb hr⟩
  | map r kvs =>
    obtain ⟨hok, hok0, es, c, h1, h2, hm, h3⟩ := h
    exact ⟨⟨hok, hi⟩, ⟨hok0, hi⟩, es, c, h1, h2, mrel_restr _ _ hb hm, h3⟩
  | miter m r kvs seen =>
    obtain ⟨hok, h1, h2, h3⟩ := h
    exact ⟨⟨hok, hi⟩, ⟨h1, hb⟩, ⟨h2, hb⟩, h3⟩
  | niter => exact ⟨⟨h.1, hi⟩, h.2⟩
  | siter s pos => exact ⟨⟨h.1, hi⟩, h.2⟩

/-- What was made since is forgotten. -/
theorem Weak.cut {h0 h h' : AHeap} {v : AV} (hn : h'.next = h0.next) (hw : h'.w0 = h0.w0) (hb : v.und h0.next)
    (hg : ∀ i o, i < h0.next → h'.get i = some o → h.get i = some o ∧ (h0.get i = some o ∨ o.und h0.next)) (hf : ∀ i, h0.next ≤ i → h'.get i = h0.get i) : Weak h0 v h v h' := by
  intro G0 G w0 w rv r0 hl r hv
  refine ⟨G.restr h0.next, ⟨⟨hl.N, hl.w0, fun i k ok => ?_, hl.imm⟩, hl.keep⟩, ?_, vrel_restr _ _ hb hv⟩
  · obtain ⟨a, b, c, d⟩ := hl.ok i k ok
    exact ⟨⟨a, r0.okn _ _ ok⟩, b, c, d⟩
  have hlt : ∀ i o, h'.get i = some o → i < h0.next := by
    intro i o e
    rcases Nat.lt_or_ge i h0.next with h1 | h1
    · exact h1
    · rw [hf i h1, r0.fresh i h1] at e; cases e
  have hold : ∀ i o, h'.get i = some o → h.get i = some o := fun i o e => (hg i o (hlt i o e) e).1
  refine ⟨⟨hw.trans (r0.start.1.trans hl.w0.symm), r.start.2⟩, r.below, r.N, r.imm, fun i k ok => by rw [hn]; exact ok.2, fun i k o e ok => r.okv i k o (hold i o e) ok.1, ?_, ?_, ?_, ?_, ?_, fun b ob e => ⟨(r.keep b ob e).1, (r.keep b ob e).2.1, fun i oi ei => ?_⟩⟩
  rotate_right
  · have := (r.keep b ob e).2.2 i oi (hold i oi ei)
    cases oi <;> exact this
  · intro i hi
    rw [hn] at hi
    rw [hf i hi, r0.fresh i hi]
  · intro i o e
    refine orel_restr (hlt i o e) ?_ (r.obj i o (hold i o e))
    rcases (hg i o (hlt i o e) e).2 with h1 | h1
    · exact orel_below r0.okn (r0.obj i o h1)
    · exact h1
  · intro i o e
    have := r.high i o (hold i o e)
    cases o <;> exact this
  · intro i j oi oj ei ej hne
    have := r.sep i j oi oj (hold i oi ei) (hold j oj ej) hne
    cases oi <;> cases oj <;> exact this
  · intro b o x e i oi ei
    have := r.simm b o x e i oi (hold i oi ei)
    cases oi <;> exact this

mutual
/-- In a value the object i is no longer written to. -/
def AV.fz (i r : Nat) (cs : List AV) : AV → AV
  | .sl j s off n e => if j = i ∧ s = r ∧ off + n * e ≤ cs.length then .lst ((cs.drop off).take (n * e)) n else .sl j s off n e
  | .agg l => .agg (fzs i r cs l)
  | .tuple l => .tuple (fzs i r cs l)
  | v => v
def fzs (i r : Nat) (cs : List AV) : List AV → List AV
  | [] => []
  | v :: l => v.fz i r cs :: fzs i r cs l
end
def Ghost.still (G : Ghost) (b : Nat) (rs : List Value) : Ghost := { G with imm := fun b' o => if b' = b ∧ o < rs.length then rs[o]? else G.imm b' o }
theorem crel_of_lrel {G : Ghost} {b : Nat} : ∀ {cs : List AV} {rs : List Value} {o : Nat}, lrel G cs rs → (∀ j v, rs[j]? = some v → G.imm b (o + j) = some v) → crel G cs b o
  | [], _, _, _, _ => by simp only [crel]
  | c :: cs, rs, o, h, hi => by
    simp only [lrel] at h; simp only [crel]
    obtain ⟨r, rest, rfl, hv, hr⟩ := h
    exact ⟨⟨r, hi 0 r rfl, hv⟩, crel_of_lrel hr fun j v hj => by have := hi (j + 1) v (by simpa using hj); rwa [show o + (j + 1) = o + 1 + j by omega] at this⟩
mutual
theorem vrel_fz {G G' : Ghost} {i r : Nat} {cs : List AV} (hl : G.le G') (hc : crel G' cs (G.blk i r) 0) : ∀ (a : AV) (v : Value), vrel G a v → vrel G' (a.fz i r cs) v
  | .bool _, _, h | .int _ _, _, h | .str _, _, h | .nilp, _, h | .nils, _, h | .emp, _, h | .nilm, _, h | .nilf, _, h | .junk, _, h | .ptr _ _ _, _, h | .cptr _, _, h | .lst _ _, _, h | .map _, _, h | .iter _, _, h | .func _ _ _, _, h => by
    simp only [AV.fz]; exact vrel_mono hl _ _ h
  | .sl j s off n e, v, h => by
    simp only [AV.fz]
    split
    · rename_i hj
      obtain ⟨rfl, rfl, hle⟩ := hj
      simp only [vrel] at h ⊢
      obtain ⟨_, b, o, cap, rfl, hle', hcap⟩ := h
      refine ⟨b, o, cap, rfl, hle', ?_⟩
      rcases hcap with h0 | ⟨rfl, rfl, _⟩
      · have : n * e = 0 := by have : n = 0 := by omega
                               rw [this, Nat.zero_mul]
        rw [this, List.take_zero]; simp only [crel]
      · have := crel_take (n * e) (crel_drop o hc)
        rwa [Nat.zero_add] at this
    · exact vrel_mono hl _ _ h
  | .agg l, v, h => by
    simp only [AV.fz]
    simp only [vrel] at h ⊢
    obtain ⟨rs, e, h1⟩ := h
    exact ⟨rs, e, lrel_fz hl hc l rs h1⟩
  | .tuple l, v, h => by
    simp only [AV.fz]
    simp only [vrel] at h ⊢
    obtain ⟨rs, e, h1⟩ := h
    exact ⟨rs, e, lrel_fz hl hc l rs h1⟩
theorem lrel_fz {G G' : Ghost} {i r : Nat} {cs : List AV} (hl : G.le G') (hc : crel G' cs (G.blk i r) 0) : ∀ (l : List AV) (rs : List Value), lrel G l rs → lrel G' (fzs i r cs l) rs
  | [], _, h => by simp only [fzs, lrel] at h ⊢; exact h
  | c :: l, rs, h => by
    simp only [fzs, lrel] at h ⊢
    obtain ⟨x, rest, e, hv, hr⟩ := h
    exact ⟨x, rest, e, vrel_fz hl hc c x hv, lrel_fz hl hc l rest hr⟩
end
/-- An object is given up: it is not written to from now on. -/
theorem Weak.freeze {h0 h : AHeap} {v : AV} {i r : Nat} {cs : List AV} (hi : h.get i = some (.cells r cs)) : Weak h0 v h (v.fz i r cs) (h.drop i) := by
  intro G0 G w0 w rv r0 hl0 rr hv
  obtain ⟨hok, hown, rs, hrs, hcell, _⟩ := rr.cells hi
  have hlen := lrel_length hrs
  have hl : G.le (G.still (G.blk i r) rs) := by
    refine ⟨⟨rfl, rfl, fun _ _ o => ⟨o, rfl, rfl, rfl⟩, fun b o v e => ?_⟩, rfl⟩
    have hne : ¬ (b = G.blk i r ∧ o < rs.length) := fun hb => rr.simm b o v e i _ hi hb.1.symm
    show (if b = G.blk i r ∧ o < rs.length then rs[o]? else G.imm b o) = some v
    rw [if_neg hne]; exact e
  have hc : crel (G.still (G.blk i r) rs) cs (G.blk i r) 0 := by
    refine crel_of_lrel (lrel_mono hl _ _ hrs) fun j x hj => ?_
    have hj' : j < rs.length := by
      rcases Nat.lt_or_ge j rs.length with h1 | h1
      · exact h1
      · rw [List.getElem?_eq_none h1] at hj; cases hj
    show (if G.blk i r = G.blk i r ∧ 0 + j < rs.length then rs[0 + j]? else G.imm _ _) = some x
    rw [if_pos ⟨rfl, by omega⟩, Nat.zero_add]; exact hj
  refine ⟨_, hl0.trans hl, ?_, vrel_fz hl hc _ _ hv⟩
  have hget : ∀ j o, (h.drop i).get j = some o → j ≠ i ∧ h.get j = some o := by
    intro j o e
    simp only [AHeap.drop] at e
    by_cases hj : j = i
    · rw [if_pos hj] at e; cases e
    · rw [if_neg hj] at e; exact ⟨hj, e⟩
  refine ⟨rr.start, rr.below, rr.N, ?_, rr.okn, fun j k o e ok => rr.okv j k o (hget j o e).2 ok, ?_, fun j o e => (orel_mono hl (rr.obj j o (hget j o e).2)).1, ?_, ?_, ?_, fun b ob e => ⟨(rr.keep b ob e).1, fun k => ?_, fun j oj ej => ?_⟩⟩
  rotate_right 2
  · have hne : ¬ (b = G.blk i r ∧ k < rs.length) := fun hb => (rr.keep b ob e).2.2 i _ hi hb.1.symm
    show (if b = G.blk i r ∧ k < rs.length then rs[k]? else G.imm b k) = none
    rw [if_neg hne]; exact (rr.keep b ob e).2.1 k
  · have := (rr.keep b ob e).2.2 j oj (hget j oj ej).2
    cases oj <;> exact this
  · intro b o x e
    simp only [Ghost.still] at e
    split at e
    · rename_i hb
      obtain ⟨rfl, _⟩ := hb
      exact hcell o x e
    · exact rr.imm b o x e
  · intro j hj
    simp only [AHeap.drop]
    split
    · rfl
    · exact rr.fresh j hj
  · intro j o e
    have := rr.high j o (hget j o e).2
    cases o <;> exact this
  · intro j k oj ok ej ek hne
    have := rr.sep j k oj ok (hget j oj ej).2 (hget k ok ek).2 hne
    cases oj <;> cases ok <;> exact this
  · intro b o x e j oj ej
    obtain ⟨hj, ej'⟩ := hget j oj ej
    simp only [Ghost.still] at e
    split at e
    · rename_i hb
      have := rr.sep j i oj _ ej' hi hj
      rw [hb.1]
      cases oj <;> exact this
    · have := rr.simm b o x e j oj ej'
      cases oj <;> exact this

theorem Ret.now {h0 h : AHeap} {v : AV} {Q : AV → AHeap → Prop} (hq : Q v h) : Ret h0 v h Q := ⟨v, h, Weak.refl _ _ _, hq⟩
theorem Ret.via {h0 h h' : AHeap} {v v' : AV} {Q : AV → AHeap → Prop} (a : Weak h0 v h v' h') (b : Ret h0 v' h' Q) : Ret h0 v h Q :=
  let ⟨v'', h'', w, q⟩ := b; ⟨v'', h'', a.trans w, q⟩

/-- Old objects are as they were. -/
structure Old (h0 h : AHeap) : Prop where
  next : h0.next ≤ h.next
  get : ∀ i, i < h0.next → h.get i = h0.get i
  w0 : h.w0 = h0.w0 := by rfl
theorem Old.refl (h : AHeap) : Old h h := ⟨Nat.le_refl _, fun _ _ => rfl, rfl⟩
theorem Old.trans {a b c : AHeap} (x : Old a b) (y : Old b c) : Old a c := ⟨Nat.le_trans x.next y.next, fun i hi => (y.get i (Nat.lt_of_lt_of_le hi x.next)).trans (x.get i hi), y.w0.trans x.w0⟩
theorem Old.push {a b : AHeap} (x : Old a b) (o : AObj) : Old a (b.push o) := ⟨Nat.le_succ_of_le x.next, fun i hi => by rw [AHeap.push_get, if_neg (by have := x.next; omega)]; exact x.get i hi, x.w0⟩
theorem Old.set {a b : AHeap} (x : Old a b) {i : Nat} (hi : a.next ≤ i) (o : AObj) : Old a (b.set i o) := ⟨x.next, fun j hj => by show (if j = i then _ else _) = _; rw [if_neg (by omega)]; exact x.get j hj, x.w0⟩
theorem AHeap.get_set {h : AHeap} {i j : Nat} {o : AObj} : (h.set i o).get j = if j = i then some o else h.get j := rfl
theorem AHeap.get_drop {h : AHeap} {i j : Nat} : (h.drop i).get j = if j = i then none else h.get j := rfl
theorem AHeap.set_next {h : AHeap} {i : Nat} {o : AObj} : (h.set i o).next = h.next := rfl
theorem AHeap.drop_next {h : AHeap} {i : Nat} : (h.drop i).next = h.next := rfl

/-- A function that leaves the heap as it was. -/
theorem Ret.pure {h0 h : AHeap} {v : AV} {Q : AV → AHeap → Prop} (ho : Old h0 h) (hb : v.und h0.next) (hq : Q v h0) : Ret h0 v h Q :=
  .via (Weak.cut rfl rfl hb (fun i o hi e => ⟨by rw [ho.get i hi]; exact e, .inl e⟩) fun _ _ => rfl) (.now hq)

/-- What a slice of elements of w cells holds. -/
inductive Rd (h : AHeap) (w : Nat) : AV → List AV → Nat → Prop where
  | lst {cs : List AV} {n : Nat} : cs.length = n * w → Rd h w (.lst cs n) cs n
  | sl {i r off n : Nat} {all : List AV} : i < h.next → h.get i = some (.cells r all) → off + n * w ≤ all.length → Rd h w (.sl i r off n w) ((all.drop off).take (n * w)) n
  | nils : Rd h w .nils [] 0
  | emp : Rd h w .emp [] 0
theorem Rd.length {h : AHeap} {w n : Nat} {v : AV} {cs : List AV} (x : Rd h w v cs n) : cs.length = n * w := by
  cases x with
  | lst h => exact h
  | sl _ _ h => simp; omega
  | nils => simp
  | emp => simp
/-- The object is as it was in another heap, too. -/
theorem Rd.frame {h h' : AHeap} {w n : Nat} {v : AV} {cs : List AV} (x : Rd h w v cs n) (hn : h.next ≤ h'.next) (hg : ∀ i, i < h.next → h'.get i = h.get i) : Rd h' w v cs n := by
  cases x with
  | lst h => exact .lst h
  | sl h1 h2 h3 => exact .sl (Nat.lt_of_lt_of_le h1 hn) (by rw [hg _ h1]; exact h2) h3
  | nils => exact .nils
  | emp => exact .emp
theorem Rd.push {h : AHeap} {w n : Nat} {v : AV} {cs : List AV} (x : Rd h w v cs n) (o : AObj) : Rd (h.push o) w v cs n :=
  x.frame (Nat.le_succ _) fun i hi => by rw [AHeap.push_get, if_neg (by omega)]
theorem Rd.old {h h' : AHeap} {w n : Nat} {v : AV} {cs : List AV} (x : Rd h w v cs n) (o : Old h h') : Rd h' w v cs n := x.frame o.next o.get
/-- A list that is not written to. -/
inductive Ls (w : Nat) : AV → List AV → Nat → Prop where
  | lst {cs : List AV} {n : Nat} : cs.length = n * w → Ls w (.lst cs n) cs n
  | nils : Ls w .nils [] 0
  | emp : Ls w .emp [] 0
theorem Ls.rd {h : AHeap} {w n : Nat} {v : AV} {cs : List AV} (x : Ls w v cs n) : Rd h w v cs n := by
  cases x with
  | lst h => exact .lst h
  | nils => exact .nils
  | emp => exact .emp
theorem Ls.below {w n k : Nat} {v : AV} {cs : List AV} (x : Ls w v cs n) (hb : belows k cs) : v.und k := by
  cases x <;> simp_all [AV.und]
/-- A list that is being built. -/
inductive Bd (h0 h : AHeap) (w : Nat) : AV → List AV → Nat → Prop where
  | nils : Bd h0 h w .nils [] 0
  | sl {i r n : Nat} {cs : List AV} : h0.next ≤ i → i < h.next → h.get i = some (.cells r cs) → cs.length = n * w → Bd h0 h w (.sl i r 0 n w) cs n
theorem Bd.rd {h0 h : AHeap} {w n : Nat} {v : AV} {cs : List AV} (x : Bd h0 h w v cs n) : Rd h w v cs n := by
  cases x with
  | nils => exact .nils
  | sl h1 h2 h3 h4 =>
    have := Rd.sl (off := 0) h2 h3 (by omega : 0 + n * w ≤ _)
    rwa [List.drop_zero, List.take_of_length_le (by omega)] at this
/-- Another object was made or written. -/
theorem Bd.frame {h0 h h' : AHeap} {w n : Nat} {v : AV} {cs : List AV} (x : Bd h0 h w v cs n) (hn : h.next ≤ h'.next) (hg : ∀ i, h0.next ≤ i → i < h.next → (∀ r n, v = .sl i r 0 n w → h'.get i = h.get i)) : Bd h0 h' w v cs n := by
  cases x with
  | nils => exact .nils
  | sl h1 h2 h3 h4 => exact .sl h1 (Nat.lt_of_lt_of_le h2 hn) (by rw [hg _ h1 h2 _ _ rfl]; exact h3) h4
theorem Bd.push {h0 h : AHeap} {w n : Nat} {v : AV} {cs : List AV} (x : Bd h0 h w v cs n) (o : AObj) : Bd h0 (h.push o) w v cs n :=
  x.frame (Nat.le_succ _) fun i _ h2 _ _ _ => by rw [AHeap.push_get, if_neg (by omega)]

theorem anews_of {h : AHeap} {w n : Nat} {x : AV} {cs : List AV} (hx : Rd h w x cs n) : anews h w x = some (cs, n) := by
  have hl := hx.length
  cases hx with
  | lst h1 => simp [anews, sread, slen, h1]
  | sl _ h1 h2 => simp [anews, sread, slen, h1, h2]
  | nils => simp [anews, sread, slen]
  | emp => simp [anews, sread, slen]
/-- A list grows. -/
theorem Bd.append {h0 h : AHeap} {w bytes n k : Nat} {v x : AV} {cs news : List AV} (hb : Bd h0 h w v cs n) (hx : Rd h w x news k) (ho : Old h0 h) (hk : 0 < k) (hroom : (n + k) * bytes ≤ room) (hs : news.all AV.scalar = true) :
    ∃ v' h', aappend w bytes v x h = some (v', h') ∧ Bd h0 h' w v' (cs ++ news) (n + k) ∧ Old h0 h' ∧ h.next ≤ h'.next ∧ (∀ j, j < h.next → (∀ r m, v ≠ .sl j r 0 m w) → h'.get j = h.get j) ∧ (∀ j r m, v' = .sl j r 0 m w → (∃ r m, v = .sl j r 0 m w) ∨ h.next ≤ j) := by
  have hnx := anews_of hx
  have hxl := hx.length
  cases hb with
  | nils =>
    refine ⟨.sl h.next 0 0 k w, h.push (.cells 0 news), ?_, ?_, ho.push _, Nat.le_succ _, fun j hj _ => by rw [AHeap.push_get, if_neg (by omega)], fun j r m e => ?_⟩
    · simp only [aappend, hnx]
      rw [if_neg (by omega), if_pos (by simpa using hroom)]
    · rw [List.nil_append, Nat.zero_add]
      exact .sl ho.next (Nat.lt_succ_self _) (by rw [AHeap.push_get, if_pos rfl]) hxl
    · simp only [AV.sl.injEq] at e; exact .inr (by omega)
  | @sl i r n cs h1 h2 h3 h4 =>
    refine ⟨.sl i (r + 1) 0 (n + k) w, h.set i (.cells (r + 1) (cs ++ news)), ?_, ?_, ho.set h1 _, Nat.le_refl _, fun j hj hne => ?_, fun j r' m e => ?_⟩
    · simp only [aappend, hnx, h3]
      simp only [true_and, h4, if_true]
      rw [if_neg (by omega), if_pos ⟨hroom, hs⟩]
    · exact .sl h1 h2 (by rw [AHeap.get_set, if_pos rfl]) (by rw [List.length_append, h4, hxl, Nat.add_mul])
    · rw [AHeap.get_set, if_neg]; intro e; exact hne r n (by rw [e])
    · simp only [AV.sl.injEq] at e; exact .inl ⟨r, n, by simp [e.1]⟩
/-- A function that returns a list that it built, and leaves the heap as it was. -/
theorem Ret.list {h0 h : AHeap} {w n : Nat} {v : AV} {cs : List AV} {Q : AV → AHeap → Prop} (ho : Old h0 h) (hb : Bd h0 h w v cs n) (hbl : belows h0.next cs) (hq : ∀ v', Ls w v' cs n → Q v' h0) : Ret h0 v h Q := by
  cases hb with
  | nils => exact .pure ho (by simp only [AV.und]) (hq _ .nils)
  | @sl i r n cs h1 h2 h3 h4 =>
    refine .via (Weak.freeze h3) ?_
    have : (AV.sl i r 0 n w).fz i r cs = .lst cs n := by
      simp only [AV.fz, true_and]
      rw [if_pos (by omega), List.drop_zero, List.take_of_length_le (by omega)]
    rw [this]
    refine .pure ⟨ho.next, fun j hj => ?_, ho.w0⟩ (by simpa only [AV.und] using hbl) (hq _ (.lst h4))
    rw [AHeap.get_drop, if_neg (by omega)]; exact ho.get j hj

/-- Reading. -/
theorem Rd.at {h : AHeap} {w n i : Nat} {v : AV} {cs : List AV} (x : Rd h w v cs n) (hi : i < n) :
    ∃ p, aiaddr none w v (.int .i64 i) = some p ∧ aloadv true w p h = some (.agg ((cs.drop (i * w)).take w)) ∧ (0 < w → aloadv false 1 p h = cs[i * w]?) ∧
      ∀ off, off < w → ∃ q, afaddr off p = some q ∧ (∀ sz, off + sz ≤ w → aloadv true sz q h = some (.agg ((cs.drop (i * w + off)).take sz))) ∧ aloadv false 1 q h = cs[i * w + off]? := by
  have hl := x.length
  have hiw : i * w + w ≤ n * w := by rw [← Nat.succ_mul]; exact Nat.mul_le_mul_right _ hi
  cases x with
  | lst h1 =>
    refine ⟨.cptr (cs.drop (i * w)), ?_, ?_, ?_, fun off ho => ⟨.cptr (cs.drop (i * w + off)), ?_, fun sz hs => ?_, ?_⟩⟩
    · simp [aiaddr, hi, hl]; omega
    · simp only [aloadv, if_true]; rw [if_pos (by rw [List.length_drop]; omega)]
    · intro _; simp [aloadv]
    · simp only [afaddr]; rw [if_pos (by rw [List.length_drop]; omega), List.drop_drop]
    · simp only [aloadv, if_true]; rw [if_pos (by rw [List.length_drop]; omega)]
    · simp [aloadv]
  | @sl j r off0 n all _ h1 h2 =>
    refine ⟨.ptr j r (off0 + i * w), ?_, ?_, ?_, fun off ho => ⟨.ptr j r (off0 + i * w + off), ?_, fun sz hs => ?_, ?_⟩⟩
    · simp [aiaddr, hi]
    · simp only [aloadv, h1, if_true]
      rw [if_pos (by omega), List.drop_take, List.drop_drop, List.take_take, Nat.min_eq_left (by omega)]
    · intro hw
      simp only [aloadv, h1, if_true, Bool.false_eq_true, if_false]
      rw [List.getElem?_take_of_lt (by omega), List.getElem?_drop]
    · simp [afaddr]
    · simp only [aloadv, h1, if_true]
      rw [if_pos (by omega), List.drop_take, List.drop_drop, List.take_take, Nat.min_eq_left (by omega), Nat.add_assoc off0]
    · simp only [aloadv, h1, if_true, Bool.false_eq_true, if_false]
      rw [List.getElem?_take_of_lt (by omega), List.getElem?_drop, Nat.add_assoc off0]
  | nils => omega
  | emp => omega
theorem Rd.len {h : AHeap} {w n : Nat} {v : AV} {cs : List AV} (x : Rd h w v cs n) : alen .sl v h = some (.int .i64 n) := by
  cases x <;> simp [alen, slen]

end Go.Own

/- What simp is to know about the printed trees. -/
namespace Go.Own
open Go.RowKit

@[simp] theorem some1_some {α : Type} {a : α} {k : α → Prop} : some1 (some a) k ↔ k a := ⟨fun ⟨_, e, h⟩ => (Option.some.inj e) ▸ h, fun h => ⟨a, rfl, h⟩⟩
@[simp] theorem some1_none {α : Type} {k : α → Prop} : some1 none k ↔ False := ⟨fun ⟨_, e, _⟩ => absurd e (by simp), False.elim⟩
theorem some1_eq {α : Type} {o : Option α} {a : α} {k : α → Prop} (h : o = some a) : some1 o k ↔ k a := by rw [h, some1_some]
@[simp] theorem aif_bool {b : Bool} {A B : Prop} : aif (.bool b) A B ↔ if b = true then A else B := Iff.rfl
@[simp] theorem agrd_bool {b w : Bool} {A B : Prop} : agrd (.bool b) w A B ↔ if b = w then A else B := Iff.rfl
@[simp] theorem anew_eq {cs : List AV} {h : AHeap} {k : AV → AHeap → Prop} : anew cs h k ↔ k (.ptr h.next 0 0) (h.push (.cells 0 cs)) := Iff.rfl
@[simp] theorem abin_int {op : BinOp} {k : IntKind} {a b : Int} (h : op ≠ .shl ∧ op ≠ .shr) : abin op (.int k a) (.int k b) = aint op k a b := by
  cases op <;> simp_all [abin]
@[simp] theorem abin_str {op : BinOp} {a b : List UInt8} : abin op (.str a) (.str b) = astr op a b := by
  cases op <;> simp [abin]
@[simp] theorem cells?_agg {cs : List AV} : (AV.agg cs).cells? = some cs := rfl
@[simp] theorem cells?_int {k : IntKind} {n : Int} : (AV.int k n).cells? = some [.int k n] := rfl
@[simp] theorem cells?_str {s : List UInt8} : (AV.str s).cells? = some [.str s] := rfl
@[simp] theorem cells?_bool {b : Bool} : (AV.bool b).cells? = some [.bool b] := rfl
@[simp] theorem cells?_ptr {i r o : Nat} : (AV.ptr i r o).cells? = some [.ptr i r o] := rfl
@[simp] theorem cells?_lst {cs : List AV} {n : Nat} : (AV.lst cs n).cells? = some [.lst cs n] := rfl
@[simp] theorem cells?_sl {i r o n e : Nat} : (AV.sl i r o n e).cells? = some [.sl i r o n e] := rfl
@[simp] theorem cells?_nils : AV.nils.cells? = some [.nils] := rfl
@[simp] theorem afaddr_ptr {off i r o : Nat} : afaddr off (.ptr i r o) = some (.ptr i r (o + off)) := rfl
@[simp] theorem push_next {h : AHeap} {o : AObj} : (h.push o).next = h.next + 1 := rfl
@[simp] theorem set_next {h : AHeap} {i : Nat} {o : AObj} : (h.set i o).next = h.next := rfl
@[simp] theorem hpush_get {h : AHeap} {o : AObj} {i : Nat} : (h.push o).get i = if i = h.next then some o else h.get i := rfl
@[simp] theorem hset_get {h : AHeap} {o : AObj} {i j : Nat} : (h.set i o).get j = if j = i then some o else h.get j := rfl
@[simp] theorem upd_get {fr : Fr} {i j : Nat} {v : AV} : upd fr i v j = if j = i then v else fr j := rfl
@[simp] theorem updl_nil {fr : Fr} : updl fr [] = fr := rfl
@[simp] theorem updl_cons {fr : Fr} {i : Nat} {v : AV} {l : List (Nat × AV)} : updl fr ((i, v) :: l) = updl (upd fr i v) l := rfl
@[simp] theorem frame0_get {args : List AV} {i : Nat} : frame0 args i = args.getD i .junk := rfl
/-- A load out of an object that is known. -/
theorem aload_cell {h : AHeap} {i r o : Nat} {cs : List AV} (e : h.get i = some (.cells r cs)) : aloadv false 1 (.ptr i r o) h = cs[o]? := by simp [aloadv, e]
theorem aload_agg {h : AHeap} {i r o n : Nat} {cs : List AV} (e : h.get i = some (.cells r cs)) (hl : o + n ≤ cs.length) : aloadv true n (.ptr i r o) h = some (.agg ((cs.drop o).take n)) := by simp [aloadv, e, hl]
theorem acall_of' {P : Program} {f : FuncId} {args : List AV} {h : AHeap} {k : AV → AHeap → Prop} (hb : hasBody P f = true) (H : ACalls P f args h k) : acall P f args h k := by unfold acall; rw [hb]; exact H
theorem aqcall_of {P : Program} {f : FuncId} {args : List AV} {h : AHeap} {k : AV → Prop} {v0 : AV} (H : ACalls P f args h fun v h' => v = v0 ∧ h' = h) (hk : k v0) : aqcall P f args h k := ⟨v0, H, hk⟩
end Go.Own

/- Lists of rows; lists that are built by append, one row at a time. -/
namespace Go.Own
open Go.RowKit

section
variable {α : Type} {f : α → List AV} {w : Nat}
theorem rows_length (hf : ∀ x, (f x).length = w) : ∀ (l : List α), (l.flatMap f).length = l.length * w
  | [] => by simp
  | x :: l => by rw [List.flatMap_cons, List.length_append, hf, rows_length hf l, List.length_cons, Nat.succ_mul, Nat.add_comm]
theorem rows_drop (hf : ∀ x, (f x).length = w) : ∀ (l : List α) (i : Nat), (l.flatMap f).drop (i * w) = (l.drop i).flatMap f
  | l, 0 => by simp
  | [], i + 1 => by simp
  | x :: l, i + 1 => by
    rw [List.flatMap_cons, List.drop_succ_cons, ← rows_drop hf l i, List.drop_append, hf, List.drop_eq_nil_of_le (by rw [hf, Nat.succ_mul]; omega), List.nil_append]
    congr 1; rw [Nat.succ_mul]; omega
theorem rows_at (hf : ∀ x, (f x).length = w) {l : List α} {i off sz : Nat} (hi : i < l.length) (hs : off + sz ≤ w) : ((l.flatMap f).drop (i * w + off)).take sz = ((f l[i]).drop off).take sz := by
  rw [← List.drop_drop, rows_drop hf, List.drop_eq_getElem_cons hi, List.flatMap_cons, List.drop_append, List.take_append_of_le_length]
  rw [List.length_drop, hf]; omega
theorem rows_get (hf : ∀ x, (f x).length = w) {l : List α} {i off : Nat} (hi : i < l.length) (hs : off < w) : (l.flatMap f)[i * w + off]? = (f l[i])[off]? := by
  have : ((l.flatMap f).drop (i * w))[off]? = (f l[i])[off]? := by
    rw [rows_drop hf, List.drop_eq_getElem_cons hi, List.flatMap_cons, List.getElem?_append_left (by rw [hf]; exact hs)]
  rwa [List.getElem?_drop] at this
theorem Rd.row (hf : ∀ x, (f x).length = w) {h : AHeap} {v : AV} {l : List α} {i : Nat} (x : Rd h w v (l.flatMap f) l.length) (hi : i < l.length) :
    ∃ p, aiaddr none w v (.int .i64 i) = some p ∧ aloadv true w p h = some (.agg (f l[i])) ∧ (0 < w → aloadv false 1 p h = (f l[i])[0]?) ∧
      ∀ off, off < w → ∃ q, afaddr off p = some q ∧ (∀ sz, off + sz ≤ w → aloadv true sz q h = some (.agg (((f l[i]).drop off).take sz))) ∧ aloadv false 1 q h = (f l[i])[off]? := by
  obtain ⟨p, h1, h2, h3, h4⟩ := x.at hi
  refine ⟨p, h1, ?_, fun hw => ?_, fun off ho => ?_⟩
  · have := rows_at hf (off := 0) (sz := w) hi (by omega)
    rw [Nat.add_zero] at this
    rw [h2, this, List.drop_zero, List.take_of_length_le (by rw [hf]; omega)]
  · rw [h3 hw]
    have := rows_get hf (off := 0) hi hw
    rwa [Nat.add_zero] at this
  · obtain ⟨q, h5, h6, h7⟩ := h4 off ho
    exact ⟨q, h5, fun sz hs => by rw [h6 sz hs, rows_at hf hi hs], by rw [h7, rows_get hf hi ho]⟩
end
theorem belows_flatMap {α : Type} {f : α → List AV} {n : Nat} (hf : ∀ x, belows n (f x)) : ∀ (l : List α), belows n (l.flatMap f)
  | [] => by simp [belows]
  | x :: l => by
    rw [belows_iff]
    intro y hy
    rw [List.flatMap_cons, List.mem_append] at hy
    rcases hy with hy | hy
    · exact belows_iff.1 (hf x) y hy
    · exact belows_iff.1 (belows_flatMap hf l) y hy

theorem Bd.weaken {a b h : AHeap} {w n : Nat} {v : AV} {cs : List AV} (x : Bd b h w v cs n) (hl : a.next ≤ b.next) : Bd a h w v cs n := by
  cases x with
  | nils => exact .nils
  | sl h1 h2 h3 h4 => exact .sl (Nat.le_trans hl h1) h2 h3 h4
/-- No list that is built is that object. -/
def AV.notsl (v : AV) (j : Nat) : Prop := ∀ r o m w, v ≠ .sl j r o m w
/-- One row more. -/
theorem Bd.app1 {h0 h : AHeap} {w bytes n : Nat} {v : AV} {cs new : List AV} {k : AV × AHeap → Prop} (hb : Bd h0 h w v cs n) (ho : Old h0 h) (hw : new.length = w) (hroom : (n + 1) * bytes ≤ room) (hs : new.all AV.scalar = true)
    (hk : ∀ v' h', Bd h0 h' w v' (cs ++ new) (n + 1) → Old h0 h' → h.next ≤ h'.next → (∀ j, j < h.next → v.notsl j → h'.get j = h.get j ∧ v'.notsl j) → k (v', h')) :
    some1 (aappend w bytes v (.sl h.next 0 0 1 w) (h.push (.cells 0 new))) k := by
  have hx : Rd (h.push (.cells 0 new)) w (.sl h.next 0 0 1 w) new 1 := by
    have := Rd.sl (h := h.push (.cells 0 new)) (i := h.next) (r := 0) (off := 0) (n := 1) (w := w) (all := new) (by simp) (by simp) (by omega)
    rwa [List.drop_zero, List.take_of_length_le (by omega)] at this
  obtain ⟨v', h', h1, h2, h3, h4, h5, h6⟩ := (hb.push (.cells 0 new)).append hx (ho.push _) (by omega) hroom hs
  refine ⟨_, h1, hk v' h' h2 h3 (by simp at h4; omega) fun j hj hn => ⟨?_, ?_⟩⟩
  · rw [h5 j (by simp; omega) (fun r m => hn r 0 m w)]
    simp only [hpush_get]; rw [if_neg (by omega)]
  · intro r o m w' e
    subst e
    cases h2 with
    | sl a b c d =>
      rcases h6 _ _ _ rfl with ⟨r', m', e⟩ | e
      · exact hn _ _ _ _ e
      · simp at e; omega
theorem afill_one {zc cs : List AV} {w : Nat} (hz : zc.length = w) (hc : cs.length = w) : afill (zcells zc 1) [(0, w, .agg cs)] = some cs := by
  have h1 : zcells zc 1 = zc := by simp [zcells]
  rw [h1]
  simp only [afill, AV.cells?]
  simp [splice, hz, hc]
theorem astore_to {h : AHeap} {i r n o : Nat} {v : AV} {cs vs : List AV} (e : h.get i = some (.cells r cs)) (hc : v.cells? = some vs) (hl : vs.length = n) (ho : o + n ≤ cs.length) (hs : vs.all AV.scalar = true) :
    astorev n (.ptr i r o) v h = some (h.set i (.cells r (splice cs o vs))) := by
  simp only [astorev, hc, e]
  rw [if_pos ⟨trivial, hl, ho, hs⟩]
theorem splice_all {cs vs : List AV} (h : vs.length = cs.length) : splice cs 0 vs = vs := by
  simp [splice, h]
theorem abuild_nil {P : Program} {t : TypeId} {zc : List AV} {k : AV → Prop} (h : azero P t = some zc) : abuildP P t [] k ↔ k (.agg zc) := by
  unfold abuildP; rw [h]; simp [afill]
theorem Old.store {a b : AHeap} (x : Old a b) {i r : Nat} {cs vs : List AV} (hi : a.next ≤ i) : Old a (b.set i (.cells r (splice cs 0 vs))) := x.set hi _
/-- The whole of an object is stored and read. -/
theorem put_get {h : AHeap} {i r n : Nat} {cs vs : List AV} {k : AHeap → Prop} (e : h.get i = some (.cells r cs)) (hn : cs.length = n) (hv : vs.length = n) (hs : vs.all AV.scalar = true) (hk : k (h.set i (.cells r vs))) :
    some1 (astorev n (.ptr i r 0) (.agg vs) h) k := by
  refine ⟨_, astore_to e rfl hv (by omega) hs, ?_⟩
  rw [splice_all (by omega)]; exact hk
theorem get_all {h : AHeap} {i r n : Nat} {cs : List AV} {k : AV → Prop} (e : h.get i = some (.cells r cs)) (hn : cs.length = n) (hk : k (.agg cs)) : some1 (aloadv true n (.ptr i r 0) h) k := by
  refine ⟨_, aload_agg e (by omega), ?_⟩
  rw [List.drop_zero, List.take_of_length_le (by omega)]; exact hk
/-- A call that leaves the heap as it was. -/
theorem acall_q {P : Program} {f : FuncId} {args : List AV} {h : AHeap} {k : AV → AHeap → Prop} {v0 : AV} (hb : hasBody P f = true) (H : ACalls P f args h fun v h' => v = v0 ∧ h' = h) (hk : k v0 h) : acall P f args h k :=
  acall_of' hb (H.mono fun v h' ⟨a, b⟩ => by rw [a, b]; exact hk)
/-- A loop whose relation stays closed. -/
theorem aloop {fr : Fr} {h : AHeap} {B : (Nat → Fr → AHeap → Prop) → Nat → Fr → AHeap → Prop} (I : Nat → Fr → AHeap → Prop) (m : Nat) (h0 : I m fr h)
    (hs : ∀ J : Nat → Fr → AHeap → Prop, (∀ {m fr h} k, k < m → I k fr h → inext J m fr h) → ∀ m fr h, I m fr h → B J m fr h) : ALoop fr h B := ⟨I, ⟨m, h0⟩, hs I fun k hk hi => ⟨k, hk, hi⟩⟩
/-- Ways that meet again. -/
theorem joined {A : (Fr → AHeap → Prop) → Prop} {K : Fr → AHeap → Prop} (R : Fr → AHeap → Prop) (hK : ∀ fr h, R fr h → K fr h) (hA : ∀ J : Fr → AHeap → Prop, (∀ {fr h}, R fr h → J fr h) → A J) : join A K := hA K fun r => hK _ _ r
theorem abin_i {op : BinOp} {k : IntKind} {a b : Int} {v : AV} {K : AV → Prop} (h : op ≠ .shl ∧ op ≠ .shr := by decide) (hv : aint op k a b = some v := by rfl) (hk : K v) : some1 (abin op (.int k a) (.int k b)) K := by
  rw [abin_int h, hv, some1_some]; exact hk
/-- One cell of an object is stored; read. -/
theorem put_at {h : AHeap} {i r o : Nat} {cs cs' : List AV} {v : AV} {k : AHeap → Prop} (e : h.get i = some (.cells r cs)) (hv : v.cells? = some [v]) (hs : v.scalar = true) (hc : splice cs o [v] = cs') (ho : o + 1 ≤ cs.length) (hk : k (h.set i (.cells r cs'))) :
    some1 (astorev 1 (.ptr i r o) v h) k := by
  refine ⟨_, astore_to e hv rfl ho (by simp [hs]), ?_⟩
  rw [hc]; exact hk
theorem get_at {h : AHeap} {i r o : Nat} {cs : List AV} {v : AV} {k : AV → Prop} (e : h.get i = some (.cells r cs)) (hv : cs[o]? = some v) (hk : k v) : some1 (aloadv false 1 (.ptr i r o) h) k :=
  ⟨v, by rw [aload_cell e, hv], hk⟩
theorem get_part {h : AHeap} {i r o n : Nat} {cs vs : List AV} {k : AV → Prop} (e : h.get i = some (.cells r cs)) (ho : o + n ≤ cs.length) (hv : (cs.drop o).take n = vs) (hk : k (.agg vs)) : some1 (aloadv true n (.ptr i r o) h) k :=
  ⟨_, aload_agg e ho, by rw [hv]; exact hk⟩
theorem put_part {h : AHeap} {i r o n : Nat} {cs cs' vs : List AV} {k : AHeap → Prop} (e : h.get i = some (.cells r cs)) (hv : vs.length = n) (hs : vs.all AV.scalar = true) (hc : splice cs o vs = cs') (ho : o + n ≤ cs.length) (hk : k (h.set i (.cells r cs'))) :
    some1 (astorev n (.ptr i r o) (.agg vs) h) k := by
  refine ⟨_, astore_to e rfl hv ho hs, ?_⟩
  rw [hc]; exact hk
theorem fa {off i r o : Nat} {k : AV → Prop} (hk : k (.ptr i r (o + off))) : some1 (afaddr off (.ptr i r o)) k := ⟨_, rfl, hk⟩
theorem ext {vs : List AV} {i : Nat} {v : AV} {k : AV → Prop} (h : vs[i]? = some v) (hk : k v) : some1 (aext (.tuple vs) i) k := ⟨v, h, hk⟩
theorem AHeap.same_set {h : AHeap} {i : Nat} {o : AObj} : (h.set i o).get i = some o := by simp
/-- One object was written. -/
structure Upd (h : AHeap) (i : Nat) (o : AObj) (h' : AHeap) : Prop where
  next : h'.next = h.next
  self : h'.get i = some o
  other : ∀ j, j ≠ i → h'.get j = h.get j
  w0 : h'.w0 = h.w0
theorem Upd.of (h : AHeap) (i : Nat) (o : AObj) : Upd h i o (h.set i o) := ⟨rfl, by simp, fun j hj => by simp [hj], rfl⟩
theorem Upd.eq {h h' : AHeap} {i : Nat} {o : AObj} (u : Upd h i o h') : h' = h.set i o := by
  cases h' with | mk n g w =>
  simp only [AHeap.set, AHeap.mk.injEq]
  refine ⟨u.next, funext fun j => ?_, u.w0⟩
  by_cases hj : j = i
  · subst hj; rw [if_pos rfl]; exact u.self
  · rw [if_neg hj]; exact u.other j hj
theorem Old.upd {a b c : AHeap} (x : Old a b) {i : Nat} {o : AObj} (hi : a.next ≤ i) (u : Upd b i o c) : Old a c := ⟨by rw [u.next]; exact x.next, fun j hj => by rw [u.other j (by omega)]; exact x.get j hj, u.w0.trans x.w0⟩
/-- A new object. -/
structure New (h : AHeap) (o : AObj) (h' : AHeap) : Prop where
  next : h'.next = h.next + 1
  self : h'.get h.next = some o
  other : ∀ j, j ≠ h.next → h'.get j = h.get j
  w0 : h'.w0 = h.w0
theorem New.old {h h' : AHeap} {o : AObj} (n : New h o h') : Old h h' := ⟨by rw [n.next]; omega, fun i hi => n.other i (by omega), n.w0⟩
theorem New.of (h : AHeap) (o : AObj) : New h o (h.push o) := ⟨rfl, by simp, fun j hj => by simp [hj], rfl⟩
theorem New.eq {h h' : AHeap} {o : AObj} (u : New h o h') : h' = h.push o := by
  cases h' with | mk n g w =>
  simp only [AHeap.push, AHeap.mk.injEq]
  refine ⟨u.next, funext fun j => ?_, u.w0⟩
  by_cases hj : j = h.next
  · subst hj; rw [if_pos rfl]; exact u.self
  · rw [if_neg hj]; exact u.other j hj
theorem new {cs : List AV} {h : AHeap} {k : AV → AHeap → Prop} (H : ∀ h', New h (.cells 0 cs) h' → k (.ptr h.next 0 0) h') : anew cs h k := H _ (New.of h _)
/-- A parameter, a variable gets its object. -/
theorem box {v : AV} {cs : List AV} {h : AHeap} {k : AV → AHeap → Prop} (hc : v.cells? = some cs) (H : ∀ h', New h (.cells 0 cs) h' → k (.ptr h.next 0 0) h') : some1 v.cells? fun z => anew z h k := by
  rw [hc, some1_some]; exact new H
theorem var {P : Program} {t : TypeId} {cs : List AV} {h : AHeap} {k : AV → AHeap → Prop} (hc : azero P t = some cs) (H : ∀ h', New h (.cells 0 cs) h' → k (.ptr h.next 0 0) h') : some1 (azero P t) fun z => anew z h k := by
  rw [hc, some1_some]; exact new H
theorem put {h : AHeap} {i r o : Nat} {cs cs' : List AV} {v : AV} {k : AHeap → Prop} (e : h.get i = some (.cells r cs)) (hv : v.cells? = some [v]) (hs : v.scalar = true) (hc : splice cs o [v] = cs') (ho : o + 1 ≤ cs.length) (hk : ∀ h', Upd h i (.cells r cs') h' → k h') :
    some1 (astorev 1 (.ptr i r o) v h) k := put_at e hv hs hc ho (hk _ (Upd.of ..))
theorem puts {h : AHeap} {i r o n : Nat} {cs cs' vs : List AV} {k : AHeap → Prop} (e : h.get i = some (.cells r cs)) (hv : vs.length = n) (hs : vs.all AV.scalar = true) (hc : splice cs o vs = cs') (ho : o + n ≤ cs.length) (hk : ∀ h', Upd h i (.cells r cs') h' → k h') :
    some1 (astorev n (.ptr i r o) (.agg vs) h) k := put_part e hv hs hc ho (hk _ (Upd.of ..))
theorem lit {P : Program} {t e : TypeId} {n w b : Nat} {zc cs : List AV} {ps : List (Nat × Nat × AV)} {h : AHeap} {k : AV → AHeap → Prop} (hk : elKind P t = some (e, w, b, zc)) (hn : 0 < n ∧ n * w ≤ 16777216) (hf : afill (zcells zc n) ps = some cs)
    (H : ∀ h', New h (.cells 0 cs) h' → k (.sl h.next 0 0 n w) h') : alitP P t n ps h k := by
  unfold alitP
  rw [hk]
  exact ⟨hn.1, hn.2, cs, hf, H _ (New.of ..)⟩
theorem Ls.eq {w n : Nat} {v : AV} {cs : List AV} (h : Ls w v cs n) (hn : n ≠ 0) : v = .lst cs n := by
  cases h with
  | lst => rfl
  | nils => exact absurd rfl hn
  | emp => exact absurd rfl hn
/-- Two lists that are built do not share an object. -/
def Sep (u v : AV) : Prop := ∀ j r o m w, u = .sl j r o m w → v.notsl j
theorem Sep.nil {u : AV} : Sep u .nils := fun _ _ _ _ _ _ _ _ _ _ h => AV.noConfusion h
theorem Sep.nil' {u : AV} : Sep .nils u := fun _ _ _ _ _ h => AV.noConfusion h
theorem Sep.symm {u v : AV} (h : Sep u v) : Sep v u := by
  intro j r o m w e r' o' m' w' e'
  exact h _ _ _ _ _ e' _ _ _ _ e
/-- Another list grew. -/
theorem Bd.other {h0 h h' : AHeap} {w n : Nat} {u v v' : AV} {cs : List AV} (x : Bd h0 h w u cs n) (hs : Sep u v) (hn : h.next ≤ h'.next) (hg : ∀ j, j < h.next → v.notsl j → h'.get j = h.get j ∧ v'.notsl j) :
    Bd h0 h' w u cs n ∧ Sep u v' := by
  cases x with
  | nils => exact ⟨.nils, Sep.nil'⟩
  | sl h1 h2 h3 h4 =>
    have hv := hs _ _ _ _ _ rfl
    refine ⟨.sl h1 (Nat.lt_of_lt_of_le h2 hn) (by rw [(hg _ h2 hv).1]; exact h3) h4, ?_⟩
    intro j r o m w e
    simp only [AV.sl.injEq] at e
    rw [← e.1]
    exact (hg _ h2 hv).2
theorem Bd.fz {h0 h : AHeap} {w n i r : Nat} {v : AV} {cs c : List AV} (x : Bd h0 h w v cs n) (hv : v.notsl i) : v.fz i r c = v := by
  cases x with
  | nils => rfl
  | sl _ _ _ _ =>
    simp only [AV.fz]
    rw [if_neg]
    rintro ⟨rfl, _, _⟩
    exact hv _ _ _ _ rfl
theorem Ls.fz {w n i r : Nat} {v : AV} {cs c : List AV} (x : Ls w v cs n) : v.fz i r c = v := by cases x <;> rfl
theorem build {P : Program} {t : TypeId} {zc cs : List AV} {ps : List (Nat × Nat × AV)} {k : AV → Prop} (h : azero P t = some zc) (hf : afill zc ps = some cs) (hk : k (.agg cs)) : abuildP P t ps k := by
  unfold abuildP; rw [h]; exact ⟨cs, hf, hk⟩
theorem Ls.scalar {w n : Nat} {v : AV} {cs : List AV} (h : Ls w v cs n) : v.scalar = true := by cases h <;> rfl
theorem Ls.cells {w n : Nat} {v : AV} {cs : List AV} (h : Ls w v cs n) : v.cells? = some [v] := by cases h <;> rfl
def elIs (P : Program) (t : TypeId) (w : Nat) : Bool := match elKind P t with
  | some (_, w', _, zc) => w' == w && zc.length == w
  | none => false
/-- A literal of one row. -/
theorem alit_one {P : Program} {t : TypeId} {w : Nat} {cs : List AV} {h : AHeap} {k : AV → AHeap → Prop} (hk : elIs P t w = true) (hw : w ≤ 16777216) (hc : cs.length = w)
    (H : k (.sl h.next 0 0 1 w) (h.push (.cells 0 cs))) : alitP P t 1 [(0, w, .agg cs)] h k := by
  unfold elIs at hk
  unfold alitP
  split at hk
  · rename_i e w' b zc he
    simp only [Bool.and_eq_true, beq_iff_eq] at hk
    obtain ⟨rfl, hz⟩ := hk
    try rw [he]
    exact ⟨by omega, by omega, cs, afill_one hz hc, H⟩
  · cases hk
def isStructT (P : Program) (t : TypeId) : Bool := match P.underlying t with
  | some (.struct _) => true
  | _ => false
theorem aeq_struct {P : Program} {t : TypeId} {ks : List Kd} {xs ys : List AV} (hs : isStructT P t = true) (hk : eqKinds P t = some ks) (hx : fitsAll ks xs = true) (hy : fitsAll ks ys = true) :
    aeqP P .eql t (.agg xs) (.agg ys) = some (.bool (sameAll xs ys)) ∧ aeqP P .neq t (.agg xs) (.agg ys) = some (.bool !(sameAll xs ys)) := by
  unfold isStructT at hs
  split at hs
  · rename_i fs hu
    simp [aeqP, aeq, hu, hk, aeqv, aeqAgg, hx, hy]
  · cases hs
end Go.Own

/- Parts of long objects: an array in a struct. -/
namespace Go.Own
open Go.RowKit

theorem splice_right {A B vs : List AV} {o : Nat} : splice (A ++ B) (A.length + o) vs = A ++ splice B o vs := by
  simp only [splice]
  rw [List.take_length_add_append, show A.length + o + vs.length = A.length + (o + vs.length) by omega, List.drop_length_add_append]
  simp [List.append_assoc]
theorem splice_left {A B vs : List AV} {o : Nat} (h : o + vs.length ≤ A.length) : splice (A ++ B) o vs = splice A o vs ++ B := by
  simp only [splice]
  rw [List.take_append_of_le_length (by omega), List.drop_append_of_le_length h]; simp only [List.append_assoc]
section
variable {α : Type} {f : α → List AV} {w : Nat}
theorem splice_rows (hf : ∀ x, (f x).length = w) {l : List α} {i : Nat} {x : α} (hi : i < l.length) : splice (l.flatMap f) (i * w) (f x) = (l.set i x).flatMap f := by
  have h1 : (l.flatMap f).take (i * w) = (l.take i).flatMap f := by
    have : l.flatMap f = (l.take i).flatMap f ++ (l.drop i).flatMap f := by rw [← List.flatMap_append, List.take_append_drop]
    rw [this, List.take_left' (by rw [rows_length hf, List.length_take, Nat.min_eq_left (by omega)])]
  have h2 : (l.flatMap f).drop (i * w + (f x).length) = (l.drop (i + 1)).flatMap f := by
    rw [hf, ← Nat.succ_mul, rows_drop hf]
  simp only [splice, h1, h2]
  rw [List.set_eq_take_append_cons_drop, if_pos hi, List.flatMap_append, List.flatMap_cons, List.append_assoc]
end
theorem drop_right {A B : List AV} {o n : Nat} : ((A ++ B).drop (A.length + o)).take n = (B.drop o).take n := by rw [List.drop_length_add_append]
theorem part_left {A B : List AV} {o n : Nat} (h : o + n ≤ A.length) : ((A ++ B).drop o).take n = (A.drop o).take n := by
  rw [List.drop_append_of_le_length (by omega), List.take_append_of_le_length (by simp; omega)]

/-- Old objects are as they were, but for one. -/
structure OldX (h : AHeap) (id : Nat) (h' : AHeap) : Prop where
  next : h.next ≤ h'.next
  get : ∀ i, i < h.next → i ≠ id → h'.get i = h.get i
  w0 : h'.w0 = h.w0 := by rfl
theorem Old.x {h h' : AHeap} (o : Old h h') (id : Nat) : OldX h id h' := ⟨o.next, fun i hi _ => o.get i hi, o.w0⟩
theorem OldX.old {h h' h'' : AHeap} {id : Nat} (x : OldX h id h') (o : Old h' h'') : OldX h id h'' := ⟨Nat.le_trans x.next o.next, fun i hi hn => (o.get i (Nat.lt_of_lt_of_le hi x.next)).trans (x.get i hi hn), o.w0.trans x.w0⟩
theorem OldX.trans {h h' h'' : AHeap} {id : Nat} (x : OldX h id h') (o : OldX h' id h'') : OldX h id h'' := ⟨Nat.le_trans x.next o.next, fun i hi hn => (o.get i (Nat.lt_of_lt_of_le hi x.next) hn).trans (x.get i hi hn), o.w0.trans x.w0⟩
theorem OldX.upd {h h' h'' : AHeap} {id i : Nat} {o : AObj} (x : OldX h id h') (hi : h.next ≤ i ∨ i = id) (u : Upd h' i o h'') : OldX h id h'' :=
  ⟨by rw [u.next]; exact x.next, fun j hj hn => by rw [u.other j (by rcases hi with hi | hi <;> omega)]; exact x.get j hj hn, u.w0.trans x.w0⟩
theorem OldX.set {h h' : AHeap} {id : Nat} {o : AObj} (x : OldX h id h') : OldX h id (h'.set id o) := x.upd (.inr rfl) (Upd.of ..)
/-- A function that wrote one object. -/
theorem Ret.mod {h0 h : AHeap} {v : AV} {id : Nat} {o : AObj} {Q : AV → AHeap → Prop} (ho : OldX h0 id h) (hid : id < h0.next) (hg : h.get id = some o) (hb : o.und h0.next) (hv : v.und h0.next) (hq : Q v (h0.set id o)) : Ret h0 v h Q := by
  refine .via (Weak.cut (h' := h0.set id o) rfl rfl hv (fun i oi hi e => ?_) fun i hi => ?_) (.now hq)
  · by_cases hne : i = id
    · subst hne
      simp at e; subst e
      exact ⟨hg, .inr hb⟩
    · simp [hne] at e
      exact ⟨by rw [ho.get i hi hne]; exact e, .inl e⟩
  · simp only [hset_get]; rw [if_neg (by omega)]
theorem AHeap.set_set {h : AHeap} {i : Nat} {o o' : AObj} : (h.set i o).set i o' = h.set i o' := by
  simp only [AHeap.set, AHeap.mk.injEq, true_and, and_true]
  funext j; split <;> rfl
theorem AHeap.set_self {h : AHeap} {i : Nat} {o : AObj} (e : h.get i = some o) : h.set i o = h := by
  cases h with | mk n g w =>
  simp only [AHeap.set, AHeap.mk.injEq, true_and, and_true]
  funext j; split
  · rename_i hj; subst hj; exact e.symm
  · rfl
end Go.Own
