/- Part of the proofs: F1, F2, F3, F4, F5, F6, F7, F8, F9, F10, F11, F12, F13, F14, F15. -/
import Derived.Test.YtgphldokjapllaaTreeA
import Derived.Test.YtgphldokjapllaaOwnB
import Derived.Sort.Statements

namespace Go.Own.Try
open Go.Own Go.Proofs

/-- What a call that leaves the heap as it was comes to. -/
abbrev Pure (f : FuncId) (args : List AV) (v0 : AV) : Prop := ∀ h, ACalls Try.prog f args h fun v h' => v = v0 ∧ h' = h

def band (a b : Int) : Int := IntKind.i64.wrap (BitVec.ofInt 64 a &&& BitVec.ofInt 64 b).toNat
def stepI (s f : Int) : Int :=
  if s = 4 then 4 else if band f 5 ≠ 0 then 3 else if s = 1 ∧ band f 18 = 16 then 2 else if s = 3 ∧ band f 18 = 2 then 1 else s
def lifeI (s : Int) : Int := if s = 1 then 60 else if s = 2 then 900 else if s = 3 then 30 else if s = 4 then 120 else 0

theorem c49 (s f : Int) : Pure 49 [.int .i64 s, .int .i64 f] (.int .i64 (stepI s f)) := by
  intro h
  apply T49_calls
  unfold T49
  simp [aint]
  unfold stepI band
  repeat' split
  all_goals (apply Ret.now; simp_all [IntKind.bits])
theorem c35 (s f : Int) : Pure 35 [.int .i64 s, .int .i64 f] (.int .i64 (stepI s f)) := by
  intro h
  apply T35_calls
  unfold T35
  simp [aint]
  unfold stepI band
  repeat' split
  all_goals (apply Ret.now; simp_all [IntKind.bits])
theorem c21 (s : Int) : Pure 21 [.int .i64 s] (.int .i64 (lifeI s)) := by
  intro h
  apply T21_calls
  unfold T21
  simp [aint]
  unfold lifeI
  repeat' split
  all_goals (apply Ret.now; simp_all)
theorem c33 (s : Int) : Pure 33 [.int .i64 s] (.bool (decide (0 ≤ s) && decide (s < 16))) := by
  intro h
  apply T33_calls
  unfold T33
  simp [aint]
  repeat' split
  all_goals (apply Ret.now; simp_all <;> omega)
theorem c34 (s : Int) : Pure 34 [.int .i64 s] (.bool (decide (0 ≤ s) && decide (s ≤ 1099511626776))) := by
  intro h
  apply T34_calls
  unfold T34
  simp [aint]
  repeat' split
  all_goals (apply Ret.now; simp_all <;> omega)
theorem c48 (b s : Int) : Pure 48 [.int .i64 b, .int .i64 s] (.bool (decide (b < 0) || decide (b > 15) || decide (s < 0) || decide (s > 1099511626776))) := by
  intro h
  apply T48_calls
  unfold T48
  simp [aint]
  repeat' split
  all_goals (apply Ret.now; simp_all <;> omega)
theorem c47 (b : Int) : Pure 47 [.int .i64 b] (.bool false) := by
  intro h
  apply T47_calls
  unfold T47
  simp [aint]
  apply Ret.now; simp
theorem c62 (b : List UInt8) : Pure 62 [.str b] (.bool false) := by
  intro h
  apply T62_calls
  unfold T62
  simp [astr]
  apply Ret.now; simp
end Go.Own.Try

namespace Go.Own.Try
open Go.Own Go.Proofs

structure Fl where
  proto : Int
  src : List UInt8
  dst : List UInt8
  port : Int
  dest : Int
  hsrc : src.length ≤ 2097152
  hdst : dst.length ≤ 2097152
  deriving DecidableEq
structure En where
  flow : Fl
  backend : Int
  state : Int
  ends : Int
  deriving DecidableEq
def Fl.cs (f : Fl) : List AV := [.int .i64 f.proto, .str f.src, .str f.dst, .int .i64 f.port, .int .i64 f.dest]
def En.cs (e : En) : List AV := [.int .i64 e.flow.proto, .str e.flow.src, .str e.flow.dst, .int .i64 e.flow.port, .int .i64 e.flow.dest, .int .i64 e.backend, .int .i64 e.state, .int .i64 e.ends]

/-- -1, 0, 1. -/
def cmpI (a b : Int) : Int := if a < b then -1 else if a > b then 1 else 0
def cmpS (a b : List UInt8) : Int := if Op.bytesLess a b then -1 else if !(Op.bytesLess a b || a == b) then 1 else 0
theorem c32 (a b : Int) : Pure 32 [.int .i64 a, .int .i64 b] (.int .i64 (cmpI a b)) := by
  intro h
  apply T32_calls
  unfold T32
  refine acall_of' (by kernel_rfl) ((c47 a h).mono ?_)
  rintro _ _ ⟨rfl, rfl⟩
  refine acall_of' (by kernel_rfl) ((c47 b _).mono ?_)
  rintro _ _ ⟨rfl, rfl⟩
  simp [aint]
  unfold cmpI
  repeat' split
  all_goals (apply Ret.now; simp_all <;> omega)
theorem c44 (a b : List UInt8) : Pure 44 [.str a, .str b] (.int .i64 (cmpS a b)) := by
  intro h
  apply T44_calls
  unfold T44
  refine acall_of' (by kernel_rfl) ((c62 a h).mono ?_)
  rintro _ _ ⟨rfl, rfl⟩
  refine acall_of' (by kernel_rfl) ((c62 b _).mono ?_)
  rintro _ _ ⟨rfl, rfl⟩
  simp [astr]
  unfold cmpS
  repeat' split
  all_goals (apply Ret.now; simp_all)

def aheadB (a b : Fl) : Bool :=
  if a.proto ≠ b.proto then decide (a.proto < b.proto) else if a.src ≠ b.src then Op.bytesLess a.src b.src else if a.port ≠ b.port then decide (a.port < b.port)
  else if a.dst ≠ b.dst then Op.bytesLess a.dst b.dst else decide (a.dest < b.dest)
theorem c65 (a b : Fl) : Pure 65 [.agg a.cs, .agg b.cs] (.bool (aheadB a b)) := by
  intro h
  apply T65_calls
  unfold T65
  have h1 : ((h.push (.cells 0 a.cs)).push (.cells 0 b.cs)).get h.next = some (.cells 0 a.cs) := by simp
  have h2 : ((h.push (.cells 0 a.cs)).push (.cells 0 b.cs)).get (h.next + 1) = some (.cells 0 b.cs) := by simp
  simp [aload_cell h1, aload_cell h2]
  generalize hh : ((h.push (.cells 0 a.cs)).push (.cells 0 b.cs)) = hf at *
  have ho : Old h hf := hh ▸ ((Old.refl h).push _).push _
  simp [Fl.cs, aint, astr]
  unfold aheadB
  repeat' split
  all_goals (refine Ret.pure ho (by simp [AV.und]) ⟨?_, rfl⟩; simp_all)
end Go.Own.Try

namespace Go.Own.Try
open Go.Own Go.Proofs
set_option maxRecDepth 20000

theorem En.len (e : En) : e.cs.length = 8 := rfl
theorem En.scalar (e : En) : e.cs.all AV.scalar = true := rfl
theorem En.below (n : Nat) (e : En) : belows n e.cs := by simp [En.cs, belows, AV.und]
theorem En.drop0 (e : En) : (e.cs.drop 0).take 5 = e.flow.cs := rfl
abbrev ens (l : List En) : List AV := l.flatMap En.cs
abbrev ELs (v : AV) (l : List En) : Prop := Ls 8 v (ens l) l.length
abbrev ERd (h : AHeap) (v : AV) (l : List En) : Prop := Rd h 8 v (ens l) l.length
theorem ens_len (l : List En) : (ens l).length = l.length * 8 := rows_length En.len l
theorem ens_below (n : Nat) (l : List En) : belows n (ens l) := belows_flatMap (En.below n) l
theorem ERd.row {h : AHeap} {v : AV} {l : List En} {i : Nat} (x : ERd h v l) (hi : i < l.length) :
    ∃ p, aiaddr none 8 v (.int .i64 i) = some p ∧ aloadv true 8 p h = some (.agg l[i].cs) ∧
      ∃ q, afaddr 0 p = some q ∧ aloadv true 5 q h = some (.agg l[i].flow.cs) ∧ ∃ q', afaddr 7 p = some q' ∧ aloadv false 1 q' h = some (.int .i64 l[i].ends) := by
  obtain ⟨p, h1, h2, _, h4⟩ := Rd.row En.len x hi
  obtain ⟨q, h5, h6, _⟩ := h4 0 (by omega)
  obtain ⟨q', h7, _, h9⟩ := h4 7 (by omega)
  exact ⟨p, h1, h2, q, h5, h6 5 (by omega), q', h7, h9⟩
theorem el27 : elIs Try.prog 27 8 = true := by kernel_rfl
theorem alit_en {e : En} {h : AHeap} {k : AV → AHeap → Prop} (H : k (.sl h.next 0 0 1 8) (h.push (.cells 0 e.cs))) : alitP Try.prog 27 1 [(0, 8, .agg e.cs)] h k :=
  alit_one el27 (by decide) rfl H
theorem ek37 : eqKinds Try.prog 37 = some [.int .i64, .str, .str, .int .i64, .int .i64] := by kernel_rfl
theorem st37 : isStructT Try.prog 37 = true := by kernel_rfl
theorem same_flow (a b : Fl) : sameAll a.cs b.cs = decide (a = b) := by
  rcases a with ⟨a1, a2, a3, a4, a5⟩
  rcases b with ⟨b1, b2, b3, b4, b5⟩
  simp [sameAll, Fl.cs, AV.same]
  by_cases h1 : a1 = b1 <;> by_cases h2 : a2 = b2 <;> by_cases h3 : a3 = b3 <;> by_cases h4 : a4 = b4 <;> by_cases h5 : a5 = b5 <;> simp [*]
theorem aeq_flow (a b : Fl) : aeqP Try.prog .eql 37 (.agg a.cs) (.agg b.cs) = some (.bool (decide (a = b))) := by
  rw [(aeq_struct st37 ek37 rfl rfl).1, same_flow]
theorem aneq_flow (a b : Fl) : aeqP Try.prog .neq 37 (.agg a.cs) (.agg b.cs) = some (.bool (!decide (a = b))) := by
  rw [(aeq_struct st37 ek37 rfl rfl).2, same_flow]

/-- The number of a flow's entry. -/
def findI (f : Fl) : List En → Nat → Int
  | [], _ => -1
  | e :: r, i => if e.flow = f then i else findI f r (i + 1)
theorem c27 {h : AHeap} {s : AV} {l : List En} (f : Fl) (hs : ERd h s l) (hl : l.length ≤ 1000000) : ACalls Try.prog 27 [s, .agg f.cs] h fun v h' => v = .int .i64 (findI f l 0) ∧ h' = h := by
  apply T27_calls
  unfold T27
  rw [cells?_agg, some1_some, anew_eq]
  refine ⟨fun m fr hl => hl = h.push (.cells 0 f.cs) ∧ fr 0 = s ∧ fr 3 = .ptr h.next 0 0 ∧ ∃ i : Nat, fr 5 = .int .i64 i ∧ m + i = l.length ∧ findI f (l.drop i) i = findI f l 0, ⟨l.length, by simp; exact ⟨0, by simp⟩⟩, ?_⟩
  rintro m fr _ ⟨rfl, h0, h3, i, h5, hm, hf⟩
  have hs' : ERd (h.push (.cells 0 f.cs)) s l := hs.push _
  have h1 : (h.push (.cells 0 f.cs)).get h.next = some (.cells 0 f.cs) := by simp
  rw [h0, hs'.len, some1_some, h5]
  simp [aint]
  split
  · rename_i hi
    obtain ⟨p, e1, _, q, e2, e3, _⟩ := hs'.row hi
    have hld : aloadv true 5 (fr 3) (h.push (.cells 0 f.cs)) = some (.agg f.cs) := by rw [h3, aload_agg h1 (by simp [Fl.cs])]; rfl
    simp [e1, e2, e3, hld, aeq_flow]
    rw [List.drop_eq_getElem_cons hi, findI] at hf
    split
    · rename_i he
      rw [if_pos he] at hf
      refine Ret.pure ((Old.refl h).push _) (by simp [AV.und]) ⟨by rw [hf], rfl⟩
    · rename_i he
      rw [if_neg he] at hf
      exact ⟨m - 1, by omega, rfl, by simp [h0], by simp [h3], i + 1, by simp; rw [i64_id (by omega) (by omega)], by omega, hf⟩
  · have : i = l.length := by omega
    subst this
    rw [List.drop_length, findI] at hf
    refine Ret.pure ((Old.refl h).push _) (by simp [AV.und]) ⟨by rw [hf], rfl⟩
end Go.Own.Try

namespace Go.Own.Try
open Go.Own Go.Proofs
set_option maxRecDepth 20000

def zeroE : En := ⟨⟨0, [], [], 0, 0, by decide, by decide⟩, 0, 0, 0⟩
theorem az42 : azero Try.prog 42 = some zeroE.cs := by kernel_rfl
theorem az39 : azero Try.prog 39 = some zeroE.cs := by kernel_rfl
def getE (f : Fl) (l : List En) : Option En := l.find? fun e => e.flow = f
theorem findI_none {f : Fl} : ∀ {l : List En} {i : Nat}, getE f l = none → findI f l i = -1
  | [], _, _ => rfl
  | e :: r, i, h => by
    simp only [getE, List.find?_cons] at h
    split at h
    · cases h
    · rename_i he
      rw [findI, if_neg (by simpa using he)]
      exact findI_none h
theorem findI_some {f : Fl} : ∀ {l : List En} {i : Nat} {e : En}, getE f l = some e → ∃ k : Nat, findI f l i = (i + k : Nat) ∧ ∃ h : k < l.length, l[k] = e
  | [], _, _, h => by simp [getE] at h
  | x :: r, i, e, h => by
    simp only [getE, List.find?_cons] at h
    split at h
    · rename_i he
      simp only [Option.some.injEq] at h; subst h
      refine ⟨0, by rw [findI, if_pos (by simpa using he)]; rfl, by simp, rfl⟩
    · rename_i he
      obtain ⟨k, h1, h2, h3⟩ := findI_some (i := i + 1) h
      refine ⟨k + 1, by rw [findI, if_neg (by simpa using he), h1]; omega, by simp; omega, by simpa using h3⟩

theorem c15 {h : AHeap} {s : AV} {l : List En} (f : Fl) (hs : ERd h s l) (hl : l.length ≤ 1000000) :
    ACalls Try.prog 15 [s, .agg f.cs] h fun v h' => v = .tuple [.agg ((getE f l).getD zeroE).cs, .bool (getE f l).isSome] ∧ h' = h := by
  apply T15_calls
  unfold T15
  rw [cells?_agg, some1_some, anew_eq, az42, some1_some, anew_eq]
  generalize hh : (h.push (.cells 0 f.cs)).push (.cells 0 zeroE.cs) = hf
  have h1 : hf.get h.next = some (.cells 0 f.cs) := by rw [← hh]; simp
  have h2 : hf.get (h.next + 1) = some (.cells 0 zeroE.cs) := by rw [← hh]; simp
  have ho : Old h hf := hh ▸ ((Old.refl h).push _).push _
  have hs' : ERd hf s l := hs.old ho
  rw [aload_agg h1 (by simp [Fl.cs]), some1_some]
  refine acall_q (by kernel_rfl) (c27 f hs' hl) ?_
  have fin : ∀ (e : En) (b : Bool), some1 (astorev 8 (.ptr (h.next + 1) 0 0) (.agg e.cs) hf) (fun h4 => some1 (aloadv true 8 (.ptr (h.next + 1) 0 0) h4) fun w =>
      Ret h (.tuple [w, .bool b]) h4 fun v h' => v = .tuple [.agg e.cs, .bool b] ∧ h' = h) := by
    intro e b
    refine put_get h2 rfl rfl rfl (get_all (by simp; rfl) rfl ?_)
    exact Ret.pure (ho.set (by omega) _) (by simp [AV.und, belows, En.below]) ⟨rfl, rfl⟩
  cases hg : getE f l with
  | none =>
    rw [findI_none hg]
    simp only [abin_int (show BinOp.lss ≠ .shl ∧ BinOp.lss ≠ .shr by decide), aint, some1_some, aif_bool]
    rw [if_pos (by decide), abuild_nil az42]
    exact fin zeroE false
  | some e =>
    obtain ⟨k, h3, h4, h5⟩ := findI_some (i := 0) hg
    rw [Nat.zero_add] at h3
    rw [h3]
    obtain ⟨p, e1, e2, _⟩ := hs'.row h4
    rw [h5] at e2
    simp only [abin_int (show BinOp.lss ≠ .shl ∧ BinOp.lss ≠ .shr by decide), aint, some1_some, aif_bool, e1, e2]
    rw [if_neg (by simp)]
    exact fin e true

/-- Entries but a flow's. -/
def dropE (f : Fl) (l : List En) : List En := l.filter fun e => !decide (e.flow = f)
theorem dropE_cons (f : Fl) (e : En) (r : List En) : dropE f (e :: r) = if e.flow = f then dropE f r else e :: dropE f r := by
  by_cases h : e.flow = f <;> simp [dropE, h]
theorem c40 {h : AHeap} {s : AV} {l : List En} (f : Fl) (hs : ERd h s l) (hl : l.length ≤ 1000000) :
    ACalls Try.prog 40 [s, .agg f.cs] h fun v h' => ELs v (dropE f l) ∧ h' = h := by
  apply T40_calls
  unfold T40
  rw [cells?_agg, some1_some, anew_eq]
  refine aloop (fun m fr hl => Old (h.push (.cells 0 f.cs)) hl ∧ fr 0 = s ∧ fr 3 = .ptr h.next 0 0 ∧ ∃ (i : Nat) (out : List En), fr 6 = .int .i64 i ∧ m + i = l.length ∧ Bd (h.push (.cells 0 f.cs)) hl 8 (fr 5) (ens out) out.length ∧
    out.length ≤ i ∧ out ++ dropE f (l.drop i) = dropE f l) l.length ⟨Old.refl _, by simp, by simp, 0, [], by simp, by omega, by simp; exact .nils, by simp, by simp⟩ ?_
  rintro J hJ m fr hl' ⟨ho, h0, h3, i, out, h6, hm, hb, hle, hd⟩
  have hs' : ERd hl' s l := (hs.push _).old ho
  have hf : hl'.get h.next = some (.cells 0 f.cs) := by rw [ho.get _ (by simp)]; simp
  rw [h0, hs'.len, some1_some, h6]
  simp [aint]
  split
  · rename_i hi
    obtain ⟨p, e1, e2, q, e3, e4, _⟩ := hs'.row hi
    have hld : aloadv true 5 (fr 3) hl' = some (.agg f.cs) := by rw [h3, aload_agg hf (by simp [Fl.cs])]; rfl
    simp [e1, e2, e3, e4, hld, aneq_flow]
    rw [List.drop_eq_getElem_cons hi, dropE_cons] at hd
    split
    · rename_i he
      rw [if_pos he] at hd
      refine hJ (m - 1) (by omega) ⟨ho, by simp [h0], by simp [h3], i + 1, out, by simp; rw [i64_id (by omega) (by omega)], by omega, by simpa using hb, by omega, hd⟩
    · rename_i he
      rw [if_neg he] at hd
      refine alit_en ?_
      refine hb.app1 (bytes := 80) ho rfl (by unfold room; omega) rfl ?_
      intro v' h' b1 o1 _ _
      refine hJ (m - 1) (by omega) ⟨o1, by simp [h0], by simp [h3], i + 1, out ++ [l[i]], by simp; rw [i64_id (by omega) (by omega)], by omega, ?_, by simp; omega, by simpa using hd⟩
      simp only [ens, List.flatMap_append, List.flatMap_cons, List.flatMap_nil, List.append_nil, List.length_append, List.length_cons, List.length_nil, Nat.zero_add]
      simpa using b1
  · have : i = l.length := by omega
    subst this
    have : out = dropE f l := by simpa [dropE] using hd
    subst this
    exact Ret.list (((Old.refl h).push _).trans ho) (hb.weaken (by simp)) (ens_below _ _) fun v' hv => ⟨hv, rfl⟩
end Go.Own.Try

namespace Go.Own.Try
open Go.Own Go.Proofs
set_option maxRecDepth 20000

theorem ens_snoc (l : List En) (e : En) : ens (l ++ [e]) = ens l ++ e.cs := by simp [ens]
/-- One entry more in a list that is being built. -/
theorem app_en {h0 h : AHeap} {v : AV} {out : List En} {e : En} {k : AV × AHeap → Prop} (hb : Bd h0 h 8 v (ens out) out.length) (ho : Old h0 h) (hl : out.length ≤ 10000000)
    (hk : ∀ v' h', Bd h0 h' 8 v' (ens (out ++ [e])) (out ++ [e]).length → Old h0 h' → h.next ≤ h'.next → (∀ j, j < h.next → v.notsl j → h'.get j = h.get j ∧ v'.notsl j) → k (v', h')) :
    alitP Try.prog 27 1 [(0, 8, .agg e.cs)] h fun s h2 => some1 (aappend 8 80 v s h2) k := by
  refine alit_en ?_
  refine hb.app1 (bytes := 80) ho rfl (by unfold room; omega) rfl ?_
  intro v' h' b1 o1 o2 o3
  exact hk v' h' (by rw [ens_snoc]; simpa using b1) o1 o2 o3

/-- An entry, laid into entries in order. -/
def wl (e : En) : Bool → List En → List En
  | done, [] => if done then [] else [e]
  | done, x :: r => if !done && aheadB e.flow x.flow then e :: x :: wl e true r else x :: wl e done r
def withE (e : En) (l : List En) : List En := wl e false (dropE e.flow l)
theorem dropE_length (f : Fl) (l : List En) : (dropE f l).length ≤ l.length := List.length_filter_le _ _

theorem c51 {h : AHeap} {s : AV} {l : List En} (e : En) (hs : ERd h s l) (hl : l.length ≤ 1000000) :
    ACalls Try.prog 51 [s, .agg e.cs] h fun v h' => ELs v (withE e l) ∧ h' = h := by
  apply T51_calls
  unfold T51
  rw [cells?_agg, some1_some, anew_eq]
  have hbox : (h.push (.cells 0 e.cs)).get h.next = some (.cells 0 e.cs) := by simp
  have hnx : (h.push (.cells 0 e.cs)).next = h.next + 1 := rfl
  have hob : Old h (h.push (.cells 0 e.cs)) := (Old.refl h).push _
  have hs1 : ERd (h.push (.cells 0 e.cs)) s l := hs.push _
  generalize h.push (.cells 0 e.cs) = hb0 at *
  rw [afaddr_ptr, some1_some, aload_agg hbox (by simp [En.cs]), some1_some]
  refine acall_of' (by kernel_rfl) ((c40 e.flow hs1 hl).mono ?_)
  rintro r h' ⟨hr, hh⟩
  subst hh
  have hl' : (dropE e.flow l).length ≤ 1000000 := Nat.le_trans (dropE_length _ _) hl
  unfold withE
  generalize dropE e.flow l = l' at *
  refine aloop (fun m fr hl => Old h' hl ∧ fr 0 = r ∧ fr 3 = .ptr h.next 0 0 ∧ ∃ (i : Nat) (out : List En) (done : Bool), fr 7 = .int .i64 i ∧ m + i = l'.length ∧ Bd h' hl 8 (fr 5) (ens out) out.length ∧
    fr 6 = .bool done ∧ out.length ≤ i + done.toNat ∧ out ++ wl e done (l'.drop i) = wl e false l') l'.length
    ⟨Old.refl _, by simp, by simp, 0, [], false, by simp, by omega, by simp; exact .nils, by simp, by simp, by simp⟩ ?_
  rintro J hJ m fr hc ⟨ho, h0, h3, i, out, done, h7, hm, hb, h6, hle, hd⟩
  have hrd : ERd hc r l' := hr.rd
  have hbox' : hc.get h.next = some (.cells 0 e.cs) := by rw [ho.get _ (by omega)]; exact hbox
  have := Bool.toNat_le done
  rw [h0, hrd.len, some1_some, h7, h6]
  refine abin_i (by decide) rfl ?_
  rw [aif_bool]
  split
  · rename_i hi
    simp only [decide_eq_true_eq] at hi
    have hi' : i < l'.length := by omega
    obtain ⟨p, e1, e2, q, e3, e4, _⟩ := hrd.row hi'
    rw [List.drop_eq_getElem_cons hi', wl] at hd
    -- behind the middle
    refine joined (fun fr2 h2 => Old h' h2 ∧ fr2 0 = r ∧ fr2 3 = .ptr h.next 0 0 ∧ ∃ (out2 : List En) (done2 : Bool), fr2 7 = .int .i64 i ∧ Bd h' h2 8 (fr2 5) (ens out2) out2.length ∧
      fr2 6 = .bool done2 ∧ out2.length ≤ i + done2.toNat ∧ out2 ++ l'[i] :: wl e done2 (l'.drop (i + 1)) = wl e false l') ?_ ?_
    · rintro fr2 h2 ⟨ho2, g0, g3, out2, done2, g7, gb, g6, gl, gd⟩
      have hrd2 : ERd h2 r l' := hr.rd
      obtain ⟨p, e1, e2, _⟩ := hrd2.row hi'
      rw [g0, g7, e1, some1_some, e2, some1_some]
      have := Bool.toNat_le done2
      refine app_en gb ho2 (by omega) ?_
      intro v' h'' b1 o1 _ _
      refine abin_i (by decide) rfl ?_
      refine hJ (m - 1) (by omega) ⟨o1, by simp [g0], by simp [g3], i + 1, out2 ++ [l'[i]], done2, ?_, by omega, by simpa using b1, by simp [g6], by simp; omega, by simpa using gd⟩
      simp; rw [i64_id (by omega) (by omega)]
    · intro K hK
      cases done with
      | true =>
        simp [aun]
        refine hK ⟨ho, by simp [h0], by simp [h3], out, true, by simp [h7], by simpa using hb, by simp [h6], hle, ?_⟩
        simpa using hd
      | false =>
        refine some1_of (v := .bool true) rfl ?_
        rw [agrd_bool, if_pos rfl, h3, afaddr_ptr, some1_some, aload_agg hbox' (by simp [En.cs]), some1_some, e1, some1_some, e3, some1_some, e4, some1_some]
        refine acall_q (by kernel_rfl) (c65 e.flow l'[i].flow hc) ?_
        rw [aif_bool]
        split
        · rename_i hah
          refine get_all hbox' rfl ?_
          refine app_en hb ho (by omega) ?_
          intro v' h'' b1 o1 _ _
          refine hK ⟨o1, by simp [h0], by simp [h3], out ++ [e], true, by simp [h7], by simpa using b1, by simp, by simpa using hle, ?_⟩
          simpa [hah] using hd
        · rename_i hah
          refine hK ⟨ho, by simp [h0], by simp [h3], out, false, by simp [h7], by simpa using hb, by simp [h6], hle, ?_⟩
          simpa [hah] using hd
  · have : i = l'.length := by simp at *; omega
    subst this
    rw [List.drop_length, wl] at hd
    cases done with
    | true =>
      simp [aun]
      have hd' : out = wl e false l' := by simpa using hd
      rw [← hd']
      exact Ret.list (hob.trans ho) (hb.weaken (by omega)) (ens_below _ _) fun v' hv => ⟨hv, rfl⟩
    | false =>
      refine some1_of (v := .bool true) rfl ?_
      rw [aif_bool, if_pos rfl, h3]
      refine get_all hbox' rfl ?_
      refine app_en hb ho (by omega) ?_
      intro v' h'' b1 o1 _ _
      have hd' : out ++ [e] = wl e false l' := by simpa using hd
      rw [← hd']
      exact Ret.list (hob.trans o1) (b1.weaken (by omega)) (ens_below _ _) fun v' hv => ⟨hv, rfl⟩
end Go.Own.Try

namespace Go.Own.Try
open Go.Own Go.Proofs
set_option maxRecDepth 20000

theorem ek94 : elKind Try.prog 94 = some (3, 1, 8, [.int .i64 0]) := by kernel_rfl
theorem c50 (s : Int) : Pure 50 [.int .i64 s] (.int .i64 (lifeI s)) := by
  intro h
  apply T50_calls
  unfold T50
  refine lit ek94 (by omega) (cs := [.int .i64 0, .int .i64 60, .int .i64 900, .int .i64 30, .int .i64 120]) rfl ?_
  intro hf hn
  have hg := hn.self
  have ho := hn.old
  have fin : ∀ n : Int, n = lifeI s → Ret h (.int .i64 n) hf fun v h' => v = .int .i64 (lifeI s) ∧ h' = h := fun n hn => Ret.pure ho (by simp [AV.und]) ⟨by rw [hn], rfl⟩
  refine abin_i (by decide) rfl ?_
  rw [agrd_bool]
  split
  · refine abin_i (by decide) rfl ?_
    rw [aif_bool]
    split
    · apply fin; unfold lifeI; simp at *; repeat' split
      all_goals omega
    · rename_i h1 h2
      simp at h1 h2
      have : s = 0 ∨ s = 1 ∨ s = 2 ∨ s = 3 ∨ s = 4 := by omega
      rcases this with rfl | rfl | rfl | rfl | rfl <;> simp [aiaddr, aload_cell hg] <;> exact fin _ rfl
  · apply fin; unfold lifeI; simp at *; repeat' split
    all_goals omega

abbrev wrongB (b n : Int) : Bool := decide (b < 0) || decide (b > 15) || decide (n < 0) || decide (n > 1099511626776)
def openR (l : List En) (e : En) (flags now : Int) : List En × Int :=
  if wrongB e.backend now then (l, 1) else if (getE e.flow l).isNone ∧ 64 ≤ l.length then (l, 100)
  else
    let st := if e.flow.proto = 6 then stepI 1 flags else 4
    (withE { e with state := st, ends := IntKind.i64.wrap (now + lifeI st) } l, 0)

/-- A list and a number are returned. -/
def RetE (h : AHeap) (r : List En × Int) (v : AV) (h' : AHeap) : Prop := ∃ s, v = .tuple [s, .int .i64 r.2] ∧ ELs s r.1 ∧ h' = h
theorem retE {h hf : AHeap} {s : AV} {r : List En × Int} {n : Int} (ho : Old h hf) (hs : ELs s r.1) (hn : n = r.2) : Ret h (.tuple [s, .int .i64 n]) hf (RetE h r) :=
  Ret.pure ho (by simp [AV.und, belows, hs.below (ens_below _ _)]) ⟨s, by rw [hn], hs, rfl⟩
theorem findI_neg {f : Fl} {l : List En} : findI f l 0 < 0 ↔ getE f l = none := by
  cases h : getE f l with
  | none => simp [findI_none h]
  | some e => obtain ⟨k, h1, _⟩ := findI_some (i := 0) h; simp [h1]

theorem c37 {h : AHeap} {s : AV} {l : List En} (e : En) (flags now : Int) (hs : ELs s l) (hl : l.length ≤ 1000000) :
    ACalls Try.prog 37 [s, .agg e.cs, .int .i64 flags, .int .i64 now] h (RetE h (openR l e flags now)) := by
  apply T37_calls
  unfold T37
  refine box rfl ?_
  intro hb nb
  have hbox := nb.self
  have ho := nb.old
  refine fa (get_at hbox rfl ?_)
  refine acall_q (by kernel_rfl) (c48 e.backend now hb) ?_
  rw [aif_bool]
  split
  · rename_i hw
    exact retE ho (by simp only [openR]; rw [if_pos hw]; exact hs) (by simp only [openR]; rw [if_pos hw])
  rename_i hw
  refine fa (get_part hbox (by simp [En.cs]) rfl ?_)
  refine acall_q (by kernel_rfl) (c27 e.flow hs.rd hl) ?_
  refine abin_i (by decide) rfl ?_
  by_cases hfull : (getE e.flow l).isNone ∧ 64 ≤ l.length
  · have hR : openR l e flags now = (l, 100) := by simp only [openR]; rw [if_neg hw, if_pos hfull]
    rw [agrd_bool, if_pos (by simpa [findI_neg] using hfull.1)]
    refine some1_of hs.rd.len ?_
    refine abin_i (by decide) rfl ?_
    rw [aif_bool, if_pos (by have := hfull.2; simp; omega)]
    exact retE ho (by rw [hR]; exact hs) (by rw [hR])
  have hR : openR l e flags now = (withE { e with state := if e.flow.proto = 6 then stepI 1 flags else 4, ends := IntKind.i64.wrap (now + lifeI (if e.flow.proto = 6 then stepI 1 flags else 4)) } l, 0) := by
    simp only [openR]; rw [if_neg hw, if_neg hfull]
  rw [agrd_bool]
  split
  case' isTrue =>
    rename_i hc
    refine some1_of hs.rd.len ?_
    refine abin_i (by decide) rfl ?_
    rw [aif_bool, if_neg (fun hx => hfull ⟨by simpa [findI_neg] using hc, by simp at hx; omega⟩)]
  all_goals
    refine fa ?_
    refine put hbox rfl rfl (cs' := En.cs { e with state := 4 }) rfl (by simp [En.cs]) ?_
    intro h4 u4
    have ho4 := ho.upd (Nat.le_refl _) u4
    refine joined (fun fr hj => Old h hj ∧ fr 0 = s ∧ fr 3 = .int .i64 now ∧ fr 5 = .ptr h.next 0 0 ∧ hj.get h.next = some (.cells 0 (En.cs { e with state := if e.flow.proto = 6 then stepI 1 flags else 4 }))) ?_ ?_
    · rintro fr hj ⟨oj, f0, f3, f5, g⟩
      rw [f0, f3, f5]
      refine fa (get_at g rfl ?_)
      refine acall_q (by kernel_rfl) (c50 _ hj) ?_
      refine abin_i (by decide) rfl ?_
      refine fa (put g rfl rfl (cs' := En.cs { e with state := if e.flow.proto = 6 then stepI 1 flags else 4, ends := IntKind.i64.wrap (now + lifeI (if e.flow.proto = 6 then stepI 1 flags else 4)) }) rfl (by simp [En.cs]) ?_)
      intro h5 u5
      have ho5 := oj.upd (Nat.le_refl _) u5
      refine get_all u5.self rfl ?_
      refine acall_of' (by kernel_rfl) ((c51 _ hs.rd hl).mono ?_)
      rintro r h6 ⟨hr, rfl⟩
      exact retE ho5 (by rw [hR]; exact hr) (by rw [hR])
    · intro K hK
      refine fa (fa (get_at u4.self rfl ?_))
      refine abin_i (by decide) rfl ?_
      rw [aif_bool]
      split
      · rename_i hp
        have hp' : e.flow.proto = 6 := by simpa using hp
        refine acall_q (by kernel_rfl) (c49 1 flags h4) ?_
        refine fa (put u4.self rfl rfl (cs' := En.cs { e with state := stepI 1 flags }) rfl (by simp [En.cs]) ?_)
        intro h5 u5
        exact hK ⟨ho4.upd (Nat.le_refl _) u5, by simp, by simp, by simp, by rw [if_pos hp']; exact u5.self⟩
      · rename_i hp
        have hp' : ¬ e.flow.proto = 6 := by simpa using hp
        exact hK ⟨ho4, by simp, by simp, by simp, by rw [if_neg hp']; exact u4.self⟩
end Go.Own.Try

namespace Go.Own.Try
open Go.Own Go.Proofs
set_option maxRecDepth 20000

def putR (l : List En) (e : En) (now : Int) : List En × Int :=
  if wrongB e.backend now ∨ e.state < 1 ∨ e.state > 4 ∨ e.ends < 0 ∨ e.ends > 1099511627776 then (l, 1)
  else if (getE e.flow l).isNone ∧ 64 ≤ l.length then (l, 100)
  else if e.ends ≤ now then (dropE e.flow l, 101)
  else (withE e l, 0)

theorem c39 {h : AHeap} {s : AV} {l : List En} (e : En) (now : Int) (hs : ELs s l) (hl : l.length ≤ 1000000) :
    ACalls Try.prog 39 [s, .agg e.cs, .int .i64 now] h (RetE h (putR l e now)) := by
  apply T39_calls
  unfold T39
  refine box rfl ?_
  intro hb nb
  have hbox := nb.self
  have ho := nb.old
  have bad : (wrongB e.backend now ∨ e.state < 1 ∨ e.state > 4 ∨ e.ends < 0 ∨ e.ends > 1099511627776) → Ret h (.tuple [s, .int .i64 1]) hb (RetE h (putR l e now)) := by
    intro hw
    have hR : putR l e now = (l, 1) := by unfold putR; rw [if_pos hw]
    exact retE ho (by rw [hR]; exact hs) (by rw [hR])
  refine fa (get_at hbox rfl ?_)
  refine acall_q (by kernel_rfl) (c48 e.backend now hb) ?_
  rw [agrd_bool]
  split
  rotate_left
  · rename_i hc; exact bad (.inl (eq_true_of_ne_false hc))
  rename_i h1
  refine fa (get_at hbox rfl ?_)
  refine abin_i (by decide) rfl ?_
  rw [agrd_bool]
  split
  rotate_left
  · rename_i hc; exact bad (.inr (.inl (by simpa using hc)))
  rename_i h2
  refine fa (get_at hbox rfl ?_)
  refine abin_i (by decide) rfl ?_
  rw [agrd_bool]
  split
  rotate_left
  · rename_i hc; exact bad (.inr (.inr (.inl (by simpa using hc))))
  rename_i h3
  refine fa (get_at hbox rfl ?_)
  refine abin_i (by decide) rfl ?_
  rw [agrd_bool]
  split
  rotate_left
  · rename_i hc; exact bad (.inr (.inr (.inr (.inl (by simpa using hc)))))
  rename_i h4
  refine fa (get_at hbox rfl ?_)
  refine abin_i (by decide) rfl ?_
  rw [aif_bool]
  split
  · rename_i hc; exact bad (.inr (.inr (.inr (.inr (by simpa using hc)))))
  rename_i h5
  have hgood : ¬ (wrongB e.backend now ∨ e.state < 1 ∨ e.state > 4 ∨ e.ends < 0 ∨ e.ends > 1099511627776) := by
    rintro (h | h | h | h | h)
    · exact Bool.noConfusion (h.symm.trans h1)
    all_goals simp at *; omega
  refine fa (get_part hbox (by simp [En.cs]) rfl ?_)
  refine acall_q (by kernel_rfl) (c27 e.flow hs.rd hl) ?_
  refine abin_i (by decide) rfl ?_
  by_cases hfull : (getE e.flow l).isNone ∧ 64 ≤ l.length
  · have hR : putR l e now = (l, 100) := by unfold putR; rw [if_neg hgood, if_pos hfull]
    rw [agrd_bool, if_pos (by simpa [findI_neg] using hfull.1)]
    refine some1_of hs.rd.len ?_
    refine abin_i (by decide) rfl ?_
    rw [aif_bool, if_pos (by have := hfull.2; simp; omega)]
    exact retE ho (by rw [hR]; exact hs) (by rw [hR])
  rw [agrd_bool]
  split
  case' isTrue =>
    rename_i hc
    refine some1_of hs.rd.len ?_
    refine abin_i (by decide) rfl ?_
    rw [aif_bool, if_neg (fun hx => hfull ⟨by simpa [findI_neg] using hc, by simp at hx; omega⟩)]
  all_goals
    refine fa (get_at hbox rfl ?_)
    refine abin_i (by decide) rfl ?_
    rw [aif_bool]
    split
    · rename_i hn
      have hR : putR l e now = (dropE e.flow l, 101) := by unfold putR; rw [if_neg hgood, if_neg hfull, if_pos (by simpa using hn)]
      refine fa (get_part hbox (by simp [En.cs]) rfl ?_)
      refine acall_of' (by kernel_rfl) ((c40 e.flow hs.rd hl).mono ?_)
      rintro r h6 ⟨hr, rfl⟩
      exact retE ho (by rw [hR]; exact hr) (by rw [hR])
    · rename_i hn
      have hR : putR l e now = (withE e l, 0) := by unfold putR; rw [if_neg hgood, if_neg hfull, if_neg (by simpa using hn)]
      refine get_all hbox rfl ?_
      refine acall_of' (by kernel_rfl) ((c51 e hs.rd hl).mono ?_)
      rintro r h6 ⟨hr, rfl⟩
      exact retE ho (by rw [hR]; exact hr) (by rw [hR])

theorem wl_ne (e : En) : ∀ (b : Bool) (l : List En), (b = false ∨ l ≠ []) → wl e b l ≠ []
  | false, [], _ => by simp [wl]
  | true, [], h => by simp at h
  | b, x :: r, _ => by unfold wl; split <;> simp
theorem withE_ne (e : En) (l : List En) : withE e l ≠ [] := wl_ne e false _ (.inl rfl)
theorem ELs.lst {s : AV} {l : List En} (h : ELs s l) (hn : l ≠ []) : s = .lst (ens l) l.length := Ls.eq h fun e => hn (List.length_eq_zero_iff.1 e)

def seeR (l : List En) (f : Fl) (flags now : Int) : List En × En × Bool :=
  match getE f l with
  | none => (l, zeroE, false)
  | some e => if wrongB 0 now then (l, zeroE, false) else
    let e' := { e with state := stepI e.state flags, ends := IntKind.i64.wrap (now + lifeI (stepI e.state flags)) }
    (withE e' l, e', true)
def RetS (h : AHeap) (r : List En × En × Bool) (v : AV) (h' : AHeap) : Prop := ∃ s, v = .tuple [s, .agg r.2.1.cs, .bool r.2.2] ∧ ELs s r.1 ∧ h' = h
theorem retS {h hf : AHeap} {s : AV} {r : List En × En × Bool} {e : En} {b : Bool} (ho : Old h hf) (hs : ELs s r.1) (he : e = r.2.1) (hn : b = r.2.2) : Ret h (.tuple [s, .agg e.cs, .bool b]) hf (RetS h r) :=
  Ret.pure ho (by simp [AV.und, belows, hs.below (ens_below _ _), En.below]) ⟨s, by rw [hn, he], hs, rfl⟩

theorem c38 {h : AHeap} {s : AV} {l : List En} (f : Fl) (flags now : Int) (hs : ELs s l) (hl : l.length ≤ 1000000) :
    ACalls Try.prog 38 [s, .agg f.cs, .int .i64 flags, .int .i64 now] h (RetS h (seeR l f flags now)) := by
  apply T38_calls
  unfold T38
  refine box rfl ?_
  intro h1 n1
  refine var az42 ?_
  intro h2 n2
  have g1 : h2.get h.next = some (.cells 0 f.cs) := by rw [n2.other _ (by rw [n1.next]; omega)]; exact n1.self
  have o2 := n1.old.trans n2.old
  refine get_all g1 rfl ?_
  refine acall_q (by kernel_rfl) (c15 f hs.rd hl) ?_
  refine ext rfl (ext rfl ?_)
  refine var az42 ?_
  intro h3 n3
  have x1 := n1.next
  have x2 := n2.next
  refine puts n3.self rfl rfl (splice_all rfl) (by decide) ?_
  intro h4 u4
  have o4 : Old h h4 := (o2.trans n3.old).upd (by omega) u4
  have g9 : h4.get h1.next = some (.cells 0 zeroE.cs) := by rw [u4.other _ (by omega), n3.other _ (by omega)]; exact n2.self
  refine some1_of rfl ?_
  rw [agrd_bool]
  have none_ : ∀ hx, Old h hx → hx.get h1.next = some (.cells 0 zeroE.cs) → seeR l f flags now = (l, zeroE, false) → abuildP Try.prog 42 [] (fun v26 => some1 (astorev 8 (.ptr h1.next 0 0) v26 hx) fun h7 => some1 (aloadv true 8 (.ptr h1.next 0 0) h7) fun w => Ret h (.tuple [s, w, .bool false]) h7 (RetS h (seeR l f flags now))) := by
    intro hx ox gx hR
    rw [abuild_nil az42]
    refine puts gx rfl rfl (splice_all rfl) (by decide) ?_
    intro h7 u7
    refine get_all u7.self rfl ?_
    exact retS (ox.upd (by omega) u7) (by rw [hR]; exact hs) (by rw [hR]) (by rw [hR])
  cases hg : getE f l with
  | none =>
    rw [if_neg (by simp)]
    exact none_ h4 o4 g9 (by unfold seeR; rw [hg])
  | some e =>
    rw [if_pos (by simp)]
    rw [hg] at u4
    refine acall_q (by kernel_rfl) (c48 0 now h4) ?_
    rw [aif_bool]
    split
    · rename_i hw
      exact none_ h4 o4 g9 (by unfold seeR; rw [hg]; exact if_pos hw)
    · rename_i hw
      have hR : seeR l f flags now = (withE { e with state := stepI e.state flags, ends := IntKind.i64.wrap (now + lifeI (stepI e.state flags)) } l, { e with state := stepI e.state flags, ends := IntKind.i64.wrap (now + lifeI (stepI e.state flags)) }, true) := by
        unfold seeR; rw [hg]; exact if_neg hw
      refine fa (get_at u4.self rfl ?_)
      refine acall_q (by kernel_rfl) (c49 _ flags h4) ?_
      refine fa (put u4.self rfl rfl (cs' := En.cs { e with state := stepI e.state flags }) rfl (by simp [En.cs]) ?_)
      intro h5 u5
      refine fa (get_at u5.self rfl ?_)
      refine acall_q (by kernel_rfl) (c50 _ h5) ?_
      refine abin_i (by decide) rfl ?_
      refine fa (put u5.self rfl rfl (cs' := En.cs { e with state := stepI e.state flags, ends := IntKind.i64.wrap (now + lifeI (stepI e.state flags)) }) rfl (by simp [En.cs]) ?_)
      intro h6 u6
      have o6 : Old h h6 := (o4.upd (by omega) u5).upd (by omega) u6
      refine get_all u6.self rfl ?_
      refine aqcall_of ((c51 _ hs.rd hl).mono fun v h' ⟨a, b⟩ => ⟨ELs.lst a (withE_ne _ _), b⟩) ?_
      refine get_all u6.self rfl ?_
      have g9' : h6.get h1.next = some (.cells 0 zeroE.cs) := by rw [u6.other _ (by omega), u5.other _ (by omega)]; exact g9
      refine puts g9' rfl rfl (splice_all rfl) (by decide) ?_
      intro h7 u7
      refine get_all u7.self rfl ?_
      exact retS (o6.upd (by omega) u7) (by rw [hR]; exact Ls.lst (ens_len _)) (by rw [hR]) (by rw [hR])
end Go.Own.Try

namespace Go.Own.Try
open Go.Own Go.Proofs
set_option maxRecDepth 20000

/-- An entry, laid behind all that do not end later. -/
def il (e : En) : Bool → List En → List En
  | done, [] => if done then [] else [e]
  | done, x :: r => if !done && decide (x.ends > e.ends) then e :: x :: il e true r else x :: il e done r
theorem il_length (e : En) : ∀ (b : Bool) (l : List En), (il e b l).length = l.length + (!b).toNat
  | true, [] => by simp [il]
  | false, [] => by simp [il]
  | true, x :: r => by simp [il, il_length]
  | false, x :: r => by
    simp only [il]
    split <;> simp [il_length] <;> omega
def exL (now : Int) (l : List En) : List En := l.filter fun e => decide (e.ends > now)
def exO (now : Int) : List En → List En → List En
  | out, [] => out
  | out, e :: r => if e.ends > now then exO now out r else exO now (il e false out) r
theorem exL_cons (now : Int) (e : En) (r : List En) : exL now (e :: r) = if e.ends > now then e :: exL now r else exL now r := by
  by_cases h : e.ends > now <;> simp [exL, h]

/-- Two lists are returned. -/
theorem ret2 {h0 h : AHeap} {u v : AV} {l m : List En} {Q : AV → AHeap → Prop} (ho : Old h0 h) (hu : Bd h0 h 8 u (ens l) l.length) (hv : Bd h0 h 8 v (ens m) m.length) (hs : Sep u v) (hq : ∀ a b, ELs a l → ELs b m → Q (.tuple [a, b]) h0) : Ret h0 (.tuple [u, v]) h Q := by
  have one : ∀ {u v : AV} {l m : List En} {h : AHeap} {mk : AV → AV → AV}, Old h0 h → Ls 8 u (ens l) l.length → Bd h0 h 8 v (ens m) m.length → (∀ b, ELs b m → Q (.tuple [u, b]) h0) → Ret h0 (.tuple [u, v]) h Q := by
    intro u v l m h _ ho hu hv hq
    generalize hc : ens m = cs at hv
    generalize hn : m.length = n at hv
    have hb : belows h0.next cs := hc ▸ ens_below _ _
    cases hv with
    | nils =>
      refine Ret.pure ho (by simp [AV.und, belows, hu.below (ens_below _ _)]) (hq _ ?_)
      show Ls 8 _ (ens m) m.length
      rw [hc, hn]; exact .nils
    | @sl i r n cs h1 h2 h3 h4 =>
      refine .via (Weak.freeze h3) ?_
      have e2 : u.fz i r cs = u := hu.fz
      have e1 : (AV.tuple [u, .sl i r 0 n 8]).fz i r cs = .tuple [u, .lst cs n] := by
        simp only [AV.fz, fzs, true_and, e2]
        rw [if_pos (by omega), List.drop_zero, List.take_of_length_le (by omega)]
      rw [e1]
      refine .pure ⟨ho.next, fun j hj => ?_⟩ (by simp [AV.und, belows, hu.below (ens_below _ _), hb]) (hq _ ?_)
      · rw [AHeap.get_drop, if_neg (by omega)]; exact ho.get j hj
      · show Ls 8 _ (ens m) m.length
        rw [hc, hn]; exact .lst h4
  generalize hc : ens l = cs at hu
  generalize hn : l.length = n at hu
  cases hu with
  | nils => exact one (mk := fun _ _ => .junk) (l := l) ho (by rw [hc, hn]; exact .nils) hv fun b hb => hq _ b (show Ls 8 _ (ens l) l.length by rw [hc, hn]; exact .nils) hb
  | @sl i r n cs h1 h2 h3 h4 =>
    refine .via (Weak.freeze h3) ?_
    have e2 : v.fz i r cs = v := hv.fz (hs _ _ _ _ _ rfl)
    have e1 : (AV.tuple [.sl i r 0 n 8, v]).fz i r cs = .tuple [.lst cs n, v] := by
      simp only [AV.fz, fzs, true_and, e2]
      rw [if_pos (by omega), List.drop_zero, List.take_of_length_le (by omega)]
    rw [e1]
    have hl : Ls 8 (.lst cs n) (ens l) l.length := by rw [hc, hn]; exact .lst h4
    refine one (mk := fun _ _ => .junk) (l := l) ⟨ho.next, fun j hj => ?_⟩ hl (hv.frame (Nat.le_refl _) fun j hj hj2 r2 n2 e => ?_) fun b hb => hq _ b hl hb
    · rw [AHeap.get_drop, if_neg (by omega)]; exact ho.get j hj
    · rw [AHeap.get_drop, if_neg]
      rintro rfl
      exact hs _ _ _ _ _ rfl _ _ _ _ e

theorem c41 {h : AHeap} {s : AV} {l : List En} (now : Int) (hs : ELs s l) (hl : l.length ≤ 1000000) :
    ACalls Try.prog 41 [s, .int .i64 now] h fun v h' => ∃ a b, v = .tuple [a, b] ∧ ELs a (exL now l) ∧ ELs b (exO now [] l) ∧ h' = h := by
  apply T41_calls
  unfold T41
  refine aloop (fun m fr hl => Old h hl ∧ fr 0 = s ∧ fr 1 = .int .i64 now ∧ ∃ (i : Nat) (left out : List En), fr 8 = .int .i64 i ∧ m + i = l.length ∧ Bd h hl 8 (fr 6) (ens left) left.length ∧ Bd h hl 8 (fr 7) (ens out) out.length ∧
    Sep (fr 6) (fr 7) ∧ left.length ≤ i ∧ out.length ≤ i ∧ left ++ exL now (l.drop i) = exL now l ∧ exO now out (l.drop i) = exO now [] l) l.length
    ⟨Old.refl _, by simp, by simp, 0, [], [], by simp, by omega, by simp; exact .nils, by simp; exact .nils, by simp; exact Sep.nil, by simp, by simp, by simp, by simp⟩ ?_
  rintro J hJ m fr hc ⟨ho, h0, h1, i, left, out, h8, hm, hbl, hbo, hsep, hll, hlo, hd, hd'⟩
  have hrd : ERd hc s l := hs.rd
  rw [h0, hrd.len, some1_some, h8, h1]
  refine abin_i (by decide) rfl ?_
  rw [aif_bool]
  split
  · rename_i hi
    simp only [decide_eq_true_eq] at hi
    have hi' : i < l.length := by omega
    obtain ⟨p, e1, e2, _, _, _, q, e3, e4⟩ := hrd.row hi'
    rw [List.drop_eq_getElem_cons hi', exL_cons] at hd
    rw [List.drop_eq_getElem_cons hi', exO] at hd'
    rw [e1, some1_some, e3, some1_some, e4, some1_some]
    refine abin_i (by decide) rfl ?_
    rw [aif_bool]
    split
    · rename_i hgt
      have hgt' : l[i].ends > now := by simpa using hgt
      rw [if_pos hgt'] at hd hd'
      rw [some1_some, e2, some1_some]
      refine app_en hbl ho (by omega) ?_
      intro v' h' b1 o1 o2 o3
      obtain ⟨b2, s2⟩ := hbo.other hsep.symm o2 o3
      refine abin_i (by decide) rfl ?_
      refine hJ (m - 1) (by omega) ⟨o1, by simp [h0], by simp [h1], i + 1, left ++ [l[i]], out, ?_, by omega, by simpa using b1, by simpa using b2, by simpa using s2.symm, by simp; omega, by omega, by simpa using hd, hd'⟩
      simp; rw [i64_id (by omega) (by omega)]
    · rename_i hgt
      have hgt' : ¬ l[i].ends > now := by simpa using hgt
      rw [if_neg hgt'] at hd hd'
      have hil := il_length l[i] false out
      -- the inner loop
      refine aloop (fun m fr hl => Old h hl ∧ fr 0 = s ∧ fr 1 = .int .i64 now ∧ fr 8 = .int .i64 i ∧ Bd h hl 8 (fr 6) (ens left) left.length ∧ Bd h hl 8 (fr 7) (ens out) out.length ∧ Sep (fr 6) (fr 9) ∧ Sep (fr 7) (fr 9) ∧
        ∃ (k : Nat) (nx : List En) (done : Bool), fr 11 = .int .i64 k ∧ m + k = out.length ∧ Bd h hl 8 (fr 9) (ens nx) nx.length ∧ fr 10 = .bool done ∧ nx.length ≤ k + done.toNat ∧ nx ++ il l[i] done (out.drop k) = il l[i] false out) out.length
        ⟨ho, by simp [h0], by simp [h1], by simp [h8], by simpa using hbl, by simpa using hbo, by simp; exact Sep.nil, by simp; exact Sep.nil, 0, [], false, by simp, by omega, by simp; exact .nils, by simp, by simp, by simp⟩ ?_
      rintro J2 hJ2 m2 fr2 hc2 ⟨ho2, f0, f1, f8, bl, bo, sl, so, k, nx, done, f11, hm2, bn, f10, hnx, hdn⟩
      have hdb := Bool.toNat_le done
      have hrd2 : ERd hc2 s l := hs.rd
      obtain ⟨p, e1, e2, _, _, _, q, e3, e4⟩ := hrd2.row hi'
      have hro : ERd hc2 (fr2 7) out := bo.rd
      rw [f0, f8, f11, f10, hro.len, some1_some]
      refine abin_i (by decide) rfl ?_
      rw [aif_bool]
      split
      · rename_i hk
        simp only [decide_eq_true_eq] at hk
        have hk' : k < out.length := by omega
        obtain ⟨p2, e12, e22, _, _, _, q2, e32, e42⟩ := hro.row hk'
        rw [List.drop_eq_getElem_cons hk', il] at hdn
        refine joined (fun fr3 h3 => Old h h3 ∧ fr3 0 = s ∧ fr3 1 = .int .i64 now ∧ fr3 8 = .int .i64 i ∧ Bd h h3 8 (fr3 6) (ens left) left.length ∧ Bd h h3 8 (fr3 7) (ens out) out.length ∧ Sep (fr3 6) (fr3 9) ∧ Sep (fr3 7) (fr3 9) ∧
          ∃ (nx3 : List En) (done3 : Bool), fr3 11 = .int .i64 k ∧ Bd h h3 8 (fr3 9) (ens nx3) nx3.length ∧ fr3 10 = .bool done3 ∧ nx3.length ≤ k + done3.toNat ∧ nx3 ++ out[k] :: il l[i] done3 (out.drop (k + 1)) = il l[i] false out) ?_ ?_
        · rintro fr3 h3 ⟨o3, g0, g1, g8, gl, go, tl, to_, nx3, done3, g11, gn, g10, glen, gd⟩
          have hdb3 := Bool.toNat_le done3
          have hro3 : ERd h3 (fr3 7) out := go.rd
          obtain ⟨p3, e13, e23, _⟩ := hro3.row hk'
          rw [g11, e13, some1_some, e23, some1_some]
          refine app_en gn o3 (by omega) ?_
          intro v' h' b1 o1 o2 o3
          obtain ⟨b2, s2⟩ := gl.other tl o2 o3
          obtain ⟨b3, s3⟩ := go.other to_ o2 o3
          refine abin_i (by decide) rfl ?_
          refine hJ2 (m2 - 1) (by omega) ⟨o1, by simp [g0], by simp [g1], by simp [g8], by simpa using b2, by simpa using b3, by simpa using s2, by simpa using s3, k + 1, nx3 ++ [out[k]], done3, ?_, by omega, by simpa using b1, by simp [g10], by simp; omega, by simpa using gd⟩
          simp; rw [i64_id (by omega) (by omega)]
        · intro K hK
          refine some1_of (v := .bool !done) rfl ?_
          cases done with
          | true =>
            rw [agrd_bool, if_neg (by decide)]
            refine hK ⟨ho2, by simp [f0], by simp [f1], by simp [f8], by simpa using bl, by simpa using bo, by simpa using sl, by simpa using so, nx, true, by simp [f11], by simpa using bn, by simp [f10], hnx, by simpa using hdn⟩
          | false =>
            rw [agrd_bool, if_pos (by decide), e12, some1_some, e32, some1_some, e42, some1_some, e1, some1_some, e3, some1_some, e4, some1_some]
            refine abin_i (by decide) rfl ?_
            rw [aif_bool]
            split
            · rename_i hgt2
              rw [some1_some, e2, some1_some]
              refine app_en bn ho2 (by omega) ?_
              intro v' h' b1 o1 o2 o3
              obtain ⟨b2, s2⟩ := bl.other sl o2 o3
              obtain ⟨b3, s3⟩ := bo.other so o2 o3
              refine hK ⟨o1, by simp [f0], by simp [f1], by simp [f8], by simpa using b2, by simpa using b3, by simpa using s2, by simpa using s3, nx ++ [l[i]], true, by simp [f11], by simpa using b1, by simp, by simpa using hnx, ?_⟩
              rw [if_pos (by simpa using hgt2)] at hdn
              simpa using hdn
            · rename_i hgt2
              refine hK ⟨ho2, by simp [f0], by simp [f1], by simp [f8], by simpa using bl, by simpa using bo, by simpa using sl, by simpa using so, nx, false, by simp [f11], by simpa using bn, by simp [f10], hnx, ?_⟩
              rw [if_neg (by simpa using hgt2)] at hdn
              exact hdn
      · have hk' : k = out.length := by simp at *; omega
        subst hk'
        rw [List.drop_length, il] at hdn
        refine some1_of (v := .bool !done) rfl ?_
        cases done with
        | true =>
          have hdn' : nx = il l[i] false out := by simpa using hdn
          rw [aif_bool, if_neg (by decide)]
          refine abin_i (by decide) rfl ?_
          refine hJ (m - 1) (by omega) ⟨ho2, by simp [f0], by simp [f1], i + 1, left, nx, ?_, by omega, by simpa using bl, by simpa using bn, by simpa using sl, by omega, by rw [hdn', hil]; simp; omega, hd, by rw [hdn']; exact hd'⟩
          simp; rw [i64_id (by omega) (by omega)]
        | false =>
          have hdn' : nx ++ [l[i]] = il l[i] false out := by simpa using hdn
          rw [aif_bool, if_pos (by decide), e1, some1_some, e2, some1_some]
          refine app_en bn ho2 (by omega) ?_
          intro v' h' b1 o1 o2 o3
          obtain ⟨b2, s2⟩ := bl.other sl o2 o3
          refine abin_i (by decide) rfl ?_
          refine hJ (m - 1) (by omega) ⟨o1, by simp [f0], by simp [f1], i + 1, left, nx ++ [l[i]], ?_, by omega, by simpa using b2, by simpa using b1, by simpa using s2, by omega, by rw [hdn', hil]; simp; omega, hd, by rw [hdn']; exact hd'⟩
          simp; rw [i64_id (by omega) (by omega)]
  · have : i = l.length := by simp at *; omega
    subst this
    have hd1 : left = exL now l := by simpa [exL] using hd
    have hd2 : out = exO now [] l := by rw [List.drop_length, exO] at hd'; exact hd'
    subst hd1
    subst hd2
    exact ret2 ho hbl hbo hsep fun a b ha hb => ⟨a, b, rfl, ha, hb, rfl⟩
end Go.Own.Try

namespace Go.Own.Try
open Go.Own Go.Proofs
set_option maxRecDepth 20000

structure Opn where
  kind : Int
  flags : Int
  now : Int
  e : En
def Opn.cs (o : Opn) : List AV := [.int .i64 o.kind, .int .i64 o.flags, .int .i64 o.now, .int .i64 o.e.flow.proto, .str o.e.flow.src, .str o.e.flow.dst, .int .i64 o.e.flow.port, .int .i64 o.e.flow.dest, .int .i64 o.e.backend, .int .i64 o.e.state, .int .i64 o.e.ends]
structure Ans where
  e : Int
  seen : En
  l : List En
  deriving DecidableEq
def ansC (e : Int) (s : En) (x : AV) : List AV := [.int .i64 e, .int .i64 s.flow.proto, .str s.flow.src, .str s.flow.dst, .int .i64 s.flow.port, .int .i64 s.flow.dest, .int .i64 s.backend, .int .i64 s.state, .int .i64 s.ends, x]
theorem az50 : azero Try.prog 50 = some (ansC 0 zeroE .nils) := by kernel_rfl
def doR (l : List En) (o : Opn) : List En × Ans :=
  if o.kind = 0 then let r := openR l ⟨o.e.flow, o.e.backend, 0, 0⟩ o.flags o.now; (r.1, ⟨r.2, zeroE, []⟩)
  else if o.kind = 1 then let r := seeR l o.e.flow o.flags o.now; (r.1, ⟨if r.2.2 then 0 else 1, r.2.1, []⟩)
  else if o.kind = 2 then let r := putR l o.e o.now; (r.1, ⟨r.2, zeroE, []⟩)
  else if o.kind = 3 then (dropE o.e.flow l, ⟨if (getE o.e.flow l).isNone then 1 else 0, zeroE, []⟩)
  else if o.kind = 4 then (exL o.now l, ⟨0, zeroE, exO o.now [] l⟩)
  else (l, ⟨0, zeroE, []⟩)
/-- The answer that a value bears. -/
def AnsV (v : AV) (a : Ans) : Prop := ∃ x, v = .agg (ansC a.e a.seen x) ∧ ELs x a.l
def RetD (h : AHeap) (r : List En × Ans) (v : AV) (h' : AHeap) : Prop := ∃ s w, v = .tuple [s, w] ∧ ELs s r.1 ∧ AnsV w r.2 ∧ h' = h
theorem c22 {h : AHeap} {s : AV} {l : List En} (o : Opn) (hs : ELs s l) (hl : l.length ≤ 1000000) : ACalls Try.prog 22 [s, .agg o.cs] h (RetD h (doR l o)) := by
  apply T22_calls
  unfold T22
  refine box rfl ?_
  intro h1 n1
  refine var az50 ?_
  intro h2 n2
  refine var az50 ?_
  intro h3 n3
  have x1 := n1.next
  have x2 := n2.next
  have x3 := n3.next
  have o3 : Old h h3 := (n1.old.trans n2.old).trans n3.old
  have g3 : h3.get h.next = some (.cells 0 o.cs) := by rw [n3.other _ (by omega), n2.other _ (by omega)]; exact n1.self
  have g5 : h3.get h1.next = some (.cells 0 (ansC 0 zeroE .nils)) := by rw [n3.other _ (by omega)]; exact n2.self
  have g6 : h3.get h2.next = some (.cells 0 (ansC 0 zeroE .nils)) := n3.self
  have fin : ∀ {hx : AHeap} {v x : AV} {e : Int} {sn : En} {l' : List En} {a : Ans}, doR l o = (l', a) → Old h hx → hx.get h2.next = some (.cells 0 (ansC e sn x)) → hx.get h1.next = some (.cells 0 (ansC 0 zeroE .nils)) → ELs v l' → e = a.e → sn = a.seen → ELs x a.l →
      some1 (aloadv true 10 (.ptr h2.next 0 0) hx) fun v89 => some1 (astorev 10 (.ptr h1.next 0 0) v89 hx) fun h6 => some1 (aloadv true 10 (.ptr h1.next 0 0) h6) fun w => Ret h (.tuple [v, w]) h6 (RetD h (doR l o)) := by
    intro hx v x e sn l' a hR ox gx gy hv he hsn hxl
    refine get_all gx rfl ?_
    refine puts gy rfl (by have := hxl.scalar; simp only [ansC, List.all_cons, List.all_nil, this]; rfl) (splice_all rfl) (by decide) ?_
    intro h7 u7
    refine get_all u7.self rfl ?_
    rw [hR]
    exact Ret.pure (ox.upd (by omega) u7) (by simp [AV.und, belows, ansC, hv.below (ens_below _ _), hxl.below (ens_below _ _)]) ⟨v, _, rfl, hv, ⟨x, by rw [he, hsn], hxl⟩, rfl⟩
  refine fa (get_at g3 rfl ?_)
  refine abin_i (by decide) rfl ?_
  rw [aif_bool]
  split
  · rename_i hk
    have hk : o.kind = 0 := by simpa using hk
    refine fa (fa (get_part g3 (by simp [Opn.cs]) rfl ?_))
    refine fa (fa (get_at g3 rfl ?_))
    refine build az42 (cs := En.cs ⟨o.e.flow, o.e.backend, 0, 0⟩) rfl ?_
    refine fa (get_at g3 rfl (fa (get_at g3 rfl ?_)))
    refine acall_of' (by kernel_rfl) ((c37 ⟨o.e.flow, o.e.backend, 0, 0⟩ o.flags o.now hs hl).mono ?_)
    rintro _ h4 ⟨r, rfl, hr, hh⟩
    obtain rfl := hh.symm
    refine ext rfl (ext rfl (fa ?_))
    refine put g6 rfl rfl (cs' := ansC (openR l ⟨o.e.flow, o.e.backend, 0, 0⟩ o.flags o.now).2 zeroE .nils) rfl (by decide) ?_
    intro h5 u5
    exact fin (by unfold doR; rw [if_pos hk]) (o3.upd (by omega) u5) u5.self (by rw [u5.other _ (by omega)]; exact g5) hr rfl rfl .nils
  rename_i k0
  have k0 : ¬ o.kind = 0 := by simpa using k0
  refine abin_i (by decide) rfl ?_
  rw [aif_bool]
  split
  · rename_i hk
    have hk : o.kind = 1 := by simpa using hk
    refine fa (fa (get_part g3 (by simp [Opn.cs]) rfl ?_))
    refine fa (get_at g3 rfl (fa (get_at g3 rfl ?_)))
    refine acall_of' (by kernel_rfl) ((c38 o.e.flow o.flags o.now hs hl).mono ?_)
    rintro _ h4 ⟨r, rfl, hr, hh⟩
    obtain rfl := hh.symm
    have hR : doR l o = ((seeR l o.e.flow o.flags o.now).1, ⟨if (seeR l o.e.flow o.flags o.now).2.2 then 0 else 1, (seeR l o.e.flow o.flags o.now).2.1, []⟩) := by unfold doR; rw [if_neg k0, if_pos hk]
    generalize seeR l o.e.flow o.flags o.now = sr at *
    refine ext rfl (ext rfl (ext rfl ?_))
    refine var az42 ?_
    intro h5 n5
    have x5 := n5.next
    refine puts n5.self rfl rfl (splice_all rfl) (by decide) ?_
    intro h6 u6
    refine get_all u6.self rfl ?_
    have g6' : h6.get h2.next = some (.cells 0 (ansC 0 zeroE .nils)) := by rw [u6.other _ (by omega), n5.other _ (by omega)]; exact g6
    have g5' : h6.get h1.next = some (.cells 0 (ansC 0 zeroE .nils)) := by rw [u6.other _ (by omega), n5.other _ (by omega)]; exact g5
    have o6 : Old h h6 := (o3.trans n5.old).upd (by omega) u6
    refine fa (puts g6' rfl rfl (cs' := ansC 0 sr.2.1 .nils) rfl (by decide) ?_)
    intro h7 u7
    have o7 : Old h h7 := o6.upd (by omega) u7
    refine some1_of (v := .bool !sr.2.2) rfl ?_
    rw [aif_bool]
    split
    · rename_i hb
      have hb : sr.2.2 = false := by simpa using hb
      refine fa (put u7.self rfl rfl (cs' := ansC 1 sr.2.1 .nils) rfl (by simp [ansC]) ?_)
      intro h8 u8
      exact fin hR (o7.upd (by omega) u8) u8.self (by rw [u8.other _ (by omega), u7.other _ (by omega)]; exact g5') hr (by simp [hb]) rfl .nils
    · rename_i hb
      have hb : sr.2.2 = true := by simpa using hb
      exact fin hR o7 u7.self (by rw [u7.other _ (by omega)]; exact g5') hr (by simp [hb]) rfl .nils
  rename_i k1
  have k1 : ¬ o.kind = 1 := by simpa using k1
  refine abin_i (by decide) rfl ?_
  rw [aif_bool]
  split
  · rename_i hk
    have hk : o.kind = 2 := by simpa using hk
    refine fa (get_part g3 (by simp [Opn.cs]) rfl ?_)
    refine fa (get_at g3 rfl ?_)
    refine acall_of' (by kernel_rfl) ((c39 o.e o.now hs hl).mono ?_)
    rintro _ h4 ⟨r, rfl, hr, hh⟩
    obtain rfl := hh.symm
    refine ext rfl (ext rfl (fa ?_))
    refine put g6 rfl rfl (cs' := ansC (putR l o.e o.now).2 zeroE .nils) rfl (by decide) ?_
    intro h5 u5
    exact fin (by unfold doR; rw [if_neg k0, if_neg k1, if_pos hk]) (o3.upd (by omega) u5) u5.self (by rw [u5.other _ (by omega)]; exact g5) hr rfl rfl .nils
  rename_i k2
  have k2 : ¬ o.kind = 2 := by simpa using k2
  refine abin_i (by decide) rfl ?_
  rw [aif_bool]
  split
  · rename_i hk
    have hk : o.kind = 3 := by simpa using hk
    have hR : doR l o = (dropE o.e.flow l, ⟨if (getE o.e.flow l).isNone then 1 else 0, zeroE, []⟩) := by unfold doR; rw [if_neg k0, if_neg k1, if_neg k2, if_pos hk]
    refine joined (fun fr hj => Old h hj ∧ fr 0 = s ∧ fr 3 = .ptr h.next 0 0 ∧ fr 5 = .ptr h1.next 0 0 ∧ fr 6 = .ptr h2.next 0 0 ∧ hj.get h.next = some (.cells 0 o.cs) ∧ hj.get h1.next = some (.cells 0 (ansC 0 zeroE .nils)) ∧
      hj.get h2.next = some (.cells 0 (ansC (if (getE o.e.flow l).isNone then 1 else 0) zeroE .nils))) ?_ ?_
    · rintro fr hj ⟨oj, f0, f3, f5, f6, j3, j5, j6⟩
      rw [f0, f3, f5, f6]
      refine fa (fa (get_part j3 (by simp [Opn.cs]) rfl ?_))
      refine acall_of' (by kernel_rfl) ((c40 o.e.flow hs.rd hl).mono ?_)
      rintro r h4 ⟨hr, hh⟩
      obtain rfl := hh.symm
      exact fin hR oj j6 j5 hr rfl rfl .nils
    · intro K hK
      refine fa (fa (get_part g3 (by simp [Opn.cs]) rfl ?_))
      refine acall_q (by kernel_rfl) (c27 o.e.flow hs.rd hl) ?_
      refine abin_i (by decide) rfl ?_
      rw [aif_bool]
      split
      · rename_i hc
        have hc : getE o.e.flow l = none := by simpa [findI_neg] using hc
        refine fa (put g6 rfl rfl (cs' := ansC 1 zeroE .nils) rfl (by decide) ?_)
        intro h5 u5
        exact hK ⟨o3.upd (by omega) u5, by simp, by simp, by simp, by simp, by rw [u5.other _ (by omega)]; exact g3, by rw [u5.other _ (by omega)]; exact g5, by rw [hc]; exact u5.self⟩
      · rename_i hc
        have hc : ¬ getE o.e.flow l = none := by simpa [findI_neg] using hc
        exact hK ⟨o3, by simp, by simp, by simp, by simp, g3, g5, by rw [if_neg (by simpa using hc)]; exact g6⟩
  rename_i k3
  have k3 : ¬ o.kind = 3 := by simpa using k3
  refine abin_i (by decide) rfl ?_
  rw [aif_bool]
  split
  · rename_i hk
    have hk : o.kind = 4 := by simpa using hk
    refine fa (get_at g3 rfl ?_)
    refine acall_of' (by kernel_rfl) ((c41 o.now hs hl).mono ?_)
    rintro _ h4 ⟨a, b, rfl, ha, hb, hh⟩
    obtain rfl := hh.symm
    refine ext rfl (ext rfl (fa ?_))
    refine put g6 hb.cells hb.scalar (cs' := ansC 0 zeroE b) rfl (by decide) ?_
    intro h5 u5
    exact fin (by unfold doR; rw [if_neg k0, if_neg k1, if_neg k2, if_neg k3, if_pos hk]) (o3.upd (by omega) u5) u5.self (by rw [u5.other _ (by omega)]; exact g5) ha rfl rfl hb
  · rename_i k4
    have k4 : ¬ o.kind = 4 := by simpa using k4
    exact fin (by unfold doR; rw [if_neg k0, if_neg k1, if_neg k2, if_neg k3, if_neg k4]) o3 g6 g5 hs rfl rfl .nils
end Go.Own.Try

namespace Go.Own.Try
open Go.Own Go.Proofs
set_option maxRecDepth 20000

theorem ek42 : eqKinds Try.prog 42 = some [.int .i64, .str, .str, .int .i64, .int .i64, .int .i64, .int .i64, .int .i64] := by kernel_rfl
theorem st42 : isStructT Try.prog 42 = true := by kernel_rfl
theorem same_en (a b : En) : sameAll a.cs b.cs = decide (a = b) := by
  have h : sameAll a.cs b.cs = (sameAll a.flow.cs b.flow.cs && (a.backend == b.backend && (a.state == b.state && (a.ends == b.ends && true)))) := by
    simp [sameAll, En.cs, Fl.cs, AV.same, Bool.and_assoc]
  rw [h, same_flow]
  rcases a with ⟨a1, a2, a3, a4⟩
  rcases b with ⟨b1, b2, b3, b4⟩
  simp
  by_cases h1 : a1 = b1 <;> by_cases h2 : a2 = b2 <;> by_cases h3 : a3 = b3 <;> by_cases h4 : a4 = b4 <;> simp [*]
theorem aneq_en (a b : En) : aeqP Try.prog .neq 42 (.agg a.cs) (.agg b.cs) = some (.bool (!decide (a = b))) := by
  rw [(aeq_struct st42 ek42 rfl rfl).2, same_en]

theorem c11 {h : AHeap} {s t : AV} {l m : List En} (hs : ERd h s l) (ht : ERd h t m) (hl : l.length ≤ 1000000) : ACalls Try.prog 11 [s, t] h fun v h' => v = .bool (decide (l = m)) ∧ h' = h := by
  apply T11_calls
  unfold T11
  refine some1_of hs.len (some1_of ht.len ?_)
  refine abin_i (by decide) rfl ?_
  rw [aif_bool]
  split
  · rename_i hne
    have : ¬ l = m := by rintro rfl; simp at hne
    exact Ret.pure (Old.refl h) (by simp [AV.und]) ⟨by simp [this], rfl⟩
  rename_i hne
  have hlen : l.length = m.length := by simp at hne; omega
  refine aloop (fun k fr hl => hl = h ∧ fr 0 = s ∧ fr 1 = t ∧ ∃ i : Nat, fr 5 = .int .i64 i ∧ k + i = l.length ∧ (l.drop i = m.drop i ↔ l = m)) l.length ⟨rfl, by simp, by simp, 0, by simp, by omega, by simp⟩ ?_
  rintro J hJ k fr hc ⟨hh, h0, h1, i, h5, hk, hd⟩
  obtain rfl := hh.symm
  rw [h0, h1, h5]
  refine some1_of hs.len ?_
  refine abin_i (by decide) rfl ?_
  rw [aif_bool]
  split
  · rename_i hi
    simp only [decide_eq_true_eq] at hi
    have hi' : i < l.length := by omega
    have hi2 : i < m.length := by omega
    obtain ⟨p, e1, e2, _⟩ := hs.row hi'
    obtain ⟨q, e3, e4, _⟩ := ht.row hi2
    rw [e1, some1_some, e2, some1_some, e3, some1_some, e4, some1_some, aneq_en, some1_some, aif_bool]
    rw [List.drop_eq_getElem_cons hi', List.drop_eq_getElem_cons hi2, List.cons.injEq] at hd
    split
    · rename_i he
      have : ¬ l = m := fun hlm => by have := (hd.2 hlm).1; simp [this] at he
      exact Ret.pure (Old.refl _) (by simp [AV.und]) ⟨by simp [this], rfl⟩
    · rename_i he
      have he : l[i] = m[i] := by simpa using he
      refine abin_i (by decide) rfl ?_
      refine hJ (k - 1) (by omega) ⟨rfl, by simp [h0], by simp [h1], i + 1, ?_, by omega, by rw [← hd]; simp [he]⟩
      simp; rw [i64_id (by omega) (by omega)]
  · rename_i hi
    have : i = l.length := by simp at hi; omega
    subst this
    have : l = m := hd.1 (by rw [List.drop_length, hlen, List.drop_length])
    exact Ret.pure (Old.refl _) (by simp [AV.und]) ⟨by simp [this], rfl⟩

theorem c12 {h : AHeap} {s : AV} {l : List En} (hs : ERd h s l) (hl : l.length ≤ 1000000) : ACalls Try.prog 12 [s] h fun v h' => ELs v l ∧ h' = h := by
  apply T12_calls
  unfold T12
  refine some1_of hs.len ?_
  refine aloop (fun k fr hc => Old h hc ∧ fr 6 = s ∧ fr 7 = .int .i64 l.length ∧ ∃ (i : Nat) (out : List En), fr 8 = .int .i64 i ∧ k + i = l.length ∧ Bd h hc 8 (fr 3) (ens out) out.length ∧ out ++ l.drop i = l) l.length
    ⟨Old.refl _, by simp, by simp, 0, [], by simp, by omega, by simp; exact .nils, by simp⟩ ?_
  rintro J hJ k fr hc ⟨ho, h6, h7, i, out, h8, hk, hb, hd⟩
  rw [h6, h7, h8]
  have hrd : ERd hc s l := hs.old ho
  refine abin_i (by decide) rfl ?_
  rw [aif_bool]
  split
  · rename_i hi
    simp only [decide_eq_true_eq] at hi
    have hi' : i < l.length := by omega
    have hol : out.length = i := by have := congrArg List.length hd; simp at this; omega
    obtain ⟨p, e1, e2, _⟩ := hrd.row hi'
    rw [e1, some1_some, e2, some1_some]
    refine var az39 ?_
    intro h2 n2
    refine puts n2.self rfl rfl (splice_all rfl) (by decide) ?_
    intro h3 u3
    refine get_all u3.self rfl ?_
    have o3 : Old hc h3 := n2.old.upd (by omega) u3
    have hb3 : Bd h h3 8 (fr 3) (ens out) out.length := hb.frame o3.next fun j _ hj _ _ _ => o3.get j hj
    refine app_en hb3 (ho.trans o3) (by omega) ?_
    intro v' h' b1 o1 _ _
    refine abin_i (by decide) rfl ?_
    rw [List.drop_eq_getElem_cons hi'] at hd
    refine hJ (k - 1) (by omega) ⟨o1, by simp [h6], by simp [h7], i + 1, out ++ [l[i]], ?_, by omega, by simpa using b1, by simpa using hd⟩
    simp; rw [i64_id (by omega) (by omega)]
  · rename_i hi
    have : i = l.length := by simp at hi; omega
    subst this
    have : out = l := by simpa using hd
    subst this
    exact Ret.list ho hb (ens_below _ _) fun v' hv => ⟨hv, rfl⟩
end Go.Own.Try

namespace Go.Own.Try
open Go.Own Go.Proofs
set_option maxRecDepth 20000

/-- A place. -/
structure Pl where
  is : Int
  e : En
  deriving DecidableEq
def Pl.cs (p : Pl) : List AV := [.int .i64 p.is, .int .i64 p.e.flow.proto, .str p.e.flow.src, .str p.e.flow.dst, .int .i64 p.e.flow.port, .int .i64 p.e.flow.dest, .int .i64 p.e.backend, .int .i64 p.e.state, .int .i64 p.e.ends]
theorem Pl.len (p : Pl) : p.cs.length = 9 := rfl
/-- A table. -/
structure Tb where
  key : List UInt8
  pl : List Pl
  many : Int
  marks : Int
def Tb.cs (t : Tb) : List AV := ofBytes t.key ++ (t.pl.flatMap Pl.cs ++ [.int .i64 t.many, .int .i64 t.marks])
structure Tb.Ok (t : Tb) : Prop where
  key : t.key.length = 16
  pl : t.pl.length = 128
namespace Tb.Ok
variable {t : Tb}
theorem klen (k : t.Ok) : (ofBytes t.key).length = 16 := by rw [ofBytes_length, k.key]
theorem plen (k : t.Ok) : (t.pl.flatMap Pl.cs).length = 1152 := by rw [rows_length Pl.len, k.pl]
theorem len (k : t.Ok) : t.cs.length = 1170 := by simp only [Tb.cs, List.length_append, klen k, plen k]; rfl
theorem get_key (k : t.Ok) : (t.cs.drop 0).take 16 = ofBytes t.key := by
  rw [List.drop_zero, Tb.cs, List.take_left' (klen k)]
theorem get_pl (k : t.Ok) {i : Nat} (hi : i < 128) {off sz : Nat} (hs : off + sz ≤ 9) : (t.cs.drop (16 + i * 9 + off)).take sz = ((t.pl[i]'(by rw [k.pl]; exact hi)).cs.drop off).take sz := by
  have hk := klen k
  have hp := plen k
  have := rows_at (f := Pl.cs) Pl.len (l := t.pl) (i := i) (by rw [k.pl]; exact hi) hs
  rw [← this, Tb.cs, show 16 + i * 9 + off = (ofBytes t.key).length + (i * 9 + off) by omega, drop_right, part_left (by omega)]
theorem get_cell (k : t.Ok) {i : Nat} (hi : i < 128) {off : Nat} (hs : off < 9) : t.cs[16 + i * 9 + off]? = ((t.pl[i]'(by rw [k.pl]; exact hi)).cs)[off]? := by
  have hk := klen k
  have hp := plen k
  have := rows_get (f := Pl.cs) Pl.len (l := t.pl) (i := i) (by rw [k.pl]; exact hi) hs
  rw [← this, Tb.cs, List.getElem?_append_right (by omega), List.getElem?_append_left (by omega)]
  congr 1; omega
theorem get_places (k : t.Ok) : (t.cs.drop 16).take 1152 = t.pl.flatMap Pl.cs := by
  have hk := klen k
  have hp := plen k
  rw [Tb.cs, List.drop_left' hk, List.take_left' hp]
theorem get_many (k : t.Ok) : t.cs[1168]? = some (.int .i64 t.many) := by
  have hk := klen k
  have hp := plen k
  rw [Tb.cs, List.getElem?_append_right (by omega), List.getElem?_append_right (by omega), hk, hp]; rfl
theorem get_marks (k : t.Ok) : t.cs[1169]? = some (.int .i64 t.marks) := by
  have hk := klen k
  have hp := plen k
  rw [Tb.cs, List.getElem?_append_right (by omega), List.getElem?_append_right (by omega), hk, hp]; rfl
theorem set_pl (k : t.Ok) {i : Nat} (hi : i < 128) (p : Pl) : splice t.cs (16 + i * 9) p.cs = { t with pl := t.pl.set i p }.cs := by
  have hk := klen k
  have hp := plen k
  rw [Tb.cs, show 16 + i * 9 = (ofBytes t.key).length + i * 9 by omega, splice_right, splice_left (by rw [hp, Pl.len]; omega), splice_rows Pl.len (by rw [k.pl]; exact hi)]
  rfl
theorem set_many (k : t.Ok) (n : Int) : splice t.cs 1168 [.int .i64 n] = { t with many := n }.cs := by
  have hk := klen k
  have hp := plen k
  rw [Tb.cs, show 1168 = (ofBytes t.key).length + 1152 by omega, splice_right, show 1152 = (t.pl.flatMap Pl.cs).length + 0 by omega, splice_right]
  rfl
theorem set_marks (k : t.Ok) (n : Int) : splice t.cs 1169 [.int .i64 n] = { t with marks := n }.cs := by
  have hk := klen k
  have hp := plen k
  rw [Tb.cs, show 1169 = (ofBytes t.key).length + 1153 by omega, splice_right, show 1153 = (t.pl.flatMap Pl.cs).length + 1 by omega, splice_right]
  rfl
theorem set_all (k : t.Ok) (l : List Pl) (hl : l.length = 128) : splice t.cs 16 (l.flatMap Pl.cs) = { t with pl := l }.cs := by
  have hk := klen k
  have hp := plen k
  rw [Tb.cs, show 16 = (ofBytes t.key).length + 0 by omega, splice_right, splice_left (by rw [hp, rows_length Pl.len, hl]; decide), splice_all (by rw [hp, rows_length Pl.len, hl])]
  rfl
end Tb.Ok
theorem Tb.scalar (t : Tb) : t.cs.all AV.scalar = true := by
  simp only [Tb.cs, List.all_append, Bool.and_eq_true]
  refine ⟨?_, ?_, rfl⟩
  · rw [List.all_eq_true]; intro x hx; simp only [ofBytes, List.mem_map] at hx; obtain ⟨c, _, rfl⟩ := hx; rfl
  · rw [List.all_eq_true]; intro x hx; simp only [List.mem_flatMap] at hx; obtain ⟨p, _, hx⟩ := hx
    exact List.all_eq_true.1 (show p.cs.all AV.scalar = true from rfl) x hx
theorem Tb.und (t : Tb) (n : Nat) : belows n t.cs := by
  rw [belows_iff]
  intro x hx
  simp only [Tb.cs, List.mem_append] at hx
  rcases hx with hx | hx | hx
  · simp only [ofBytes, List.mem_map] at hx; obtain ⟨c, _, rfl⟩ := hx; simp [AV.und]
  · simp only [List.mem_flatMap] at hx; obtain ⟨p, _, hx⟩ := hx
    exact belows_iff.1 (show belows n p.cs by simp [Pl.cs, belows, AV.und]) x hx
  · simp at hx; rcases hx with rfl | rfl <;> simp [AV.und]
end Go.Own.Try

namespace Go.Own.Try
open Go.Own Go.Proofs
set_option maxRecDepth 20000

theorem az58 : azero Try.prog 58 = some (Pl.cs ⟨0, zeroE⟩) := by kernel_rfl
theorem ia {i r o k n w : Nat} {K : AV → Prop} (h : k < n) (hk : K (.ptr i r (o + k * w))) : some1 (aiaddr (some n) w (.ptr i r o) (.int .i64 k)) K := by
  refine ⟨.ptr i r (o + k * w), ?_, hk⟩
  simp [aiaddr, h]
/-- The table's object. -/
structure TabAt (h : AHeap) (id : Nat) (t : Tb) : Prop where
  lt : id < h.next
  get : h.get id = some (.cells 0 t.cs)
  ok : t.Ok
theorem TabAt.old {h h' : AHeap} {id : Nat} {t : Tb} (x : TabAt h id t) (o : Old h h') : TabAt h' id t := ⟨Nat.lt_of_lt_of_le x.lt o.next, by rw [o.get _ x.lt]; exact x.get, x.ok⟩
/-- What a hash comes to. -/
abbrev HashC (H : List UInt8 → Fl → Int) : Prop := ∀ k f, k.length = 16 → (0 ≤ H k f ∧ H k f < 18446744073709551616) ∧ Pure 45 [.agg (ofBytes k), .agg f.cs] (.int .u64 (H k f))
instance : Inhabited Pl := ⟨⟨0, zeroE⟩⟩
/-- Where a flow's entry is: it is looked for from 'at_' on, at so many places. -/
def fgo (pl : List Pl) (f : Fl) : Nat → Nat → Int → Int × Bool
  | 0, _, spot => (spot, false)
  | n + 1, at_, spot =>
    if (pl.getD at_ default).is = 1 ∧ (pl.getD at_ default).e.flow = f then (at_, true)
    else if (pl.getD at_ default).is = 0 then ((if (pl.getD at_ default).is ≠ 1 ∧ spot < 0 then (at_ : Int) else spot), false)
    else fgo pl f n ((at_ + 1) % 128) (if (pl.getD at_ default).is ≠ 1 ∧ spot < 0 then (at_ : Int) else spot)
def findT (H : List UInt8 → Fl → Int) (t : Tb) (f : Fl) : Int × Bool := fgo t.pl f 128 ((H t.key f).toNat % 128) (-1)

theorem c26 {H : List UInt8 → Fl → Int} (hH : HashC H) {h : AHeap} {id : Nat} {t : Tb} (f : Fl) (ht : TabAt h id t) :
    ACalls Try.prog 26 [.ptr id 0 0, .agg f.cs] h fun v h' => v = .tuple [.int .i64 (findT H t f).1, .bool (findT H t f).2] ∧ h' = h := by
  apply T26_calls
  unfold T26
  refine box rfl ?_
  intro h1 n1
  have ht1 := ht.old n1.old
  have hk := ht1.ok
  obtain ⟨⟨hr0, hr1⟩, hc⟩ := hH t.key f hk.key
  refine ⟨rfl, fa ?_⟩
  refine get_part ht1.get (by rw [hk.len]; omega) (hk.get_key) ?_
  refine get_all n1.self rfl ?_
  refine acall_q (by kernel_rfl) (hc h1) ?_
  have hrem : aint .rem .u64 (H t.key f) 128 = some (.int .u64 (((H t.key f).toNat % 128 : Nat) : Int)) := by
    simp only [aint]
    rw [if_neg (by decide)]
    congr 2
    rw [Int.tmod_eq_emod_of_nonneg hr0]
    omega
  refine abin_i (by decide) hrem ?_
  refine some1_of (v := (.int .i64 (((H t.key f).toNat % 128 : Nat) : Int), h1)) (by simp only [acv]; rw [i64_id (by omega) (by omega)]) ?_
  have hat : (H t.key f).toNat % 128 < 128 := Nat.mod_lt _ (by decide)
  unfold findT
  generalize (H t.key f).toNat % 128 = at0 at *
  generalize hres : fgo t.pl f 128 at0 (-1) = res
  refine aloop (fun m fr hl => Old h1 hl ∧ fr 0 = .ptr id 0 0 ∧ fr 3 = .ptr h.next 0 0 ∧ ∃ (i at_ : Nat) (spot : Int), fr 17 = .int .i64 i ∧ m + i = 128 ∧ fr 6 = .int .i64 at_ ∧ at_ < 128 ∧ fr 7 = .int .i64 spot ∧ fgo t.pl f m at_ spot = res) 128
    ⟨Old.refl _, by simp, by simp, 0, at0, -1, by simp, by omega, by simp, hat, by simp, hres⟩ ?_
  rintro J hJ m fr hc ⟨ho, f0, f3, i, at_, spot, f17, hm, f6, hat, f7, hf⟩
  have htc := ht1.old ho
  rw [f17, f0, f6, f7]
  refine abin_i (by decide) rfl ?_
  rw [aif_bool]
  have hfin : ∀ {hx : AHeap} {a : Int} {b : Bool}, Old h1 hx → (a, b) = res → Ret h (.tuple [.int .i64 a, .bool b]) hx fun v h' => v = .tuple [.int .i64 res.1, .bool res.2] ∧ h' = h := by
    intro hx a b ox e
    exact Ret.pure (n1.old.trans ox) (by simp [AV.und, belows]) ⟨by rw [← e], rfl⟩
  split
  · rename_i hi
    have hi' : i < 128 := by simp at hi; omega
    obtain ⟨m, rfl⟩ : ∃ m', m = m' + 1 := ⟨m - 1, by omega⟩
    refine ⟨rfl, fa (ia hat ?_)⟩
    have hpl := hk.get_pl hat (off := 0) (sz := 9) (by omega)
    have hlen := hk.len
    have hg : (t.pl[at_]'(by rw [hk.pl]; exact hat)) = t.pl.getD at_ default := by rw [List.getD_eq_getElem?_getD, List.getElem?_eq_getElem (by rw [hk.pl]; exact hat)]; rfl
    rw [hg] at hpl
    rw [fgo] at hf
    generalize t.pl.getD at_ default = p at *
    refine get_part htc.get (by rw [hlen]; omega) (vs := p.cs) (by rw [Nat.add_zero] at hpl; rw [Nat.zero_add, hpl]; rfl) ?_
    refine var az58 ?_
    intro h2 n2
    refine puts n2.self rfl rfl (splice_all rfl) (by decide) ?_
    intro h3 u3
    have o3 : Old hc h3 := n2.old.upd (Nat.le_refl _) u3
    have oo3 : Old h1 h3 := ho.trans o3
    have g8 := u3.self
    have gf : h3.get h.next = some (.cells 0 f.cs) := by rw [oo3.get _ (by rw [n1.next]; omega)]; exact n1.self
    refine joined (fun fr2 hj => hj = h3 ∧ fr2 0 = .ptr id 0 0 ∧ fr2 3 = .ptr h.next 0 0 ∧ fr2 17 = .int .i64 i ∧ fr2 6 = .int .i64 at_ ∧ fr2 8 = .ptr hc.next 0 0 ∧ fr2 7 = .int .i64 (if p.is ≠ 1 ∧ spot < 0 then (at_ : Int) else spot) ∧ ¬ (p.is = 1 ∧ p.e.flow = f)) ?_ ?_
    · rintro fr2 hj ⟨rfl, g0, g3, g17, g6, g8', g7, hne⟩
      rw [if_neg hne] at hf
      rw [g8', g7, g6, g17]
      refine fa (get_at g8 rfl ?_)
      refine abin_i (by decide) rfl ?_
      rw [aif_bool]
      split
      · rename_i hz
        have hz : p.is = 0 := by simpa using hz
        rw [if_pos hz] at hf
        exact hfin oo3 hf
      · rename_i hz
        have hz : ¬ p.is = 0 := by simpa using hz
        rw [if_neg hz] at hf
        refine abin_i (by decide) rfl ?_
        refine abin_i (by decide) (v := .int .i64 (((at_ + 1) % 128 : Nat) : Int)) ?_ ?_
        · simp only [aint]
          rw [if_neg (by decide), i64_id (by omega) (by omega), Int.tmod_eq_emod_of_nonneg (by omega)]
          congr 2
        refine abin_i (by decide) rfl ?_
        refine hJ m (by omega) ⟨oo3, by simp [g0], by simp [g3], i + 1, (at_ + 1) % 128, _, ?_, by omega, by simp, Nat.mod_lt _ (by decide), by simp [g7], hf⟩
        simp; rw [i64_id (by omega) (by omega)]
    · intro K hK
      refine fa (get_at g8 rfl ?_)
      refine abin_i (by decide) rfl ?_
      rw [agrd_bool]
      have second : ∀ (hne : ¬ (p.is = 1 ∧ p.e.flow = f)) (A B : Fr), (A 0 = .ptr id 0 0 ∧ A 3 = .ptr h.next 0 0 ∧ A 17 = .int .i64 i ∧ A 6 = .int .i64 at_ ∧ A 8 = .ptr hc.next 0 0 ∧ A 7 = .int .i64 at_) →
          (B 0 = .ptr id 0 0 ∧ B 3 = .ptr h.next 0 0 ∧ B 17 = .int .i64 i ∧ B 6 = .int .i64 at_ ∧ B 8 = .ptr hc.next 0 0 ∧ B 7 = .int .i64 spot) → (p.is ≠ 1 ∧ spot < 0 → K A h3) ∧ (¬ (p.is ≠ 1 ∧ spot < 0) → K B h3) := by
        intro hne A B ⟨a1, a2, a3, a4, a5, a6⟩ ⟨b1, b2, b3, b4, b5, b6⟩
        exact ⟨fun hc => hK ⟨rfl, a1, a2, a3, a4, a5, by rw [if_pos hc]; exact a6, hne⟩, fun hc => hK ⟨rfl, b1, b2, b3, b4, b5, by rw [if_neg hc]; exact b6, hne⟩⟩
      split
      · rename_i hu
        have hu : p.is = 1 := by simpa using hu
        refine fa (fa (get_part g8 (by simp [Pl.cs]) (vs := p.e.flow.cs) rfl ?_))
        rw [f3]
        refine get_all gf rfl ?_
        rw [aeq_flow, some1_some, aif_bool]
        split
        · rename_i he
          rw [if_pos ⟨hu, by simpa using he⟩] at hf
          exact hfin oo3 hf
        · rename_i he
          have hne : ¬ (p.is = 1 ∧ p.e.flow = f) := fun h => he (by simpa using h.2)
          refine fa (get_at g8 rfl ?_)
          refine abin_i (by decide) rfl ?_
          rw [agrd_bool, if_neg (by simp [hu])]
          exact hK ⟨rfl, by simp [f0], by simp [f3], by simp [f17], by simp [f6], by simp, by simp [f7, hu], hne⟩
      · rename_i hu
        have hu : ¬ p.is = 1 := by simpa using hu
        have hne : ¬ (p.is = 1 ∧ p.e.flow = f) := fun h => hu h.1
        refine fa (get_at g8 rfl ?_)
        refine abin_i (by decide) rfl ?_
        rw [agrd_bool, if_pos (by simp [hu])]
        refine abin_i (by decide) rfl ?_
        rw [aif_bool]
        split
        · rename_i hs
          have hs : spot < 0 := by simpa using hs
          exact hK ⟨rfl, by simp [f0], by simp [f3], by simp [f17], by simp [f6], by simp, by simp [hs, hu], hne⟩
        · rename_i hs
          have hs : ¬ spot < 0 := by simpa using hs
          exact hK ⟨rfl, by simp [f0], by simp [f3], by simp [f17], by simp [f6], by simp, by simp [f7, hs], hne⟩
  · rename_i hi
    have : m = 0 := by simp at hi; omega
    subst this
    exact hfin ho hf
end Go.Own.Try

namespace Go.Own.Try
open Go.Own Go.Proofs
set_option maxRecDepth 20000

/-- The first number that is not 0. -/
def orI : List Int → Int
  | [] => 0
  | x :: r => if x ≠ 0 then x else orI r
def intC (x : Int) : List AV := [.int .i64 x]
theorem c31 {h : AHeap} {s : AV} {l : List Int} (hs : Rd h 1 s (l.flatMap intC) l.length) (hl : l.length ≤ 1000) : ACalls Try.prog 31 [s] h fun v h' => v = .int .i64 (orI l) ∧ h' = h := by
  apply T31_calls
  unfold T31
  refine some1_of hs.len ?_
  refine aloop (fun m fr hl => hl = h ∧ fr 3 = .int .i64 0 ∧ fr 6 = s ∧ fr 7 = .int .i64 l.length ∧ ∃ i : Nat, fr 8 = .int .i64 i ∧ m + i = l.length ∧ orI (l.drop i) = orI l) l.length
    ⟨rfl, by simp, by simp, by simp, 0, by simp, by omega, by simp⟩ ?_
  rintro J hJ m fr hc ⟨hh, f3, f6, f7, i, f8, hm, hd⟩
  obtain rfl := hh.symm
  rw [f3, f6, f7, f8]
  refine abin_i (by decide) rfl ?_
  rw [aif_bool]
  split
  · rename_i hi
    have hi' : i < l.length := by simp at hi; omega
    obtain ⟨p, e1, _, e2, _⟩ := Rd.row (f := intC) (fun _ => rfl) hs hi'
    rw [e1, some1_some, e2 Nat.one_pos]
    refine some1_of rfl ?_
    refine abin_i (by decide) rfl ?_
    rw [List.drop_eq_getElem_cons hi', orI] at hd
    rw [aif_bool]
    split
    · rename_i hz
      have hz : l[i] ≠ 0 := by simpa using hz
      rw [if_pos hz] at hd
      exact Ret.pure (Old.refl _) (by simp [AV.und]) ⟨by rw [hd], rfl⟩
    · rename_i hz
      have hz : ¬ l[i] ≠ 0 := by simpa using hz
      rw [if_neg hz] at hd
      refine abin_i (by decide) rfl ?_
      refine hJ (m - 1) (by omega) ⟨rfl, by simp [f3], by simp [f6], by simp [f7], i + 1, ?_, by omega, hd⟩
      simp; rw [i64_id (by omega) (by omega)]
  · rename_i hi
    have : i = l.length := by simp at hi; omega
    subst this
    rw [List.drop_length] at hd
    exact Ret.pure (Old.refl _) (by simp [AV.und]) ⟨by rw [← hd]; rfl, rfl⟩

def cmpF (a b : Fl) : Int := orI [cmpI a.proto b.proto, cmpS a.src b.src, cmpI a.port b.port, cmpS a.dst b.dst, cmpI a.dest b.dest]
theorem c25 (a b : Fl) : Pure 25 [.agg a.cs, .agg b.cs] (.int .i64 (cmpF a b)) := by
  intro h
  apply T25_calls
  unfold T25
  refine box rfl ?_
  intro h1 n1
  refine box rfl ?_
  intro h2 n2
  have o2 := n1.old.trans n2.old
  have g2 : h2.get h.next = some (.cells 0 a.cs) := by rw [n2.other _ (by rw [n1.next]; omega)]; exact n1.self
  have g3 := n2.self
  refine fa (get_at g2 rfl (fa (get_at g3 rfl ?_)))
  refine aqcall_of (c32 _ _ h2) ?_
  refine fa (get_at g2 rfl (fa (get_at g3 rfl ?_)))
  refine aqcall_of (c44 _ _ h2) ?_
  refine fa (get_at g2 rfl (fa (get_at g3 rfl ?_)))
  refine aqcall_of (c32 _ _ h2) ?_
  refine fa (get_at g2 rfl (fa (get_at g3 rfl ?_)))
  refine aqcall_of (c44 _ _ h2) ?_
  refine fa (get_at g2 rfl (fa (get_at g3 rfl ?_)))
  refine acall_q (by kernel_rfl) (c32 _ _ h2) ?_
  refine lit ek94 (by omega) (cs := [cmpI a.proto b.proto, cmpS a.src b.src, cmpI a.port b.port, cmpS a.dst b.dst, cmpI a.dest b.dest].flatMap intC) rfl ?_
  intro h4 n4
  have hrd := Rd.sl (h := h4) (i := h2.next) (r := 0) (off := 0) (n := 5) (w := 1) (by rw [n4.next]; omega) n4.self (Nat.le_of_eq rfl)
  refine acall_q (by kernel_rfl) (c31 (l := [cmpI a.proto b.proto, cmpS a.src b.src, cmpI a.port b.port, cmpS a.dst b.dst, cmpI a.dest b.dest]) hrd (by simp)) ?_
  exact Ret.pure (o2.trans n4.old) (by simp [AV.und]) ⟨rfl, rfl⟩

theorem c24 (a b : En) : Pure 24 [.agg a.cs, .agg b.cs] (.int .i64 (cmpF a.flow b.flow)) := by
  intro h
  apply T24_calls
  unfold T24
  refine box rfl ?_
  intro h1 n1
  refine box rfl ?_
  intro h2 n2
  have o2 := n1.old.trans n2.old
  have g2 : h2.get h.next = some (.cells 0 a.cs) := by rw [n2.other _ (by rw [n1.next]; omega)]; exact n1.self
  have g3 := n2.self
  refine fa (get_part g2 (by simp [En.cs]) (vs := a.flow.cs) rfl (fa (get_part g3 (by simp [En.cs]) (vs := b.flow.cs) rfl ?_)))
  refine acall_q (by kernel_rfl) (c25 _ _ h2) ?_
  exact Ret.pure o2 (by simp [AV.und]) ⟨rfl, rfl⟩
theorem c30 (a b : En) : Pure 30 [.agg a.cs, .agg b.cs] (.int .i64 (orI [cmpI a.ends b.ends, cmpF a.flow b.flow])) := by
  intro h
  apply T30_calls
  unfold T30
  refine box rfl ?_
  intro h1 n1
  refine box rfl ?_
  intro h2 n2
  have o2 := n1.old.trans n2.old
  have g2 : h2.get h.next = some (.cells 0 a.cs) := by rw [n2.other _ (by rw [n1.next]; omega)]; exact n1.self
  have g3 := n2.self
  refine fa (get_at g2 rfl (fa (get_at g3 rfl ?_)))
  refine aqcall_of (c32 _ _ h2) ?_
  refine fa (get_part g2 (by simp [En.cs]) (vs := a.flow.cs) rfl (fa (get_part g3 (by simp [En.cs]) (vs := b.flow.cs) rfl ?_)))
  refine acall_q (by kernel_rfl) (c25 _ _ h2) ?_
  refine lit ek94 (by omega) (cs := [cmpI a.ends b.ends, cmpF a.flow b.flow].flatMap intC) rfl ?_
  intro h4 n4
  have hrd := Rd.sl (h := h4) (i := h2.next) (r := 0) (off := 0) (n := 2) (w := 1) (by rw [n4.next]; omega) n4.self (Nat.le_of_eq rfl)
  refine acall_q (by kernel_rfl) (c31 (l := [cmpI a.ends b.ends, cmpF a.flow b.flow]) hrd (by simp)) ?_
  exact Ret.pure (o2.trans n4.old) (by simp [AV.und]) ⟨rfl, rfl⟩
end Go.Own.Try

namespace Go.Own.Try
open Go.Own Go.Proofs
set_option maxRecDepth 20000

theorem az61 : azero Try.prog 61 = some (Tb.cs ⟨List.replicate 16 0, List.replicate 128 ⟨0, zeroE⟩, 0, 0⟩) := by kernel_rfl
def w64 (n : Int) : Int := IntKind.i64.wrap n
def placeAt (t : Tb) (i : Nat) : Pl := t.pl.getD i default
/-- An entry is laid at a place. -/
def layT (t : Tb) (i : Nat) (e : En) : Tb :=
  { t with pl := t.pl.set i ⟨1, e⟩, many := if (placeAt t i).is ≠ 1 then w64 (t.many + 1) else t.many, marks := if (placeAt t i).is = 2 then w64 (t.marks - 1) else t.marks }
theorem Tb.Ok.set {t : Tb} (k : t.Ok) (i : Nat) (p : Pl) (a b : Int) : Tb.Ok { t with pl := t.pl.set i p, many := a, marks := b } := ⟨k.key, by simp [k.pl]⟩
theorem Tb.Ok.lay {t : Tb} (k : t.Ok) (i : Nat) (e : En) : (layT t i e).Ok := k.set _ _ _ _
theorem placeAt_eq {t : Tb} (k : t.Ok) {i : Nat} (hi : i < 128) : t.pl[i]'(by rw [k.pl]; exact hi) = placeAt t i := by
  unfold placeAt
  rw [List.getD_eq_getElem?_getD, List.getElem?_eq_getElem (by rw [k.pl]; exact hi)]; rfl
/-- A place's number; its entry; the numbers. -/
theorem get_is {h : AHeap} {id i : Nat} {t : Tb} (ht : TabAt h id t) (hi : i < 128) {K : AV → Prop} (hk : K (.int .i64 (placeAt t i).is)) : some1 (aloadv false 1 (.ptr id 0 (0 + 16 + i * 9 + 0)) h) K := by
  refine get_at ht.get ?_ hk
  have := ht.ok.get_cell hi (off := 0) (by omega)
  rw [placeAt_eq ht.ok hi] at this
  rw [Nat.zero_add]; exact this
theorem get_en {h : AHeap} {id i : Nat} {t : Tb} (ht : TabAt h id t) (hi : i < 128) {K : AV → Prop} (hk : K (.agg (placeAt t i).e.cs)) : some1 (aloadv true 8 (.ptr id 0 (0 + 16 + i * 9 + 1)) h) K := by
  have hl := ht.ok.len
  refine get_part ht.get (by omega) ?_ hk
  have := ht.ok.get_pl hi (off := 1) (sz := 8) (by omega)
  rw [placeAt_eq ht.ok hi] at this
  rw [Nat.zero_add]; exact this
theorem get_many {h : AHeap} {id : Nat} {t : Tb} (ht : TabAt h id t) {K : AV → Prop} (hk : K (.int .i64 t.many)) : some1 (aloadv false 1 (.ptr id 0 (0 + 1168)) h) K := get_at ht.get ht.ok.get_many hk
theorem get_marks {h : AHeap} {id : Nat} {t : Tb} (ht : TabAt h id t) {K : AV → Prop} (hk : K (.int .i64 t.marks)) : some1 (aloadv false 1 (.ptr id 0 (0 + 1169)) h) K := get_at ht.get ht.ok.get_marks hk
theorem put_many {h : AHeap} {id : Nat} {t : Tb} {n : Int} (ht : TabAt h id t) {K : AHeap → Prop} (hk : ∀ h', Upd h id (.cells 0 { t with many := n }.cs) h' → TabAt h' id { t with many := n } → K h') : some1 (astorev 1 (.ptr id 0 (0 + 1168)) (.int .i64 n) h) K := by
  have hl := ht.ok.len
  refine put ht.get rfl rfl (ht.ok.set_many n) (by omega) fun h' u => hk h' u ⟨by rw [u.next]; exact ht.lt, u.self, ⟨ht.ok.key, ht.ok.pl⟩⟩
theorem put_marks {h : AHeap} {id : Nat} {t : Tb} {n : Int} (ht : TabAt h id t) {K : AHeap → Prop} (hk : ∀ h', Upd h id (.cells 0 { t with marks := n }.cs) h' → TabAt h' id { t with marks := n } → K h') : some1 (astorev 1 (.ptr id 0 (0 + 1169)) (.int .i64 n) h) K := by
  have hl := ht.ok.len
  refine put ht.get rfl rfl (ht.ok.set_marks n) (by omega) fun h' u => hk h' u ⟨by rw [u.next]; exact ht.lt, u.self, ⟨ht.ok.key, ht.ok.pl⟩⟩
theorem put_pl {h : AHeap} {id i : Nat} {t : Tb} {p : Pl} (ht : TabAt h id t) (hi : i < 128) {K : AHeap → Prop} (hk : ∀ h', Upd h id (.cells 0 { t with pl := t.pl.set i p }.cs) h' → TabAt h' id { t with pl := t.pl.set i p } → K h') : some1 (astorev 9 (.ptr id 0 (0 + 16 + i * 9)) (.agg p.cs) h) K := by
  have hl := ht.ok.len
  refine puts ht.get rfl rfl (cs' := Tb.cs { t with pl := t.pl.set i p }) (by rw [Nat.zero_add]; exact ht.ok.set_pl hi p) (by omega) fun h' u => hk h' u ⟨by rw [u.next]; exact ht.lt, u.self, ⟨ht.ok.key, by simp [ht.ok.pl]⟩⟩

/-- The table was turned to another one. -/
def Turned (h : AHeap) (id : Nat) (t : Tb) (v0 : AV) (v : AV) (h' : AHeap) : Prop := v = v0 ∧ h' = h.set id (.cells 0 t.cs)

theorem c36 {h : AHeap} {id i : Nat} {t : Tb} (e : En) (ht : TabAt h id t) (hi : i < 128) : ACalls Try.prog 36 [.ptr id 0 0, .int .i64 i, .agg e.cs] h (Turned h id (layT t i e) (.tuple [])) := by
  apply T36_calls
  unfold T36
  refine box rfl ?_
  intro h1 n1
  have ht1 := ht.old n1.old
  have hne : h.next ≠ id := by have := ht.lt; omega
  refine joined (fun fr hj => fr 0 = .ptr id 0 0 ∧ fr 1 = .int .i64 i ∧ fr 5 = .ptr h.next 0 0 ∧ OldX h id hj ∧ hj.get h.next = some (.cells 0 e.cs) ∧
    TabAt hj id { t with many := if (placeAt t i).is ≠ 1 then w64 (t.many + 1) else t.many, marks := if (placeAt t i).is = 2 then w64 (t.marks - 1) else t.marks }) ?_ ?_
  · rintro fr hj ⟨f0, f1, f5, oj, gj, tj⟩
    rw [f0, f1, f5]
    refine get_all gj rfl ?_
    refine build az58 (cs := Pl.cs ⟨1, e⟩) rfl ?_
    refine ⟨rfl, fa (ia hi (put_pl tj hi ?_))⟩
    intro h2 u2 t2
    exact Ret.mod (oj.upd (.inr rfl) u2) ht.lt t2.get (Tb.und _ _) (by simp [AV.und, belows]) ⟨rfl, rfl⟩
  · intro K hK
    refine ⟨rfl, fa (ia hi (fa (get_is ht1 hi ?_)))⟩
    refine abin_i (by decide) rfl ?_
    rw [aif_bool]
    split
    · rename_i hu
      have hu : (placeAt t i).is ≠ 1 := by simpa using hu
      refine ⟨rfl, fa (get_many ht1 ?_)⟩
      refine abin_i (by decide) rfl ?_
      refine ⟨rfl, fa (put_many ht1 ?_)⟩
      intro h2 u2 t2
      refine ⟨rfl, fa (ia hi (fa (get_is t2 hi ?_)))⟩
      refine abin_i (by decide) rfl ?_
      have o2 := (n1.old.x id).upd (.inr rfl) u2
      have g2 : h2.get h.next = some (.cells 0 e.cs) := by rw [u2.other _ hne]; exact n1.self
      rw [aif_bool]
      split
      · rename_i hg
        have hg : (placeAt t i).is = 2 := by simpa [placeAt] using hg
        refine ⟨rfl, fa (get_marks t2 ?_)⟩
        refine abin_i (by decide) rfl ?_
        refine ⟨rfl, fa (put_marks t2 ?_)⟩
        intro h3 u3 t3
        refine hK ⟨by simp, by simp, by simp, o2.upd (.inr rfl) u3, by rw [u3.other _ hne]; exact g2, ?_⟩
        rw [if_pos hu, if_pos hg]; exact t3
      · rename_i hg
        have hg : ¬ (placeAt t i).is = 2 := by simpa [placeAt] using hg
        refine hK ⟨by simp, by simp, by simp, o2, g2, ?_⟩
        rw [if_pos hu, if_neg hg]; exact t2
    · rename_i hu
      have hu : (placeAt t i).is = 1 := by simpa using hu
      refine hK ⟨by simp, by simp, by simp, n1.old.x id, n1.self, ?_⟩
      rw [if_neg (by simp [hu]), if_neg (by rw [hu]; decide)]; exact ht1
end Go.Own.Try

namespace Go.Own.Try
open Go.Own Go.Proofs

theorem bl_irrefl : ∀ (a : List UInt8), Op.bytesLess a a = false
  | [] => rfl
  | x :: a => by simp [Op.bytesLess, bl_irrefl a]
theorem bl_trans : ∀ {a b c : List UInt8}, Op.bytesLess a b = true → Op.bytesLess b c = true → Op.bytesLess a c = true
  | _, [], _, h, _ => by simp [Op.bytesLess] at h
  | _, _ :: _, [], _, h => by simp [Op.bytesLess] at h
  | [], _ :: _, _ :: _, _, _ => rfl
  | x :: a, y :: b, z :: c, h, k => by
    simp only [Op.bytesLess, Bool.or_eq_true, decide_eq_true_eq, Bool.and_eq_true, beq_iff_eq] at *
    rcases h with h | ⟨rfl, h⟩
    · rcases k with k | ⟨rfl, k⟩
      · exact .inl (UInt8.lt_trans h k)
      · exact .inl h
    · rcases k with k | ⟨rfl, k⟩
      · exact .inl k
      · exact .inr ⟨rfl, bl_trans h k⟩
theorem bl_total : ∀ {a b : List UInt8}, a ≠ b → Op.bytesLess a b = true ∨ Op.bytesLess b a = true
  | [], [], h => absurd rfl h
  | [], _ :: _, _ => .inl rfl
  | _ :: _, [], _ => .inr rfl
  | x :: a, y :: b, h => by
    simp only [Op.bytesLess, Bool.or_eq_true, decide_eq_true_eq, Bool.and_eq_true, beq_iff_eq]
    by_cases hxy : x = y
    · subst hxy
      have : a ≠ b := fun e => h (by rw [e])
      rcases bl_total this with h1 | h1
      · exact .inl (.inr ⟨rfl, h1⟩)
      · exact .inr (.inr ⟨rfl, h1⟩)
    · rcases UInt8.lt_or_lt_of_ne hxy with h1 | h1
      · exact .inl (.inl h1)
      · exact .inr (.inl h1)
theorem bl_asymm {a b : List UInt8} (h : Op.bytesLess a b = true) : Op.bytesLess b a = false := by
  cases hb : Op.bytesLess b a with
  | false => rfl
  | true => have := bl_trans h hb; rw [bl_irrefl] at this; cases this

theorem lex_trans {α : Type} {R : α → α → Prop} {a b c : α} {s1 s2 s3 : Prop} (hR : ∀ {x y z}, R x y → R y z → R x z) (hs : s1 → s2 → s3) : (R a b ∨ a = b ∧ s1) → (R b c ∨ b = c ∧ s2) → (R a c ∨ a = c ∧ s3) := by
  rintro (h | ⟨rfl, h⟩) (k | ⟨rfl, k⟩)
  · exact .inl (hR h k)
  · exact .inl h
  · exact .inl k
  · exact .inr ⟨rfl, hs h k⟩
/-- Ahead, in one word. -/
def Ahead (a b : Fl) : Prop := a.proto < b.proto ∨ a.proto = b.proto ∧ (Op.bytesLess a.src b.src = true ∨ a.src = b.src ∧ (a.port < b.port ∨ a.port = b.port ∧ (Op.bytesLess a.dst b.dst = true ∨ a.dst = b.dst ∧ a.dest < b.dest)))
theorem ahead_iff {a b : Fl} : aheadB a b = true ↔ Ahead a b := by
  unfold aheadB Ahead
  by_cases h1 : a.proto = b.proto
  · rw [if_neg (by simp [h1])]
    by_cases h2 : a.src = b.src
    · rw [if_neg (by simp [h2])]
      by_cases h3 : a.port = b.port
      · rw [if_neg (by simp [h3])]
        by_cases h4 : a.dst = b.dst
        · rw [if_neg (by simp [h4])]; simp [h1, h2, h3, h4, bl_irrefl]
        · rw [if_pos h4]; simp [h1, h2, h3, h4, bl_irrefl]
      · rw [if_pos h3]; simp [h1, h2, h3, bl_irrefl]
    · rw [if_pos h2]; simp [h1, h2]
  · rw [if_pos h1]; simp [h1]
theorem ahead_trans {a b c : Fl} : Ahead a b → Ahead b c → Ahead a c :=
  lex_trans (fun h k => Int.lt_trans h k) (lex_trans (R := fun a b => Op.bytesLess a b = true) bl_trans (lex_trans (fun h k => Int.lt_trans h k) (lex_trans (R := fun a b => Op.bytesLess a b = true) bl_trans (fun h k => Int.lt_trans h k))))
theorem ahead_irrefl (a : Fl) : ¬ Ahead a a := by simp [Ahead, bl_irrefl]
theorem ahead_total {a b : Fl} (h : a ≠ b) : Ahead a b ∨ Ahead b a := by
  unfold Ahead
  by_cases h1 : a.proto = b.proto
  · by_cases h2 : a.src = b.src
    · by_cases h3 : a.port = b.port
      · by_cases h4 : a.dst = b.dst
        · have h5 : a.dest ≠ b.dest := fun h5 => h (by cases a; cases b; simp_all)
          simp only [h1, h2, h3, h4, bl_irrefl]; simp; omega
        · rcases bl_total h4 with h5 | h5 <;> simp [h1, h2, h3, h5]
      · simp only [h1, h2, bl_irrefl]; simp; omega
    · rcases bl_total h2 with h5 | h5 <;> simp [h1, h5]
  · omega
theorem cmpI_lt {a b : Int} : cmpI a b < 0 ↔ a < b := by
  unfold cmpI
  repeat' split
  all_goals omega
theorem cmpI_zero {a b : Int} : cmpI a b = 0 ↔ a = b := by
  unfold cmpI
  repeat' split
  all_goals omega
theorem cmpS_lt {a b : List UInt8} : cmpS a b < 0 ↔ Op.bytesLess a b = true := by
  unfold cmpS
  split
  · rename_i h; simp [h]
  · rename_i h; simp at h; simp only [h]; split <;> simp
theorem cmpS_zero {a b : List UInt8} : cmpS a b = 0 ↔ a = b := by
  unfold cmpS
  split
  · rename_i h; simp; rintro rfl; rw [bl_irrefl] at h; cases h
  · rename_i h; simp at h
    split
    · rename_i h2; simp at h2; simp [h2]
    · rename_i h2; simpa [h] using h2
theorem orI_cons {x : Int} {r : List Int} : (orI (x :: r) < 0 ↔ x < 0 ∨ x = 0 ∧ orI r < 0) ∧ (orI (x :: r) = 0 ↔ x = 0 ∧ orI r = 0) := by
  unfold orI
  split
  · rename_i h; simp [h]
  · rename_i h; have h : x = 0 := by simpa using h
    subst h; cases r <;> simp [orI]
theorem cmpF_lt {a b : Fl} : cmpF a b < 0 ↔ Ahead a b := by
  unfold cmpF Ahead
  simp only [orI_cons.1, cmpI_lt, cmpS_lt, cmpI_zero, cmpS_zero]
  have : orI [] < 0 ↔ False := by simp [orI]
  simp only [this, and_false, or_false]
theorem cmpF_zero {a b : Fl} : cmpF a b = 0 ↔ a = b := by
  unfold cmpF
  simp only [orI_cons.2, cmpI_zero, cmpS_zero]
  have : orI [] = 0 ↔ True := by simp [orI]
  simp only [this, and_true]
  cases a; cases b
  simp only [Fl.mk.injEq]
  exact ⟨fun ⟨a, b, c, d, e⟩ => ⟨a, b, d, c, e⟩, fun ⟨a, b, c, d, e⟩ => ⟨a, b, d, c, e⟩⟩
/-- By flow. -/
def ltA (a b : En) : Bool := decide (cmpF a.flow b.flow < 0)
/-- By end, then by flow. -/
def ltE (a b : En) : Bool := decide (orI [cmpI a.ends b.ends, cmpF a.flow b.flow] < 0)
theorem ltA_iff {a b : En} : ltA a b = true ↔ Ahead a.flow b.flow := by simp [ltA, cmpF_lt]
def AheadE (a b : En) : Prop := a.ends < b.ends ∨ a.ends = b.ends ∧ Ahead a.flow b.flow
theorem ltE_iff {a b : En} : ltE a b = true ↔ AheadE a b := by
  have : orI [] < 0 ↔ False := by simp [orI]
  simp only [ltE, decide_eq_true_eq, orI_cons.1, cmpI_lt, cmpI_zero, cmpF_lt, this, and_false, or_false, AheadE]
theorem aheadE_trans {a b c : En} : AheadE a b → AheadE b c → AheadE a c := lex_trans (fun h k => Int.lt_trans h k) ahead_trans
theorem aheadE_irrefl (a : En) : ¬ AheadE a a := by simp [AheadE, ahead_irrefl]
theorem swo_of {lt : En → En → Bool} {R : En → En → Prop} (hi : ∀ {a b}, lt a b = true ↔ R a b) (ht : ∀ {a b c}, R a b → R b c → R a c) (hr : ∀ a, ¬ R a a) (hn : ∀ {a b c}, ¬ R a b → ¬ R b c → ¬ R a c) : Go.Sort.SWO (α := En) (fun a b => lt a b) := by
  refine ⟨fun x => ?_, fun x y z h k => hi.2 (ht (hi.1 h) (hi.1 k)), fun x y z h k => ?_⟩
  · rw [← Bool.not_eq_true]; exact fun h => hr x (hi.1 h)
  · rw [← Bool.not_eq_true] at *; exact fun h' => hn (fun e => h (hi.2 e)) (fun e => k (hi.2 e)) (hi.1 h')
theorem ahead_n {a b c : Fl} (h : ¬ Ahead a b) (k : ¬ Ahead b c) : ¬ Ahead a c := by
  intro hac
  by_cases hab : a = b
  · subst hab; exact k hac
  · rcases ahead_total hab with h1 | h1
    · exact h h1
    · exact k (ahead_trans h1 hac)
theorem aheadE_n {a b c : En} (h : ¬ AheadE a b) (k : ¬ AheadE b c) : ¬ AheadE a c := by
  simp only [AheadE, not_or, not_and] at *
  refine ⟨by omega, fun e => ?_⟩
  have e1 : a.ends = b.ends := by omega
  exact ahead_n (h.2 e1) (k.2 (by omega))
instance : Inhabited En := ⟨zeroE⟩
theorem swoA : Go.Sort.SWO (α := En) (fun a b => ltA a b) := swo_of ltA_iff ahead_trans (fun _ => ahead_irrefl _) ahead_n
theorem swoE : Go.Sort.SWO (α := En) (fun a b => ltE a b) := swo_of ltE_iff aheadE_trans aheadE_irrefl aheadE_n
end Go.Own.Try
