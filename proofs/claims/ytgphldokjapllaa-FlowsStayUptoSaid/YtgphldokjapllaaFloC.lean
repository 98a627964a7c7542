/- Part of the proofs: F30, F31, F32. -/
import Derived.Test.YtgphldokjapllaaFloA
import Derived.Test.YtgphldokjapllaaTreeB

namespace Go.Own.Try
open Go.Own Go.Proofs
set_option maxRecDepth 20000

def addU (a b : Int) : Int := IntKind.u64.wrap (a + b)
def xorU (a b : Int) : Int := IntKind.u64.wrap (BitVec.ofInt IntKind.u64.bits a ^^^ BitVec.ofInt IntKind.u64.bits b).toNat
def orU (a b : Int) : Int := IntKind.u64.wrap (BitVec.ofInt IntKind.u64.bits a ||| BitVec.ofInt IntKind.u64.bits b).toNat
def turnedI (n : Int) (k : Nat) : Int := orU (IntKind.u64.wrap (n * 2 ^ min k IntKind.u64.bits)) (n.fdiv (2 ^ min (64 - k) IntKind.u64.bits))
theorem shl_u {a : Int} {k : IntKind} {b : Nat} {K : AV → Prop} (hK : K (.int .u64 (IntKind.u64.wrap (a * 2 ^ min b IntKind.u64.bits)))) : some1 (abin .shl (.int .u64 a) (.int k b)) K := by
  refine some1_of ?_ hK
  simp [abin]
theorem shr_k {q k : IntKind} {a : Int} {b : Nat} {K : AV → Prop} (hK : K (.int q (a.fdiv (2 ^ min b q.bits)))) : some1 (abin .shr (.int q a) (.int k b)) K := by
  refine some1_of ?_ hK
  simp [abin]
theorem c75 (n : Int) (k : Nat) (hk : k ≤ 64) : Pure 75 [.int .u64 n, .int .i64 k] (.int .u64 (turnedI n k)) := by
  intro h
  apply T75_calls
  unfold T75
  refine shl_u (abin_i (by decide) rfl ?_)
  have e : IntKind.i64.wrap (64 - (k : Int)) = ((64 - k : Nat) : Int) := by rw [i64_id (by omega) (by omega)]; omega
  rw [e]
  refine shr_k (abin_i (by decide) rfl ?_)
  exact Ret.now ⟨rfl, rfl⟩

structure S4 where
  a : Int
  b : Int
  c : Int
  d : Int
def S4.cs (s : S4) : List AV := [.int .u64 s.a, .int .u64 s.b, .int .u64 s.c, .int .u64 s.d]
def rnd (s : S4) : S4 :=
  let a1 := addU s.a s.b
  let b1 := xorU (turnedI s.b 13) a1
  let a2 := turnedI a1 32
  let c1 := addU s.c s.d
  let d1 := xorU (turnedI s.d 16) c1
  let a3 := addU a2 d1
  let d2 := xorU (turnedI d1 21) a3
  let c2 := addU c1 b1
  let b2 := xorU (turnedI b1 17) c2
  ⟨a3, b2, turnedI c2 32, d2⟩
def rnds : Nat → S4 → S4
  | 0, s => s
  | n + 1, s => rnds n (rnd s)
/-- The state's cells are read and written. -/
theorem ld {h : AHeap} {id k : Nat} {cs : List AV} {v : AV} {K : AV → AV → Prop} (hk : k < 4) (hv : cs[k]? = some v) (hK : K (.ptr id 0 k) v) :
    anil (.ptr id 0 0) = true ∧ some1 (aiaddr (some 4) 1 (.ptr id 0 0) (.int .i64 k)) fun p => some1 (aloadv false 1 p (h.set id (.cells 0 cs))) fun v => K p v := by
  refine ⟨rfl, .ptr id 0 k, by simp [aiaddr, hk], ?_⟩
  exact get_at AHeap.same_set hv hK
theorem st {h : AHeap} {id k : Nat} {cs cs' : List AV} {v : Int} {K : AV → AHeap → Prop} (hk : k < 4) (hc : cs.length = 4) (hs : cs.set k (.int .u64 v) = cs') (hK : K (.ptr id 0 k) (h.set id (.cells 0 cs'))) :
    anil (.ptr id 0 0) = true ∧ some1 (aiaddr (some 4) 1 (.ptr id 0 0) (.int .i64 k)) fun p => some1 (astorev 1 p (.int .u64 v) (h.set id (.cells 0 cs))) fun h' => K p h' := by
  refine ⟨rfl, .ptr id 0 k, by simp [aiaddr, hk], ?_⟩
  refine put_at (cs' := cs') AHeap.same_set rfl rfl ?_ (by omega) ?_
  · subst hs
    simp only [splice, List.length_singleton]
    rw [List.set_eq_take_append_cons_drop, if_pos (by omega)]; simp
  · rw [AHeap.set_set]; exact hK
theorem addu {a b : Int} {K : AV → Prop} (hK : ∀ x, x = addU a b → K (.int .u64 x)) : some1 (abin .add (.int .u64 a) (.int .u64 b)) K := abin_i (by decide) rfl (hK _ rfl)
theorem xoru {a b : Int} {K : AV → Prop} (hK : ∀ x, x = xorU a b → K (.int .u64 x)) : some1 (abin .xor (.int .u64 a) (.int .u64 b)) K := abin_i (by decide) rfl (hK _ rfl)
theorem tur {n : Int} (k : Nat) (hk : k ≤ 64) {h : AHeap} {K : AV → Prop} (hK : ∀ x, x = turnedI n k → K (.int .u64 x)) : aqcall Try.prog 75 [.int .u64 n, .int .i64 k] h K := aqcall_of (c75 n k hk h) (hK _ rfl)
theorem c73 {h : AHeap} {id : Nat} {s : S4} (k : Nat) (hk : k ≤ 100) (hg : h.get id = some (.cells 0 s.cs)) :
    ACalls Try.prog 73 [.ptr id 0 0, .int .i64 k] h fun v h' => v = .tuple [] ∧ h' = h.set id (.cells 0 (rnds k s).cs) := by
  apply T73_calls
  unfold T73
  generalize hres : rnds k s = res
  refine aloop (fun m fr hl => fr 0 = .ptr id 0 0 ∧ fr 4 = .int .i64 k ∧ ∃ (i : Nat) (s' : S4), fr 5 = .int .i64 i ∧ m + i = k ∧ rnds m s' = res ∧ hl = h.set id (.cells 0 s'.cs)) k
    ⟨by simp, by simp, 0, s, by simp, by omega, hres, (AHeap.set_self hg).symm⟩ ?_
  rintro J hJ m fr hl ⟨f0, f4, i, s', f5, hm, hr, rfl⟩
  rw [f0, f4, f5]
  refine abin_i (by decide) rfl ?_
  rw [aif_bool]
  split
  · rename_i hi
    have hi : i < k := by simpa using hi
    obtain ⟨m, rfl⟩ : ∃ m', m = m' + 1 := ⟨m - 1, by omega⟩
    rw [rnds] at hr
    refine ld (k := 0) (by decide) rfl (ld (k := 1) (by decide) rfl (addu fun a1 ha1 => st (k := 0) (cs' := S4.cs ⟨a1, s'.b, s'.c, s'.d⟩) (by decide) rfl rfl ?_))
    refine ld (k := 1) (by decide) rfl (tur 13 (by decide) fun t1 ht1 => ld (k := 0) (by decide) rfl (xoru fun b1 hb1 => st (k := 1) (cs' := S4.cs ⟨a1, b1, s'.c, s'.d⟩) (by decide) rfl rfl ?_))
    refine ld (k := 0) (by decide) rfl (tur 32 (by decide) fun a2 ha2 => st (k := 0) (cs' := S4.cs ⟨a2, b1, s'.c, s'.d⟩) (by decide) rfl rfl ?_)
    refine ld (k := 2) (by decide) rfl (ld (k := 3) (by decide) rfl (addu fun c1 hc1 => st (k := 2) (cs' := S4.cs ⟨a2, b1, c1, s'.d⟩) (by decide) rfl rfl ?_))
    refine ld (k := 3) (by decide) rfl (tur 16 (by decide) fun t2 ht2 => ld (k := 2) (by decide) rfl (xoru fun d1 hd1 => st (k := 3) (cs' := S4.cs ⟨a2, b1, c1, d1⟩) (by decide) rfl rfl ?_))
    refine ld (k := 0) (by decide) rfl (ld (k := 3) (by decide) rfl (addu fun a3 ha3 => st (k := 0) (cs' := S4.cs ⟨a3, b1, c1, d1⟩) (by decide) rfl rfl ?_))
    refine ld (k := 3) (by decide) rfl (tur 21 (by decide) fun t3 ht3 => ld (k := 0) (by decide) rfl (xoru fun d2 hd2 => st (k := 3) (cs' := S4.cs ⟨a3, b1, c1, d2⟩) (by decide) rfl rfl ?_))
    refine ld (k := 2) (by decide) rfl (ld (k := 1) (by decide) rfl (addu fun c2 hc2 => st (k := 2) (cs' := S4.cs ⟨a3, b1, c2, d2⟩) (by decide) rfl rfl ?_))
    refine ld (k := 1) (by decide) rfl (tur 17 (by decide) fun t4 ht4 => ld (k := 2) (by decide) rfl (xoru fun b2 hb2 => st (k := 1) (cs' := S4.cs ⟨a3, b2, c2, d2⟩) (by decide) rfl rfl ?_))
    refine ld (k := 2) (by decide) rfl (tur 32 (by decide) fun c3 hc3 => st (k := 2) (cs' := S4.cs ⟨a3, b2, c3, d2⟩) (by decide) rfl rfl ?_)
    have he : rnd s' = ⟨a3, b2, c3, d2⟩ := by
      simp only [rnd]
      rw [← ha1, ← ht1, ← hb1, ← ha2, ← hc1, ← ht2, ← hd1, ← ha3, ← ht3, ← hd2, ← hc2, ← ht4, ← hb2, ← hc3]
    rw [he] at hr
    refine abin_i (by decide) rfl ?_
    refine hJ m (by omega) ⟨by simp [f0], by simp [f4], i + 1, ⟨a3, b2, c3, d2⟩, ?_, by omega, hr, rfl⟩
    rw [show ((i + 1 : Nat) : Int) = IntKind.i64.wrap ((i : Int) + 1) from by rw [i64_id (by omega) (by omega)]; omega]
    clear hr he hc3 hb2 ht4 hc2 hd2 ht3 ha3 hd1 ht2 hc1 ha2 hb1 ht1 ha1
    simp
  · rename_i hi
    have : m = 0 := by simp at hi; omega
    subst this
    rw [rnds] at hr
    subst hr
    exact Ret.now ⟨rfl, rfl⟩
def takeS (s : S4) (n : Int) : S4 := { rnds 2 { s with d := xorU s.d n } with a := xorU (rnds 2 { s with d := xorU s.d n }).a n }
theorem c72 {h : AHeap} {id : Nat} {s : S4} (n : Int) (hg : h.get id = some (.cells 0 s.cs)) :
    ACalls Try.prog 72 [.ptr id 0 0, .int .u64 n] h fun v h' => v = .tuple [] ∧ h' = h.set id (.cells 0 (takeS s n).cs) := by
  apply T72_calls
  unfold T72
  rw [← AHeap.set_self hg]
  refine ld (k := 3) (by decide) rfl (xoru fun d1 hd1 => st (k := 3) (cs' := S4.cs ⟨s.a, s.b, s.c, d1⟩) (by decide) rfl rfl ?_)
  refine acall_of' (by kernel_rfl) ((c73 (s := ⟨s.a, s.b, s.c, d1⟩) 2 (by decide) AHeap.same_set).mono ?_)
  rintro _ _ ⟨rfl, rfl⟩
  rw [AHeap.set_set]
  generalize hr : rnds 2 ⟨s.a, s.b, s.c, d1⟩ = s2
  refine ld (k := 0) (by decide) rfl (xoru fun a1 ha1 => st (k := 0) (cs' := S4.cs ⟨a1, s2.b, s2.c, s2.d⟩) (by decide) rfl rfl ?_)
  have he : takeS s n = ⟨a1, s2.b, s2.c, s2.d⟩ := by
    simp only [takeS]
    rw [← hd1, hr, ← ha1]
  refine Ret.now ⟨rfl, ?_⟩
  rw [AHeap.set_set, he]

/-- A number out of bytes. -/
def numG : List UInt8 → Nat → Int → Int
  | [], _, n => n
  | x :: r, k, n => numG r (k + 1) (orU n (IntKind.u64.wrap ((x.toNat : Int) * 2 ^ min (8 * k) IntKind.u64.bits)))
def numI (l : List UInt8) : Int := numG l 0 0
theorem c71 {h : AHeap} {v : AV} {l : List UInt8} (hv : Rd h 1 v (ofBytes l) l.length) (hl : l.length ≤ 1000000000) : ACalls Try.prog 71 [v] h fun v' h' => v' = .int .u64 (numI l) ∧ h' = h := by
  apply T71_calls
  unfold T71
  refine some1_of hv.len ?_
  unfold numI
  generalize hres : numG l 0 0 = res
  refine aloop (fun m fr hl => hl = h ∧ fr 6 = v ∧ fr 7 = .int .i64 l.length ∧ ∃ (i : Nat) (n : Int), fr 8 = .int .i64 i ∧ fr 3 = .int .u64 n ∧ m + i = l.length ∧ numG (l.drop i) i n = res) l.length
    ⟨rfl, by simp, by simp, 0, 0, by simp, by simp, by omega, by simpa using hres⟩ ?_
  rintro J hJ m fr _ ⟨rfl, f6, f7, i, n, f8, f3, hm, hr⟩
  rw [f6, f7, f8, f3]
  refine abin_i (by decide) rfl ?_
  rw [aif_bool]
  split
  · rename_i hi
    have hi : i < l.length := by simpa using hi
    obtain ⟨p, h1, h2, h3, h4⟩ := hv.at hi
    have hx : (ofBytes l)[i * 1]? = some (.int .u8 (l[i].toNat : Int)) := by simp [ofBytes, hi]
    refine some1_of h1 (some1_of (by rw [h3 (by decide), hx]) ?_)
    have hw : IntKind.u64.wrap (l[i].toNat : Int) = (l[i].toNat : Int) := by
      have := l[i].toNat_lt
      simp only [IntKind.wrap, IntKind.signed, IntKind.bits]
      simp
      omega
    refine some1_of (v := (.int .u64 (l[i].toNat : Int), _)) (by simp only [acv, hw]; rfl) ?_
    refine abin_i (by decide) rfl ?_
    have e8 : IntKind.i64.wrap (8 * (i : Int)) = ((8 * i : Nat) : Int) := by rw [i64_id (by omega) (by omega)]; omega
    rw [e8]
    refine shl_u (abin_i (by decide) rfl (abin_i (by decide) rfl ?_))
    refine hJ (m - 1) (by omega) ⟨rfl, by simp [f6], by simp [f7], i + 1, _, ?_, by simp; rfl, by omega, ?_⟩
    · simp; rw [i64_id (by omega) (by omega)]
    · rw [List.drop_eq_getElem_cons hi, numG] at hr
      exact hr
  · rename_i hi
    have hi : ¬ i < l.length := by simpa using hi
    rw [List.drop_of_length_le (by omega), numG] at hr
    exact Ret.now ⟨by rw [hr], rfl⟩
end Go.Own.Try

namespace Go.Own
open Go.RowKit
theorem Rd.take1 {h : AHeap} {w n k : Nat} {v : AV} {cs : List AV} (x : Rd h w v cs n) (hk : k ≤ n) (h' : AHeap) : ∃ v', aslice (.sl w) v none (some (.int .i64 k)) none h' = some v' ∧ Rd h w v' (cs.take (k * w)) k := by
  have hl := x.length
  have hkn : k * w ≤ n * w := Nat.mul_le_mul_right _ hk
  cases x with
  | lst h1 =>
    refine ⟨.lst (cs.take (k * w)) k, ?_, .lst (by rw [List.length_take]; omega)⟩
    simp [aslice, abnd, hk]
  | @sl i r off n all h1 h2 h3 =>
    refine ⟨.sl i r off k w, ?_, ?_⟩
    · simp [aslice, abnd, hk]
    · have := Rd.sl (w := w) (n := k) h1 h2 (off := off) (by omega)
      rwa [List.take_take, Nat.min_eq_left hkn]
  | nils =>
    have : k = 0 := by omega
    subst this
    exact ⟨.nils, by simp [aslice, abnd], by simpa using Rd.nils⟩
  | emp =>
    have : k = 0 := by omega
    subst this
    exact ⟨.emp, by simp [aslice, abnd], by simpa using Rd.emp⟩
theorem Rd.drop1 {h : AHeap} {w n k : Nat} {v : AV} {cs : List AV} (x : Rd h w v cs n) (hk : k ≤ n) (h' : AHeap) : ∃ v', aslice (.sl w) v (some (.int .i64 k)) none none h' = some v' ∧ Rd h w v' (cs.drop (k * w)) (n - k) := by
  have hl := x.length
  have hkn : k * w ≤ n * w := Nat.mul_le_mul_right _ hk
  have hsub : (n - k) * w = n * w - k * w := Nat.sub_mul ..
  cases x with
  | lst h1 =>
    refine ⟨.lst (cs.drop (k * w)) (n - k), ?_, .lst (by rw [List.length_drop]; omega)⟩
    simp [aslice, abnd, hk]
    rw [List.take_of_length_le (by rw [List.length_drop]; omega)]
  | @sl i r off n all h1 h2 h3 =>
    refine ⟨.sl i r (off + k * w) (n - k) w, ?_, ?_⟩
    · simp [aslice, abnd, hk]
    · have := Rd.sl (w := w) (n := n - k) h1 h2 (off := off + k * w) (by omega)
      rw [List.drop_take, List.drop_drop, ← hsub]
      exact this
  | nils =>
    have : k = 0 := by omega
    subst this
    exact ⟨.nils, by simp [aslice, abnd], by simpa using Rd.nils⟩
  | emp =>
    have : k = 0 := by omega
    subst this
    exact ⟨.emp, by simp [aslice, abnd], by simpa using Rd.emp⟩
theorem ofBytes_take (l : List UInt8) (k : Nat) : (ofBytes l).take k = ofBytes (l.take k) := by simp [ofBytes, List.map_take]
theorem ofBytes_drop (l : List UInt8) (k : Nat) : (ofBytes l).drop k = ofBytes (l.drop k) := by simp [ofBytes, List.map_drop]
theorem ofBytes_append (l k : List UInt8) : ofBytes l ++ ofBytes k = ofBytes (l ++ k) := by simp [ofBytes]
/-- Bytes put behind bytes. -/
theorem app_sl {h : AHeap} {i r n k : Nat} {cs news : List AV} {x : AV} {K : AV × AHeap → Prop} (hg : h.get i = some (.cells r cs)) (hc : cs.length = n) (hx : anews h 1 x = some (news, k)) (hk : news.length = k) (hroom : n + k ≤ room) (hs : news.all AV.scalar = true)
    (H : ∀ r' h', h'.get i = some (.cells r' (cs ++ news)) → h'.next = h.next → (∀ j, j ≠ i → h'.get j = h.get j) → K (.sl i r' 0 (n + k) 1, h')) : some1 (aappend 1 1 (.sl i r 0 n 1) x h) K := by
  by_cases h0 : k = 0
  · refine ⟨(.sl i r 0 n 1, h), ?_, ?_⟩
    · simp only [aappend, hx, hg]
      rw [if_pos ⟨trivial, trivial, trivial, by omega⟩, if_pos h0]
    · have hn : news = [] := List.length_eq_zero_iff.1 (hk.trans h0)
      have := H r h (by rw [hn, List.append_nil]; exact hg) rfl fun _ _ => rfl
      rwa [h0, Nat.add_zero] at this
  · refine ⟨(.sl i (r + 1) 0 (n + k) 1, h.set i (.cells (r + 1) (cs ++ news))), ?_, H _ _ (by simp) rfl fun j hj => by simp [hj]⟩
    simp only [aappend, hx, hg]
    rw [if_pos ⟨trivial, trivial, trivial, by omega⟩, if_neg h0, if_pos ⟨by omega, hs⟩]
end Go.Own
namespace Go.Own.Try
open Go.Own Go.Proofs
set_option maxRecDepth 20000

theorem scalar_bytes (l : List UInt8) : (ofBytes l).all AV.scalar = true := by
  rw [List.all_eq_true]; intro x hx; simp only [ofBytes, List.mem_map] at hx; obtain ⟨c, _, rfl⟩ := hx; rfl
theorem az120 : azero Try.prog 120 = some (S4.cs ⟨0, 0, 0, 0⟩) := by kernel_rfl
def absorb : Nat → List UInt8 → S4 → List UInt8 × S4
  | 0, l, s => (l, s)
  | n + 1, l, s => if 8 ≤ l.length then absorb n (l.drop 8) (takeS s (numI (l.take 8))) else (l, s)
theorem absorb_stop {l : List UInt8} {s : S4} (h : ¬ 8 ≤ l.length) : ∀ n, absorb n l s = (l, s)
  | 0 => rfl
  | n + 1 => by rw [absorb, if_neg h]
def startS (x y : Int) : S4 := ⟨xorU 8317987319222330741 x, xorU 7237128888997146477 y, xorU 7816392313619706465 x, xorU 8387220255154660723 y⟩
def finS (s : S4) : S4 := rnds 4 { s with c := xorU s.c 255 }
def outI (s : S4) : Int := xorU (xorU (xorU s.a s.b) s.c) s.d
def sumI (key l : List UInt8) : Int :=
  outI (finS (takeS (absorb l.length l (startS (numI (key.take 8)) (numI (key.drop 8)))).2
    (orU (numI (absorb l.length l (startS (numI (key.take 8)) (numI (key.drop 8)))).1) (IntKind.u64.wrap (IntKind.u64.wrap (l.length : Int) * 2 ^ min 56 IntKind.u64.bits)))))

theorem c63 {h : AHeap} {v : AV} {key l : List UInt8} (hk : key.length = 16) (hv : Rd h 1 v (ofBytes l) l.length) (hl : l.length ≤ 1000000000) :
    ACalls Try.prog 63 [.agg (ofBytes key), v] h fun r h' => r = .int .u64 (sumI key l) ∧ h' = h := by
  apply T63_calls
  unfold T63
  refine box rfl ?_
  intro h1 n1
  have hkl : (ofBytes key).length = 16 := by rw [ofBytes_length, hk]
  have hlt : h.next < h1.next := by rw [n1.next]; omega
  have hr1 : Rd h1 1 (.sl h.next 0 0 8 1) (ofBytes (key.take 8)) (key.take 8).length := by
    have := Rd.sl (w := 1) (n := 8) (off := 0) hlt n1.self (by omega)
    rw [List.drop_zero, ofBytes_take] at this
    rw [List.length_take, hk]; exact this
  have hr2 : Rd h1 1 (.sl h.next 0 8 8 1) (ofBytes (key.drop 8)) (key.drop 8).length := by
    have := Rd.sl (w := 1) (n := 8) (off := 8) hlt n1.self (by omega)
    rw [ofBytes_drop, List.take_of_length_le (by rw [ofBytes_length, List.length_drop]; omega)] at this
    rw [List.length_drop, hk]; exact this
  refine some1_of (v := .sl h.next 0 0 8 1) (by simp [aslice, abnd, n1.self, hkl]) ?_
  refine aqcall_of (c71 hr1 (by rw [List.length_take]; omega)) ?_
  refine some1_of (v := .sl h.next 0 8 8 1) (by simp [aslice, abnd, n1.self, hkl]) ?_
  refine acall_q (by kernel_rfl) (c71 hr2 (by rw [List.length_drop]; omega)) ?_
  unfold sumI
  generalize numI (key.take 8) = x
  generalize numI (key.drop 8) = y
  refine xoru fun a0 ha => xoru fun b0 hb => xoru fun c0 hc => xoru fun d0 hd => ?_
  have hs0 : startS x y = ⟨a0, b0, c0, d0⟩ := by simp only [startS]; rw [← ha, ← hb, ← hc, ← hd]
  rw [hs0]
  refine build (cs := S4.cs ⟨a0, b0, c0, d0⟩) az120 rfl ?_
  refine box rfl ?_
  intro h2 n2
  have o2 : Old h h2 := n1.old.trans n2.old
  refine some1_of (hv.old o2).len ?_
  refine some1_of (v := (.int .u64 (IntKind.u64.wrap (l.length : Int)), h2)) rfl ?_
  generalize IntKind.u64.wrap (l.length : Int) = L
  have hid : h.next ≤ h1.next := by omega
  have hset : ∀ o, Old h (h2.set h1.next o) := fun o => o2.set hid o
  generalize hres : absorb l.length l ⟨a0, b0, c0, d0⟩ = res
  have g2 := n2.self
  generalize hid0 : h1.next = id at *
  refine aloop (fun m fr hl => fr 7 = .ptr id 0 0 ∧ fr 8 = .int .u64 L ∧ ∃ (l' : List UInt8) (s : S4) (v' : AV), fr 1 = v' ∧ Rd h 1 v' (ofBytes l') l'.length ∧ l'.length ≤ m ∧ l'.length ≤ 1000000000 ∧ absorb m l' s = res ∧ hl = h2.set id (.cells 0 s.cs)) l.length
    ⟨by simp, by simp, l, ⟨a0, b0, c0, d0⟩, v, by simp, hv, Nat.le_refl _, hl, hres, (AHeap.set_self g2).symm⟩ ?_
  rintro J hJ m fr _ ⟨f7, f8, l', s, v', f1, hv', hm, hl', hr, rfl⟩
  rw [f7, f8, f1]
  have hvo : ∀ o, Rd (h2.set id o) 1 v' (ofBytes l') l'.length := fun o => hv'.old (hset o)
  refine some1_of (hvo _).len ?_
  refine abin_i (by decide) rfl ?_
  rw [aif_bool]
  split
  · rename_i h8
    have h8 : 8 ≤ l'.length := by simp at h8; omega
    obtain ⟨m, rfl⟩ : ∃ m', m = m' + 1 := ⟨m - 1, by omega⟩
    rw [absorb, if_pos h8] at hr
    obtain ⟨v1, e1, r1⟩ := hv'.take1 h8 (h2.set id (.cells 0 s.cs))
    rw [Nat.mul_one, ofBytes_take] at r1
    have r1 : Rd h 1 v1 (ofBytes (l'.take 8)) (l'.take 8).length := by rw [List.length_take, Nat.min_eq_left h8]; exact r1
    refine some1_of e1 ?_
    refine acall_q (by kernel_rfl) (c71 (r1.old (hset _)) (by rw [List.length_take]; omega)) ?_
    refine acall_of' (by kernel_rfl) ((c72 (s := s) _ AHeap.same_set).mono ?_)
    rintro _ _ ⟨rfl, rfl⟩
    rw [AHeap.set_set]
    obtain ⟨v2, e2, r2⟩ := hv'.drop1 h8 (h2.set id (.cells 0 (takeS s (numI (l'.take 8))).cs))
    rw [Nat.mul_one, ofBytes_drop] at r2
    have r2 : Rd h 1 v2 (ofBytes (l'.drop 8)) (l'.drop 8).length := by rw [List.length_drop]; exact r2
    refine some1_of e2 ?_
    refine hJ m (by omega) ⟨by simp [f7], by simp [f8], l'.drop 8, takeS s (numI (l'.take 8)), v2, by simp, r2, by rw [List.length_drop]; omega, by rw [List.length_drop]; omega, hr, rfl⟩
  · rename_i h8
    have h8 : ¬ 8 ≤ l'.length := by simp at h8; omega
    rw [absorb_stop h8] at hr
    subst hr
    refine acall_q (by kernel_rfl) (c71 (hvo _) (by omega)) ?_
    refine shl_u (b := 56) (abin_i (by decide) rfl ?_)
    refine acall_of' (by kernel_rfl) ((c72 (s := s) _ AHeap.same_set).mono ?_)
    rintro _ _ ⟨rfl, rfl⟩
    rw [AHeap.set_set]
    show _ ∧ _
    have horu : ∀ a b : Int, IntKind.u64.wrap (BitVec.ofInt IntKind.u64.bits a ||| BitVec.ofInt IntKind.u64.bits b).toNat = orU a b := fun _ _ => rfl
    rw [horu]
    generalize takeS s (orU (numI l') (IntKind.u64.wrap (L * 2 ^ min 56 IntKind.u64.bits))) = s1
    refine ld (k := 2) (by decide) rfl (xoru fun c1 hc1 => st (k := 2) (cs' := S4.cs ⟨s1.a, s1.b, c1, s1.d⟩) (by decide) rfl rfl ?_)
    refine acall_of' (by kernel_rfl) ((c73 (s := ⟨s1.a, s1.b, c1, s1.d⟩) 4 (by decide) AHeap.same_set).mono ?_)
    rintro _ _ ⟨rfl, rfl⟩
    rw [AHeap.set_set]
    have hf : finS s1 = rnds 4 ⟨s1.a, s1.b, c1, s1.d⟩ := by simp only [finS]; rw [← hc1]
    rw [hf]
    generalize rnds 4 ⟨s1.a, s1.b, c1, s1.d⟩ = s2
    refine ld (k := 0) (by decide) rfl (ld (k := 1) (by decide) rfl (xoru fun x1 hx1 => ld (k := 2) (by decide) rfl (xoru fun x2 hx2 => ld (k := 3) (by decide) rfl (xoru fun x3 hx3 => ?_))))
    refine Ret.pure (hset _) (by simp [AV.und]) ⟨?_, rfl⟩
    simp only [outI]
    rw [← hx1, ← hx2, ← hx3]
end Go.Own.Try

namespace Go.Own
open Go.RowKit
theorem litQ {P : Program} {t e : TypeId} {n w b : Nat} {zc cs : List AV} {ps : List (Nat × Nat × AV)} {k : List AV → Prop} (hk : elKind P t = some (e, w, b, zc)) (hn : 0 < n ∧ n * w ≤ 16777216) (hf : afill (zcells zc n) ps = some cs) (H : k cs) : alitQ P t n ps k := by
  unfold alitQ
  rw [hk]
  exact ⟨hn, cs, hf, H⟩
theorem newsl {cs : List AV} {n esz : Nat} {h : AHeap} {k : AV → AHeap → Prop} (H : ∀ h', New h (.cells 0 cs) h' → k (.sl h.next 0 0 n esz) h') : anewsl n esz cs h k := H _ (New.of h _)
theorem anews_sl {h : AHeap} {i r n : Nat} {cs : List AV} (hg : h.get i = some (.cells r cs)) (hc : cs.length = n) : anews h 1 (.sl i r 0 n 1) = some (cs, n) := by
  have h1 : sread h 1 (.sl i r 0 n 1) = some cs := by
    simp [sread, hg, hc]
    rw [List.take_of_length_le (by omega)]
  simp [anews, h1, slen]
theorem anews_str {h : AHeap} {s : List UInt8} : anews h 1 (.str s) = some (ofBytes s, s.length) := by simp [anews]
end Go.Own
namespace Go.Own.Try
open Go.Own Go.Proofs
set_option maxRecDepth 20000

def byteOf (n : Int) : UInt8 := UInt8.ofNat (IntKind.u8.wrap n).toNat
theorem byteOf_eq (n : Int) : AV.int .u8 (IntKind.u8.wrap n) = .int .u8 ((byteOf n).toNat : Int) := by
  congr 1
  have h : 0 ≤ IntKind.u8.wrap n ∧ IntKind.u8.wrap n < 256 := by
    simp only [IntKind.wrap, IntKind.signed, IntKind.bits]
    simp
    omega
  simp only [byteOf, UInt8.toNat_ofNat']
  omega
theorem el108 : elKind Try.prog 108 = some (5, 1, 1, [.int .u8 0]) := by kernel_rfl
def flowBytes (f : Fl) : List UInt8 :=
  ((([byteOf f.proto] ++ f.src) ++ [0]) ++ f.dst ++ [0]) ++ [byteOf (f.port.fdiv (2 ^ min 8 IntKind.i64.bits)), byteOf f.port, byteOf (f.dest.fdiv (2 ^ min 8 IntKind.i64.bits)), byteOf f.dest]
def hashI (key : List UInt8) (f : Fl) : Int := sumI key (flowBytes f)
theorem c45 {key : List UInt8} (f : Fl) (hk : key.length = 16) : Pure 45 [.agg (ofBytes key), .agg f.cs] (.int .u64 (hashI key f)) := by
  intro h
  apply T45_calls
  unfold T45
  have hsl := f.hsrc
  have hdl := f.hdst
  refine box rfl ?_
  intro h1 n1
  refine box rfl ?_
  intro h2 n2
  have x1 := n1.next
  have x2 := n2.next
  have o2 : Old h h2 := n1.old.trans n2.old
  have k2 : h2.get h.next = some (.cells 0 (ofBytes key)) := by rw [n2.other _ (by omega)]; exact n1.self
  have f2 : h2.get h1.next = some (.cells 0 f.cs) := n2.self
  refine fa (get_at f2 rfl ?_)
  refine some1_of (v := (.int .u8 (IntKind.u8.wrap f.proto), h2)) rfl ?_
  rw [byteOf_eq]
  refine lit el108 (by decide) (cs := ofBytes [byteOf f.proto]) rfl ?_
  rintro h3 (n3 : New h2 _ h3)
  have x3 := n3.next
  have k3 : h3.get h.next = some (.cells 0 (ofBytes key)) := by rw [n3.other _ (by omega)]; exact k2
  have f3 : h3.get h1.next = some (.cells 0 f.cs) := by rw [n3.other _ (by omega)]; exact f2
  have o3 : Old h h3 := o2.trans n3.old
  have b3 := n3.self
  generalize hid : h2.next = id at *
  refine fa (get_at f3 rfl ?_)
  refine app_sl b3 rfl anews_str (ofBytes_length _) (by unfold room; omega) (scalar_bytes _) ?_
  rintro r4 h4 b4 (x4 : h4.next = h3.next) (u4 : ∀ j, j ≠ id → h4.get j = h3.get j)
  rw [ofBytes_append] at b4
  have k4 : h4.get h.next = some (.cells 0 (ofBytes key)) := by rw [u4 _ (by omega)]; exact k3
  have f4 : h4.get h1.next = some (.cells 0 f.cs) := by rw [u4 _ (by omega)]; exact f3
  have o4 : Old h h4 := ⟨by have := o3.next; omega, fun j hj => by rw [u4 _ (by omega)]; exact o3.get j hj⟩
  refine litQ el108 (by decide) (cs := ofBytes [0]) rfl ?_
  refine fa (get_at f4 rfl ?_)
  refine litQ el108 (by decide) (cs := ofBytes [0]) rfl ?_
  refine newsl ?_
  rintro h5 (n5 : New h4 _ h5)
  have x5 := n5.next
  have k5 : h5.get h.next = some (.cells 0 (ofBytes key)) := by rw [n5.other _ (by omega)]; exact k4
  have f5 : h5.get h1.next = some (.cells 0 f.cs) := by rw [n5.other _ (by omega)]; exact f4
  have b5 : h5.get id = some (.cells r4 (ofBytes ([byteOf f.proto] ++ f.src))) := by rw [n5.other _ (by omega)]; exact b4
  have o5 : Old h h5 := o4.trans n5.old
  refine app_sl b5 (by rw [ofBytes_length, List.length_append]; rfl) (anews_sl n5.self rfl) rfl (by unfold room; omega) (scalar_bytes _) ?_
  rintro r6 h6 b6 (x6 : h6.next = h5.next) (u6 : ∀ j, j ≠ id → h6.get j = h5.get j)
  rw [ofBytes_append] at b6
  have k6 : h6.get h.next = some (.cells 0 (ofBytes key)) := by rw [u6 _ (by omega)]; exact k5
  have f6 : h6.get h1.next = some (.cells 0 f.cs) := by rw [u6 _ (by omega)]; exact f5
  have o6 : Old h h6 := ⟨by have := o5.next; omega, fun j hj => by rw [u6 _ (by omega)]; exact o5.get j hj⟩
  refine ⟨get_at f6 rfl rfl, ?_⟩
  refine app_sl b6 (by simp [ofBytes_length]; omega) anews_str (ofBytes_length _) (by unfold room; omega) (scalar_bytes _) ?_
  rintro r7 h7 b7 (x7 : h7.next = h6.next) (u7 : ∀ j, j ≠ id → h7.get j = h6.get j)
  rw [ofBytes_append] at b7
  have k7 : h7.get h.next = some (.cells 0 (ofBytes key)) := by rw [u7 _ (by omega)]; exact k6
  have f7 : h7.get h1.next = some (.cells 0 f.cs) := by rw [u7 _ (by omega)]; exact f6
  have o7 : Old h h7 := ⟨by have := o6.next; omega, fun j hj => by rw [u7 _ (by omega)]; exact o6.get j hj⟩
  refine newsl ?_
  rintro h8 (n8 : New h7 _ h8)
  have x8 := n8.next
  have k8 : h8.get h.next = some (.cells 0 (ofBytes key)) := by rw [n8.other _ (by omega)]; exact k7
  have f8 : h8.get h1.next = some (.cells 0 f.cs) := by rw [n8.other _ (by omega)]; exact f7
  have b8 : h8.get id = some (.cells r7 (ofBytes ([byteOf f.proto] ++ f.src ++ [0] ++ f.dst))) := by rw [n8.other _ (by omega)]; exact b7
  have o8 : Old h h8 := o7.trans n8.old
  refine app_sl b8 (by simp [ofBytes_length]; omega) (anews_sl n8.self rfl) rfl (by unfold room; omega) (scalar_bytes _) ?_
  rintro r9 h9 b9 (x9 : h9.next = h8.next) (u9 : ∀ j, j ≠ id → h9.get j = h8.get j)
  rw [ofBytes_append] at b9
  have k9 : h9.get h.next = some (.cells 0 (ofBytes key)) := by rw [u9 _ (by omega)]; exact k8
  have f9 : h9.get h1.next = some (.cells 0 f.cs) := by rw [u9 _ (by omega)]; exact f8
  have o9 : Old h h9 := ⟨by have := o8.next; omega, fun j hj => by rw [u9 _ (by omega)]; exact o8.get j hj⟩
  refine get_all k9 (by rw [ofBytes_length, hk]) ?_
  refine fa (get_at f9 rfl (shr_k (b := 8) ?_))
  refine some1_of (v := (.int .u8 (IntKind.u8.wrap _), h9)) rfl ?_
  refine fa (get_at f9 rfl ?_)
  refine some1_of (v := (.int .u8 (IntKind.u8.wrap _), h9)) rfl ?_
  refine fa (get_at f9 rfl (shr_k (b := 8) ?_))
  refine some1_of (v := (.int .u8 (IntKind.u8.wrap _), h9)) rfl ?_
  refine fa (get_at f9 rfl ?_)
  refine some1_of (v := (.int .u8 (IntKind.u8.wrap _), h9)) rfl ?_
  simp only [byteOf_eq]
  refine litQ el108 (by decide) (cs := ofBytes [byteOf (f.port.fdiv (2 ^ min 8 IntKind.i64.bits)), byteOf f.port, byteOf (f.dest.fdiv (2 ^ min 8 IntKind.i64.bits)), byteOf f.dest]) rfl ?_
  refine newsl ?_
  rintro h10 (n10 : New h9 _ h10)
  have x10 := n10.next
  have k10 : h10.get h.next = some (.cells 0 (ofBytes key)) := by rw [n10.other _ (by omega)]; exact k9
  have b10 : h10.get id = some (.cells r9 (ofBytes ([byteOf f.proto] ++ f.src ++ [0] ++ f.dst ++ [0]))) := by rw [n10.other _ (by omega)]; exact b9
  have o10 : Old h h10 := o9.trans n10.old
  refine app_sl b10 (by simp [ofBytes_length]; omega) (anews_sl n10.self rfl) rfl (by unfold room; omega) (scalar_bytes _) ?_
  rintro r11 h11 b11 (x11 : h11.next = h10.next) (u11 : ∀ j, j ≠ id → h11.get j = h10.get j)
  rw [ofBytes_append] at b11
  have k11 : h11.get h.next = some (.cells 0 (ofBytes key)) := by rw [u11 _ (by omega)]; exact k10
  have o11 : Old h h11 := ⟨by have := o10.next; omega, fun j hj => by rw [u11 _ (by omega)]; exact o10.get j hj⟩
  refine ⟨get_all k11 (by rw [ofBytes_length, hk]) rfl, ?_⟩
  have hb : flowBytes f = [byteOf f.proto] ++ f.src ++ [0] ++ f.dst ++ [0] ++ [byteOf (f.port.fdiv (2 ^ min 8 IntKind.i64.bits)), byteOf f.port, byteOf (f.dest.fdiv (2 ^ min 8 IntKind.i64.bits)), byteOf f.dest] := rfl
  rw [← hb] at b11
  have hlen : (flowBytes f).length = 1 + f.src.length + 1 + f.dst.length + 1 + 4 := by rw [hb]; simp; omega
  have hrd : Rd h11 1 (.sl id r11 0 (1 + f.src.length + 1 + f.dst.length + 1 + 4) 1) (ofBytes (flowBytes f)) (flowBytes f).length := by
    have := Rd.sl (w := 1) (n := (flowBytes f).length) (off := 0) (by omega : id < h11.next) b11 (by rw [ofBytes_length]; omega)
    rw [List.drop_zero, List.take_of_length_le (by rw [ofBytes_length]; omega)] at this
    rw [← hlen]; exact this
  refine acall_q (by kernel_rfl) (c63 hk hrd (by omega)) ?_
  exact Ret.pure o11 (by simp [AV.und]) ⟨rfl, rfl⟩
theorem xorU_range (a b : Int) : 0 ≤ xorU a b ∧ xorU a b < 18446744073709551616 := by
  simp only [xorU, IntKind.wrap, IntKind.signed, IntKind.bits]
  simp
  omega
theorem hashC : HashC hashI := fun _ f hk => ⟨xorU_range _ _, c45 f hk⟩
end Go.Own.Try
