/- Part of the proofs: G1, G2, G3, G4, G5, G6, G7. -/
import Derived.Test.YtmjmpnbnmcbngaaDoorTreeA
import Derived.Test.YtmjmpnbnmcbngaaDoorOwnB
import Derived.Test.YtmjmpnbnmcbngaaDoorProg
import Derived.Shelf.Strings.OnBuilder
import Derived.Shelf.Strings.Split
import Derived.Shelf.Strconv.Itoa3
import Derived.Shelf.Spec.TrailingZeros
import Derived.Lib.AppendIntMem

/- Digits and numbers: inBase, Number, hex. -/
namespace Go.Own.Tryd
open Go.Own Go.Proofs
set_option maxRecDepth 20000

/-- What a call that leaves the heap as it was comes to. -/
abbrev Pure (f : FuncId) (args : List AV) (v0 : AV) : Prop := ∀ h, ACalls Tryd.prog f args h fun v h' => v = v0 ∧ h' = h
def Asc (s : List UInt8) : Prop := ∀ b ∈ s, b.toNat < 128
theorem adec_asc {s : List UInt8} (hs : Asc s) {i : Nat} (hi : i < s.length) : adec s i = (s[i].toNat, 1) := by
  have h1 : s[i].toNat < 128 := hs _ (List.getElem_mem hi)
  have h2 : (⟨s.toArray⟩ : ByteArray).get! i = s[i] := by
    show s.toArray[i]! = s[i]
    simp [hi]
  unfold adec Utf8.decode
  simp only [Nat.add_zero, h2]
  rw [if_pos h1]

theorem i32_id {x : Int} (a : -2147483648 ≤ x) (b : x ≤ 2147483647) : IntKind.i32.wrap x = x := by
  simp only [IntKind.wrap, IntKind.bits, IntKind.signed]
  simp
  omega
/-- The digits' text. -/
def hexd : List UInt8 := [48, 49, 50, 51, 52, 53, 54, 55, 56, 57, 97, 98, 99, 100, 101, 102]
def digF (b : Nat) : Nat → Nat → List UInt8
  | 0, _ => []
  | f + 1, n => if n < b then [hexd.getD n 48] else digF b f (n / b) ++ [hexd.getD (n % b) 48]
theorem hex_slice {n : Nat} (hn : n < 16) {h : AHeap} : aslice .str (.str hexd) (some (.int .i64 n)) (some (.int .i64 (n + 1))) none h = some (.str [hexd.getD n 48]) := by
  have : ∀ m : Fin 16, aslice .str (.str hexd) (some (.int .i64 (m.val : Int))) (some (.int .i64 ((m.val : Int) + 1))) none h = some (.str [hexd.getD m.val 48]) := by
    rintro ⟨m, hm⟩
    have : m = 0 ∨ m = 1 ∨ m = 2 ∨ m = 3 ∨ m = 4 ∨ m = 5 ∨ m = 6 ∨ m = 7 ∨ m = 8 ∨ m = 9 ∨ m = 10 ∨ m = 11 ∨ m = 12 ∨ m = 13 ∨ m = 14 ∨ m = 15 := by omega
    rcases this with rfl | rfl | rfl | rfl | rfl | rfl | rfl | rfl | rfl | rfl | rfl | rfl | rfl | rfl | rfl | rfl <;> rfl
  exact this ⟨n, hn⟩
theorem digF_len (b : Nat) (hb : 2 ≤ b) : ∀ f n, (digF b f n).length ≤ n + 1
  | 0, n => by simp [digF]
  | f + 1, n => by
    rw [digF]
    split
    · simp
    · have h1 := digF_len b hb f (n / b)
      have h2 : n / b < n := Nat.div_lt_self (by omega) (by omega)
      simp; omega
theorem c20 (b : Nat) (hb : 2 ≤ b) (hb' : b ≤ 16) : ∀ (f n : Nat), n < 1000000 → n < f → Pure 20 [.int .i64 n, .int .i64 b] (.str (digF b f n))
  | 0, n, _, hf => by omega
  | f + 1, n, hn, hf => by
    intro h
    apply T20_calls
    unfold T20
    rw [digF]
    refine abin_i (by decide) rfl ?_
    rw [aif_bool]
    split
    · rename_i h1
      simp only [decide_eq_true_eq] at h1
      have h1' : n < b := by omega
      refine abin_i (by decide) rfl ?_
      rw [i64_id (by omega) (by omega)]
      refine some1_of (hex_slice (by omega)) ?_
      rw [if_pos h1']
      exact Ret.now ⟨rfl, rfl⟩
    · rename_i h1
      simp only [decide_eq_true_eq] at h1
      have h1' : ¬ n < b := by omega
      have hq : n / b < n := Nat.div_lt_self (by omega) (by omega)
      have hr : n % b < b := Nat.mod_lt _ (by omega)
      have hl := digF_len b hb f (n / b)
      have ih := c20 b hb hb' f (n / b) (by omega) (by omega) h
      have z1 : (n : Int).tdiv b = ((n / b : Nat) : Int) := by rw [Int.tdiv_eq_ediv_of_nonneg (by omega), Int.natCast_ediv]
      have z2 : (n : Int).tmod b = ((n % b : Nat) : Int) := by rw [Int.tmod_eq_emod_of_nonneg (by omega), Int.natCast_emod]
      rw [if_neg h1']
      generalize n / b = q at *
      generalize n % b = r at *
      have e1 : aint .quo .i64 (n : Int) (b : Int) = some (.int .i64 q) := by
        simp only [aint]
        rw [if_neg (by omega), z1, i64_id (by omega) (by omega)]
      have e2 : aint .rem .i64 (n : Int) (b : Int) = some (.int .i64 r) := by
        simp only [aint]
        rw [if_neg (by omega), z2]
      refine abin_i (by decide) e1 ?_
      refine abin_i (by decide) e2 ?_
      refine abin_i (by decide) e2 ?_
      refine abin_i (by decide) rfl ?_
      rw [i64_id (by omega) (by omega)]
      refine some1_of (hex_slice (by omega)) ?_
      refine acall_q (by kernel_rfl) ih ?_
      rw [abin_str]
      refine some1_of (v := .str (digF b f q ++ [hexd.getD r 48])) ?_ (Ret.now ⟨rfl, rfl⟩)
      simp only [astr, List.length_cons, List.length_nil]
      rw [if_pos (by omega)]

/-- Decimal digits. -/
def numG : Nat → List UInt8 → Nat × Bool
  | n, [] => (n, true)
  | n, c :: r => if c < 48 ∨ c > 57 then (0, false) else numG (10 * n + (c.toNat - 48)) r
def numF (s : List UInt8) : Nat × Bool := if s = [] ∨ 9 < s.length ∨ (s.head? = some 48 ∧ s ≠ [48]) then (0, false) else numG 0 s
theorem numF_go (s : List UInt8) (h : ¬ (s = [] ∨ 9 < s.length ∨ (s.head? = some 48 ∧ s ≠ [48]))) : numF s = numG 0 s := if_neg h
theorem numF_no (s : List UInt8) (h : s = [] ∨ 9 < s.length ∨ (s.head? = some 48 ∧ s ≠ [48])) : numF s = (0, false) := if_pos h
abbrev numV (r : Nat × Bool) : AV := .tuple [.int .i64 r.1, .bool r.2]
/-- The loop over digits. -/
theorem loop23 {s : List UInt8} (hs : Asc s) (hl : s.length ≤ 9) {h : AHeap} {f0 : Fr} (h24 : f0 24 = .iter h.next) (h4 : f0 4 = .int .i64 0) :
 ALoop f0 (h.push (.siter s 0)) fun I m fr hl =>
 some1 (anext (fr 24) hl) fun q25 =>
 some1 (aext q25.1 0) fun v26 =>
 aif v26
 (some1 (aext q25.1 2) fun v27 =>
 some1 (abin .lss v27 (.int .i32 48)) fun v29 =>
 agrd v29 false
 (some1 (abin .gtr v27 (.int .i32 57)) fun v32 =>
 aif v32
 (Ret h (.tuple [(.int .i64 0), (.bool false)]) q25.2 fun v h' => v = numV (numG 0 s) ∧ h' = h)
 (some1 (abin .mul (.int .i64 10) (fr 4)) fun v35 =>
 some1 (abin .sub v27 (.int .i32 48)) fun v37 =>
 some1 (acv (.int .i64) v37 q25.2) fun q38 =>
 some1 (abin .add v35 q38.1) fun v39 =>
 inext I m (updl fr [(25, q25.1), (26, v26), (27, v27), (6, v27), (28, v27), (29, v29), (30, v29), (30, (.bool false)), (31, v27), (30, (.bool false)), (32, v32), (33, v32), (34, (fr 4)), (35, v35), (36, v27), (37, v37), (38, q38.1), (39, v39), (4, v39)]) q38.2))
 (Ret h (.tuple [(.int .i64 0), (.bool false)]) q25.2 fun v h' => v = numV (numG 0 s) ∧ h' = h))
 (Ret h (.tuple [(fr 4), (.bool true)]) q25.2 fun v h' => v = numV (numG 0 s) ∧ h' = h) := by
  refine aloop (fun m fr hc => Old h hc ∧ fr 24 = .iter h.next ∧ ∃ (i n : Nat), hc.get h.next = some (.siter s i) ∧ fr 4 = .int .i64 n ∧ m + i = s.length ∧ n < 10 ^ i ∧ numG n (s.drop i) = numG 0 s) s.length
    ⟨(Old.refl _).push _, h24, 0, 0, by simp, h4, by omega, by omega, by simp⟩ ?_
  rintro J hJ m fr hc ⟨ho, g24, i, n, hg, g4, hm, hn, hd⟩
  rw [g24]
  have hi10 : 10 ^ i ≤ 1000000000 := Nat.le_trans (Nat.pow_le_pow_right (by omega) (show i ≤ 9 by omega)) (by decide)
  have ho' : ∀ o, Old h (hc.set h.next o) := fun o => ho.set (Nat.le_refl _) o
  by_cases hi : i < s.length
  · have e1 : anext (.iter h.next) hc = some (.tuple [.bool true, .int .i64 i, .int .i32 s[i].toNat], hc.set h.next (.siter s (i + 1))) := by
      simp only [anext, hg]
      rw [if_pos hi, adec_asc hs hi]
    rw [List.drop_eq_getElem_cons hi, numG] at hd
    have hb : s[i].toNat < 128 := hs _ (List.getElem_mem hi)
    rw [e1, some1_some]
    refine ext rfl ?_
    rw [aif_bool, if_pos rfl]
    refine ext rfl ?_
    refine abin_i (by decide) rfl ?_
    rw [agrd_bool]
    have c1 : s[i] < 48 ↔ s[i].toNat < 48 := Iff.rfl
    have c2 : s[i] > 57 ↔ 57 < s[i].toNat := Iff.rfl
    split
    · rename_i h1
      simp only [decide_eq_false_iff_not] at h1
      refine abin_i (by decide) rfl ?_
      rw [aif_bool]
      split
      · rename_i h2
        simp only [decide_eq_true_eq] at h2
        rw [if_pos (.inr (by rw [c2]; omega))] at hd
        exact Ret.pure (ho' _) (by simp [AV.und, belows]) ⟨by rw [← hd]; rfl, rfl⟩
      · rename_i h2
        simp only [decide_eq_true_eq] at h2
        rw [if_neg (by rw [c1, c2]; omega)] at hd
        rw [g4]
        refine abin_i (by decide) rfl ?_
        refine abin_i (by decide) rfl ?_
        have hp : 10 ^ (i + 1) = 10 * 10 ^ i := by rw [Nat.pow_succ]; omega
        rw [i32_id (by omega) (by omega), i64_id (by omega) (by omega)]
        refine some1_of rfl ?_
        rw [i64_id (by omega) (by omega)]
        refine abin_i (by decide) rfl ?_
        rw [i64_id (by omega) (by omega)]
        refine hJ (m - 1) (by omega) ⟨ho' _, by simp [g24], i + 1, 10 * n + (s[i].toNat - 48), by simp, ?_, by omega, by omega, hd⟩
        simp
        omega
    · rename_i h1
      simp only [decide_eq_false_iff_not, Decidable.not_not] at h1
      rw [if_pos (.inl (by rw [c1]; omega))] at hd
      exact Ret.pure (ho' _) (by simp [AV.und, belows]) ⟨by rw [← hd]; rfl, rfl⟩
  · have e1 : anext (.iter h.next) hc = some (.tuple [.bool false], hc) := by
      simp only [anext, hg]
      rw [if_neg hi]
    have : i = s.length := by omega
    subst this
    rw [List.drop_length, numG] at hd
    rw [e1, some1_some]
    refine ext rfl ?_
    rw [aif_bool, if_neg (by decide), g4]
    exact Ret.pure ho (by simp [AV.und, belows]) ⟨by rw [← hd], rfl⟩
theorem c23 {s : List UInt8} (hs : Asc s) : Pure 23 [.str s] (numV (numF s)) := by
  intro h
  apply T23_calls
  unfold T23
  rw [abin_str]
  refine some1_of rfl ?_
  rw [agrd_bool]
  split
  rotate_left
  · rename_i h1
    rw [numF_no s (.inl (by simpa using h1))]
    exact Ret.now ⟨rfl, rfl⟩
  rename_i h1
  have hne : s ≠ [] := by simpa using h1
  refine some1_of (v := .int .i64 s.length) rfl ?_
  refine abin_i (by decide) rfl ?_
  rw [agrd_bool]
  split
  rotate_left
  · rename_i h2
    rw [numF_no s (.inr (.inl (by simp at h2; omega)))]
    exact Ret.now ⟨rfl, rfl⟩
  rename_i h2
  have hle : s.length ≤ 9 := by simp at h2; omega
  cases s with
  | nil => exact absurd rfl hne
  | cons c r =>
  refine some1_of (v := .int .u8 c.toNat) rfl ?_
  refine abin_i (by decide) rfl ?_
  rw [agrd_bool]
  have hc : ((c.toNat : Int) == 48) = decide (c = 48) := by
    rw [Bool.eq_iff_iff, beq_iff_eq, decide_eq_true_eq]
    constructor
    · intro e; exact UInt8.toNat_inj.1 (by show c.toNat = 48; omega)
    · rintro rfl; rfl
  rw [hc]
  split
  · rename_i h3
    simp only [decide_eq_true_eq] at h3
    rw [abin_str]
    refine some1_of rfl ?_
    rw [aif_bool]
    split
    · rename_i h4
      rw [numF_no _ (.inr (.inr ⟨by rw [h3]; rfl, by subst h3; simpa using h4⟩))]
      exact Ret.now ⟨rfl, rfl⟩
    · rename_i h4
      rw [numF_go _ (by rintro (e | e | ⟨_, e⟩); exact hne e; omega; exact e (by simpa using h4))]
      refine some1_of rfl ?_
      exact loop23 hs hle (by simp) (by simp)
  · rename_i h3
    simp only [decide_eq_true_eq] at h3
    rw [numF_go _ (by rintro (e | e | ⟨e, _⟩); exact hne e; omega; exact h3 (by simpa using e))]
    refine some1_of rfl ?_
    exact loop23 hs hle (by simp) (by simp)

/-- Hex digits. -/
def hexG : Nat → List UInt8 → Option Nat
  | n, [] => some n
  | n, c :: r =>
    if 48 ≤ c.toNat ∧ c.toNat ≤ 57 then (if 65535 < 16 * n + (c.toNat - 48) then none else hexG (16 * n + (c.toNat - 48)) r)
    else if 97 ≤ c.toNat ∧ c.toNat ≤ 102 then (if 65535 < 16 * n + (c.toNat - 87) then none else hexG (16 * n + (c.toNat - 87)) r)
    else none
def hexF (s : List UInt8) (a b : Int) : Nat × Bool := match hexG 0 s with
  | none => (0, false)
  | some n => (n, decide ((s.length : Int) ≥ a) && decide ((s.length : Int) ≤ b))
theorem or16 (n d : Nat) (hn : n ≤ 65535) (hd : d < 16) : IntKind.i64.wrap ((BitVec.ofInt IntKind.i64.bits ((16 * n : Nat) : Int) ||| BitVec.ofInt IntKind.i64.bits ((d : Nat) : Int)).toNat : Int) = ((16 * n + d : Nat) : Int) := by
  have h1 : ∀ x : Nat, x < 18446744073709551616 → (BitVec.ofInt IntKind.i64.bits (x : Int)).toNat = x := by
    intro x hx
    show (BitVec.ofInt 64 (x : Int)).toNat = x
    rw [BitVec.ofInt_natCast, BitVec.toNat_ofNat]
    exact Nat.mod_eq_of_lt hx
  rw [BitVec.toNat_or, h1 _ (by omega), h1 _ (by omega)]
  have := Nat.two_pow_add_eq_or_of_lt (i := 4) (b := d) (by omega) n
  rw [show 2 ^ 4 * n = 16 * n by omega] at this
  rw [← this, i64_id (by omega) (by omega)]
theorem shl16 (n : Nat) (hn : n ≤ 65535) : abin .shl (.int .i64 (n : Int)) (.int .u64 4) = some (.int .i64 ((16 * n : Nat) : Int)) := by
  have : abin .shl (.int .i64 (n : Int)) (.int .u64 4) = some (.int .i64 (IntKind.i64.wrap ((n : Int) * 16))) := rfl
  rw [this, i64_id (by omega) (by omega)]
  congr 2; omega
theorem c25 {s : List UInt8} (hs : Asc s) (a b : Int) : Pure 25 [.str s, .int .i64 a, .int .i64 b] (numV (hexF s a b)) := by
  intro h
  apply T25_calls
  unfold T25
  refine some1_of (v := (.iter h.next, h.push (.siter s 0))) rfl ?_
  refine aloop (fun m fr hc => Old h hc ∧ fr 0 = .str s ∧ fr 1 = .int .i64 a ∧ fr 2 = .int .i64 b ∧ fr 12 = .iter h.next ∧ ∃ (i n : Nat), hc.get h.next = some (.siter s i) ∧ fr 8 = .int .i64 n ∧ m + i = s.length ∧ n ≤ 65535 ∧ hexG n (s.drop i) = hexG 0 s) s.length
    ⟨(Old.refl _).push _, by simp, by simp, by simp, by simp, 0, 0, by simp, by simp, by omega, by omega, by simp⟩ ?_
  rintro J hJ m fr hc ⟨ho, g0, g1, g2, g12, i, n, hg, g8, hm, hn, hd⟩
  rw [g12, g8]
  have ho' : ∀ o, Old h (hc.set h.next o) := fun o => ho.set (Nat.le_refl _) o
  have bad : hexG 0 s = none → ∀ o, Ret h (.tuple [(.int .i64 0), (.bool false)]) (hc.set h.next o) fun v h' => v = numV (hexF s a b) ∧ h' = h := by
    intro e o
    exact Ret.pure (ho' _) (by simp [AV.und, belows]) ⟨by simp [hexF, e], rfl⟩
  by_cases hi : i < s.length
  · have e1 : anext (.iter h.next) hc = some (.tuple [.bool true, .int .i64 i, .int .i32 s[i].toNat], hc.set h.next (.siter s (i + 1))) := by
      simp only [anext, hg]
      rw [if_pos hi, adec_asc hs hi]
    rw [List.drop_eq_getElem_cons hi, hexG] at hd
    have hb : s[i].toNat < 128 := hs _ (List.getElem_mem hi)
    rw [e1, some1_some]
    generalize hx : s[i].toNat = x at *
    -- one digit more
    have step : ∀ (d : Nat) (P1 : AV → Prop), d < 16 → P1 (.int .i64 ((16 * n + d : Nat) : Int)) → some1 (abin .or (.int .i64 ((16 * n : Nat) : Int)) (.int .i64 (d : Int))) P1 := by
      intro d P1 hd16 hp
      refine some1_of ?_ hp
      rw [abin_int (by decide)]
      simp only [aint]
      rw [or16 n d hn hd16]
    -- from a to f, or none of them
    have more : ∀ (fr1 : AV → AV → AV → AV → AV → AV × AHeap → AV → AV → Fr), ¬ (48 ≤ x ∧ x ≤ 57) →
      (∀ x1 x2 x3 x4 x5 x6 x7 x8, fr1 x1 x2 x3 x4 x5 x6 x7 x8 0 = .str s ∧ fr1 x1 x2 x3 x4 x5 x6 x7 x8 1 = .int .i64 a ∧ fr1 x1 x2 x3 x4 x5 x6 x7 x8 2 = .int .i64 b ∧ fr1 x1 x2 x3 x4 x5 x6 x7 x8 12 = .iter h.next ∧ fr1 x1 x2 x3 x4 x5 x6 x7 x8 8 = x7) →
      some1 (abin .geq (.int .i32 x) (.int .i32 97)) fun v31 =>
      agrd v31 true
      (some1 (abin .leq (.int .i32 x) (.int .i32 102)) fun v34 =>
      aif v34
      (some1 (abin .shl (.int .i64 n) (.int .u64 4)) fun v37 =>
      some1 (abin .sub (.int .i32 x) (.int .i32 97)) fun v39 =>
      some1 (abin .add v39 (.int .i32 10)) fun v40 =>
      some1 (acv (.int .i64) v40 (hc.set h.next (.siter s (i + 1)))) fun q41 =>
      some1 (abin .or v37 q41.1) fun v42 =>
      some1 (abin .gtr v42 (.int .i64 65535)) fun v44_2 =>
      aif v44_2
      (Ret h (.tuple [(.int .i64 0), (.bool false)]) q41.2 fun v h' => v = numV (hexF s a b) ∧ h' = h)
      (inext J m (fr1 v31 v34 v37 v39 v40 q41 v42 v44_2) q41.2))
      (Ret h (.tuple [(.int .i64 0), (.bool false)]) (hc.set h.next (.siter s (i + 1))) fun v h' => v = numV (hexF s a b) ∧ h' = h))
      (Ret h (.tuple [(.int .i64 0), (.bool false)]) (hc.set h.next (.siter s (i + 1))) fun v h' => v = numV (hexF s a b) ∧ h' = h) := by
      intro fr1 hno hfr
      rw [if_neg hno] at hd
      refine abin_i (by decide) rfl ?_
      rw [agrd_bool]
      split
      · rename_i h1
        simp only [decide_eq_true_eq] at h1
        refine abin_i (by decide) rfl ?_
        rw [aif_bool]
        split
        · rename_i h2
          simp only [decide_eq_true_eq] at h2
          rw [if_pos (by omega)] at hd
          refine some1_of (shl16 n hn) ?_
          refine abin_i (by decide) rfl ?_
          rw [i32_id (by omega) (by omega)]
          refine abin_i (by decide) rfl ?_
          rw [i32_id (by omega) (by omega)]
          refine some1_of rfl ?_
          rw [i64_id (by omega) (by omega), show (x : Int) - 97 + 10 = ((x - 87 : Nat) : Int) by omega]
          refine step _ _ (by omega) ?_
          refine abin_i (by decide) rfl ?_
          rw [aif_bool]
          split
          · rename_i h3
            simp only [decide_eq_true_eq] at h3
            rw [if_pos (by omega)] at hd
            exact bad hd.symm _
          · rename_i h3
            simp only [decide_eq_true_eq] at h3
            rw [if_neg (by omega)] at hd
            obtain ⟨f0, f1, f2, f3, f4⟩ := hfr _ _ _ _ _ _ _ _
            exact hJ (m - 1) (by omega) ⟨ho' _, f0, f1, f2, f3, i + 1, _, by simp, f4, by omega, by omega, hd⟩
        · rename_i h2
          simp only [decide_eq_true_eq] at h2
          rw [if_neg (by omega)] at hd
          exact bad hd.symm _
      · rename_i h1
        simp only [decide_eq_true_eq] at h1
        rw [if_neg (by omega)] at hd
        exact bad hd.symm _
    refine ext rfl ?_
    rw [aif_bool, if_pos rfl]
    refine ext rfl ?_
    refine abin_i (by decide) rfl ?_
    rw [agrd_bool]
    split
    · rename_i h1
      simp only [decide_eq_true_eq] at h1
      refine abin_i (by decide) rfl ?_
      rw [aif_bool]
      split
      · rename_i h2
        simp only [decide_eq_true_eq] at h2
        rw [if_pos (by omega)] at hd
        refine some1_of (shl16 n hn) ?_
        refine abin_i (by decide) rfl ?_
        rw [i32_id (by omega) (by omega)]
        refine some1_of rfl ?_
        rw [i64_id (by omega) (by omega), show (x : Int) - 48 = ((x - 48 : Nat) : Int) by omega]
        refine step _ _ (by omega) ?_
        refine abin_i (by decide) rfl ?_
        rw [aif_bool]
        split
        · rename_i h3
          simp only [decide_eq_true_eq] at h3
          rw [if_pos (by omega)] at hd
          exact bad hd.symm _
        · rename_i h3
          simp only [decide_eq_true_eq] at h3
          rw [if_neg (by omega)] at hd
          exact hJ (m - 1) (by omega) ⟨ho' _, by simp [g0], by simp [g1], by simp [g2], by simp [g12], i + 1, _, by simp, by simp, by omega, by omega, hd⟩
      · rename_i h2
        simp only [decide_eq_true_eq] at h2
        refine more _ (by omega) ?_
        intro _ _ _ _ _ _ _ _
        simp [g0, g1, g2, g12]
    · rename_i h1
      simp only [decide_eq_true_eq] at h1
      refine more _ (by omega) ?_
      intro _ _ _ _ _ _ _ _
      simp [g0, g1, g2, g12]
  · have e1 : anext (.iter h.next) hc = some (.tuple [.bool false], hc) := by
      simp only [anext, hg]
      rw [if_neg hi]
    have : i = s.length := by omega
    subst this
    rw [List.drop_length, hexG] at hd
    rw [e1, some1_some]
    refine ext rfl ?_
    rw [aif_bool, if_neg (by decide), g0, g1, g2]
    have he : hexF s a b = (n, decide ((s.length : Int) ≥ a) && decide ((s.length : Int) ≤ b)) := by simp [hexF, ← hd]
    refine some1_of (v := .int .i64 s.length) rfl ?_
    refine abin_i (by decide) rfl ?_
    rw [agrd_bool]
    split
    · rename_i h1
      refine some1_of (v := .int .i64 s.length) rfl ?_
      refine abin_i (by decide) rfl ?_
      rw [h1] at he
      exact Ret.pure ho (by simp [AV.und, belows]) ⟨by rw [he]; simp, rfl⟩
    · rename_i h1
      have h1' : decide ((s.length : Int) ≥ a) = false := by simpa using h1
      rw [h1'] at he
      exact Ret.pure ho (by simp [AV.und, belows]) ⟨by rw [he]; simp, rfl⟩
end Go.Own.Tryd

/- What is used of the library, at this program: the shelf's contracts, laid in plain words (printed by the kit's lay-shelf and lay-plain, and by layhand.py). -/
namespace Go.Proofs
open Go.Shelf
def Tryd.lays156_ren : Go.Shelf.Ren := ⟨fun | 156 => 18 | 165 => 35 | 166 => 36 | 169 => 33 | 240 => 52 | 241 => 53 | 276 => 71 | 277 => 72 | n => n, fun | 31 => 43 | 9 => 9 | 3 => 3 | 4 => 4 | 0 => 0 | 20 => 20 | 72 => 70 | 76 => 84 | 70 => 68 | 37 => 46 | 75 => 83 | 127 => 107 | 164 => 130 | 5 => 5 | 80 => 62 | n => n, fun | n => n⟩
theorem Tryd.lays156 : Go.Proofs.Lays.n156 Tryd.prog Tryd.lays156_ren := {
  mixed := by kernel_rfl
  f156 := Tryd.func18.trans (congrArg some (by kernel_rfl))
  f165 := Tryd.func35.trans (congrArg some (by kernel_rfl))
  f166 := Tryd.func36.trans (congrArg some (by kernel_rfl))
  f169 := Tryd.func33.trans (congrArg some (by kernel_rfl))
  f240 := Tryd.func52.trans (congrArg some (by kernel_rfl))
  f241 := Tryd.func53.trans (congrArg some (by kernel_rfl))
  f276 := Tryd.func71.trans (congrArg some (by kernel_rfl))
  f277 := Tryd.func72.trans (congrArg some (by kernel_rfl))
  t0 := Tryd.underlying0
  a0 := Tryd.isAgg0
  z0 := Tryd.sizeOf0
  v0 := Tryd.zeroValue0
  t3 := Tryd.underlying3
  a3 := Tryd.isAgg3
  z3 := Tryd.sizeOf3
  v3 := Tryd.zeroValue3
  t4 := Tryd.underlying4
  a4 := Tryd.isAgg4
  z4 := Tryd.sizeOf4
  v4 := Tryd.zeroValue4
  t9 := Tryd.underlying9
  a9 := Tryd.isAgg9
  z9 := Tryd.sizeOf9
  v9 := Tryd.zeroValue9
  t20 := Tryd.underlying20
  a20 := Tryd.isAgg20
  z20 := Tryd.sizeOf20
  v20 := Tryd.zeroValue20
  t31 := Tryd.underlying43
  a31 := Tryd.isAgg43
  z31 := Tryd.sizeOf43
  v31 := Tryd.zeroValue43
  t37 := Tryd.underlying46
  a37 := Tryd.isAgg46
  z37 := Tryd.sizeOf46
  v37 := Tryd.zeroValue46
  t70 := Tryd.underlying68
  a70 := Tryd.isAgg68
  z70 := Tryd.sizeOf68
  v70 := Tryd.zeroValue68
  t72 := Tryd.underlying70
  a72 := Tryd.isAgg70
  z72 := Tryd.sizeOf70
  v72 := Tryd.zeroValue70
  t75 := Tryd.underlying83
  a75 := Tryd.isAgg83
  z75 := Tryd.sizeOf83
  v75 := Tryd.zeroValue83
  t76 := Tryd.underlying84
  a76 := Tryd.isAgg84
  z76 := Tryd.sizeOf84
  v76 := Tryd.zeroValue84
  t127 := Tryd.underlying107
  a127 := Tryd.isAgg107
  z127 := Tryd.sizeOf107
  v127 := Tryd.zeroValue107
  t164 := Tryd.underlying130
  a164 := Tryd.isAgg130
  z164 := Tryd.sizeOf130
  v164 := Tryd.zeroValue130 }
theorem Tryd.Builder_Extra_156 : Builder.Extra Tryd.prog Tryd.lays156_ren := {
  sizeBuilder := by kernel_rfl
  liesBuilder := by kernel_rfl
  t5 := Tryd.underlying5
  a5 := Tryd.isAgg5
  z5 := Tryd.sizeOf5
  v5 := Tryd.zeroValue5
  infoByte := by kernel_rfl
  cellsByte := by kernel_rfl
  sizeByte := by kernel_rfl
  neB5 := by decide }
open Go.RowKit in
theorem Tryd.strings_Join_none (a : Option Addr) (c : Nat) (sep : ByteArray) (w : World) :
    Calls Tryd.prog 18 #[.slice a 0 c, .string sep] w fun e w' => e = .returned (.string ⟨#[]⟩) ∧ w' = w := Any.strings_Join_none Tryd.lays156 Tryd.Builder_Extra_156 a c sep w
open Go.RowKit in
theorem Tryd.strings_Join (bk o c : Nat) (xs : List ByteArray) (sep : ByteArray) (w : World) (hcells : ∀ (j : Nat) x, xs[j]? = some x → w.cell? ⟨bk, o + j, none⟩ = some (.string x)) (hbk : bk < w.heap.size) (hN : xs.length ≤ 140737488355328) (hcap : xs.length ≤ c) (hlen : (Lib.join (xs.map (·.data.toList)) sep.data.toList).length ≤ 140737488355328) :
    Calls Tryd.prog 18 #[.slice (some ⟨bk, o, none⟩) xs.length c, .string sep] w fun e w' => e = .returned (.string ⟨(Lib.join (xs.map (·.data.toList)) sep.data.toList).toArray⟩) ∧ Below w.heap.size w w' := Any.strings_Join Tryd.lays156 Tryd.Builder_Extra_156 bk o c xs sep w hcells hbk hN hcap hlen
def Tryd.laysM171_ren : Go.Shelf.Ren := ⟨fun | 171 => 17 | 243 => 34 | 246 => 37 | 283 => 54 | 284 => 55 | 285 => 56 | 286 => 57 | 129 => 74 | 317 => 73 | 318 => 75 | 319 => 76 | 320 => 77 | 337 => 90 | 338 => 91 | n => n, fun | 3 => 3 | 9 => 9 | 2 => 2 | 4 => 4 | 171 => 108 | 0 => 0 | 53 => 109 | 37 => 46 | 5 => 5 | 173 => 112 | 212 => 135 | 51 => 136 | 20 => 20 | 213 => 137 | 46 => 50 | 232 => 151 | 233 => 152 | n => n, fun | 17 => 0 | 18 => 2 | 19 => 3 | n => n⟩
theorem Tryd.laysM171 : Go.Proofs.LaysM.n171 Tryd.prog Tryd.laysM171_ren := {
  mixed := by kernel_rfl
  f129 := Tryd.func74.trans (congrArg some (by kernel_rfl))
  f171 := Tryd.func17.trans (congrArg some (by kernel_rfl))
  f243 := Tryd.func34.trans (congrArg some (by kernel_rfl))
  f246 := Tryd.func37.trans (congrArg some (by kernel_rfl))
  f283 := Tryd.func54.trans (congrArg some (by kernel_rfl))
  f284 := Tryd.func55.trans (congrArg some (by kernel_rfl))
  f285 := Tryd.func56.trans (congrArg some (by kernel_rfl))
  f286 := Tryd.func57.trans (congrArg some (by kernel_rfl))
  f317 := Tryd.func73.trans (congrArg some (by kernel_rfl))
  f318 := Tryd.func75.trans (congrArg some (by kernel_rfl))
  f319 := Tryd.func76.trans (congrArg some (by kernel_rfl))
  f320 := Tryd.func77.trans (congrArg some (by kernel_rfl))
  f337 := Tryd.func90.trans (congrArg some (by kernel_rfl))
  f338 := Tryd.func91.trans (congrArg some (by kernel_rfl))
  t0 := Tryd.underlying0
  a0 := Tryd.isAgg0
  z0 := Tryd.sizeOf0
  v0 := Tryd.zeroValue0
  t2 := Tryd.underlying2
  a2 := Tryd.isAgg2
  z2 := Tryd.sizeOf2
  v2 := Tryd.zeroValue2
  t3 := Tryd.underlying3
  a3 := Tryd.isAgg3
  z3 := Tryd.sizeOf3
  v3 := Tryd.zeroValue3
  t4 := Tryd.underlying4
  a4 := Tryd.isAgg4
  z4 := Tryd.sizeOf4
  v4 := Tryd.zeroValue4
  t5 := Tryd.underlying5
  a5 := Tryd.isAgg5
  z5 := Tryd.sizeOf5
  v5 := Tryd.zeroValue5
  t9 := Tryd.underlying9
  a9 := Tryd.isAgg9
  z9 := Tryd.sizeOf9
  v9 := Tryd.zeroValue9
  t20 := Tryd.underlying20
  a20 := Tryd.isAgg20
  z20 := Tryd.sizeOf20
  v20 := Tryd.zeroValue20
  t37 := Tryd.underlying46
  a37 := Tryd.isAgg46
  z37 := Tryd.sizeOf46
  v37 := Tryd.zeroValue46
  t46 := Tryd.underlying50
  a46 := Tryd.isAgg50
  z46 := Tryd.sizeOf50
  v46 := Tryd.zeroValue50
  t51 := Tryd.underlying136
  a51 := Tryd.isAgg136
  z51 := Tryd.sizeOf136
  v51 := Tryd.zeroValue136
  t53 := Tryd.underlying109
  a53 := Tryd.isAgg109
  z53 := Tryd.sizeOf109
  v53 := Tryd.zeroValue109
  t171 := Tryd.underlying108
  a171 := Tryd.isAgg108
  z171 := Tryd.sizeOf108
  v171 := Tryd.zeroValue108
  t173 := Tryd.underlying112
  a173 := Tryd.isAgg112
  z173 := Tryd.sizeOf112
  v173 := Tryd.zeroValue112
  t212 := Tryd.underlying135
  a212 := Tryd.isAgg135
  z212 := Tryd.sizeOf135
  v212 := Tryd.zeroValue135
  t213 := Tryd.underlying137
  a213 := Tryd.isAgg137
  z213 := Tryd.sizeOf137
  t232 := Tryd.underlying151
  a232 := Tryd.isAgg151
  z232 := Tryd.sizeOf151
  v232 := Tryd.zeroValue151
  t233 := Tryd.underlying152
  a233 := Tryd.isAgg152
  z233 := Tryd.sizeOf152
  v233 := Tryd.zeroValue152
  g17 := by kernel_rfl
  g18 := by kernel_rfl
  g19 := by kernel_rfl
  i0 := by kernel_rfl
  i2 := by kernel_rfl
  i3 := by kernel_rfl
  i4 := by kernel_rfl
  i5 := by kernel_rfl
  i9 := by kernel_rfl
  i20 := by kernel_rfl
  i37 := by kernel_rfl
  i46 := by kernel_rfl
  i51 := by kernel_rfl
  i53 := by kernel_rfl
  i171 := by kernel_rfl
  i173 := by kernel_rfl
  i212 := by kernel_rfl
  i232 := by kernel_rfl
  i233 := by kernel_rfl
  m17 := by kernel_rfl
  m18 := by kernel_rfl
  m19 := by kernel_rfl }
open Go.RowKit Go.Sort Go.Lib in
theorem Tryd.strconv_Itoa (n : Int) (h0 : -9223372036854775808 ≤ n) (h1 : n ≤ 9223372036854775807) (w : World) (htab : Lib.TabIs Tryd.prog w "internal/strconv.uint64pow10" .u64 Lib.pow10Tab) :
    Calls Tryd.prog 17 #[.int .i64 n] w fun e w' => e = .returned (.string ⟨(Lib.itoa n).toArray⟩) ∧ ∃ k os, w' = grow (w.drewN k) os := Any.strconv_Itoa Tryd.laysM171 n h0 h1 w htab
def Tryd.lays146_ren : Go.Shelf.Ren := ⟨fun | 146 => 38 | 221 => 58 | 268 => 78 | 138 => 79 | 143 => 80 | 195 => 92 | 197 => 93 | 218 => 94 | 219 => 95 | 260 => 98 | 217 => 99 | 225 => 100 | 224 => 101 | 267 => 102 | 266 => 104 | 314 => 105 | n => n, fun | 9 => 9 | 31 => 43 | 3 => 3 | 4 => 4 | 0 => 0 | 105 => 147 | 21 => 21 | 5 => 5 | 46 => 50 | 119 => 153 | 139 => 156 | 138 => 155 | 146 => 157 | 51 => 136 | n => n, fun | 1 => 1 | 3 => 4 | 4 => 5 | n => n⟩
theorem Tryd.lays146 : Go.Proofs.Lays.n146 Tryd.prog Tryd.lays146_ren := {
  mixed := by kernel_rfl
  f138 := Tryd.func79.trans (congrArg some (by kernel_rfl))
  f143 := Tryd.func80.trans (congrArg some (by kernel_rfl))
  f146 := Tryd.func38.trans (congrArg some (by kernel_rfl))
  f195 := Tryd.func92.trans (congrArg some (by kernel_rfl))
  f197 := Tryd.func93.trans (congrArg some (by kernel_rfl))
  f217 := Tryd.func99.trans (congrArg some (by kernel_rfl))
  f218 := Tryd.func94.trans (congrArg some (by kernel_rfl))
  f219 := Tryd.func95.trans (congrArg some (by kernel_rfl))
  f221 := Tryd.func58.trans (congrArg some (by kernel_rfl))
  f224 := Tryd.func101.trans (congrArg some (by kernel_rfl))
  f225 := Tryd.func100.trans (congrArg some (by kernel_rfl))
  f260 := Tryd.func98.trans (congrArg some (by kernel_rfl))
  f266 := Tryd.func104.trans (congrArg some (by kernel_rfl))
  f267 := Tryd.func102.trans (congrArg some (by kernel_rfl))
  f268 := Tryd.func78.trans (congrArg some (by kernel_rfl))
  f314 := Tryd.func105.trans (congrArg some (by kernel_rfl))
  t0 := Tryd.underlying0
  a0 := Tryd.isAgg0
  z0 := Tryd.sizeOf0
  v0 := Tryd.zeroValue0
  t3 := Tryd.underlying3
  a3 := Tryd.isAgg3
  z3 := Tryd.sizeOf3
  v3 := Tryd.zeroValue3
  t4 := Tryd.underlying4
  a4 := Tryd.isAgg4
  z4 := Tryd.sizeOf4
  v4 := Tryd.zeroValue4
  t5 := Tryd.underlying5
  a5 := Tryd.isAgg5
  z5 := Tryd.sizeOf5
  v5 := Tryd.zeroValue5
  t9 := Tryd.underlying9
  a9 := Tryd.isAgg9
  z9 := Tryd.sizeOf9
  v9 := Tryd.zeroValue9
  t21 := Tryd.underlying21
  a21 := Tryd.isAgg21
  z21 := Tryd.sizeOf21
  v21 := Tryd.zeroValue21
  t31 := Tryd.underlying43
  a31 := Tryd.isAgg43
  z31 := Tryd.sizeOf43
  v31 := Tryd.zeroValue43
  t46 := Tryd.underlying50
  a46 := Tryd.isAgg50
  z46 := Tryd.sizeOf50
  v46 := Tryd.zeroValue50
  t51 := Tryd.underlying136
  a51 := Tryd.isAgg136
  z51 := Tryd.sizeOf136
  v51 := Tryd.zeroValue136
  t105 := Tryd.underlying147
  a105 := Tryd.isAgg147
  z105 := Tryd.sizeOf147
  v105 := Tryd.zeroValue147
  t119 := Tryd.underlying153
  a119 := Tryd.isAgg153
  z119 := Tryd.sizeOf153
  t138 := Tryd.underlying155
  a138 := Tryd.isAgg155
  z138 := Tryd.sizeOf155
  v138 := Tryd.zeroValue155
  t139 := Tryd.underlying156
  a139 := Tryd.isAgg156
  z139 := Tryd.sizeOf156
  v139 := Tryd.zeroValue156
  t146 := Tryd.underlying157
  a146 := Tryd.isAgg157
  z146 := Tryd.sizeOf157
  v146 := Tryd.zeroValue157
  g1 := by kernel_rfl
  g3 := by kernel_rfl
  g4 := by kernel_rfl }
open Go.RowKit Go.Lib in
theorem Tryd.strings_Split (s sep : ByteArray) (m : Int) (w : World) (hs : s.size < 4294967281) (hm : w.cell? ⟨1, 0, none⟩ = some (.int .i64 m)) (h1 : 1 ≤ sep.size) :
    Calls Tryd.prog 38 #[.string s, .string sep] w fun e w' =>
      e = .returned (.slice (some ⟨w.heap.size, 0, none⟩) (Lib.countB s sep + 1) (Lib.countB s sep + 1)) ∧ w' = w.alloc (.cells ((Lib.splitB sep 0 (Lib.countB s sep) s).map Value.string).toArray 9) := Any.strings_Split Tryd.lays146 (by kernel_rfl) s sep m w hs hm h1
def Tryd.lays7_27_ren : Go.Shelf.Ren := ⟨fun | 27 => 77 | 28 => 90 | 29 => 91 | n => n, fun | 0 => 0 | 3 => 3 | 4 => 4 | 5 => 5 | 22 => 109 | 25 => 50 | 27 => 136 | 53 => 151 | 54 => 152 | n => n, fun | 0 => 2 | 1 => 3 | n => n⟩
theorem Tryd.lays7_27 : Go.Proofs.Lays7.n27 Tryd.prog Tryd.lays7_27_ren := {
  mixed := by kernel_rfl
  f27 := Tryd.func77.trans (congrArg some (by kernel_rfl))
  f28 := Tryd.func90.trans (congrArg some (by kernel_rfl))
  f29 := Tryd.func91.trans (congrArg some (by kernel_rfl))
  t0 := Tryd.underlying0
  a0 := Tryd.isAgg0
  z0 := Tryd.sizeOf0
  v0 := Tryd.zeroValue0
  i0 := by kernel_rfl
  t3 := Tryd.underlying3
  a3 := Tryd.isAgg3
  z3 := Tryd.sizeOf3
  v3 := Tryd.zeroValue3
  i3 := by kernel_rfl
  t4 := Tryd.underlying4
  a4 := Tryd.isAgg4
  z4 := Tryd.sizeOf4
  v4 := Tryd.zeroValue4
  i4 := by kernel_rfl
  t5 := Tryd.underlying5
  a5 := Tryd.isAgg5
  z5 := Tryd.sizeOf5
  v5 := Tryd.zeroValue5
  i5 := by kernel_rfl
  t22 := Tryd.underlying109
  a22 := Tryd.isAgg109
  z22 := Tryd.sizeOf109
  v22 := Tryd.zeroValue109
  i22 := by kernel_rfl
  t25 := Tryd.underlying50
  a25 := Tryd.isAgg50
  z25 := Tryd.sizeOf50
  v25 := Tryd.zeroValue50
  i25 := by kernel_rfl
  t27 := Tryd.underlying136
  a27 := Tryd.isAgg136
  z27 := Tryd.sizeOf136
  v27 := Tryd.zeroValue136
  i27 := by kernel_rfl
  t53 := Tryd.underlying151
  a53 := Tryd.isAgg151
  z53 := Tryd.sizeOf151
  v53 := Tryd.zeroValue151
  i53 := by kernel_rfl
  t54 := Tryd.underlying152
  a54 := Tryd.isAgg152
  z54 := Tryd.sizeOf152
  g0 := by kernel_rfl
  g1 := by kernel_rfl }
end Go.Proofs

/- From the library's contracts to this machine. -/
namespace Go.Own
open Go.RowKit
/-- What a slice's cells are in a world. -/
theorem Rd.world {G : Ghost} {h : AHeap} {w : World} {v : AV} {rv : Value} {cs : List AV} {n : Nat} (x : Rd h 1 v cs n) (r : Rel G h w) (hv : vrel G v rv) (hn : 0 < n) :
    ∃ b o cap, rv = .slice (some ⟨b, o, none⟩) n cap ∧ n ≤ cap ∧ ∀ (j : Nat) (c : AV), cs[j]? = some c → ∃ u, w.cell? ⟨b, o + j, none⟩ = some u ∧ vrel G c u := by
  cases x with
  | lst h =>
    simp only [vrel] at hv
    obtain ⟨b, o, cap, e, hle, hc⟩ := hv
    refine ⟨b, o, cap, e, hle, fun j c hj => ?_⟩
    obtain ⟨u, h1, h2⟩ := crel_get j hc hj
    exact ⟨u, r.imm _ _ _ h1, h2⟩
  | @sl i k off n all h1 h2 h3 =>
    simp only [vrel] at hv
    obtain ⟨hok, b, o, cap, e, hle, hb⟩ := hv
    have hb' : b = G.blk i k ∧ o = off := by
      rcases hb with hb | hb
      · omega
      · exact ⟨hb.1, hb.2.1⟩
    obtain ⟨rfl, rfl⟩ := hb'
    refine ⟨_, _, cap, e, hle, fun j c hj => ?_⟩
    obtain ⟨_, _, rs, hr, hcell, _⟩ := r.cells h2
    have hj2 : all[o + j]? = some c := by
      rw [List.getElem?_take] at hj
      split at hj
      · rwa [List.getElem?_drop] at hj
      · cases hj
    obtain ⟨u, e1, e2⟩ := lrel_get (o + j) hr hj2
    exact ⟨u, hcell _ _ e1, e2⟩
  | nils => omega
  | emp => omega
theorem Rel.block0 {G : Ghost} {h : AHeap} {w : World} (r : Rel G h w) {k : Nat} (hk : k < h.w0.1.heap.size) : w.heap[k]? = h.w0.1.heap[k]? := by
  have h1 := r.start.1
  have h2 := r.start.2
  rw [h1] at hk ⊢
  exact r.below.b.block k (by omega)
theorem Rel.cell0 {G : Ghost} {h : AHeap} {w : World} (r : Rel G h w) {p : Addr} {v : Value} (hv : h.w0.1.cell? p = some v) : w.cell? p = some v := by
  have := World.block_lt_of_cell? h.w0.1 p hv
  rw [World.cell?_of_block (w := h.w0.1) (r.block0 this)]; exact hv
theorem Rel.var0 {G : Ghost} {h : AHeap} {w : World} (r : Rel G h w) {P : Program} {name : String} {vs : Array Value} (hv : h.w0.1.var? P name = some vs) : w.var? P name = some vs := by
  unfold World.var? at hv ⊢
  cases hg : P.globalNamed name with
  | none => rw [hg] at hv; cases hv
  | some g =>
    rw [hg] at hv
    simp only [Option.bind_some] at hv ⊢
    have hlt : g < h.w0.1.heap.size := by
      rcases Nat.lt_or_ge g h.w0.1.heap.size with h' | h'
      · exact h'
      · rw [Array.getElem?_eq_none h'] at hv; cases hv
    rw [r.block0 hlt]; exact hv
/-- A call that comes to a text, and makes blocks of its own alone. -/
theorem ACalls.text {P : Program} {f : FuncId} {args : List AV} {h : AHeap} {s : List UInt8} (H : ∀ G w cargs, Rel G h w → lrel G args cargs → Calls P f cargs.toArray w fun e w' => e = .returned (.string ⟨s.toArray⟩) ∧ Bel h.w0.2 w.heap.size w w') :
    ACalls P f args h fun v h' => v = .str s ∧ h' = h :=
  ⟨fun G w cargs r l => (H G w cargs r l).mono fun _e _w' ⟨he, hb⟩ => ⟨_, .str s, h, G, he, r.later (by rw [← r.start.1]; exact hb), by simp only [vrel], ⟨rfl, rfl⟩, .refl G⟩⟩
theorem ACalls.num {P : Program} {f : FuncId} {args : List AV} {h : AHeap} {k : IntKind} {n : Int} (H : ∀ G w cargs, Rel G h w → lrel G args cargs → Calls P f cargs.toArray w fun e w' => e = .returned (.int k n) ∧ w' = w) :
    ACalls P f args h fun v h' => v = .int k n ∧ h' = h :=
  ⟨fun G w cargs r l => (H G w cargs r l).mono fun _e _w' ⟨he, hb⟩ => ⟨_, .int k n, h, G, he, by rw [hb]; exact r, by simp only [vrel], ⟨rfl, rfl⟩, .refl G⟩⟩
theorem lrel_strs {G : Ghost} : ∀ (l : List (List UInt8)), lrel G (l.map AV.str) (l.map fun s => Value.string ⟨s.toArray⟩)
  | [] => by simp only [List.map_nil, lrel]
  | s :: l => by
    simp only [List.map_cons, lrel]
    exact ⟨_, _, rfl, by simp only [vrel], lrel_strs l⟩
end Go.Own

namespace Go.Own.Tryd
open Go.Own Go.Proofs Go.RowKit
set_option maxRecDepth 20000

/-- What is known of the library's variables when the call begins. -/
structure W0 (h : AHeap) : Prop where
  pow : Lib.TabIs Tryd.prog h.w0.1 "internal/strconv.uint64pow10" .u64 Lib.pow10Tab
  db : TabAt 3 Lib.deBruijn64tab h.w0.1
  mx : ∃ m, h.w0.1.cell? ⟨1, 0, none⟩ = some (.int .i64 m)
  no : h.w0.2 = false
theorem W0.old {a b : AHeap} (x : W0 a) (o : Old a b) : W0 b := by
  have e := o.w0
  exact ⟨by rw [e]; exact x.pow, by rw [e]; exact x.db, by rw [e]; exact x.mx, by rw [e]; exact x.no⟩

theorem c17 {h : AHeap} (hw : W0 h) (n : Nat) (hn : n ≤ 1000000) : ACalls Tryd.prog 17 [.int .i64 n] h fun v h' => v = .str (Lib.itoa n) ∧ h' = h := by
  refine ACalls.text fun G w cargs r l => ?_
  obtain ⟨a, rfl, ha⟩ := lrel_one l
  simp only [vrel] at ha
  subst ha
  refine (Proofs.Tryd.strconv_Itoa n (by omega) (by omega) w (r.var0 hw.pow)).mono ?_
  rintro e w' ⟨rfl, k, os, rfl⟩
  exact ⟨rfl, Lib.below_grow _ _ (Nat.le_refl _) _ _, fun hc => by rw [hw.no] at hc; cases hc⟩
theorem c77 {h : AHeap} (hw : W0 h) : ACalls Tryd.prog 77 [.int .u64 16] h fun v h' => v = .int .i64 4 ∧ h' = h := by
  refine ACalls.num fun G w cargs r l => ?_
  obtain ⟨a, rfl, ha⟩ := lrel_one l
  simp only [vrel] at ha
  subst ha
  have := Any7.bits_TrailingZeros Proofs.Tryd.lays7_27 16 (by omega) w (fun _ j hj => r.cell0 (hw.db j hj))
  exact this
theorem c18 {h : AHeap} (hw : W0 h) {v : AV} {xs : List (List UInt8)} {sep : List UInt8} (hx : Rd h 1 v (xs.map .str) xs.length) (h1 : 0 < xs.length) (hn : xs.length ≤ 1000000) (hl : (Lib.join xs sep).length ≤ 1000000000) :
    ACalls Tryd.prog 18 [v, .str sep] h fun v h' => v = .str (Lib.join xs sep) ∧ h' = h := by
  refine ACalls.text fun G w cargs r l => ?_
  obtain ⟨a, b, rfl, ha, hb⟩ := lrel_two l
  simp only [vrel] at hb
  subst hb
  obtain ⟨bk, o, cap, rfl, hcap, hcell⟩ := hx.world r ha h1
  have hcells : ∀ (j : Nat) x, (xs.map fun s => (⟨s.toArray⟩ : ByteArray))[j]? = some x → w.cell? ⟨bk, o + j, none⟩ = some (.string x) := by
    intro j x hj
    rw [List.getElem?_map, Option.map_eq_some_iff] at hj
    obtain ⟨s, hs, rfl⟩ := hj
    obtain ⟨u, e1, e2⟩ := hcell j (.str s) (by rw [List.getElem?_map, hs]; rfl)
    simp only [vrel] at e2
    rw [e1, e2]
  have hm : (xs.map fun s => (⟨s.toArray⟩ : ByteArray)).map (·.data.toList) = xs := by
    rw [List.map_map]; exact List.map_id' xs
  have hbk : bk < w.heap.size := by
    obtain ⟨u, e1, _⟩ := hcell 0 (.str xs[0]) (by rw [List.getElem?_map, List.getElem?_eq_getElem h1]; rfl)
    exact World.block_lt_of_cell? w _ e1
  have := Proofs.Tryd.strings_Join bk o cap (xs.map fun s => (⟨s.toArray⟩ : ByteArray)) ⟨sep.toArray⟩ w hcells hbk (by simp; omega) (by simpa using hcap) (by rw [hm]; simp; omega)
  rw [hm, List.length_map] at this
  refine this.mono ?_
  rintro e w' ⟨rfl, hb⟩
  exact ⟨by simp, hb, fun hc => by rw [hw.no] at hc; cases hc⟩
end Go.Own.Tryd

/- Splitting a text at a byte. -/
namespace Go.Own.Tryd
open Go.Own Go.Proofs Go.RowKit
set_option maxRecDepth 20000

def splitL (c : UInt8) : List UInt8 → List (List UInt8)
  | [] => [[]]
  | b :: r => if b = c then [] :: splitL c r else match splitL c r with
    | [] => [[b]]
    | x :: xs => (b :: x) :: xs
theorem splitL_ne (c : UInt8) : ∀ s, splitL c s ≠ []
  | [] => by simp [splitL]
  | b :: r => by
    rw [splitL]
    split
    · simp
    · split <;> simp
theorem splitL_cons {c b : UInt8} {r x : List UInt8} {xs : List (List UInt8)} (h : b ≠ c) (e : splitL c r = x :: xs) : splitL c (b :: r) = (b :: x) :: xs := by
  rw [splitL, if_neg h, e]
theorem split_eq (c : UInt8) : ∀ s, Lib.split s [c] = splitL c s
  | [] => rfl
  | b :: l => by
    have ih := split_eq c l
    have hix : Lib.index (b :: l) [c] = if (c == b) = true then 0 else if Lib.index l [c] == -1 then -1 else Lib.index l [c] + 1 := by
      rw [Lib.index]
      simp [List.isPrefixOf]
    by_cases hcb : c = b
    · subst hcb
      have h0 : Lib.index (c :: l) [c] = ((0 : Nat) : Int) := by rw [hix]; simp
      have hc := Lib.count_hit (by simp) h0
      simp only [List.length_singleton, Nat.zero_add, List.drop_succ_cons, List.drop_zero] at hc
      unfold Lib.split at ih ⊢
      rw [hc, Nat.add_comm 1, Lib.splitK, h0]
      simp only [splitL, if_true]
      rw [if_neg (by decide)]
      simp only [Int.toNat_natCast, Nat.zero_add, List.take_zero, List.length_singleton, List.drop_succ_cons, List.drop_zero]
      rw [ih]
    · have hcb' : ¬ (c == b) = true := by simpa using hcb
      rw [if_neg hcb'] at hix
      by_cases hl : Lib.index l [c] = -1
      · rw [hl, if_pos (by decide)] at hix
        unfold Lib.split at ih ⊢
        rw [Lib.count_miss hix]
        rw [Lib.count_miss hl, Lib.splitK] at ih
        rw [Lib.splitK, splitL_cons (fun e => hcb e.symm) ih.symm]
      · obtain ⟨i, hi⟩ : ∃ i : Nat, Lib.index l [c] = i := by
          rcases Lib.indexB_cases ⟨l.toArray⟩ ⟨#[c]⟩ with h1 | ⟨i, h1, _⟩
          · exact absurd (by simpa using h1) hl
          · exact ⟨i, by simpa using h1⟩
        rw [hi, if_neg (by simp)] at hix
        have hix' : Lib.index (b :: l) [c] = ((i + 1 : Nat) : Int) := by rw [hix]; omega
        have c1 := Lib.count_hit (by simp) hix'
        have c2 := Lib.count_hit (by simp) hi
        simp only [List.length_singleton, List.drop_succ_cons] at c1 c2
        unfold Lib.split at ih ⊢
        rw [c1, Nat.add_comm 1, Lib.splitK, hix']
        rw [c2, Nat.add_comm 1, Lib.splitK, hi] at ih
        rw [if_neg (by simp)] at ih
        rw [if_neg (by simp; omega)]
        simp only [Int.toNat_natCast, Nat.add_zero, List.length_singleton, List.take_succ_cons, List.drop_succ_cons] at ih ⊢
        rw [splitL_cons (fun e => hcb e.symm) ih.symm]
theorem splitB_eq (c : UInt8) (s : List UInt8) : (Lib.splitB ⟨[c].toArray⟩ 0 (Lib.countB ⟨s.toArray⟩ ⟨[c].toArray⟩) ⟨s.toArray⟩) = (splitL c s).map fun x => (⟨x.toArray⟩ : ByteArray) := by
  have h := Lib.splitB_data ⟨[c].toArray⟩ 0 (Lib.countB ⟨s.toArray⟩ ⟨[c].toArray⟩) ⟨s.toArray⟩
  have h2 : Lib.splitK [c] 0 (Lib.count s [c]) s = splitL c s := split_eq c s
  have h3 : (Lib.splitB ⟨[c].toArray⟩ 0 (Lib.countB ⟨s.toArray⟩ ⟨[c].toArray⟩) ⟨s.toArray⟩).map (·.data.toList) = splitL c s := by rw [h, ← h2]
  rw [← h3, List.map_map]
  exact (List.map_id' _).symm
theorem c38 {h : AHeap} (hw : W0 h) (s : List UInt8) (c : UInt8) (hs : s.length ≤ 1000000000) :
    ACalls Tryd.prog 38 [.str s, .str [c]] h fun v h' => v = .sl h.next 0 0 (splitL c s).length 1 ∧ h' = h.push (.cells 0 ((splitL c s).map .str)) := by
  refine ⟨fun G w cargs r l => ?_⟩
  obtain ⟨a, b, rfl, ha, hb⟩ := lrel_two l
  simp only [vrel] at ha hb
  subst ha; subst hb
  obtain ⟨m, hm⟩ := hw.mx
  have hlen := Lib.splitB_all ⟨[c].toArray⟩ (by simp [ByteArray.size]) 0 _ (⟨s.toArray⟩ : ByteArray) rfl
  rw [splitB_eq, List.length_map] at hlen
  refine (Proofs.Tryd.strings_Split ⟨s.toArray⟩ ⟨[c].toArray⟩ m w (by simp [ByteArray.size]; omega) (r.cell0 hm) (by simp [ByteArray.size])).mono ?_
  rintro e w' ⟨rfl, rfl⟩
  rw [← hlen, splitB_eq, List.map_map]
  have hmap : (Value.string ∘ fun x : List UInt8 => (⟨x.toArray⟩ : ByteArray)) = fun x : List UInt8 => Value.string ⟨x.toArray⟩ := rfl
  rw [hmap]
  obtain ⟨r1, r2⟩ := r.newCells (row := ((splitL c s).map fun x => Value.string ⟨x.toArray⟩).toArray) (el := 9) (fz := (0, 0)) (cs := (splitL c s).map .str) (.inr (Nat.le_refl _)) (by simp) (by
    have := lrel_strs (G := G) (splitL c s)
    rw [List.take_of_length_le (by simp)]
    simpa using this)
  refine ⟨_, .sl h.next 0 0 (splitL c s).length 1, _, _, rfl, r1, ?_, ⟨rfl, rfl⟩, r2⟩
  simp only [vrel]
  refine ⟨Ghost.add_ok .., w.heap.size, 0, _, rfl, Nat.le_refl _, .inr ⟨by rw [Ghost.add_blk], rfl, ?_⟩⟩
  rw [Ghost.add_own]; simp
/-- Parts that are joined are the parts. -/
theorem splitL_none {c : UInt8} : ∀ {x : List UInt8}, c ∉ x → splitL c x = [x]
  | [], _ => rfl
  | b :: r, h => by
    simp only [List.mem_cons, not_or] at h
    exact splitL_cons (fun e => h.1 e.symm) (splitL_none h.2)
theorem splitL_app {c : UInt8} (t : List UInt8) : ∀ {x : List UInt8}, c ∉ x → splitL c (x ++ c :: t) = x :: splitL c t
  | [], _ => by simp [splitL]
  | b :: r, h => by
    simp only [List.mem_cons, not_or] at h
    exact splitL_cons (fun e => h.1 e.symm) (splitL_app t h.2)
theorem split_join {c : UInt8} : ∀ (x : List UInt8) (xs : List (List UInt8)), (∀ y ∈ x :: xs, c ∉ y) → splitL c (Lib.join (x :: xs) [c]) = x :: xs
  | x, [], h => by
    rw [Lib.join_one]; exact splitL_none (h x (by simp))
  | x, y :: ys, h => by
    have e : Lib.join (x :: y :: ys) [c] = x ++ c :: Lib.join (y :: ys) [c] := by simp [Lib.join, List.intercalate]
    rw [e, splitL_app _ (h x (by simp)), split_join y ys fun z hz => h z (by simp at hz ⊢; right; exact hz)]
end Go.Own.Tryd

/- A number's hex digits, as strconv writes them. -/
namespace Go.Own.Tryd
open Go.Own Go.Proofs Go.RowKit
set_option maxRecDepth 20000

theorem digF_fuel (b : Nat) (hb : 2 ≤ b) : ∀ (f u : Nat), u < f → digF b f u = digF b (u + 1) u
  | 0, u, h => by omega
  | f + 1, u, h => by
    rw [digF, digF]
    split
    · rfl
    · have h1 : u / b < u := Nat.div_lt_self (by omega) (by omega)
      rw [digF_fuel b hb f (u / b) (by omega)]
      cases u with
      | zero => omega
      | succ u => rw [digF_fuel b hb (u + 1) ((u + 1) / b) (by omega)]
/-- A number's digits. -/
def dig (b u : Nat) : List UInt8 := digF b (u + 1) u
theorem dig_lt {b u : Nat} (h : u < b) : dig b u = [hexd.getD u 48] := by rw [dig, digF, if_pos h]
theorem dig_ge {b u : Nat} (hb : 2 ≤ b) (h : ¬ u < b) : dig b u = dig b (u / b) ++ [hexd.getD (u % b) 48] := by
  rw [dig, digF, if_neg h]
  have h1 : u / b < u := Nat.div_lt_self (by omega) (by omega)
  rw [digF_fuel b hb u (u / b) h1]
  rfl
def dig36 : List UInt8 := [48, 49, 50, 51, 52, 53, 54, 55, 56, 57, 97, 98, 99, 100, 101, 102, 103, 104, 105, 106, 107, 108, 109, 110, 111, 112, 113, 114, 115, 116, 117, 118, 119, 120, 121, 122]
theorem dig36_at {n : Nat} (hn : n < 16) : aindex .str (.str dig36) (.int .u64 n) = some (.int .u8 (hexd.getD n 48).toNat) := by
  have : n = 0 ∨ n = 1 ∨ n = 2 ∨ n = 3 ∨ n = 4 ∨ n = 5 ∨ n = 6 ∨ n = 7 ∨ n = 8 ∨ n = 9 ∨ n = 10 ∨ n = 11 ∨ n = 12 ∨ n = 13 ∨ n = 14 ∨ n = 15 := by omega
  rcases this with rfl | rfl | rfl | rfl | rfl | rfl | rfl | rfl | rfl | rfl | rfl | rfl | rfl | rfl | rfl | rfl <;> rfl
theorem u64_id {x : Int} (a : 0 ≤ x) (b : x < 18446744073709551616) : IntKind.u64.wrap x = x := by
  simp only [IntKind.wrap, IntKind.bits, IntKind.signed]
  simp
  omega
theorem and15 {n : Nat} (hn : n < 65536) : aint .and .u64 (n : Int) 15 = some (.int .u64 ((n % 16 : Nat) : Int)) := by
  have h1 : (BitVec.ofInt IntKind.u64.bits (n : Int)).toNat = n := by
    show (BitVec.ofInt 64 (n : Int)).toNat = n
    rw [BitVec.ofInt_natCast, BitVec.toNat_ofNat]
    exact Nat.mod_eq_of_lt (by omega)
  have h2 : (BitVec.ofInt IntKind.u64.bits (15 : Int)).toNat = 15 := rfl
  simp only [aint]
  rw [BitVec.toNat_and, h1, h2, show (15 : Nat) = 2 ^ 4 - 1 from rfl, Nat.and_two_pow_sub_one_eq_mod, u64_id (by omega) (by omega)]
theorem shr4 (n : Nat) : abin .shr (.int .u64 (n : Int)) (.int .u64 4) = some (.int .u64 ((n / 16 : Nat) : Int)) := by
  have : abin .shr (.int .u64 (n : Int)) (.int .u64 4) = some (.int .u64 ((n : Int).fdiv 16)) := rfl
  rw [this, Int.fdiv_eq_ediv_of_nonneg _ (by omega)]
  rfl
theorem z137 : azero Tryd.prog 137 = some (List.replicate 65 (.int .u8 0)) := by kernel_rfl
theorem c76 : Pure 76 [.int .i64 16] (.bool true) := by
  intro h
  apply T76_calls
  unfold T76
  refine abin_i (by decide) rfl ?_
  refine abin_i (by decide) rfl ?_
  refine abin_i (by decide) rfl ?_
  exact Ret.now ⟨rfl, rfl⟩
theorem ptr65 {i j : Nat} (hj : j < 65) : aiaddr (some 65) 1 (.ptr i 0 0) (.int .i64 (j : Int)) = some (.ptr i 0 j) := by
  simp [aiaddr]; omega
theorem splice_mid {a b : List AV} {x v : AV} : splice (a ++ [x] ++ b) a.length [v] = a ++ [v] ++ b := by
  simp [splice]
/-- The state behind so many digits. -/
def Fmt (h : AHeap) (n : Nat) (fr : Fr) (hc : AHeap) (u : Nat) (d : List UInt8) : Prop :=
  Old h hc ∧ fr 0 = .nils ∧ fr 3 = .bool false ∧ fr 4 = .bool false ∧ fr 10 = .nils ∧ fr 12 = .ptr h.next 0 0 ∧ ∃ pre : List AV, hc.get h.next = some (.cells 0 (pre ++ ofBytes d)) ∧ fr 13 = .int .i64 (pre.length : Int) ∧ pre.length + d.length = 65 ∧ d.length ≤ 4 ∧
    fr 1 = .int .u64 (u : Int) ∧ dig 16 u ++ d = dig 16 n
theorem c57 {h : AHeap} (hw : W0 h) (n : Nat) (hn : n < 65536) : ACalls Tryd.prog 57 [.nils, .int .u64 n, .int .i64 16, .bool false, .bool false] h fun v h' => v = .tuple [.nils, .str (dig 16 n)] ∧ h' = h := by
  apply T57_calls
  unfold T57
  refine joined (fun fr h' => h = h' ∧ fr 0 = .nils ∧ fr 1 = .int .u64 n ∧ fr 2 = .int .i64 16 ∧ fr 3 = .bool false ∧ fr 4 = .bool false ∧ fr 10 = .nils) ?_ ?_
  rotate_left
  · intro J hJ
    refine abin_i (by decide) rfl ?_
    rw [agrd_bool, if_pos (by decide)]
    refine abin_i (by decide) rfl ?_
    rw [agrd_bool, if_pos (by decide)]
    refine abin_i (by decide) rfl ?_
    rw [aif_bool, if_neg (by decide)]
    exact hJ ⟨rfl, by simp, by simp, by simp, by simp, by simp, by simp⟩
  rintro fr _ ⟨rfl, f0, f1, f2, f3, f4, f10⟩
  refine var z137 fun h1 n1 => ?_
  have o1 : Old h h1 := n1.old
  refine joined (fun fr h' => h1 = h' ∧ fr 0 = .nils ∧ fr 1 = .int .u64 n ∧ fr 2 = .int .i64 16 ∧ fr 3 = .bool false ∧ fr 4 = .bool false ∧ fr 10 = .nils ∧ fr 12 = .ptr h.next 0 0 ∧ fr 13 = .int .i64 65) ?_ ?_
  rotate_left
  · intro J hJ
    rw [f3, aif_bool, if_neg (by decide)]
    exact hJ ⟨rfl, by simp [f0], by simp [f1], by simp [f2], by simp [f3], by simp [f4], by simp [f10], by simp, by simp⟩
  rintro fr _ ⟨rfl, f0, f1, f2, f3, f4, f10, f12, f13⟩
  refine joined (fun fr h' => Old h h' ∧ fr 3 = .bool false ∧ fr 4 = .bool false ∧ fr 10 = .nils ∧ fr 12 = .ptr h.next 0 0 ∧ ∃ pre : List AV, h'.get h.next = some (.cells 0 (pre ++ ofBytes (dig 16 n))) ∧ fr 13 = .int .i64 (pre.length : Int) ∧ pre.length + (dig 16 n).length = 65) ?_ ?_
  · rintro fr h2 ⟨o2, f3, f4, f10, f12, pre, hg, f13, hl⟩
    refine joined (fun fr h' => h2 = h' ∧ fr 4 = .bool false ∧ fr 10 = .nils ∧ fr 12 = .ptr h.next 0 0 ∧ fr 13 = .int .i64 (pre.length : Int)) ?_ ?_
    rotate_left
    · intro J hJ
      rw [f3, aif_bool, if_neg (by decide)]
      exact hJ ⟨rfl, by simp [f4], by simp [f10], by simp [f12], by simp [f13]⟩
    rintro fr _ ⟨rfl, f4, f10, f12, f13⟩
    rw [f4, aif_bool, if_neg (by decide), f12, f13, f10]
    have e1 : aslice (.arr 65 1) (.ptr h.next 0 0) (some (.int .i64 (pre.length : Int))) none none h2 = some (.sl h.next 0 pre.length (65 - pre.length) 1) := by
      simp [aslice, abnd, hg, ofBytes_length]
      omega
    rw [e1, some1_some]
    have e2 : acv .bs (.sl h.next 0 pre.length (65 - pre.length) 1) h2 = some (.str (dig 16 n), h2) := by
      have : List.take (65 - pre.length) (List.drop pre.length (pre ++ ofBytes (dig 16 n))) = ofBytes (dig 16 n) := by
        rw [List.drop_left, List.take_of_length_le (by rw [ofBytes_length]; omega)]
      have hs : sread h2 1 (.sl h.next 0 pre.length (65 - pre.length) 1) = some (ofBytes (dig 16 n)) := by
        simp only [sread, hg, Nat.mul_one]
        rw [if_pos ⟨trivial, trivial, by simp [ofBytes_length]; omega⟩, this]
      simp only [acv, hs, toBytes_ofBytes]
    rw [e2, some1_some]
    exact Ret.pure o2 (by simp [AV.und, belows]) ⟨rfl, rfl⟩
  · intro K hK
    rw [f2]
    refine acall_q (by kernel_rfl) (c76 h1) ?_
    rw [aif_bool, if_pos rfl]
    refine some1_of (v := (.int .u64 16, h1)) rfl ?_
    refine acall_q (by kernel_rfl) (c77 (hw.old o1)) ?_
    refine some1_of (v := (.int .u64 4, h1)) rfl ?_
    refine some1_of (v := (.int .u64 16, h1)) rfl ?_
    refine some1_of (v := (.int .u64 16, h1)) rfl ?_
    refine abin_i (v := .int .u64 15) (by decide) rfl ?_
    refine aloop (fun m fr hc => ∃ (u : Nat) (d : List UInt8), Fmt h n fr hc u d ∧ fr 14 = .int .u64 4 ∧ fr 15 = .int .u64 16 ∧ fr 16 = .int .u64 15 ∧ m + d.length = 4 ∧ 1 ≤ m ∧ u < 16 ^ m) 4
      ⟨n, [], ⟨o1, by simp [f0], by simp [f3], by simp [f4], by simp [f10], by simp [f12], List.replicate 65 (.int .u8 0), by rw [n1.self]; simp [ofBytes], by simp [f13], by simp, by simp, by simp [f1], by simp⟩, by simp, by simp, by simp, by simp, by omega, by omega⟩ ?_
    rintro J hJ m fr hc ⟨u, d, ⟨o2, g0, g3, g4, g10, g12, pre, hg, g13, hl, hd4, g1, hd⟩, g14, g15, g16, hm, hm1, hu⟩
    have hu16 : u < 65536 := Nat.lt_of_lt_of_le hu (Nat.le_trans (Nat.pow_le_pow_right (by omega) (show m ≤ 4 by omega)) (by decide))
    obtain ⟨p', x, rfl⟩ : ∃ p' x, pre = p' ++ [x] := by
      rcases List.eq_nil_or_concat pre with h0 | ⟨p', x, h0⟩
      · subst h0; simp at hl; omega
      · exact ⟨p', x, by simpa using h0⟩
    have hpl : p'.length + 1 + d.length = 65 := by simpa using hl
    have e13 : aint .sub .i64 (((p' ++ [x]).length : Nat) : Int) 1 = some (.int .i64 (p'.length : Int)) := by
      simp only [aint, List.length_append, List.length_singleton]
      rw [i64_id (by omega) (by omega)]
      congr 2; omega
    have store : ∀ (c : UInt8) (k : AHeap → Prop), (∀ h', Upd hc h.next (.cells 0 (p' ++ ofBytes (c :: d))) h' → k h') → some1 (astorev 1 (.ptr h.next 0 p'.length) (.int .u8 c.toNat) hc) k := by
      intro c k hk
      refine put hg rfl rfl ?_ (by simp) hk
      rw [splice_mid]; simp [ofBytes]
    rw [g1, g12, g13, g14, g15, g16]
    refine abin_i (by decide) rfl ?_
    rw [aif_bool]
    split
    · rename_i h16
      simp only [decide_eq_true_eq] at h16
      refine abin_i (by decide) e13 ?_
      refine abin_i (by decide) (and15 hu16) ?_
      refine some1_of (dig36_at (Nat.mod_lt _ (by omega))) ?_
      refine some1_of (ptr65 (by omega)) ?_
      refine store _ _ fun h3 u3 => ?_
      refine some1_of (shr4 u) ?_
      have hm2 : 2 ≤ m := by
        rcases Nat.lt_or_ge m 2 with h' | h'
        · have : m = 1 := by omega
          subst this; simp at hu; omega
        · exact h'
      refine hJ (m - 1) (by omega) ⟨u / 16, _, ⟨o2.upd (Nat.le_refl _) u3, by simp [g0], by simp [g3], by simp [g4], by simp [g10], by simp [g12], p', u3.self, by simp, by simp; omega, by simp; omega, by simp, ?_⟩, by simp [g14], by simp [g15], by simp [g16], by simp; omega, by omega, ?_⟩
      · rw [← hd, dig_ge (by omega) (show ¬ u < 16 by omega)]; simp
      · have : 16 ^ m = 16 * 16 ^ (m - 1) := by
          conv => lhs; rw [show m = (m - 1) + 1 by omega, Nat.pow_succ]
          omega
        omega
    · rename_i h16
      simp only [decide_eq_true_eq] at h16
      have hu2 : u < 16 := by omega
      refine abin_i (by decide) e13 ?_
      refine some1_of (dig36_at hu2) ?_
      refine some1_of (ptr65 (by omega)) ?_
      refine store _ _ fun h3 u3 => ?_
      rw [dig_lt hu2] at hd
      refine hK ⟨o2.upd (Nat.le_refl _) u3, by simp [g3], by simp [g4], by simp [g10], by simp [g12], p', ?_, by simp, ?_⟩
      · rw [u3.self, ← hd]; rfl
      · rw [← hd]; simp; omega
theorem c37 {h : AHeap} (hw : W0 h) (n : Nat) (hn : n < 65536) : ACalls Tryd.prog 37 [.int .i64 n, .int .i64 16] h fun v h' => v = .str (dig 16 n) ∧ h' = h := by
  apply T37_calls
  unfold T37
  refine abin_i (by decide) rfl ?_
  rw [aif_bool, if_neg (by decide)]
  refine some1_of (v := (.int .u64 n, h)) ?_ ?_
  · simp only [acv]; rw [u64_id (by omega) (by omega)]
  refine abin_i (by decide) rfl ?_
  rw [show decide ((n : Int) < 0) = false by simp]
  refine acall_q (by kernel_rfl) (c57 hw n hn) ?_
  refine ext rfl ?_
  refine ext rfl ?_
  exact Ret.now ⟨rfl, rfl⟩
theorem c19 {h : AHeap} (hw : W0 h) (n : Nat) (hn : n < 65536) : ACalls Tryd.prog 19 [.int .i64 n, .int .i64 16] h fun v h' => v = .str (dig 16 n) ∧ h' = h := by
  apply T19_calls
  unfold T19
  refine acall_q (by kernel_rfl) (c37 hw n hn) ?_
  exact Ret.now ⟨rfl, rfl⟩
end Go.Own.Tryd

/- An address's text, a card's text: as words writes them, and as the document says. -/
namespace Go.Own.Tryd
open Go.Own Go.Proofs Go.RowKit
set_option maxRecDepth 20000

theorem afill_cell {zc : List AV} {v : AV} (hz : zc.length = 1) (hv : v.cells? = some [v]) : afill (zcells zc 1) [(0, 1, v)] = some [v] := by
  have h1 : zcells zc 1 = zc := by simp [zcells]
  rw [h1]
  simp only [afill, hv]
  obtain ⟨x, rfl⟩ := List.length_eq_one_iff.1 hz
  simp [splice]
theorem alitP_cell {P : Program} {t : TypeId} {v : AV} {h : AHeap} {k : AV → AHeap → Prop} (hk : elIs P t 1 = true) (hv : v.cells? = some [v]) (H : k (.sl h.next 0 0 1 1) (h.push (.cells 0 [v]))) : alitP P t 1 [(0, 1, v)] h k := by
  unfold elIs at hk
  unfold alitP
  split at hk
  · rename_i e w' b zc he
    simp only [Bool.and_eq_true, beq_iff_eq] at hk
    obtain ⟨rfl, hz⟩ := hk
    try rw [he]
    exact ⟨by omega, by omega, [v], afill_cell hz hv, H⟩
  · cases hk
theorem alitQ_cell {P : Program} {t : TypeId} {v : AV} {k : List AV → Prop} (hk : elIs P t 1 = true) (hv : v.cells? = some [v]) (H : k [v]) : alitQ P t 1 [(0, 1, v)] k := by
  unfold elIs at hk
  unfold alitQ
  split at hk
  · rename_i e w' b zc he
    simp only [Bool.and_eq_true, beq_iff_eq] at hk
    obtain ⟨rfl, hz⟩ := hk
    try rw [he]
    exact ⟨⟨by omega, by omega⟩, [v], afill_cell hz hv, H⟩
  · cases hk
theorem el43 : elIs Tryd.prog 43 1 = true := by kernel_rfl
/-- One text more in a list that is being built. -/
theorem app_str {h0 h : AHeap} {v : AV} {xs : List (List UInt8)} {s : List UInt8} {k : AV × AHeap → Prop} (hb : Bd h0 h 1 v (xs.map .str) xs.length) (ho : Old h0 h) (hl : xs.length ≤ 1000000)
    (hk : ∀ v' h', Bd h0 h' 1 v' ((xs ++ [s]).map .str) (xs ++ [s]).length → Old h0 h' → k (v', h')) :
    some1 (aappend 1 16 v (.sl h.next 0 0 1 1) (h.push (.cells 0 [.str s]))) k := by
  refine hb.app1 (bytes := 16) ho rfl (by unfold room; omega) rfl ?_
  intro v' h' b1 o1 _ _
  exact hk v' h' (by simpa using b1) o1
theorem belows_strs (n : Nat) : ∀ (l : List (List UInt8)), belows n (l.map .str)
  | [] => by simp [belows]
  | _ :: l => by simp only [List.map_cons, belows]; exact ⟨trivial, belows_strs n l⟩

theorem decDigits_eq (u : Nat) : Lib.decDigits u = dig 10 u := by
  induction u using Nat.strongRecOn with
  | _ u ih =>
    have hd : ∀ k, k < 10 → UInt8.ofNat (48 + k) = hexd.getD k 48 := by
      intro k hk
      have : k = 0 ∨ k = 1 ∨ k = 2 ∨ k = 3 ∨ k = 4 ∨ k = 5 ∨ k = 6 ∨ k = 7 ∨ k = 8 ∨ k = 9 := by omega
      rcases this with rfl | rfl | rfl | rfl | rfl | rfl | rfl | rfl | rfl | rfl <;> rfl
    rw [Lib.decDigits]
    split
    · rename_i h
      rw [dig_lt h, hd u h]
    · rename_i h
      rw [dig_ge (by omega) h, ih (u / 10) (by omega), hd _ (Nat.mod_lt _ (by omega))]
theorem itoa_eq (n : Nat) : Lib.itoa n = dig 10 n := by
  unfold Lib.itoa
  rw [if_neg (by omega), Int.toNat_natCast, decDigits_eq]
/-- Two bytes as one number. -/
def prs : List UInt8 → List Nat
  | x :: y :: r => (x.toNat * 256 + y.toNat) :: prs r
  | _ => []
theorem prs_get : ∀ (a : List UInt8) (i : Nat) (h : 2 * i + 1 < a.length), (prs a)[i]? = some (a[2 * i].toNat * 256 + a[2 * i + 1].toNat)
  | [], _, h => by simp at h
  | [_], _, h => by simp at h
  | x :: y :: r, 0, _ => by simp [prs]
  | x :: y :: r, i + 1, h => by
    have ih := prs_get r i (by simp at h; omega)
    simp only [prs, List.getElem?_cons_succ, ih]
    simp only [show 2 * (i + 1) = (2 * i + 1) + 1 by omega, List.getElem_cons_succ]
theorem prs_len : ∀ (a : List UInt8), (prs a).length = a.length / 2
  | [] => rfl
  | [_] => by simp [prs]
  | x :: y :: r => by simp [prs, prs_len r]; omega
theorem prs_lt : ∀ (a : List UInt8), ∀ n ∈ prs a, n < 65536
  | [], _, h => by simp [prs] at h
  | [_], _, h => by simp [prs] at h
  | x :: y :: r, n, h => by
    simp only [prs, List.mem_cons] at h
    rcases h with rfl | h
    · have := x.toNat_lt; have := y.toNat_lt; omega
    · exact prs_lt r n h
/-- The text of an address. -/
def addrT (a : List UInt8) : List UInt8 := if a.length = 4 then Lib.join (a.map fun x => dig 10 x.toNat) [46] else if a.length = 16 then Lib.join ((prs a).map (dig 16)) [58] else []
/-- The text of a card's address. -/
def cardT (m : List UInt8) : List UInt8 := Lib.join (m.map fun x => [hexd.getD (x.toNat / 16) 48, hexd.getD (x.toNat % 16) 48]) [58]
theorem join_le (c : UInt8) (L : Nat) : ∀ (xs : List (List UInt8)), (∀ x ∈ xs, x.length ≤ L) → (Lib.join xs [c]).length ≤ xs.length * (L + 1)
  | [], _ => by simp [Lib.join_nil]
  | [x], h => by rw [Lib.join_one]; have := h x (by simp); simp; omega
  | x :: y :: ys, h => by
    have e : Lib.join (x :: y :: ys) [c] = x ++ c :: Lib.join (y :: ys) [c] := by simp [Lib.join, List.intercalate]
    have ih := join_le c L (y :: ys) fun z hz => h z (by simp at hz ⊢; right; exact hz)
    have hx := h x (by simp)
    rw [e, List.length_append, List.length_cons, List.length_cons, Nat.succ_mul]
    omega
theorem dig_len (b u : Nat) (hb : 2 ≤ b) : (dig b u).length ≤ u + 1 := digF_len b hb _ _
theorem or256 (x y : Nat) (hx : x < 256) (hy : y < 256) : abin .or (.int .i64 ((x * 256 : Nat) : Int)) (.int .i64 (y : Int)) = some (.int .i64 ((x * 256 + y : Nat) : Int)) := by
  have h1 : ∀ x : Nat, x < 18446744073709551616 → (BitVec.ofInt IntKind.i64.bits (x : Int)).toNat = x := by
    intro x hx
    show (BitVec.ofInt 64 (x : Int)).toNat = x
    rw [BitVec.ofInt_natCast, BitVec.toNat_ofNat]
    exact Nat.mod_eq_of_lt hx
  rw [abin_int (by decide)]
  simp only [aint]
  rw [BitVec.toNat_or, h1 _ (by omega), h1 _ (by omega)]
  have := Nat.two_pow_add_eq_or_of_lt (i := 8) (b := y) (by omega) x
  rw [show 2 ^ 8 * x = x * 256 by omega] at this
  rw [← this, i64_id (by omega) (by omega)]
theorem shl256 (x : Nat) (hx : x < 256) : abin .shl (.int .i64 (x : Int)) (.int .u64 8) = some (.int .i64 ((x * 256 : Nat) : Int)) := by
  have : abin .shl (.int .i64 (x : Int)) (.int .u64 8) = some (.int .i64 (IntKind.i64.wrap ((x : Int) * 256))) := rfl
  rw [this, i64_id (by omega) (by omega)]
  congr 2
theorem str_at {a : List UInt8} {i : Nat} (hi : i < a.length) : aindex .str (.str a) (.int .i64 (i : Int)) = some (.int .u8 a[i].toNat) := by
  simp only [aindex]
  rw [if_pos (by omega), Int.toNat_natCast, List.getElem?_eq_getElem hi]
theorem byte_i64 (x : UInt8) (h : AHeap) : acv (.int .i64) (.int .u8 x.toNat) h = some (.int .i64 x.toNat, h) := by
  have := x.toNat_lt
  simp only [acv]; rw [i64_id (by omega) (by omega)]

theorem c7 {h : AHeap} (hw : W0 h) (a : List UInt8) : ACalls Tryd.prog 7 [.str a] h fun v h' => v = .str (addrT a) ∧ h' = h := by
  apply T7_calls
  unfold T7
  refine some1_of (v := .int .i64 a.length) rfl ?_
  refine abin_i (by decide) rfl ?_
  rw [aif_bool]
  split
  · rename_i h4
    have h4' : a.length = 4 := by simp at h4; omega
    refine some1_of (v := (.sl h.next 0 0 a.length 1, h.push (.cells 0 (ofBytes a)))) rfl ?_
    have n1 := New.of h (.cells 0 (ofBytes a))
    generalize h.push (.cells 0 (ofBytes a)) = h1 at *
    have hrd : Rd h1 1 (.sl h.next 0 0 a.length 1) (ofBytes a) a.length := by
      have := Rd.sl (h := h1) (i := h.next) (r := 0) (off := 0) (n := a.length) (w := 1) (all := ofBytes a) (by rw [n1.next]; omega) n1.self (by rw [ofBytes_length]; omega)
      rwa [List.drop_zero, List.take_of_length_le (by rw [ofBytes_length]; omega)] at this
    refine some1_of (v := .int .i64 a.length) rfl ?_
    refine aloop (fun m fr hc => Old h1 hc ∧ fr 12 = .sl h.next 0 0 a.length 1 ∧ fr 13 = .int .i64 a.length ∧ ∃ i : Nat, m + i = 4 ∧ fr 14 = .int .i64 i ∧ Bd h1 hc 1 (fr 3) (((a.take i).map fun x => dig 10 x.toNat).map .str) ((a.take i).map fun x => dig 10 x.toNat).length) 4
      ⟨Old.refl _, by simp, by simp, 0, by omega, by simp, by simp; exact .nils⟩ ?_
    rintro J hJ m fr hc ⟨ho, g12, g13, i, hm, g14, hb⟩
    rw [g12, g13, g14]
    refine abin_i (by decide) rfl ?_
    rw [aif_bool]
    split
    · rename_i hi
      have hi' : i < a.length := by simp at hi; omega
      obtain ⟨p, e1, _, e3, _⟩ := (hrd.old ho).at hi'
      have e3' : aloadv false 1 p hc = some (.int .u8 a[i].toNat) := by
        rw [e3 (by omega)]; simp [ofBytes, hi']
      rw [e1, some1_some, e3', some1_some, byte_i64, some1_some]
      have hb8 := a[i].toNat_lt
      refine acall_q (by kernel_rfl) (c17 (hw.old (n1.old.trans ho)) a[i].toNat (by omega)) ?_
      refine alitP_cell el43 rfl ?_
      rw [itoa_eq]
      refine app_str hb ho (by simp; omega) fun v' h' b1 o1 => ?_
      refine abin_i (by decide) rfl ?_
      have ht : (a.take i).map (fun x => dig 10 x.toNat) ++ [dig 10 a[i].toNat] = (a.take (i + 1)).map fun x => dig 10 x.toNat := by
        rw [List.take_succ_eq_append_getElem hi', List.map_append]; rfl
      rw [ht] at b1
      exact hJ (m - 1) (by omega) ⟨o1, by simp [g12], by simp [g13], i + 1, by omega, by simp; rw [i64_id (by omega) (by omega)], by simpa using b1⟩
    · rename_i hi
      have hi' : i = 4 := by simp at hi; omega
      subst hi'
      rw [List.take_of_length_le (by omega)] at hb
      have hle : (Lib.join (a.map fun x => dig 10 x.toNat) [46]).length ≤ 4 * 258 := by
        have := join_le 46 257 (a.map fun x => dig 10 x.toNat) (by
          intro x hx
          rw [List.mem_map] at hx
          obtain ⟨y, _, rfl⟩ := hx
          have := dig_len 10 y.toNat (by omega); have := y.toNat_lt; omega)
        rw [List.length_map, h4'] at this; exact this
      refine acall_q (by kernel_rfl) (c18 (hw.old (n1.old.trans ho)) hb.rd (by simp; omega) (by simp; omega) (by omega)) ?_
      exact Ret.pure (n1.old.trans ho) (by simp [AV.und]) ⟨by rw [addrT, if_pos h4'], rfl⟩
  · rename_i h4
    have h4' : ¬ a.length = 4 := by simp at h4; omega
    refine abin_i (by decide) rfl ?_
    rw [aif_bool]
    split
    · rename_i h16
      have h16' : a.length = 16 := by simp at h16; omega
      refine aloop (fun m fr hc => Old h hc ∧ fr 0 = .str a ∧ ∃ i : Nat, m + i = 8 ∧ fr 6 = .int .i64 ((2 * i : Nat) : Int) ∧ Bd h hc 1 (fr 3) ((((prs a).take i).map (dig 16)).map .str) (((prs a).take i).map (dig 16)).length) 8
        ⟨Old.refl _, by simp, 0, by omega, by simp, by simp; exact .nils⟩ ?_
      rintro J hJ m fr hc ⟨ho, g0, i, hm, g6, hb⟩
      rw [g0, g6]
      refine abin_i (by decide) rfl ?_
      rw [aif_bool]
      split
      · rename_i hi
        have hi' : i < 8 := by simp at hi; omega
        have hp := prs_get a i (by omega)
        have hpl : i < (prs a).length := by rw [prs_len]; omega
        rw [List.getElem?_eq_getElem hpl] at hp
        have hp := Option.some.inj hp
        refine some1_of (str_at (by omega)) ?_
        have hx := a[2 * i].toNat_lt
        have hy := a[2 * i + 1].toNat_lt
        rw [byte_i64, some1_some]
        refine some1_of (shl256 _ hx) ?_
        refine abin_i (v := .int .i64 ((2 * i + 1 : Nat) : Int)) (by decide) ?_ ?_
        · simp only [aint]; rw [i64_id (by omega) (by omega)]; congr 2
        refine some1_of (str_at (by omega)) ?_
        rw [byte_i64, some1_some]
        refine some1_of (or256 _ _ hx hy) ?_
        rw [← hp]
        have hlt := prs_lt a (prs a)[i] (List.getElem_mem hpl)
        refine acall_q (by kernel_rfl) (c19 (hw.old ho) _ hlt) ?_
        refine alitQ_cell el43 rfl ?_
        show some1 (aappend 1 16 (fr 3) (.sl hc.next 0 0 1 1) (hc.push (.cells 0 [.str (dig 16 (prs a)[i])]))) _
        refine app_str hb ho (by simp; omega) fun v' h' b1 o1 => ?_
        refine abin_i (v := .int .i64 ((2 * (i + 1) : Nat) : Int)) (by decide) ?_ ?_
        · simp only [aint]; rw [i64_id (by omega) (by omega)]; congr 2
        have ht : ((prs a).take i).map (dig 16) ++ [dig 16 (prs a)[i]] = ((prs a).take (i + 1)).map (dig 16) := by
          rw [List.take_succ_eq_append_getElem hpl, List.map_append]; rfl
        rw [ht] at b1
        exact hJ (m - 1) (by omega) ⟨o1, by simp [g0], i + 1, by omega, by simp, by simpa using b1⟩
      · rename_i hi
        have hi' : i = 8 := by simp at hi; omega
        subst hi'
        have hpl : (prs a).length = 8 := by rw [prs_len]; omega
        rw [List.take_of_length_le (by omega)] at hb
        have hle : (Lib.join ((prs a).map (dig 16)) [58]).length ≤ 8 * 65537 := by
          have := join_le 58 65536 ((prs a).map (dig 16)) (by
            intro x hx
            rw [List.mem_map] at hx
            obtain ⟨y, hy, rfl⟩ := hx
            have := dig_len 16 y (by omega); have := prs_lt a y hy; omega)
          rw [List.length_map, hpl] at this; exact this
        refine acall_q (by kernel_rfl) (c18 (hw.old ho) hb.rd (by simp; omega) (by simp; omega) (by omega)) ?_
        exact Ret.pure ho (by simp [AV.und]) ⟨by rw [addrT, if_neg h4', if_pos h16'], rfl⟩
    · rename_i h16
      have h16' : ¬ a.length = 16 := by simp at h16; omega
      exact Ret.now ⟨by rw [addrT, if_neg h4', if_neg h16'], rfl⟩
end Go.Own.Tryd

/- A card's text; the document's texts. -/
namespace Go.Own.Tryd
open Go.Own Go.Proofs Go.RowKit
set_option maxRecDepth 20000

theorem hex_slice' {n : Nat} (hn : n < 16) (k : IntKind) {h : AHeap} : aslice .str (.str hexd) (some (.int k (n : Int))) (some (.int k ((n : Int) + 1))) none h = some (.str [hexd.getD n 48]) := by
  have : n = 0 ∨ n = 1 ∨ n = 2 ∨ n = 3 ∨ n = 4 ∨ n = 5 ∨ n = 6 ∨ n = 7 ∨ n = 8 ∨ n = 9 ∨ n = 10 ∨ n = 11 ∨ n = 12 ∨ n = 13 ∨ n = 14 ∨ n = 15 := by omega
  rcases this with rfl | rfl | rfl | rfl | rfl | rfl | rfl | rfl | rfl | rfl | rfl | rfl | rfl | rfl | rfl | rfl <;> rfl
theorem u8_id {x : Int} (a : 0 ≤ x) (b : x < 256) : IntKind.u8.wrap x = x := by
  simp only [IntKind.wrap, IntKind.bits, IntKind.signed]
  simp
  omega
theorem and15' {n : Nat} (hn : n < 256) : aint .and .u8 (n : Int) 15 = some (.int .u8 ((n % 16 : Nat) : Int)) := by
  have h1 : (BitVec.ofInt IntKind.u8.bits (n : Int)).toNat = n := by
    show (BitVec.ofInt 8 (n : Int)).toNat = n
    rw [BitVec.ofInt_natCast, BitVec.toNat_ofNat]
    exact Nat.mod_eq_of_lt (by omega)
  have h2 : (BitVec.ofInt IntKind.u8.bits (15 : Int)).toNat = 15 := rfl
  simp only [aint]
  rw [BitVec.toNat_and, h1, h2, show (15 : Nat) = 2 ^ 4 - 1 from rfl, Nat.and_two_pow_sub_one_eq_mod, u8_id (by omega) (by omega)]
theorem shr4' (n : Nat) : abin .shr (.int .u8 (n : Int)) (.int .u64 4) = some (.int .u8 ((n / 16 : Nat) : Int)) := by
  have : abin .shr (.int .u8 (n : Int)) (.int .u64 4) = some (.int .u8 ((n : Int).fdiv 16)) := rfl
  rw [this, Int.fdiv_eq_ediv_of_nonneg _ (by omega)]
  rfl
/-- The two digits of a byte. -/
def two (x : UInt8) : List UInt8 := [hexd.getD (x.toNat / 16) 48, hexd.getD (x.toNat % 16) 48]
theorem cardT_eq (m : List UInt8) : cardT m = Lib.join (m.map two) [58] := rfl
theorem arr_at {m : List UInt8} {i : Nat} (hi : i < m.length) : aindex (.arr m.length false 1) (.agg (ofBytes m)) (.int .i64 (i : Int)) = some (.int .u8 m[i].toNat) := by
  simp only [aindex, apart, Int.toNat_natCast, Nat.mul_one, ofBytes_length]
  rw [if_pos (by omega), if_pos ⟨by omega, .inr trivial⟩]
  simp [ofBytes, hi]
theorem c8 {h : AHeap} (hw : W0 h) (a : List UInt8) (ha : a.length = 6) : ACalls Tryd.prog 8 [.agg (ofBytes a)] h fun v h' => v = .str (cardT a) ∧ h' = h := by
  apply T8_calls
  unfold T8
  refine box cells?_agg fun h1 n1 => ?_
  refine get_all n1.self (by rw [ofBytes_length, ha]) ?_
  refine aloop (fun m fr hc => Old h1 hc ∧ fr 6 = .agg (ofBytes a) ∧ ∃ i : Nat, m + i = 6 ∧ fr 7 = .int .i64 i ∧ Bd h1 hc 1 (fr 3) (((a.take i).map two).map .str) ((a.take i).map two).length) 6
    ⟨Old.refl _, by simp, 0, by omega, by simp, by simp; exact .nils⟩ ?_
  rintro J hJ m fr hc ⟨ho, g6, i, hm, g7, hb⟩
  rw [g6, g7]
  refine abin_i (by decide) rfl ?_
  rw [aif_bool]
  split
  · rename_i hi
    have hi' : i < a.length := by simp at hi; omega
    have hx := a[i].toNat_lt
    have e1 := arr_at hi'
    rw [ha] at e1
    rw [e1, some1_some]
    refine some1_of (shr4' _) ?_
    refine some1_of (shr4' _) ?_
    refine abin_i (by decide) rfl ?_
    rw [u8_id (by omega) (by omega)]
    refine some1_of (hex_slice' (by omega) _) ?_
    refine abin_i (by decide) (and15' hx) ?_
    refine abin_i (by decide) (and15' hx) ?_
    refine abin_i (by decide) rfl ?_
    rw [u8_id (by omega) (by omega)]
    refine some1_of (hex_slice' (by omega) _) ?_
    refine some1_of (v := .str (two a[i])) rfl ?_
    refine alitQ_cell el43 rfl ?_
    show some1 (aappend 1 16 (fr 3) (.sl hc.next 0 0 1 1) (hc.push (.cells 0 [.str (two a[i])]))) _
    refine app_str hb ho (by simp; omega) fun v' h' b1 o1 => ?_
    refine abin_i (by decide) rfl ?_
    have ht : (a.take i).map two ++ [two a[i]] = (a.take (i + 1)).map two := by
      rw [List.take_succ_eq_append_getElem hi', List.map_append]; rfl
    rw [ht] at b1
    exact hJ (m - 1) (by omega) ⟨o1, by simp [g6], i + 1, by omega, by simp; rw [i64_id (by omega) (by omega)], by simpa using b1⟩
  · rename_i hi
    have hi' : i = 6 := by simp at hi; omega
    subst hi'
    rw [List.take_of_length_le (by omega)] at hb
    have hle : (Lib.join (a.map two) [58]).length ≤ 6 * 3 := by
      have := join_le 58 2 (a.map two) (by
        intro x hx
        rw [List.mem_map] at hx
        obtain ⟨y, _, rfl⟩ := hx
        simp [two])
      rw [List.length_map, ha] at this; exact this
    refine acall_q (by kernel_rfl) (c18 (hw.old (n1.old.trans ho)) hb.rd (by simp; omega) (by simp; omega) (by omega)) ?_
    exact Ret.pure (n1.old.trans ho) (by simp [AV.und]) ⟨rfl, rfl⟩

/-- A row of texts, each behind a byte. -/
def behind (c : UInt8) (xs : List (List UInt8)) : List UInt8 := (xs.map (c :: ·)).flatten
theorem behind_drop (c : UInt8) : ∀ (xs : List (List UInt8)), xs ≠ [] → (behind c xs).drop 1 = Lib.join xs [c]
  | [], h => absurd rfl h
  | x :: r, _ => by
    rw [Lib.join_cons]
    simp [behind, Lib.joinTail]
theorem behind_snoc (c : UInt8) (xs : List (List UInt8)) (x : List UInt8) : behind c xs ++ [c] ++ x = behind c (xs ++ [x]) := by simp [behind]
theorem behind_le (c : UInt8) (L : Nat) : ∀ (xs : List (List UInt8)), (∀ x ∈ xs, x.length ≤ L) → (behind c xs).length ≤ xs.length * (L + 1)
  | [], _ => by simp [behind]
  | x :: xs, h => by
    have ih := behind_le c L xs fun z hz => h z (by simp; right; exact hz)
    have hx := h x (by simp)
    simp only [behind, List.map_cons, List.flatten_cons, List.length_append, List.length_cons, Nat.succ_mul] at ih ⊢
    omega
theorem cut1 {s : List UInt8} {h : AHeap} (hs : 1 ≤ s.length) : aslice .str (.str s) (some (.int .i64 1)) none none h = some (.str (s.drop 1)) := by
  simp only [aslice, abnd]
  rw [if_pos (by decide)]
  simp only [Int.toNat_one]
  rw [if_pos ⟨hs, Nat.le_refl _⟩, List.take_of_length_le (by simp)]
theorem add_str {a b : List UInt8} {k : AV → Prop} (hl : a.length + b.length ≤ 9223372036854775807) (hk : k (.str (a ++ b))) : some1 (abin .add (.str a) (.str b)) k := by
  rw [abin_str]; refine some1_of ?_ hk
  simp only [astr]; rw [if_pos hl]
theorem dig_pure (b : Nat) (hb : 2 ≤ b) (hb' : b ≤ 16) (n : Nat) (hn : n < 1000000) : Pure 20 [.int .i64 n, .int .i64 b] (.str (dig b n)) := c20 b hb hb' (n + 1) n hn (by omega)
theorem c9 (a : List UInt8) : Pure 9 [.str a] (.str (addrT a)) := by
  intro h
  apply T9_calls
  unfold T9
  refine some1_of (v := .int .i64 a.length) rfl ?_
  refine abin_i (by decide) rfl ?_
  rw [aif_bool]
  split
  · rename_i h4
    have h4' : a.length = 4 := by simp at h4; omega
    have hbl : ∀ i, (behind 46 ((a.take i).map fun x => dig 10 x.toNat)).length ≤ 4 * 258 := by
      intro i
      refine Nat.le_trans (behind_le 46 257 _ ?_) ?_
      · intro x hx
        rw [List.mem_map] at hx
        obtain ⟨y, _, rfl⟩ := hx
        have := dig_len 10 y.toNat (by omega); have := y.toNat_lt; omega
      · rw [List.length_map, List.length_take]; exact Nat.mul_le_mul_right _ (by omega)
    refine aloop (fun m fr hc => hc = h ∧ fr 0 = .str a ∧ ∃ i : Nat, m + i = 4 ∧ fr 4 = .int .i64 i ∧ fr 3 = .str (behind 46 ((a.take i).map fun x => dig 10 x.toNat))) 4
      ⟨rfl, by simp, 0, by omega, by simp, by simp [behind]⟩ ?_
    rintro J hJ m fr hc ⟨hh, g0, i, hm, g4, g3⟩
    rw [hh, g0, g3, g4]
    refine abin_i (by decide) rfl ?_
    rw [aif_bool]
    split
    · rename_i hi
      have hi' : i < a.length := by simp at hi; omega
      have := hbl i
      have hx := a[i].toNat_lt
      have hdl := dig_len 10 a[i].toNat (by omega)
      refine add_str (by simp only [List.length_cons, List.length_nil]; omega) ?_
      refine some1_of (str_at hi') ?_
      rw [byte_i64, some1_some]
      refine acall_q (by kernel_rfl) (dig_pure 10 (by omega) (by omega) _ (by omega) h) ?_
      refine add_str (by simp only [List.length_append, List.length_cons, List.length_nil]; omega) ?_
      refine abin_i (by decide) rfl ?_
      refine hJ (m - 1) (by omega) ⟨rfl, by simp [g0], i + 1, by omega, by simp; rw [i64_id (by omega) (by omega)], ?_⟩
      rw [List.take_succ_eq_append_getElem hi', List.map_append, ← List.map_cons (f := fun x : UInt8 => dig 10 x.toNat) (l := []) |>.symm]
      simp [behind]
    · rename_i hi
      have hi' : i = 4 := by simp at hi; omega
      subst hi'
      rw [List.take_of_length_le (by omega)]
      have hne : a.map (fun x => dig 10 x.toNat) ≠ [] := by
        intro e; have := congrArg List.length e; simp at this; simp [this] at h4'
      refine some1_of (cut1 ?_) ?_
      · cases a with
        | nil => simp at h4'
        | cons x r => simp [behind]
      rw [behind_drop _ _ hne]
      exact Ret.now ⟨by rw [addrT, if_pos h4'], rfl⟩
  · rename_i h4
    have h4' : ¬ a.length = 4 := by simp at h4; omega
    refine some1_of (v := .int .i64 a.length) rfl ?_
    refine abin_i (by decide) rfl ?_
    rw [aif_bool]
    split
    · rename_i h16
      have h16' : ¬ a.length = 16 := by simp at h16; omega
      exact Ret.now ⟨by rw [addrT, if_neg h4', if_neg h16'], rfl⟩
    · rename_i h16
      have h16' : a.length = 16 := by simp at h16; omega
      have hpl8 : (prs a).length = 8 := by rw [prs_len]; omega
      have hbl : ∀ i, (behind 58 (((prs a).take i).map (dig 16))).length ≤ 8 * 65537 := by
        intro i
        refine Nat.le_trans (behind_le 58 65536 _ ?_) ?_
        · intro x hx
          rw [List.mem_map] at hx
          obtain ⟨y, hy, rfl⟩ := hx
          have := dig_len 16 y (by omega); have := prs_lt a y (List.mem_of_mem_take hy); omega
        · rw [List.length_map, List.length_take]; exact Nat.mul_le_mul_right _ (by omega)
      refine aloop (fun m fr hc => hc = h ∧ fr 0 = .str a ∧ ∃ i : Nat, m + i = 8 ∧ fr 5 = .int .i64 ((2 * i : Nat) : Int) ∧ fr 3 = .str (behind 58 (((prs a).take i).map (dig 16)))) 8
        ⟨rfl, by simp, 0, by omega, by simp, by simp [behind]⟩ ?_
      rintro J hJ m fr hc ⟨hh, g0, i, hm, g5, g3⟩
      rw [hh, g0, g3, g5]
      refine abin_i (by decide) rfl ?_
      rw [aif_bool]
      split
      · rename_i hi
        have hi' : i < 8 := by simp at hi; omega
        have hp := prs_get a i (by omega)
        have hpl : i < (prs a).length := by omega
        rw [List.getElem?_eq_getElem hpl] at hp
        have hp := Option.some.inj hp
        have hlt := prs_lt a (prs a)[i] (List.getElem_mem hpl)
        have hdl := dig_len 16 (prs a)[i] (by omega)
        have := hbl i
        have hx := a[2 * i].toNat_lt
        have hy := a[2 * i + 1].toNat_lt
        refine add_str (by simp only [List.length_cons, List.length_nil]; omega) ?_
        refine some1_of (str_at (by omega)) ?_
        rw [byte_i64, some1_some]
        refine abin_i (v := .int .i64 ((a[2 * i].toNat * 256 : Nat) : Int)) (by decide) ?_ ?_
        · simp only [aint]; rw [i64_id (by omega) (by omega)]; congr 2
        refine abin_i (v := .int .i64 ((2 * i + 1 : Nat) : Int)) (by decide) ?_ ?_
        · simp only [aint]; rw [i64_id (by omega) (by omega)]; congr 2
        refine some1_of (str_at (by omega)) ?_
        rw [byte_i64, some1_some]
        refine abin_i (v := .int .i64 ((prs a)[i] : Int)) (by decide) ?_ ?_
        · simp only [aint]; rw [i64_id (by omega) (by omega)]; congr 2; omega
        refine acall_q (by kernel_rfl) (dig_pure 16 (by omega) (by omega) _ (by omega) h) ?_
        refine add_str (by simp only [List.length_append, List.length_cons, List.length_nil]; omega) ?_
        refine abin_i (v := .int .i64 ((2 * (i + 1) : Nat) : Int)) (by decide) ?_ ?_
        · simp only [aint]; rw [i64_id (by omega) (by omega)]; congr 2
        refine hJ (m - 1) (by omega) ⟨rfl, by simp [g0], i + 1, by omega, by simp, ?_⟩
        rw [List.take_succ_eq_append_getElem hpl, List.map_append]
        simp [behind]
      · rename_i hi
        have hi' : i = 8 := by simp at hi; omega
        subst hi'
        rw [List.take_of_length_le (by omega)]
        have hne : (prs a).map (dig 16) ≠ [] := by
          intro e; have := congrArg List.length e; simp [hpl8] at this
        refine some1_of (cut1 ?_) ?_
        · cases hpa : (prs a).map (dig 16) with
          | nil => exact absurd hpa hne
          | cons x r => simp [behind]
        rw [behind_drop _ _ hne]
        exact Ret.now ⟨by rw [addrT, if_neg h4', if_pos h16'], rfl⟩
theorem c10 (a : List UInt8) (ha : a.length = 6) : Pure 10 [.agg (ofBytes a)] (.str (cardT a)) := by
  intro h
  apply T10_calls
  unfold T10
  refine box cells?_agg fun h1 n1 => ?_
  have hbl : ∀ i, (behind 58 ((a.take i).map two)).length ≤ 6 * 3 := by
    intro i
    refine Nat.le_trans (behind_le 58 2 _ ?_) ?_
    · intro x hx
      rw [List.mem_map] at hx
      obtain ⟨y, _, rfl⟩ := hx
      simp [two]
    · rw [List.length_map, List.length_take]; exact Nat.mul_le_mul_right _ (by omega)
  refine aloop (fun m fr hc => hc = h1 ∧ fr 1 = .ptr h.next 0 0 ∧ ∃ i : Nat, m + i = 6 ∧ fr 4 = .int .i64 i ∧ fr 3 = .str (behind 58 ((a.take i).map two))) 6
    ⟨rfl, by simp, 0, by omega, by simp, by simp [behind]⟩ ?_
  rintro J hJ m fr hc ⟨hh, g1, i, hm, g4, g3⟩
  rw [hh, g1, g3, g4]
  refine abin_i (by decide) rfl ?_
  rw [aif_bool]
  split
  · rename_i hi
    have hi' : i < a.length := by simp at hi; omega
    have := hbl i
    have hx := a[i].toNat_lt
    have e1 : aiaddr (some 6) 1 (.ptr h.next 0 0) (.int .i64 (i : Int)) = some (.ptr h.next 0 i) := by
      simp [aiaddr]; omega
    have e2 : aloadv false 1 (.ptr h.next 0 i) h1 = some (.int .u8 a[i].toNat) := by
      rw [aload_cell n1.self]; simp [ofBytes, hi']
    have q1 : aint .quo .i64 (a[i].toNat : Int) 16 = some (.int .i64 ((a[i].toNat / 16 : Nat) : Int)) := by
      simp only [aint]; rw [if_neg (by decide), Int.tdiv_eq_ediv_of_nonneg (by omega), i64_id (by omega) (by omega)]; rfl
    have q2 : aint .rem .i64 (a[i].toNat : Int) 16 = some (.int .i64 ((a[i].toNat % 16 : Nat) : Int)) := by
      simp only [aint]; rw [if_neg (by decide), Int.tmod_eq_emod_of_nonneg (by omega)]; rfl
    refine add_str (by simp only [List.length_cons, List.length_nil]; omega) ?_
    rw [e1, some1_some, e2, some1_some, byte_i64, some1_some]
    refine abin_i (by decide) q1 ?_
    rw [some1_some, e2, some1_some, byte_i64, some1_some]
    refine abin_i (by decide) q2 ?_
    refine acall_q (by kernel_rfl) (dig_pure 16 (by omega) (by omega) _ (by omega) h1) ?_
    refine ⟨by rw [e2, some1_some], ?_⟩
    rw [dig_lt (show a[i].toNat / 16 < 16 by omega)]
    refine add_str (by simp only [List.length_append, List.length_cons, List.length_nil]; omega) ?_
    refine acall_q (by kernel_rfl) (dig_pure 16 (by omega) (by omega) _ (by omega) h1) ?_
    rw [dig_lt (show a[i].toNat % 16 < 16 by omega)]
    refine add_str (by simp only [List.length_append, List.length_cons, List.length_nil]; omega) ?_
    refine abin_i (by decide) rfl ?_
    refine hJ (m - 1) (by omega) ⟨rfl, by simp [g1], i + 1, by omega, by simp; rw [i64_id (by omega) (by omega)], ?_⟩
    rw [List.take_succ_eq_append_getElem hi', List.map_append]
    simp [behind, two]
  · rename_i hi
    have hi' : i = 6 := by simp at hi; omega
    subst hi'
    rw [List.take_of_length_le (by omega)]
    have hne : a.map two ≠ [] := by
      intro e; have := congrArg List.length e; simp [ha] at this
    refine some1_of (cut1 ?_) ?_
    · cases hpa : a.map two with
      | nil => exact absurd hpa hne
      | cons x r => simp [behind]
    rw [behind_drop _ _ hne]
    exact Ret.pure n1.old (by simp [AV.und]) ⟨rfl, rfl⟩
end Go.Own.Tryd
