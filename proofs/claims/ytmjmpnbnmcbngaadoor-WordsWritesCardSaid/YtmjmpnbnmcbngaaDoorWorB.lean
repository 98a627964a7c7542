/- Part of the proofs: G8, G9, G10, G11, G12, G13. -/
import Derived.Test.YtmjmpnbnmcbngaaDoorWorA
import Derived.Test.YtmjmpnbnmcbngaaDoorTreeA

/- Reading an address, a card's address. -/
namespace Go.Own
theorem fzs_lit {i r : Nat} {cs : List AV} : ∀ {xs : List AV}, (∀ a ∈ xs, a.lit = true) → fzs i r cs xs = xs
  | [], _ => by simp only [fzs]
  | a :: xs, h => by
    simp only [fzs]
    rw [fzs_lit fun b hb => h b (by simp [hb])]
    have := h a (by simp)
    cases a <;> simp [AV.lit] at this <;> simp only [AV.fz]
theorem belows_lit {n : Nat} : ∀ {xs : List AV}, (∀ a ∈ xs, a.lit = true) → belows n xs
  | [], _ => by simp only [belows]
  | a :: xs, h => by
    simp only [belows]
    refine ⟨?_, belows_lit fun b hb => h b (by simp [hb])⟩
    have := h a (by simp)
    cases a <;> simp [AV.lit] at this <;> simp only [AV.und]
/-- A list that was built, and plain values beside it. -/
theorem Ret.tlist {h0 h : AHeap} {w n : Nat} {v : AV} {cs xs : List AV} {Q : AV → AHeap → Prop} (ho : Old h0 h) (hb : Bd h0 h w v cs n) (hbl : belows h0.next cs) (hx : ∀ a ∈ xs, a.lit = true) (hq : ∀ v', Ls w v' cs n → Q (.tuple (v' :: xs)) h0) : Ret h0 (.tuple (v :: xs)) h Q := by
  cases hb with
  | nils => exact .pure ho (by simp only [AV.und, belows]; exact ⟨trivial, belows_lit hx⟩) (hq _ .nils)
  | @sl i r n cs h1 h2 h3 h4 =>
    refine .via (Weak.freeze h3) ?_
    have : (AV.tuple (.sl i r 0 n w :: xs)).fz i r cs = .tuple (.lst cs n :: xs) := by
      simp only [AV.fz, fzs, true_and]
      rw [if_pos (by omega), List.drop_zero, List.take_of_length_le (by omega), fzs_lit hx]
    rw [this]
    refine .pure ⟨ho.next, fun j hj => ?_, ho.w0⟩ (by simp only [AV.und, belows]; exact ⟨hbl, belows_lit hx⟩) (hq _ (.lst h4))
    rw [AHeap.get_drop, if_neg (by omega)]; exact ho.get j hj
end Go.Own
namespace Go.Own.Tryd
open Go.Own Go.Proofs Go.RowKit
set_option maxRecDepth 20000

/-- A number as so many bytes. -/
def be : Nat → Nat → List UInt8
  | 0, _ => []
  | k + 1, n => UInt8.ofNat (n / 256 ^ k % 256) :: be k n
theorem be_len : ∀ k n, (be k n).length = k
  | 0, _ => rfl
  | k + 1, n => by simp [be, be_len k n]
def grp (rd : List UInt8 → Nat × Bool) (b : Nat) : List UInt8 → List (List UInt8) → List UInt8 × Bool
  | out, [] => (out, true)
  | out, g :: r => if (rd g).2 = true then grp rd b (out ++ be b (rd g).1) r else ([], false)
theorem el46 : elIs Tryd.prog 46 1 = true := by kernel_rfl
theorem splitL_len (c : UInt8) : ∀ s, (splitL c s).length ≤ s.length + 1
  | [] => by simp [splitL]
  | b :: r => by
    have ih := splitL_len c r
    rw [splitL]
    split
    · simp; omega
    · split
      · simp
      · rename_i x xs e; rw [e] at ih; simp at ih ⊢; omega
theorem belows_bytes (n : Nat) : ∀ (l : List UInt8), belows n (ofBytes l)
  | [] => by simp [belows, ofBytes]
  | _ :: l => by
    have := belows_bytes n l
    simp only [ofBytes, List.map_cons, belows] at this ⊢
    exact ⟨trivial, this⟩
/-- One byte more in a list that is being built. -/
theorem app_byte {h0 h : AHeap} {v : AV} {xs : List UInt8} {x : UInt8} {k : AV × AHeap → Prop} (hb : Bd h0 h 1 v (ofBytes xs) xs.length) (ho : Old h0 h) (hl : xs.length ≤ 1000000000)
    (hk : ∀ v' h', Bd h0 h' 1 v' (ofBytes (xs ++ [x])) (xs ++ [x]).length → Old h0 h' → k (v', h')) :
    some1 (aappend 1 1 v (.sl h.next 0 0 1 1) (h.push (.cells 0 [.int .u8 x.toNat]))) k := by
  refine hb.app1 (bytes := 1) ho rfl (by unfold room; omega) rfl ?_
  intro v' h' b1 o1 _ _
  exact hk v' h' (by simpa [ofBytes] using b1) o1
theorem shr_byte (n k : Nat) (hk : k < 2) (h : AHeap) : ∃ v, abin .shr (.int .i64 (n : Int)) (.int .i64 ((8 * k : Nat) : Int)) = some v ∧ acv (.int .u8) v h = some (.int .u8 (UInt8.ofNat (n / 256 ^ k % 256)).toNat, h) := by
  have hw : ∀ q : Nat, IntKind.u8.wrap (q : Int) = ((q % 256 : Nat) : Int) := by
    intro q
    simp only [IntKind.wrap, IntKind.bits, IntKind.signed]
    simp
  have hu : ∀ q : Nat, (UInt8.ofNat (q % 256)).toNat = q % 256 := by
    intro q; simp
  have : k = 0 ∨ k = 1 := by omega
  rcases this with rfl | rfl
  · refine ⟨.int .i64 ((n : Int).fdiv 1), rfl, ?_⟩
    rw [Int.fdiv_one]
    simp only [acv]
    rw [hw, Nat.pow_zero, Nat.div_one, hu]
  · refine ⟨.int .i64 ((n : Int).fdiv 256), rfl, ?_⟩
    rw [Int.fdiv_eq_ediv_of_nonneg _ (by omega), show (n : Int) / 256 = ((n / 256 : Nat) : Int) by omega]
    simp only [acv]
    rw [hw, Nat.pow_one, hu]
theorem c21 {h : AHeap} (hw : W0 h) (s : List UInt8) (c : UInt8) (hs : s.length ≤ 1000000) (b : Nat) (hb1 : 1 ≤ b) (hb2 : b ≤ 2) (f : FuncId) (rd : List UInt8 → Nat × Bool) (hbody : hasBody Tryd.prog f = true)
    (hf : ∀ g ∈ splitL c s, Pure f [.str g] (numV (rd g))) (hn : ∀ g ∈ splitL c s, (rd g).1 < 2147483648) :
    ACalls Tryd.prog 21 [.str s, .str [c], .int .i64 b, .func (.func f) [] []] h fun v h' => h' = h ∧ ∃ v1, v = .tuple [v1, .bool (grp rd b [] (splitL c s)).2] ∧ Ls 1 v1 (ofBytes (grp rd b [] (splitL c s)).1) (grp rd b [] (splitL c s)).1.length := by
  have hxl := splitL_len c s
  apply T21_calls
  unfold T21
  refine acall_of' (by kernel_rfl) ((c38 hw s c (by omega)).mono ?_)
  rintro _ _ ⟨rfl, rfl⟩
  generalize splitL c s = xs at *
  have n1 := New.of h (.cells 0 (xs.map .str))
  generalize h.push (.cells 0 (xs.map .str)) = h1 at *
  have hrd : Rd h1 1 (.sl h.next 0 0 xs.length 1) (xs.map .str) xs.length := by
    have := Rd.sl (h := h1) (i := h.next) (r := 0) (off := 0) (n := xs.length) (w := 1) (all := xs.map .str) (by rw [n1.next]; omega) n1.self (by simp)
    rwa [List.drop_zero, List.take_of_length_le (by simp)] at this
  have fin : ∀ r : List UInt8 × Bool, r = grp rd b [] xs → ∀ (v : AV) (hc : AHeap), Old h1 hc → Bd h1 hc 1 v (ofBytes r.1) r.1.length →
      Ret h (.tuple [v, .bool r.2]) hc fun v h' => h' = h ∧ ∃ v1, v = .tuple [v1, .bool (grp rd b [] xs).2] ∧ Ls 1 v1 (ofBytes (grp rd b [] xs).1) (grp rd b [] xs).1.length := by
    rintro r rfl v hc o hb
    exact Ret.tlist (n1.old.trans o) (hb.weaken n1.old.next) (belows_bytes _ _) (by simp [AV.lit]) fun v' hv => ⟨rfl, v', rfl, hv⟩
  refine some1_of (v := .int .i64 xs.length) rfl ?_
  refine aloop (fun m fr hc => Old h1 hc ∧ fr 2 = .int .i64 b ∧ fr 3 = .func (.func f) [] [] ∧ fr 18 = .sl h.next 0 0 xs.length 1 ∧ fr 19 = .int .i64 xs.length ∧ ∃ (i : Nat) (out : List UInt8), m + i = xs.length ∧ fr 20 = .int .i64 i ∧ out.length = b * i ∧
      Bd h1 hc 1 (fr 10) (ofBytes out) out.length ∧ grp rd b out (xs.drop i) = grp rd b [] xs) xs.length
    ⟨Old.refl _, by simp, by simp, by simp, by simp, 0, [], by omega, by simp, by simp, by simp; exact .nils, by simp⟩ ?_
  rintro J hJ m fr hc ⟨ho, g2, g3, g18, g19, i, out, hm, g20, hol, hb, hd⟩
  have hbi : b * i ≤ 2 * i := Nat.mul_le_mul_right _ hb2
  rw [g3, g18, g19, g20]
  refine abin_i (by decide) rfl ?_
  rw [aif_bool]
  split
  · rename_i hi
    have hi' : i < xs.length := by simp at hi; omega
    obtain ⟨p, e1, _, e3, _⟩ := (hrd.old ho).at hi'
    have e3' : aloadv false 1 p hc = some (.str xs[i]) := by
      rw [e3 (by omega)]; simp [hi']
    rw [e1, some1_some, e3', some1_some]
    refine ⟨hbody, (hf xs[i] (List.getElem_mem hi') hc).mono ?_⟩
    rintro _ _ ⟨rfl, rfl⟩
    refine ext rfl ?_
    refine ext rfl ?_
    rw [List.drop_eq_getElem_cons hi', grp] at hd
    have hnl := hn xs[i] (List.getElem_mem hi')
    generalize rd xs[i] = q at *
    obtain ⟨n, ok⟩ := q
    cases ok with
    | false =>
      rw [if_neg (by simp)] at hd
      refine some1_of (v := .bool true) rfl ?_
      rw [aif_bool, if_pos rfl]
      exact fin ([], false) hd .nils _ ho .nils
    | true =>
      rw [if_pos rfl] at hd
      refine some1_of (v := .bool false) rfl ?_
      rw [aif_bool, if_neg (by decide), g2]
      refine abin_i (by decide) rfl ?_
      rw [i64_id (by omega) (by omega)]
      refine aloop (fun m2 fr2 h2 => Old h1 h2 ∧ fr2 2 = .int .i64 b ∧ fr2 3 = .func (.func f) [] [] ∧ fr2 18 = .sl h.next 0 0 xs.length 1 ∧ fr2 19 = .int .i64 xs.length ∧ fr2 20 = .int .i64 i ∧ fr2 13 = .int .i64 (n : Int) ∧ ∃ out2 : List UInt8, m2 ≤ b ∧ fr2 15 = .int .i64 ((m2 : Int) - 1) ∧ out2.length + m2 = b * i + b ∧
          Bd h1 h2 1 (fr2 10) (ofBytes out2) out2.length ∧ out2 ++ be m2 n = out ++ be b n) b
        ⟨ho, by simp [g2], by simp [g3], by simp [g18], by simp [g19], by simp [g20], by simp, out, Nat.le_refl _, by simp, by omega, by simpa using hb, rfl⟩ ?_
      rintro J2 hJ2 m2 fr2 h2 ⟨o2, k2, k3, k18, k19, k20, k13, out2, hmb, k15, hl2, hb2', hd2⟩
      rw [k15, k13]
      refine abin_i (by decide) rfl ?_
      rw [aif_bool]
      split
      · rename_i hk
        simp only [decide_eq_true_eq] at hk
        obtain ⟨k, rfl⟩ : ∃ k, m2 = k + 1 := ⟨m2 - 1, by omega⟩
        have e15 : (((k + 1 : Nat) : Int) - 1) = (k : Int) := by omega
        rw [e15]
        refine abin_i (v := .int .i64 ((8 * k : Nat) : Int)) (by decide) ?_ ?_
        · simp only [aint]; rw [i64_id (by omega) (by omega)]; congr 2
        obtain ⟨v, s1, s2⟩ := shr_byte n k (by omega) h2
        rw [s1, some1_some, s2, some1_some]
        refine alitP_cell el46 rfl ?_
        rw [be] at hd2
        refine app_byte hb2' o2 (by omega) fun v' h' b1 o1 => ?_
        refine abin_i (by decide) rfl ?_
        refine hJ2 k (by omega) ⟨o1, by simp [k2], by simp [k3], by simp [k18], by simp [k19], by simp [k20], by simp [k13], out2 ++ [UInt8.ofNat (n / 256 ^ k % 256)], by omega, by simp; rw [i64_id (by omega) (by omega)], ?_, by simpa using b1, ?_⟩
        · simp; omega
        · rw [List.append_assoc]; exact hd2
      · rename_i hk
        have hk' : m2 = 0 := by simp at hk; omega
        subst hk'
        rw [be, List.append_nil] at hd2
        subst hd2
        rw [k20]
        refine abin_i (by decide) rfl ?_
        refine hJ (m - 1) (by omega) ⟨o2, by simp [k2], by simp [k3], by simp [k18], by simp [k19], i + 1, out ++ be b n, by omega, by simp; rw [i64_id (by omega) (by omega)], ?_, by simpa using hb2', hd⟩
        rw [Nat.mul_succ]; omega
  · rename_i hi
    have hi' : i = xs.length := by simp at hi; omega
    subst hi'
    rw [List.drop_length, grp] at hd
    exact fin (out, true) hd _ _ ho hb

def rd22 (g : List UInt8) : Nat × Bool := ((numF g).1, (numF g).2 && decide ((numF g).1 ≤ 255))
theorem numG_lt : ∀ (s : List UInt8) (n k : Nat), n < 10 ^ k → (numG n s).1 < 10 ^ (k + s.length)
  | [], n, k, h => by simpa [numG] using h
  | c :: r, n, k, h => by
    rw [numG]
    split
    · exact Nat.pow_pos (by omega)
    · rename_i hc
      have h57 : c.toNat ≤ 57 := by
        rcases Nat.lt_or_ge 57 c.toNat with h' | h'
        · exact absurd (.inr h') hc
        · exact h'
      have h48 : 48 ≤ c.toNat := by
        rcases Nat.lt_or_ge c.toNat 48 with h' | h'
        · exact absurd (.inl h') hc
        · exact h'
      have := numG_lt r (10 * n + (c.toNat - 48)) (k + 1) (by rw [Nat.pow_succ]; omega)
      rw [List.length_cons, show k + (r.length + 1) = k + 1 + r.length by omega]; exact this
theorem numF_lt (g : List UInt8) : (numF g).1 < 1000000000 := by
  unfold numF
  split
  · omega
  · rename_i hh
    have := numG_lt g 0 0 (by omega)
    refine Nat.lt_of_lt_of_le this ?_
    exact Nat.le_trans (Nat.pow_le_pow_right (by omega) (show 0 + g.length ≤ 9 by omega)) (by decide)
theorem hexG_le : ∀ (s : List UInt8) (n m : Nat), n ≤ 65535 → hexG n s = some m → m ≤ 65535
  | [], n, m, h, e => by simp [hexG] at e; omega
  | c :: r, n, m, h, e => by
    rw [hexG] at e
    split at e
    · split at e
      · cases e
      · exact hexG_le r _ m (by omega) e
    · split at e
      · split at e
        · cases e
        · exact hexG_le r _ m (by omega) e
      · cases e
theorem hexF_lt (g : List UInt8) (a b : Int) : (hexF g a b).1 ≤ 65535 := by
  unfold hexF
  split
  · omega
  · rename_i n e; exact hexG_le g 0 n (by omega) e
theorem c22 {g : List UInt8} (hg : Asc g) : Pure 22 [.str g] (numV (rd22 g)) := by
  intro h
  apply T22_calls
  unfold T22
  refine acall_q (by kernel_rfl) (c23 hg h) ?_
  refine ext rfl ?_
  refine ext rfl ?_
  rw [agrd_bool]
  split
  · rename_i h1
    refine abin_i (by decide) rfl ?_
    refine Ret.now ⟨?_, rfl⟩
    simp [numV, rd22, h1]
    omega
  · rename_i h1
    refine Ret.now ⟨?_, rfl⟩
    simp [numV, rd22, h1]
theorem c24 {g : List UInt8} (hg : Asc g) : Pure 24 [.str g] (numV (hexF g 1 4)) := by
  intro h
  apply T24_calls
  unfold T24
  refine acall_q (by kernel_rfl) (c25 hg 1 4 h) ?_
  refine ext rfl ?_
  refine ext rfl ?_
  exact Ret.now ⟨rfl, rfl⟩
theorem c26 {g : List UInt8} (hg : Asc g) : Pure 26 [.str g] (numV (hexF g 2 2)) := by
  intro h
  apply T26_calls
  unfold T26
  refine acall_q (by kernel_rfl) (c25 hg 2 2 h) ?_
  refine ext rfl ?_
  refine ext rfl ?_
  exact Ret.now ⟨rfl, rfl⟩
theorem splitL_mem (c : UInt8) : ∀ (s : List UInt8), ∀ g ∈ splitL c s, ∀ x ∈ g, x ∈ s
  | [], g, hg, x, hx => by simp [splitL] at hg; subst hg; simp at hx
  | b :: r, g, hg, x, hx => by
    have ih := splitL_mem c r
    rw [splitL] at hg
    split at hg
    · simp at hg
      rcases hg with rfl | hg
      · simp at hx
      · exact List.mem_cons_of_mem _ (ih g hg x hx)
    · split at hg
      · simp at hg; subst hg; simp at hx; simp [hx]
      · rename_i y ys e
        simp at hg
        rcases hg with rfl | hg
        · simp at hx
          rcases hx with rfl | hx
          · simp
          · exact List.mem_cons_of_mem _ (ih y (by rw [e]; simp) x hx)
        · exact List.mem_cons_of_mem _ (ih g (by rw [e]; simp [hg]) x hx)
theorem Asc.split {s : List UInt8} (h : Asc s) (c : UInt8) : ∀ g ∈ splitL c s, Asc g := fun g hg x hx => h x (splitL_mem c s g hg x hx)
end Go.Own.Tryd

/- Address, Card; what was written is read. -/
namespace Go.Own
theorem Ls.len {w n : Nat} {v : AV} {cs : List AV} (h : AHeap) (x : Ls w v cs n) : alen .sl v h = some (.int .i64 n) := x.rd.len (h := h)
theorem Ls.text {v : AV} {s : List UInt8} (h : AHeap) (x : Ls 1 v (ofBytes s) s.length) : acv .bs v h = some (.str s, h) := by
  have h1 : sread h 1 v = some (ofBytes s) := by
    generalize hc : ofBytes s = cs at x
    generalize hn : s.length = n at x
    cases x with
    | lst h1 => simp only [sread]; rw [if_pos h1]
    | nils => rfl
    | emp => rfl
  simp only [acv, h1, toBytes_ofBytes]
end Go.Own
namespace Go.Own.Tryd
open Go.Own Go.Proofs Go.RowKit
set_option maxRecDepth 20000

def grpD (s : List UInt8) : List UInt8 × Bool := grp rd22 1 [] (splitL 46 s)
def grpH (s : List UInt8) : List UInt8 × Bool := grp (fun g => hexF g 1 4) 2 [] (splitL 58 s)
def grpC (s : List UInt8) : List UInt8 × Bool := grp (fun g => hexF g 2 2) 1 [] (splitL 58 s)
def addrR (s : List UInt8) : List UInt8 × Bool := if (grpD s).2 = true ∧ (grpD s).1.length = 4 then ((grpD s).1, true) else if (grpH s).2 = true ∧ (grpH s).1.length = 16 then ((grpH s).1, true) else ([], false)
def cardR (s : List UInt8) : List UInt8 × Bool := if (grpC s).2 = true ∧ (grpC s).1.length = 6 then ((grpC s).1, true) else (List.replicate 6 0, false)
theorem rd22_lt (g : List UInt8) : (rd22 g).1 < 2147483648 := by have := numF_lt g; simp only [rd22]; omega
theorem hexF_lt' (g : List UInt8) (a b : Int) : (hexF g a b).1 < 2147483648 := by have := hexF_lt g a b; omega
theorem c11 {h : AHeap} (hw : W0 h) {s : List UInt8} (hs : Asc s) (hl : s.length ≤ 1000000) : ACalls Tryd.prog 11 [.str s] h fun v h' => v = .tuple [.str (addrR s).1, .bool (addrR s).2] ∧ h' = h := by
  apply T11_calls
  unfold T11
  have second : ¬ ((grpD s).2 = true ∧ (grpD s).1.length = 4) → acall Tryd.prog 21 [.str s, .str [58], .int .i64 2, .func (.func 24) [] []] h fun r22 h__2 =>
      some1 (aext r22 0) fun v23 => some1 (aext r22 1) fun v24 => agrd v24 true
      (some1 (alen .sl v23 h__2) fun v28 => some1 (abin .eql v28 (.int .i64 16)) fun v29 => aif v29
      (some1 (acv .bs v23 h__2) fun q32 => Ret h (.tuple [q32.1, (.bool true)]) q32.2 fun v h' => v = .tuple [.str (addrR s).1, .bool (addrR s).2] ∧ h' = h)
      (Ret h (.tuple [(.str []), (.bool false)]) h__2 fun v h' => v = .tuple [.str (addrR s).1, .bool (addrR s).2] ∧ h' = h))
      (Ret h (.tuple [(.str []), (.bool false)]) h__2 fun v h' => v = .tuple [.str (addrR s).1, .bool (addrR s).2] ∧ h' = h) := by
    intro hno
    refine acall_of' (by kernel_rfl) ((c21 hw s 58 hl 2 (by omega) (by omega) 24 (fun g => hexF g 1 4) (by kernel_rfl) (fun g hg => c24 (hs.split 58 g hg)) (fun g _ => hexF_lt' g 1 4)).mono ?_)
    rintro _ h2 ⟨hh, v1, rfl, hv⟩
    subst hh
    change Ls 1 v1 (ofBytes (grpH s).1) (grpH s).1.length at hv
    change some1 (aext (.tuple [v1, .bool (grpH s).2]) 0) _
    refine ext rfl ?_
    refine ext rfl ?_
    rw [agrd_bool]
    split
    · rename_i h1
      rw [hv.len, some1_some]
      refine abin_i (by decide) rfl ?_
      rw [aif_bool]
      split
      · rename_i h16
        rw [hv.text, some1_some]
        refine Ret.now ⟨?_, rfl⟩
        rw [addrR, if_neg hno, if_pos ⟨h1, by simp at h16; omega⟩]
      · rename_i h16
        refine Ret.now ⟨?_, rfl⟩
        rw [addrR, if_neg hno, if_neg (by rintro ⟨_, e⟩; simp [e] at h16)]
    · rename_i h1
      refine Ret.now ⟨?_, rfl⟩
      rw [addrR, if_neg hno, if_neg (by rintro ⟨e, _⟩; exact h1 e)]
  refine acall_of' (by kernel_rfl) ((c21 hw s 46 hl 1 (by omega) (by omega) 22 rd22 (by kernel_rfl) (fun g hg => c22 (hs.split 46 g hg)) (fun g _ => rd22_lt g)).mono ?_)
  rintro _ h2 ⟨hh, v1, rfl, hv⟩
  subst hh
  change Ls 1 v1 (ofBytes (grpD s).1) (grpD s).1.length at hv
  change some1 (aext (.tuple [v1, .bool (grpD s).2]) 0) _
  refine ext rfl ?_
  refine ext rfl ?_
  rw [agrd_bool]
  split
  · rename_i h1
    rw [hv.len, some1_some]
    refine abin_i (by decide) rfl ?_
    rw [aif_bool]
    split
    · rename_i h4
      rw [hv.text, some1_some]
      refine Ret.now ⟨?_, rfl⟩
      rw [addrR, if_pos ⟨h1, by simp at h4; omega⟩]
    · rename_i h4
      exact second (by rintro ⟨_, e⟩; simp [e] at h4)
  · rename_i h1
    exact second (by rintro ⟨e, _⟩; exact h1 e)
theorem z24 : azero Tryd.prog 24 = some (ofBytes (List.replicate 6 0)) := by kernel_rfl
theorem bytes_scalar (l : List UInt8) : (ofBytes l).all AV.scalar = true := by simp [ofBytes, AV.scalar]
theorem c12 {h : AHeap} (hw : W0 h) {s : List UInt8} (hs : Asc s) (hl : s.length ≤ 1000000) : ACalls Tryd.prog 12 [.str s] h fun v h' => v = .tuple [.agg (ofBytes (cardR s).1), .bool (cardR s).2] ∧ h' = h := by
  apply T12_calls
  unfold T12
  refine var z24 fun h1 n1 => ?_
  have bad : ¬ ((grpC s).2 = true ∧ (grpC s).1.length = 6) → abuildP Tryd.prog 24 [] fun v18 => some1 (astorev 6 (.ptr h.next 0 0) v18 h1) fun h__3 => some1 (aloadv true 6 (.ptr h.next 0 0) h__3) fun w =>
      Ret h (.tuple [w, (.bool false)]) h__3 fun v h' => v = .tuple [.agg (ofBytes (cardR s).1), .bool (cardR s).2] ∧ h' = h := by
    intro hno
    rw [abuild_nil z24]
    refine puts n1.self (by simp [ofBytes]) (bytes_scalar _) (splice_all (by simp [ofBytes])) (by simp [ofBytes]) fun h3 u3 => ?_
    refine get_all u3.self (by simp [ofBytes]) ?_
    refine Ret.pure (n1.old.upd (Nat.le_refl _) u3) (by simp only [AV.und, belows]; exact ⟨belows_bytes _ _, trivial, trivial⟩) ⟨?_, rfl⟩
    rw [cardR, if_neg hno]
  refine acall_of' (by kernel_rfl) ((c21 (hw.old n1.old) s 58 hl 1 (by omega) (by omega) 26 (fun g => hexF g 2 2) (by kernel_rfl) (fun g hg => c26 (hs.split 58 g hg)) (fun g _ => hexF_lt' g 2 2)).mono ?_)
  rintro _ h2 ⟨hh, v1, rfl, hv⟩
  subst hh
  change Ls 1 v1 (ofBytes (grpC s).1) (grpC s).1.length at hv
  change some1 (aext (.tuple [v1, .bool (grpC s).2]) 0) _
  refine ext rfl ?_
  refine ext rfl ?_
  refine some1_of (v := .bool (!(grpC s).2)) rfl ?_
  rw [agrd_bool]
  split
  · rename_i h1'
    have h1' : (grpC s).2 = true := by simpa using h1'
    rw [hv.len, some1_some]
    refine abin_i (by decide) rfl ?_
    rw [aif_bool]
    split
    · rename_i h6
      exact bad (by rintro ⟨_, e⟩; simp [e] at h6)
    · rename_i h6
      have h6' : (grpC s).1.length = 6 := by simp at h6; omega
      rw [hv.eq (by omega)]
      have e1 : asarr 6 (.lst (ofBytes (grpC s).1) (grpC s).1.length) = some (.cptr (ofBytes (grpC s).1)) := by
        simp only [asarr]; rw [if_pos (by omega)]
      rw [e1, some1_some]
      have e2 : aloadv true 6 (.cptr (ofBytes (grpC s).1)) h2 = some (.agg (ofBytes (grpC s).1)) := by
        simp only [aloadv, if_true]
        rw [if_pos (by rw [ofBytes_length]; omega)]
        rw [List.take_of_length_le (by rw [ofBytes_length]; omega)]
      rw [e2, some1_some]
      refine puts n1.self (by rw [ofBytes_length, h6']) (bytes_scalar _) (splice_all (by rw [ofBytes_length, h6']; simp [ofBytes])) (by simp [ofBytes]) fun h3 u3 => ?_
      refine get_all u3.self (by rw [ofBytes_length, h6']) ?_
      refine Ret.pure (n1.old.upd (Nat.le_refl _) u3) (by simp only [AV.und, belows]; exact ⟨belows_bytes _ _, trivial, trivial⟩) ⟨?_, rfl⟩
      rw [cardR, if_pos ⟨h1', h6'⟩]
  · rename_i h1'
    exact bad (by rintro ⟨e, _⟩; simp [e] at h1')
end Go.Own.Tryd

/- The reader of words: the end of a word, of a line. -/
namespace Go.Own
theorem Bd.scalar {h0 h : AHeap} {w n : Nat} {v : AV} {cs : List AV} (x : Bd h0 h w v cs n) : v.scalar = true := by cases x <;> rfl
theorem Bd.cells {h0 h : AHeap} {w n : Nat} {v : AV} {cs : List AV} (x : Bd h0 h w v cs n) : v.cells? = some [v] := by cases x <;> rfl
/-- Another object was written: the list is as it was. -/
theorem Bd.upd {h0 h h' : AHeap} {w n p : Nat} {v : AV} {cs : List AV} {o : AObj} (x : Bd h0 h w v cs n) (u : Upd h p o h') (hn : v.notsl p) : Bd h0 h' w v cs n := by
  cases x with
  | nils => exact .nils
  | @sl i r n cs h1 h2 h3 h4 =>
    refine .sl h1 (by rw [u.next]; exact h2) ?_ h4
    rw [u.other i (fun e => hn _ _ _ _ (by rw [e]))]; exact h3
theorem Bd.new {h0 h h' : AHeap} {w n : Nat} {v : AV} {cs : List AV} {o : AObj} (x : Bd h0 h w v cs n) (u : New h o h') : Bd h0 h' w v cs n := by
  rw [u.eq]; exact x.push o
theorem Bd.notsl_new {h0 h : AHeap} {w n : Nat} {v : AV} {cs : List AV} (x : Bd h0 h w v cs n) : v.notsl h.next := by
  intro r o m w' e
  subst e
  cases x with
  | sl _ h2 _ _ => omega
end Go.Own
namespace Go.Own.Tryd
open Go.Own Go.Proofs Go.RowKit
set_option maxRecDepth 20000

structure Wd where
  text : List UInt8
  pos : Nat
  line : Nat
  deriving DecidableEq
abbrev Wd.cs (w : Wd) : List AV := [.str w.text, .int .i64 w.pos, .int .i64 w.line]
abbrev wcs (l : List Wd) : List AV := l.flatMap Wd.cs
theorem wcs_len (l : List Wd) : (wcs l).length = l.length * 3 := rows_length (f := Wd.cs) (fun _ => rfl) l
theorem wcs_below (n : Nat) (l : List Wd) : belows n (wcs l) := belows_flatMap (fun w => by simp [belows, AV.und]) l
/-- Where a word begins; -1: nowhere. -/
def fromI : Option Nat → Int
  | none => -1
  | some n => n
structure RSt where
  l : List Wd
  line : Nat
  frm : Option Nat
  some_ : Bool
  note : Bool
abbrev RSt.cs (st : RSt) (s : List UInt8) (v : AV) : List AV := [.str s, v, .int .i64 st.line, .int .i64 (fromI st.frm), .bool st.some_, .bool st.note]
/-- The reader lies in an object of its own. -/
def RS (h0 h : AHeap) (p : Nat) (s : List UInt8) (st : RSt) : Prop :=
  Old h0 h ∧ h0.next ≤ p ∧ p < h.next ∧ ∃ v, h.get p = some (.cells 0 (st.cs s v)) ∧ Bd h0 h 3 v (wcs st.l) st.l.length ∧ v.notsl p
theorem el57 : elIs Tryd.prog 57 3 = true := by kernel_rfl
theorem z61 : azero Tryd.prog 61 = some [.str [], .int .i64 0, .int .i64 0] := by kernel_rfl
theorem alitQ_one {P : Program} {t : TypeId} {w : Nat} {cs : List AV} {k : List AV → Prop} (hk : elIs P t w = true) (h0 : 0 < w) (hw : w ≤ 16777216) (hc : cs.length = w) (H : k cs) : alitQ P t 1 [(0, w, .agg cs)] k := by
  unfold elIs at hk
  unfold alitQ
  split at hk
  · rename_i e w' b zc he
    simp only [Bool.and_eq_true, beq_iff_eq] at hk
    obtain ⟨rfl, hz⟩ := hk
    try rw [he]
    exact ⟨⟨by omega, by omega⟩, cs, afill_one hz hc, H⟩
  · cases hk
/-- One word more. -/
theorem app_wd {h0 h : AHeap} {v : AV} {l : List Wd} {w : Wd} {k : AV × AHeap → Prop} (hb : Bd h0 h 3 v (wcs l) l.length) (ho : Old h0 h) (hl : l.length ≤ 1000000000)
    (hk : ∀ v' h', Bd h0 h' 3 v' (wcs (l ++ [w])) (l ++ [w]).length → Old h0 h' → h.next ≤ h'.next → (∀ j, j < h.next → v.notsl j → h'.get j = h.get j ∧ v'.notsl j) → k (v', h')) :
    some1 (aappend 3 32 v (.sl h.next 0 0 1 3) (h.push (.cells 0 w.cs))) k := by
  refine hb.app1 (bytes := 32) ho rfl (by unfold room; omega) rfl ?_
  intro v' h' b1 o1 o2 o3
  exact hk v' h' (by simpa [wcs] using b1) o1 o2 o3
def endF (s : List UInt8) (st : RSt) (pos : Nat) : RSt × Bool := match st.frm with
  | none => (st, true)
  | some f => ({ st with l := st.l ++ [⟨(s.drop f).take (pos - f), f, st.line⟩], some_ := true, frm := none }, decide (((s.drop f).take (pos - f)).length ≤ 60))
theorem anil_ptr {i r o : Nat} : anil (.ptr i r o) = true := rfl
theorem c39 {h0 h : AHeap} {p : Nat} {s : List UInt8} {st : RSt} {pos : Nat} (hr : RS h0 h p s st) (hp : pos ≤ s.length) (hf : ∀ f, st.frm = some f → f ≤ pos) (hl : st.l.length ≤ 1000000000) :
    ACalls Tryd.prog 39 [.ptr p 0 0, .int .i64 pos] h fun r h' => r = .bool (endF s st pos).2 ∧ RS h0 h' p s (endF s st pos).1 := by
  obtain ⟨ho, hp0, hp1, v, hg, hb, hns⟩ := hr
  apply T39_calls
  unfold T39
  refine ⟨rfl, ?_⟩
  refine fa ?_
  refine get_at hg rfl ?_
  refine abin_i (by decide) rfl ?_
  rw [aif_bool]
  cases hfr : st.frm with
  | none =>
    rw [if_pos (by simp [fromI])]
    exact Ret.now ⟨by simp [endF, hfr], by simp only [endF, hfr]; exact ⟨ho, hp0, hp1, v, hg, hb, hns⟩⟩
  | some f =>
    have hfp := hf f hfr
    rw [if_neg (by show ¬ decide ((f : Int) < 0) = true; simp)]
    refine ⟨rfl, fa (get_at hg rfl ⟨rfl, fa (get_at hg rfl ?_)⟩)⟩
    rw [hfr]
    have e1 : aslice .str (.str s) (some (.int .i64 (f : Int))) (some (.int .i64 pos)) none h = some (.str ((s.drop f).take (pos - f))) := by
      simp [aslice, abnd, hfp, hp]
    change some1 (aslice .str (.str s) (some (.int .i64 (f : Int))) (some (.int .i64 pos)) none h) _
    rw [e1, some1_some]
    refine ⟨rfl, fa (get_at hg rfl ⟨rfl, fa (get_at hg rfl ?_)⟩)⟩
    rw [hfr]
    refine build (cs := Wd.cs ⟨(s.drop f).take (pos - f), f, st.line⟩) z61 rfl ?_
    generalize hw : (⟨(s.drop f).take (pos - f), f, st.line⟩ : Wd) = w
    refine var z61 fun h1 n1 => ?_
    refine puts n1.self rfl rfl (splice_all rfl) (by simp) fun h2 u2 => ?_
    have g2 : h2.get p = some (.cells 0 (st.cs s v)) := by rw [u2.other p (by omega), n1.other p (by omega)]; exact hg
    have b2 : Bd h0 h2 3 v (wcs st.l) st.l.length := (hb.new n1).upd u2 hb.notsl_new
    have o2 : Old h0 h2 := (ho.trans n1.old).upd (by have := ho.next; omega) u2
    have hnx : h2.next = h.next + 1 := by rw [u2.next, n1.next]
    refine ⟨rfl, fa (get_at g2 rfl ?_)⟩
    refine get_all u2.self rfl ?_
    refine alitQ_one el57 (by omega) (by omega) rfl ?_
    show some1 (aappend 3 32 v (.sl h2.next 0 0 1 3) (h2.push (.cells 0 w.cs))) _
    refine app_wd b2 o2 hl fun v' h3 b3 o3 hn3 hk3 => ?_
    obtain ⟨g3, ns3⟩ := hk3 p (by omega) hns
    rw [g2] at g3
    have ns5 : v'.notsl p := ns3
    have hg5 : h3.get h.next = some (.cells 0 w.cs) := by
      rw [(hk3 h.next (by omega) (fun r o m w' e => hb.notsl_new r o m w' e)).1]; exact u2.self
    refine ⟨rfl, fa ?_⟩
    refine put (cs' := [.str s, v', .int .i64 st.line, .int .i64 (fromI st.frm), .bool st.some_, .bool st.note]) g3 b3.cells b3.scalar rfl (by simp) fun h4 u4 => ?_
    refine ⟨rfl, fa ?_⟩
    refine put (cs' := [.str s, v', .int .i64 st.line, .int .i64 (fromI st.frm), .bool true, .bool st.note]) u4.self rfl rfl rfl (by simp) fun h5 u5 => ?_
    refine ⟨rfl, fa ?_⟩
    refine put (cs' := [.str s, v', .int .i64 st.line, .int .i64 (-1), .bool true, .bool st.note]) u5.self rfl rfl rfl (by simp) fun h6 u6 => ?_
    have hg6 : h6.get h.next = some (.cells 0 w.cs) := by rw [u6.other _ (by omega), u5.other _ (by omega), u4.other _ (by omega)]; exact hg5
    refine fa (get_at hg6 rfl ?_)
    refine some1_of (v := .int .i64 w.text.length) rfl ?_
    refine abin_i (by decide) rfl ?_
    refine Ret.now ⟨?_, ?_⟩
    · simp only [endF, hfr, ← hw]
      congr 1
      rw [decide_eq_decide]
      omega
    · simp only [endF, hfr]
      refine ⟨((o3.upd hp0 u4).upd hp0 u5).upd hp0 u6, hp0, ?_, v', u6.self, ?_, ns5⟩
      · rw [u6.next, u5.next, u4.next]; show p < h3.next; omega
      · rw [hw]; exact ((b3.upd u4 ns5).upd u5 ns5).upd u6 ns5
def stopF (st : RSt) (pos : Nat) : RSt := { st with l := if st.some_ then st.l ++ [⟨[10], pos, st.line⟩] else st.l, some_ := false, note := false, line := st.line + 1 }
theorem c40 {h0 h : AHeap} {p : Nat} {s : List UInt8} {st : RSt} {pos : Nat} (hr : RS h0 h p s st) (hl : st.l.length ≤ 1000000000) (hli : st.line ≤ 2000000000) :
    ACalls Tryd.prog 40 [.ptr p 0 0, .int .i64 pos] h fun r h' => r = .tuple [] ∧ RS h0 h' p s (stopF st pos) := by
  obtain ⟨ho, hp0, hp1, v, hg, hb, hns⟩ := hr
  apply T40_calls
  unfold T40
  refine joined (fun fr h' => fr 0 = .ptr p 0 0 ∧ ∃ v, Old h0 h' ∧ p < h'.next ∧ h'.get p = some (.cells 0 (st.cs s v)) ∧ Bd h0 h' 3 v (wcs (stopF st pos).l) (stopF st pos).l.length ∧ v.notsl p) ?_ ?_
  · rintro fr h' ⟨f0, v, ho, hp1, hg, hb, hns⟩
    rw [f0]
    refine ⟨rfl, fa ?_⟩
    refine put (cs' := [.str s, v, .int .i64 st.line, .int .i64 (fromI st.frm), .bool false, .bool st.note]) hg rfl rfl rfl (by simp) fun h4 u4 => ?_
    refine ⟨rfl, fa ?_⟩
    refine put (cs' := [.str s, v, .int .i64 st.line, .int .i64 (fromI st.frm), .bool false, .bool false]) u4.self rfl rfl rfl (by simp) fun h5 u5 => ?_
    refine ⟨rfl, fa (get_at u5.self rfl ?_)⟩
    refine abin_i (by decide) rfl ?_
    rw [i64_id (by omega) (by omega)]
    refine ⟨rfl, fa ?_⟩
    refine put (cs' := [.str s, v, .int .i64 (st.line + 1), .int .i64 (fromI st.frm), .bool false, .bool false]) u5.self rfl rfl rfl (by simp) fun h6 u6 => ?_
    refine Ret.now ⟨rfl, ((ho.upd hp0 u4).upd hp0 u5).upd hp0 u6, hp0, ?_, v, ?_, ((hb.upd u4 hns).upd u5 hns).upd u6 hns, hns⟩
    · rw [u6.next, u5.next, u4.next]; exact hp1
    · rw [u6.self]; rfl
  · intro J hJ
    refine ⟨rfl, fa (get_at hg rfl ?_)⟩
    rw [aif_bool]
    cases hso : st.some_ with
    | false =>
      rw [if_neg (by decide)]
      exact hJ ⟨by simp, v, ho, hp1, hg, by simpa [stopF, hso] using hb, hns⟩
    | true =>
      rw [if_pos rfl]
      refine ⟨rfl, fa (get_at hg rfl ⟨rfl, fa (get_at hg rfl ?_)⟩)⟩
      refine build (cs := Wd.cs ⟨[10], pos, st.line⟩) z61 rfl ?_
      generalize hw : (⟨[10], pos, st.line⟩ : Wd) = w
      refine alitQ_one el57 (by omega) (by omega) rfl ?_
      show some1 (aappend 3 32 v (.sl h.next 0 0 1 3) (h.push (.cells 0 w.cs))) _
      refine app_wd hb ho hl fun v' h3 b3 o3 hn3 hk3 => ?_
      obtain ⟨g3, ns3⟩ := hk3 p hp1 hns
      rw [hg] at g3
      refine ⟨rfl, fa ?_⟩
      refine put (cs' := st.cs s v') g3 b3.cells b3.scalar rfl (by simp) fun h4 u4 => ?_
      exact hJ ⟨by simp, v', o3.upd hp0 u4, by rw [u4.next]; show p < h3.next; omega, u4.self, by simp only [stopF, hso, if_true, hw]; exact b3.upd u4 ns3, ns3⟩
/-- Which bytes may be. -/
def mayF (c : UInt8) : Bool := c = 9 || c = 10 || c = 13 || (decide (32 ≤ c.toNat) && decide (c.toNat ≤ 126))
theorem beq_byte (c : UInt8) (k : Nat) (hk : k < 256) : ((c.toNat : Int) == (k : Int)) = decide (c = UInt8.ofNat k) := by
  rw [Bool.eq_iff_iff, beq_iff_eq, decide_eq_true_eq]
  constructor
  · intro e; exact UInt8.toNat_inj.1 (by rw [UInt8.toNat_ofNat']; omega)
  · rintro rfl; rw [UInt8.toNat_ofNat']; omega
theorem c41 (c : UInt8) : Pure 41 [.int .u8 c.toNat] (.bool (mayF c)) := by
  intro h
  apply T41_calls
  unfold T41
  have e9 := beq_byte c 9 (by omega)
  have e10 := beq_byte c 10 (by omega)
  have e13 := beq_byte c 13 (by omega)
  refine abin_i (by decide) rfl ?_
  rw [show ((c.toNat : Int) == 9) = decide (c = 9) from e9, agrd_bool]
  by_cases h9 : c = 9
  · subst h9; exact Ret.now ⟨rfl, rfl⟩
  rw [if_pos (by simp [h9])]
  refine abin_i (by decide) rfl ?_
  rw [show ((c.toNat : Int) == 10) = decide (c = 10) from e10, agrd_bool]
  by_cases h10 : c = 10
  · subst h10; exact Ret.now ⟨rfl, rfl⟩
  rw [if_pos (by simp [h10])]
  refine abin_i (by decide) rfl ?_
  rw [show ((c.toNat : Int) == 13) = decide (c = 13) from e13, agrd_bool]
  by_cases h13 : c = 13
  · subst h13; exact Ret.now ⟨rfl, rfl⟩
  rw [if_pos (by simp [h13])]
  refine abin_i (by decide) rfl ?_
  rw [agrd_bool]
  split
  · rename_i h1
    have h1' : 32 ≤ c.toNat := by simp at h1; omega
    refine abin_i (by decide) rfl ?_
    refine Ret.now ⟨?_, rfl⟩
    simp [mayF, h9, h10, h13, h1']
    omega
  · rename_i h1
    have h1' : ¬ 32 ≤ c.toNat := by simp at h1; omega
    refine Ret.now ⟨?_, rfl⟩
    simp [mayF, h9, h10, h13, h1']
end Go.Own.Tryd

/- The reader of words: a byte is taken; all words of a text. -/
namespace Go.Own.Tryd
open Go.Own Go.Proofs Go.RowKit
set_option maxRecDepth 20000

def takeF (s : List UInt8) (st : RSt) (c : UInt8) (pos : Nat) : RSt × Bool :=
  if c = 10 then (stopF (endF s st pos).1 pos, (endF s st pos).2)
  else if st.note = true then (st, true)
  else if c = 35 then ({ (endF s st pos).1 with note := true }, (endF s st pos).2)
  else if c = 32 ∨ c = 9 ∨ c = 13 then endF s st pos
  else if c = 123 ∨ c = 125 then ((endF s { (endF s st pos).1 with frm := some pos } (pos + 1)).1, (endF s st pos).2)
  else match st.frm with
    | none => ({ st with frm := some pos }, true)
    | some _ => (st, true)
theorem endF_frm (s : List UInt8) (st : RSt) (pos : Nat) : (endF s st pos).1.frm = none := by
  unfold endF; split
  · assumption
  · rfl
theorem endF_l (s : List UInt8) (st : RSt) (pos : Nat) : (endF s st pos).1.l.length ≤ st.l.length + 1 := by
  unfold endF; split <;> simp
theorem endF_line (s : List UInt8) (st : RSt) (pos : Nat) : (endF s st pos).1.line = st.line := by
  unfold endF; split <;> rfl
theorem stopF_l (st : RSt) (pos : Nat) : (stopF st pos).l.length ≤ st.l.length + 1 := by
  unfold stopF; simp only; split <;> simp
/-- A cell of the reader is turned. -/
theorem RS.set {h0 h h' : AHeap} {p : Nat} {s : List UInt8} {st st' : RSt} {v : AV} (ho : Old h0 h) (hp0 : h0.next ≤ p) (hp1 : p < h.next) (hb : Bd h0 h 3 v (wcs st.l) st.l.length) (hns : v.notsl p) (u : Upd h p (.cells 0 (st'.cs s v)) h') (hl : st'.l = st.l) : RS h0 h' p s st' :=
  ⟨ho.upd hp0 u, hp0, by rw [u.next]; exact hp1, v, u.self, by rw [hl]; exact hb.upd u hns, hns⟩
theorem c42 {h0 h : AHeap} {p : Nat} {s : List UInt8} {st : RSt} {pos : Nat} {c : UInt8} (hr : RS h0 h p s st) (hp : pos < s.length) (hf : ∀ f, st.frm = some f → f ≤ pos) (hl : st.l.length ≤ 900000000) (hli : st.line ≤ 1000000000) (hs : s.length ≤ 1000000000) :
    ACalls Tryd.prog 42 [.ptr p 0 0, .int .u8 c.toNat, .int .i64 pos] h fun r h' => r = .bool (takeF s st c pos).2 ∧ RS h0 h' p s (takeF s st c pos).1 := by
  have ce := c39 (pos := pos) hr (by omega) hf (by omega)
  have hle := endF_l s st pos
  have hli2 := endF_line s st pos
  have hfe := endF_frm s st pos
  apply T42_calls
  unfold T42
  refine abin_i (by decide) rfl ?_
  rw [show ((c.toNat : Int) == 10) = decide (c = 10) from beq_byte c 10 (by omega), aif_bool]
  by_cases h10 : c = 10
  · rw [if_pos (by simpa using h10)]
    refine acall_of' (by kernel_rfl) (ce.mono ?_)
    rintro _ h1 ⟨rfl, r1⟩
    refine acall_of' (by kernel_rfl) ((c40 r1 (by omega) (by omega)).mono ?_)
    rintro _ h2 ⟨rfl, r2⟩
    exact Ret.now ⟨by rw [takeF, if_pos h10], by rw [takeF, if_pos h10]; exact r2⟩
  rw [if_neg (by simpa using h10)]
  obtain ⟨ho, hp0, hp1, v, hg, hb, hns⟩ := hr
  refine ⟨rfl, fa (get_at hg rfl ?_)⟩
  rw [aif_bool]
  by_cases hno : st.note = true
  · rw [if_pos hno]
    exact Ret.now ⟨by rw [takeF, if_neg h10, if_pos hno], by rw [takeF, if_neg h10, if_pos hno]; exact ⟨ho, hp0, hp1, v, hg, hb, hns⟩⟩
  rw [if_neg hno]
  refine abin_i (by decide) rfl ?_
  rw [show ((c.toNat : Int) == 35) = decide (c = 35) from beq_byte c 35 (by omega), aif_bool]
  by_cases h35 : c = 35
  · rw [if_pos (by simpa using h35)]
    refine acall_of' (by kernel_rfl) (ce.mono ?_)
    rintro _ h1 ⟨rfl, o1, q0, q1, v1, g1, b1, ns1⟩
    refine ⟨rfl, fa ?_⟩
    refine put (cs' := ({ (endF s st pos).1 with note := true } : RSt).cs s v1) g1 rfl rfl rfl (by simp) fun h2 u2 => ?_
    exact Ret.now ⟨by rw [takeF, if_neg h10, if_neg hno, if_pos h35], by rw [takeF, if_neg h10, if_neg hno, if_pos h35]; exact RS.set o1 q0 q1 b1 ns1 u2 rfl⟩
  rw [if_neg (by simpa using h35)]
  have blank : c = 32 ∨ c = 9 ∨ c = 13 → acall Tryd.prog 39 [.ptr p 0 0, .int .i64 pos] h fun r44 h__5 => Ret h r44 h__5 fun r h' => r = .bool (takeF s st c pos).2 ∧ RS h0 h' p s (takeF s st c pos).1 := by
    intro hb
    refine acall_of' (by kernel_rfl) (ce.mono ?_)
    rintro _ h1 ⟨rfl, r1⟩
    exact Ret.now ⟨by rw [takeF, if_neg h10, if_neg hno, if_neg h35, if_pos hb], by rw [takeF, if_neg h10, if_neg hno, if_neg h35, if_pos hb]; exact r1⟩
  refine abin_i (by decide) rfl ?_
  rw [show ((c.toNat : Int) == 32) = decide (c = 32) from beq_byte c 32 (by omega), agrd_bool]
  by_cases h32 : c = 32
  · rw [if_neg (by simpa using h32)]; exact blank (.inl h32)
  rw [if_pos (by simpa using h32)]
  refine abin_i (by decide) rfl ?_
  rw [show ((c.toNat : Int) == 9) = decide (c = 9) from beq_byte c 9 (by omega), agrd_bool]
  by_cases h9 : c = 9
  · rw [if_neg (by simpa using h9)]; exact blank (.inr (.inl h9))
  rw [if_pos (by simpa using h9)]
  refine abin_i (by decide) rfl ?_
  rw [show ((c.toNat : Int) == 13) = decide (c = 13) from beq_byte c 13 (by omega), aif_bool]
  by_cases h13 : c = 13
  · rw [if_pos (by simpa using h13)]; exact blank (.inr (.inr h13))
  rw [if_neg (by simpa using h13)]
  have hnb : ¬ (c = 32 ∨ c = 9 ∨ c = 13) := by rintro (e | e | e) <;> contradiction
  have brace : c = 123 ∨ c = 125 → acall Tryd.prog 39 [.ptr p 0 0, .int .i64 pos] h fun r54 h__6 => anil (.ptr p 0 0) = true ∧
      some1 (afaddr 3 (.ptr p 0 0)) fun v58 => some1 (astorev 1 v58 (.int .i64 pos) h__6) fun h__7 => some1 (abin .add (.int .i64 pos) (.int .i64 1)) fun v61 =>
      acall Tryd.prog 39 [.ptr p 0 0, v61] h__7 fun _r62 h__8 => Ret h r54 h__8 fun r h' => r = .bool (takeF s st c pos).2 ∧ RS h0 h' p s (takeF s st c pos).1 := by
    intro hb
    refine acall_of' (by kernel_rfl) (ce.mono ?_)
    rintro _ h1 ⟨rfl, o1, q0, q1, v1, g1, b1, ns1⟩
    refine ⟨rfl, fa ?_⟩
    refine put (cs' := ({ (endF s st pos).1 with frm := some pos } : RSt).cs s v1) g1 rfl rfl rfl (by simp) fun h2 u2 => ?_
    have r2 : RS h0 h2 p s { (endF s st pos).1 with frm := some pos } := RS.set o1 q0 q1 b1 ns1 u2 rfl
    refine abin_i (v := .int .i64 ((pos + 1 : Nat) : Int)) (by decide) ?_ ?_
    · simp only [aint]; rw [i64_id (by omega) (by omega)]; congr 2
    refine acall_of' (by kernel_rfl) ((c39 (pos := pos + 1) r2 (by omega) (by intro f e; simp at e; omega) (by simp only; omega)).mono ?_)
    rintro _ h3 ⟨rfl, r3⟩
    exact Ret.now ⟨by rw [takeF, if_neg h10, if_neg hno, if_neg h35, if_neg hnb, if_pos hb], by rw [takeF, if_neg h10, if_neg hno, if_neg h35, if_neg hnb, if_pos hb]; exact r3⟩
  refine abin_i (by decide) rfl ?_
  rw [show ((c.toNat : Int) == 123) = decide (c = 123) from beq_byte c 123 (by omega), agrd_bool]
  by_cases h123 : c = 123
  · rw [if_neg (by simpa using h123)]; exact brace (.inl h123)
  rw [if_pos (by simpa using h123)]
  refine abin_i (by decide) rfl ?_
  rw [show ((c.toNat : Int) == 125) = decide (c = 125) from beq_byte c 125 (by omega), aif_bool]
  by_cases h125 : c = 125
  · rw [if_pos (by simpa using h125)]; exact brace (.inr h125)
  rw [if_neg (by simpa using h125)]
  have hnc : ¬ (c = 123 ∨ c = 125) := by rintro (e | e) <;> contradiction
  refine ⟨rfl, fa (get_at hg rfl ?_)⟩
  refine abin_i (by decide) rfl ?_
  rw [aif_bool]
  cases hfr : st.frm with
  | none =>
    rw [if_pos (by rfl)]
    refine ⟨rfl, fa ?_⟩
    refine put (cs' := ({ st with frm := some pos } : RSt).cs s v) hg rfl rfl rfl (by simp) fun h2 u2 => ?_
    have e : takeF s st c pos = ({ st with frm := some pos }, true) := by rw [takeF, if_neg h10, if_neg hno, if_neg h35, if_neg hnb, if_neg hnc, hfr]
    exact Ret.now ⟨by rw [e], by rw [e]; exact RS.set ho hp0 hp1 hb hns u2 rfl⟩
  | some f =>
    rw [if_neg (by show ¬ decide ((f : Int) < 0) = true; simp)]
    have e : takeF s st c pos = (st, true) := by rw [takeF, if_neg h10, if_neg hno, if_neg h35, if_neg hnb, if_neg hnc, hfr]
    exact Ret.now ⟨by rw [e], by rw [e]; exact ⟨ho, hp0, hp1, v, hg, hb, hns⟩⟩
theorem takeF_ok (s : List UInt8) (st : RSt) (c : UInt8) (pos : Nat) : (takeF s st c pos).1.l.length ≤ st.l.length + 2 ∧ (takeF s st c pos).1.line ≤ st.line + 1 ∧ ∀ f, (takeF s st c pos).1.frm = some f → f = pos ∨ st.frm = some f := by
  have hle := endF_l s st pos
  have hli2 := endF_line s st pos
  have hfe := endF_frm s st pos
  unfold takeF
  split
  · have := stopF_l (endF s st pos).1 pos
    refine ⟨by simp only; omega, by simp only [stopF]; omega, fun f e => ?_⟩
    simp only [stopF, hfe] at e; cases e
  · split
    · exact ⟨by simp, by simp, fun f e => .inr e⟩
    · split
      · exact ⟨by simp only; omega, by simp only; omega, fun f e => by simp only [hfe] at e; cases e⟩
      · split
        · exact ⟨by omega, by omega, fun f e => by rw [hfe] at e; cases e⟩
        · split
          · have h1 := endF_l s { (endF s st pos).1 with frm := some pos } (pos + 1)
            have h2 := endF_line s { (endF s st pos).1 with frm := some pos } (pos + 1)
            have h3 := endF_frm s { (endF s st pos).1 with frm := some pos } (pos + 1)
            simp only at h1 h2
            exact ⟨by simp only; omega, by simp only; omega, fun f e => by simp only [h3] at e; cases e⟩
          · split
            · exact ⟨by simp, by simp, fun f e => by simp at e; exact .inl e.symm⟩
            · exact ⟨by simp, by simp, fun f e => .inr e⟩

/-- All words of a text, or the place of what is amiss. -/
def allG (s : List UInt8) : Nat → Nat → RSt → List Wd × Int × Int
  | 0, _, st => (st.l, 0, 0)
  | k + 1, i, st =>
    if i = s.length then (if (endF s st i).2 = true then allG s k (i + 1) (stopF (endF s st i).1 i) else ([], fromI st.frm, 170))
    else if 0 ≤ fromI st.frm ∧ 60 < (i : Int) - fromI st.frm then ([], fromI st.frm, 170)
    else if mayF (s.getD i 0) = false then ([], i, 170)
    else if (takeF s st (s.getD i 0) i).2 = true then allG s k (i + 1) (takeF s st (s.getD i 0) i).1 else ([], fromI st.frm, 170)
def st0 : RSt := ⟨[], 1, none, false, false⟩
def allF (s : List UInt8) : List Wd × Int × Int := allG s (s.length + 1) 0 st0
theorem z89 : azero Tryd.prog 89 = some [.str [], .nils, .int .i64 0, .int .i64 0, .bool false, .bool false] := by kernel_rfl
theorem c27 (s : List UInt8) (hs : s.length ≤ 100000000) (h : AHeap) :
    ACalls Tryd.prog 27 [.str s] h fun v h' => h' = h ∧ ∃ v1, v = .tuple [v1, .int .i64 (allF s).2.1, .int .i64 (allF s).2.2] ∧ Ls 3 v1 (wcs (allF s).1) (allF s).1.length := by
  apply T27_calls
  unfold T27
  refine build (cs := st0.cs s .nils) z89 rfl ?_
  refine box cells?_agg fun h1 n1 => ?_
  have err : ∀ (hc : AHeap) (a : Int), Old h hc → ([], a, 170) = allF s → Ret h (.tuple [.nils, .int .i64 a, .int .i64 170]) hc fun v h' => h' = h ∧ ∃ v1, v = .tuple [v1, .int .i64 (allF s).2.1, .int .i64 (allF s).2.2] ∧ Ls 3 v1 (wcs (allF s).1) (allF s).1.length := by
    intro hc a o e
    rw [← e]
    exact Ret.pure o (by simp [AV.und, belows]) ⟨rfl, .nils, rfl, .nils⟩
  refine some1_of (v := .int .i64 s.length) rfl ?_
  refine abin_i (v := .int .i64 ((s.length + 1 : Nat) : Int)) (by decide) ?_ ?_
  · simp only [aint]; rw [i64_id (by omega) (by omega)]; congr 2
  refine aloop (fun m fr hc => fr 0 = .str s ∧ fr 5 = .ptr h.next 0 0 ∧ fr 13 = .int .i64 ((s.length + 1 : Nat) : Int) ∧ ∃ (i : Nat) (st : RSt), m + i = s.length + 1 ∧ fr 14 = .int .i64 i ∧ RS h hc h.next s st ∧ st.l.length ≤ 2 * i ∧ st.line ≤ i + 1 ∧ (∀ f, st.frm = some f → f ≤ i) ∧ allG s m i st = allF s) (s.length + 1)
    ⟨by simp, by simp, by simp, 0, st0, by omega, by simp, ⟨n1.old, Nat.le_refl _, by rw [n1.next]; omega, .nils, n1.self, .nils, by intro r o m w e; cases e⟩, by simp [st0], by simp [st0], by simp [st0], rfl⟩ ?_
  rintro J hJ m fr hc ⟨g0, g5, g13, i, st, hm, g14, hr, hl, hli, hf, hd⟩
  rw [g0, g5, g13, g14]
  refine abin_i (by decide) rfl ?_
  rw [aif_bool]
  have hr' := hr
  obtain ⟨ho, hp0, hp1, v, hg, hb, hns⟩ := hr
  split
  · rename_i hi
    have hi' : i ≤ s.length := by simp at hi; omega
    obtain ⟨k, rfl⟩ : ∃ k, m = k + 1 := ⟨m - 1, by omega⟩
    rw [allG] at hd
    refine ⟨rfl, fa (get_at hg rfl ?_)⟩
    refine some1_of (v := .int .i64 s.length) rfl ?_
    refine abin_i (by decide) rfl ?_
    rw [aif_bool]
    split
    · rename_i he
      have he' : i = s.length := by simp at he; omega
      rw [if_pos he'] at hd
      refine acall_of' (by kernel_rfl) ((c39 (pos := i) hr' (by omega) hf (by omega)).mono ?_)
      rintro _ h2 ⟨rfl, r2⟩
      have hle := endF_l s st i
      have hli2 := endF_line s st i
      refine some1_of (v := .bool (!(endF s st i).2)) rfl ?_
      rw [aif_bool]
      split
      · rename_i hbad
        have hbad' : (endF s st i).2 = false := by simpa using hbad
        rw [if_neg (by simp [hbad'])] at hd
        exact err _ _ r2.1 hd
      · rename_i hbad
        have hbad' : (endF s st i).2 = true := by simpa using hbad
        rw [if_pos hbad'] at hd
        refine acall_of' (by kernel_rfl) ((c40 (pos := i) r2 (by omega) (by omega)).mono ?_)
        rintro _ h3 ⟨rfl, r3⟩
        refine abin_i (by decide) rfl ?_
        have := stopF_l (endF s st i).1 i
        refine hJ k (by omega) ⟨by simp [g0], by simp [g5], by simp [g13], i + 1, _, by omega, by simp; rw [i64_id (by omega) (by omega)], r3, by omega, by simp only [stopF]; omega, ?_, hd⟩
        intro f e
        simp only [stopF, endF_frm] at e; cases e
    · rename_i he
      have he' : ¬ i = s.length := by simp at he; omega
      have hlt : i < s.length := by omega
      rw [if_neg he'] at hd
      have rest : ¬ (0 ≤ fromI st.frm ∧ 60 < (i : Int) - fromI st.frm) → ∀ (fr1 : AV → AV → AV → AV → AV → AV → AV → Fr),
          (∀ x1 x2 x3 x4 x5 x6 x7, fr1 x1 x2 x3 x4 x5 x6 x7 0 = .str s ∧ fr1 x1 x2 x3 x4 x5 x6 x7 5 = .ptr h.next 0 0 ∧ fr1 x1 x2 x3 x4 x5 x6 x7 13 = .int .i64 ((s.length + 1 : Nat) : Int) ∧ fr1 x1 x2 x3 x4 x5 x6 x7 14 = x7) →
          some1 (aindex .str (.str s) (.int .i64 (i : Int))) fun v47 =>
          acall Tryd.prog 41 [v47] hc fun r48 h__4 =>
          some1 (aun .not r48) fun v49 =>
          aif v49
          (Ret h (.tuple [.nils, (.int .i64 (i : Int)), (.int .i64 170)]) h__4 fun v h' => h' = h ∧ ∃ v1, v = .tuple [v1, .int .i64 (allF s).2.1, .int .i64 (allF s).2.2] ∧ Ls 3 v1 (wcs (allF s).1) (allF s).1.length)
          (some1 (aindex .str (.str s) (.int .i64 (i : Int))) fun v55 =>
          acall Tryd.prog 42 [.ptr h.next 0 0, v55, (.int .i64 (i : Int))] h__4 fun r57 h__5 =>
          some1 (aun .not r57) fun v58 =>
          aif v58
          (Ret h (.tuple [.nils, .int .i64 (fromI st.frm), (.int .i64 170)]) h__5 fun v h' => h' = h ∧ ∃ v1, v = .tuple [v1, .int .i64 (allF s).2.1, .int .i64 (allF s).2.2] ∧ Ls 3 v1 (wcs (allF s).1) (allF s).1.length)
          (some1 (abin .add (.int .i64 (i : Int)) (.int .i64 1)) fun v60_2 =>
          inext J (k + 1) (fr1 v47 r48 v49 v55 r57 v58 v60_2) h__5)) := by
        intro hno fr1 hfr
        rw [if_neg hno] at hd
        have hget : s.getD i 0 = s[i] := by rw [List.getD_eq_getElem?_getD, List.getElem?_eq_getElem hlt]; rfl
        rw [hget] at hd
        refine some1_of (str_at hlt) ?_
        refine acall_q (by kernel_rfl) (c41 s[i] hc) ?_
        refine some1_of (v := .bool (!(mayF s[i]))) rfl ?_
        rw [aif_bool]
        split
        · rename_i hmay
          rw [if_pos (by simpa using hmay)] at hd
          exact err _ _ ho hd
        · rename_i hmay
          rw [if_neg (by simpa using hmay)] at hd
          refine some1_of (str_at hlt) ?_
          refine acall_of' (by kernel_rfl) ((c42 (pos := i) (c := s[i]) hr' hlt hf (by omega) (by omega) (by omega)).mono ?_)
          rintro _ h2 ⟨rfl, r2⟩
          refine some1_of (v := .bool (!(takeF s st s[i] i).2)) rfl ?_
          rw [aif_bool]
          split
          · rename_i hbad
            rw [if_neg (by simpa using hbad)] at hd
            exact err _ _ r2.1 hd
          · rename_i hbad
            rw [if_pos (by simpa using hbad)] at hd
            refine abin_i (by decide) rfl ?_
            obtain ⟨t1, t2, t3⟩ := takeF_ok s st s[i] i
            obtain ⟨k0, k5, k13, k14⟩ := hfr (.int .u8 s[i].toNat) (.bool (mayF s[i])) (.bool (!(mayF s[i]))) (.int .u8 s[i].toNat) (.bool (takeF s st s[i] i).2) (.bool (!(takeF s st s[i] i).2)) (.int .i64 (IntKind.i64.wrap ((i : Int) + 1)))
            refine hJ k (by omega) ⟨k0, k5, k13, i + 1, _, by omega, by rw [k14, i64_id (by omega) (by omega)]; rfl, r2, by omega, by omega, ?_, hd⟩
            intro f e
            rcases t3 f e with e | e
            · omega
            · have := hf f e; omega
      refine abin_i (by decide) rfl ?_
      rw [agrd_bool]
      split
      · rename_i hge
        have hge' : 0 ≤ fromI st.frm := by simpa using hge
        have hfi : fromI st.frm ≤ i := by
          cases hfr : st.frm with
          | none => simp [fromI]
          | some f => have := hf f hfr; simp only [fromI]; omega
        refine abin_i (by decide) rfl ?_
        rw [i64_id (by omega) (by omega)]
        refine abin_i (by decide) rfl ?_
        rw [aif_bool]
        split
        · rename_i h60
          have h60' : 60 < (i : Int) - fromI st.frm := by simpa using h60
          rw [if_pos ⟨hge', h60'⟩] at hd
          exact err _ _ ho hd
        · rename_i h60
          have h60' : ¬ 60 < (i : Int) - fromI st.frm := by simpa using h60
          refine rest (by rintro ⟨_, e⟩; exact h60' e) _ ?_
          intro _ _ _ _ _ _ _
          simp [g0, g5, g13]
      · rename_i hge
        have hge' : ¬ 0 ≤ fromI st.frm := by simpa using hge
        refine rest (by rintro ⟨e, _⟩; exact hge' e) _ ?_
        intro _ _ _ _ _ _ _
        simp [g0, g5, g13]
  · rename_i hi
    have hi' : i = s.length + 1 := by simp at hi; omega
    have hm0 : m = 0 := by omega
    subst hm0
    rw [allG] at hd
    refine ⟨rfl, fa (get_at hg rfl ?_)⟩
    rw [← hd]
    exact Ret.tlist ho hb (wcs_below _ _) (by simp [AV.lit]) fun v' hv => ⟨rfl, v', rfl, hv⟩
end Go.Own.Tryd

/- The plain law: what is written is read as it was. -/
namespace Go.Own.Tryd
open Go.Own Go.Proofs Go.RowKit
set_option maxRecDepth 20000

theorem hexd_val {k : Nat} (hk : k < 16) : (k < 10 ∧ (hexd.getD k 48).toNat = 48 + k) ∨ (10 ≤ k ∧ (hexd.getD k 48).toNat = 87 + k) := by
  have : k = 0 ∨ k = 1 ∨ k = 2 ∨ k = 3 ∨ k = 4 ∨ k = 5 ∨ k = 6 ∨ k = 7 ∨ k = 8 ∨ k = 9 ∨ k = 10 ∨ k = 11 ∨ k = 12 ∨ k = 13 ∨ k = 14 ∨ k = 15 := by omega
  rcases this with rfl | rfl | rfl | rfl | rfl | rfl | rfl | rfl | rfl | rfl | rfl | rfl | rfl | rfl | rfl | rfl <;> decide
theorem hexd_char {k : Nat} (hk : k < 16) : 48 ≤ (hexd.getD k 48).toNat ∧ (hexd.getD k 48).toNat ≤ 102 ∧ (hexd.getD k 48).toNat ≠ 58 := by
  rcases hexd_val hk with ⟨h1, h2⟩ | ⟨h1, h2⟩ <;> omega
/-- Which bytes a written text has. -/
def Dg (x : UInt8) : Prop := 48 ≤ x.toNat ∧ x.toNat ≤ 102 ∧ x.toNat ≠ 58
theorem dig_char (b : Nat) (hb : 2 ≤ b) (hb' : b ≤ 16) (n : Nat) : ∀ x ∈ dig b n, Dg x := by
  induction n using Nat.strongRecOn with
  | _ n ih =>
    by_cases h : n < b
    · rw [dig_lt h]
      intro x hx
      simp only [List.mem_singleton] at hx
      subst hx
      exact hexd_char (by omega)
    · rw [dig_ge hb h]
      intro x hx
      rw [List.mem_append, List.mem_singleton] at hx
      rcases hx with hx | rfl
      · exact ih (n / b) (Nat.div_lt_self (by omega) (by omega)) x hx
      · have := Nat.mod_lt n (show 0 < b by omega)
        exact hexd_char (by omega)
theorem two_char (x : UInt8) : ∀ y ∈ two x, Dg y := by
  intro y hy
  have := x.toNat_lt
  simp only [two, List.mem_cons, List.not_mem_nil, or_false] at hy
  rcases hy with rfl | rfl
  · exact hexd_char (by omega)
  · exact hexd_char (by omega)
theorem Dg.ne {x : UInt8} (h : Dg x) {c : UInt8} (hc : c = 46 ∨ c = 58) : x ≠ c := by
  rintro rfl
  obtain ⟨h1, h2, h3⟩ := h
  rcases hc with rfl | rfl
  · exact absurd h1 (by decide)
  · exact h3 rfl
theorem join_char {Q : UInt8 → Prop} {c : UInt8} (hc : Q c) : ∀ {xs : List (List UInt8)}, (∀ x ∈ xs, ∀ y ∈ x, Q y) → ∀ y ∈ Lib.join xs [c], Q y
  | [], _ => by simp [Lib.join_nil]
  | [x], h => by rw [Lib.join_one]; exact h x (by simp)
  | x :: z :: r, h => by
    have e : Lib.join (x :: z :: r) [c] = x ++ c :: Lib.join (z :: r) [c] := by simp [Lib.join, List.intercalate]
    rw [e]
    intro y hy
    rw [List.mem_append, List.mem_cons] at hy
    rcases hy with hy | rfl | hy
    · exact h x (by simp) y hy
    · exact hc
    · exact join_char hc (fun w hw => h w (by simp at hw ⊢; right; exact hw)) y hy
theorem addrT_char (a : List UInt8) : ∀ y ∈ addrT a, y = 46 ∨ y = 58 ∨ Dg y := by
  unfold addrT
  split
  · refine join_char (.inl rfl) ?_
    intro x hx y hy
    rw [List.mem_map] at hx
    obtain ⟨z, _, rfl⟩ := hx
    exact .inr (.inr (dig_char 10 (by omega) (by omega) _ y hy))
  · split
    · refine join_char (.inr (.inl rfl)) ?_
      intro x hx y hy
      rw [List.mem_map] at hx
      obtain ⟨z, _, rfl⟩ := hx
      exact .inr (.inr (dig_char 16 (by omega) (by omega) _ y hy))
    · simp
theorem cardT_char (m : List UInt8) : ∀ y ∈ cardT m, y = 46 ∨ y = 58 ∨ Dg y := by
  rw [cardT_eq]
  refine join_char (.inr (.inl rfl)) ?_
  intro x hx y hy
  rw [List.mem_map] at hx
  obtain ⟨z, _, rfl⟩ := hx
  exact .inr (.inr (two_char z y hy))
theorem asc_of {s : List UInt8} (h : ∀ y ∈ s, y = 46 ∨ y = 58 ∨ Dg y) : Asc s := by
  intro y hy
  rcases h y hy with rfl | rfl | ⟨_, h2, _⟩
  · decide
  · decide
  · omega
theorem addrT_asc (a : List UInt8) : Asc (addrT a) := asc_of (addrT_char a)
theorem cardT_asc (m : List UInt8) : Asc (cardT m) := asc_of (cardT_char m)
theorem addrT_len (a : List UInt8) : (addrT a).length ≤ 1000000 := by
  unfold addrT
  split
  · rename_i h
    have := join_le 46 257 (a.map fun x => dig 10 x.toNat) (by
      intro x hx
      rw [List.mem_map] at hx
      obtain ⟨y, _, rfl⟩ := hx
      have := dig_len 10 y.toNat (by omega); have := y.toNat_lt; omega)
    rw [List.length_map, h] at this; omega
  · split
    · rename_i _ h
      have := join_le 58 65536 ((prs a).map (dig 16)) (by
        intro x hx
        rw [List.mem_map] at hx
        obtain ⟨y, hy, rfl⟩ := hx
        have := dig_len 16 y (by omega); have := prs_lt a y hy; omega)
      rw [List.length_map, prs_len, h] at this; omega
    · simp
theorem cardT_len (m : List UInt8) (h : m.length = 6) : (cardT m).length ≤ 1000000 := by
  rw [cardT_eq]
  have := join_le 58 2 (m.map two) (by
    intro x hx
    rw [List.mem_map] at hx
    obtain ⟨y, _, rfl⟩ := hx
    simp [two])
  rw [List.length_map, h] at this; omega

theorem grp_map {α : Type} {rd : List UInt8 → Nat × Bool} {b : Nat} {f : α → List UInt8} {g : α → List UInt8} : ∀ (l : List α) (out : List UInt8), (∀ y ∈ l, (rd (f y)).2 = true ∧ be b (rd (f y)).1 = g y) → grp rd b out (l.map f) = (out ++ l.flatMap g, true)
  | [], out, _ => by simp [grp]
  | y :: l, out, h => by
    obtain ⟨h1, h2⟩ := h y (by simp)
    rw [List.map_cons, grp, if_pos h1, h2, grp_map l _ fun z hz => h z (by simp [hz])]
    simp
theorem num_byte : ∀ x : Fin 256, numF (dig 10 x.val) = (x.val, true) := by decide
theorem rd22_byte (x : UInt8) : rd22 (dig 10 x.toNat) = (x.toNat, true) := by
  have := num_byte ⟨x.toNat, x.toNat_lt⟩
  simp only at this
  have h2 := x.toNat_lt
  simp only [rd22, this, Bool.true_and, decide_eq_true_eq, Prod.mk.injEq, true_and]
  omega
theorem be1 (x : UInt8) : be 1 x.toNat = [x] := by
  have h2 := x.toNat_lt
  simp only [be, Nat.pow_zero, Nat.div_one]
  rw [Nat.mod_eq_of_lt h2]; simp
theorem hex_two : ∀ x : Fin 256, hexF [hexd.getD (x.val / 16) 48, hexd.getD (x.val % 16) 48] 2 2 = (x.val, true) := by decide
theorem hexF_two (x : UInt8) : hexF (two x) 2 2 = (x.toNat, true) := hex_two ⟨x.toNat, x.toNat_lt⟩
theorem hexG_one {n k : Nat} (hk : k < 16) (hn : 16 * n + k ≤ 65535) (r : List UInt8) : hexG n (hexd.getD k 48 :: r) = hexG (16 * n + k) r := by
  rw [hexG]
  rcases hexd_val hk with ⟨h1, h2⟩ | ⟨h1, h2⟩
  · rw [if_pos (by omega), if_neg (by omega)]
    congr 1; omega
  · rw [if_neg (by omega), if_pos (by omega), if_neg (by omega)]
    congr 1; omega
theorem hexG_dig (n : Nat) (hn : n ≤ 65535) : ∀ r, hexG 0 (dig 16 n ++ r) = hexG n r := by
  induction n using Nat.strongRecOn with
  | _ n ih =>
    intro r
    by_cases h : n < 16
    · rw [dig_lt h, List.singleton_append, hexG_one h (by omega)]
      congr 1; omega
    · rw [dig_ge (by omega) h, List.append_assoc, List.singleton_append, ih (n / 16) (by omega) (by omega), hexG_one (Nat.mod_lt _ (by omega)) (by omega)]
      congr 1; omega
theorem dig_len16 : ∀ (k n : Nat), 1 ≤ k → n < 16 ^ k → 1 ≤ (dig 16 n).length ∧ (dig 16 n).length ≤ k
  | 0, _, h, _ => by omega
  | k + 1, n, _, hn => by
    by_cases h : n < 16
    · rw [dig_lt h]; simp
    · rw [dig_ge (by omega) h]
      have hk : 1 ≤ k := by
        rcases Nat.eq_zero_or_pos k with rfl | h'
        · simp at hn; omega
        · exact h'
      have := dig_len16 k (n / 16) hk (by rw [Nat.pow_succ] at hn; omega)
      simp; omega
theorem hexF_dig {n : Nat} (hn : n < 65536) : hexF (dig 16 n) 1 4 = (n, true) := by
  have h1 := hexG_dig n (by omega) []
  rw [List.append_nil] at h1
  obtain ⟨h2, h3⟩ := dig_len16 4 n (by omega) (by omega)
  simp only [hexF, h1, hexG]
  simp
  omega
theorem prs_be : ∀ (a : List UInt8), a.length % 2 = 0 → (prs a).flatMap (be 2) = a
  | [], _ => rfl
  | [_], h => by simp at h
  | x :: y :: r, h => by
    have hx := x.toNat_lt
    have hy := y.toNat_lt
    simp only [prs, List.flatMap_cons, prs_be r (by simp at h; omega)]
    simp only [be, Nat.pow_zero, Nat.pow_one, Nat.div_one]
    rw [show (x.toNat * 256 + y.toNat) / 256 % 256 = x.toNat by omega, show (x.toNat * 256 + y.toNat) % 256 = y.toNat by omega]
    simp
theorem addr_back (a : List UInt8) : addrR (addrT a) = if a.length = 4 ∨ a.length = 16 then (a, true) else ([], false) := by
  by_cases h4 : a.length = 4
  · rw [if_pos (.inl h4)]
    have hne : a.map (fun x => dig 10 x.toNat) ≠ [] := by
      intro e; have := congrArg List.length e; simp at this; simp [this] at h4
    have e1 : grpD (addrT a) = (a, true) := by
      unfold grpD
      rw [addrT, if_pos h4]
      cases hm : a.map (fun x => dig 10 x.toNat) with
      | nil => exact absurd hm hne
      | cons x xs =>
        rw [split_join x xs (by
          rw [← hm]
          intro y hy hc
          rw [List.mem_map] at hy
          obtain ⟨z, _, rfl⟩ := hy
          exact (dig_char 10 (by omega) (by omega) _ _ hc).ne (.inl rfl) rfl), ← hm,
          grp_map (g := fun x => [x]) a [] (fun y _ => by rw [rd22_byte]; exact ⟨rfl, be1 y⟩)]
        simp
    rw [addrR, e1, if_pos ⟨rfl, h4⟩]
  · by_cases h16 : a.length = 16
    · rw [if_pos (.inr h16)]
      have hpl : (prs a).length = 8 := by rw [prs_len]; omega
      have ht : addrT a = Lib.join ((prs a).map (dig 16)) [58] := by rw [addrT, if_neg h4, if_pos h16]
      have hlong : 9 < (addrT a).length := by
        rw [ht]
        have key : ∀ (l : List Nat), l ≠ [] → 2 * l.length ≤ (Lib.join (l.map (dig 16)) [58]).length + 1 := by
          have d1 : ∀ n, 1 ≤ (dig 16 n).length := by
            intro n
            by_cases h : n < 16
            · rw [dig_lt h]; simp
            · rw [dig_ge (by omega) h]; simp
          intro l
          induction l with
          | nil => intro h; exact absurd rfl h
          | cons x l ih =>
            intro _
            cases l with
            | nil => rw [List.map_singleton, Lib.join_one]; have := d1 x; simp; omega
            | cons y l =>
              have e : Lib.join ((x :: y :: l).map (dig 16)) [58] = dig 16 x ++ 58 :: Lib.join ((y :: l).map (dig 16)) [58] := by simp [Lib.join, List.intercalate]
              have := ih (by simp)
              have := d1 x
              rw [e]; simp only [List.length_append, List.length_cons] at *; omega
        have := key (prs a) (by intro e; simp [e] at hpl)
        rw [hpl] at this; omega
      have e0 : grpD (addrT a) = ([], false) := by
        unfold grpD
        rw [splitL_none (x := addrT a) (by
          intro hc
          rw [ht] at hc
          have hq := join_char (Q := fun y => y = 58 ∨ Dg y) (c := 58) (.inl rfl) (xs := (prs a).map (dig 16)) (by
            intro x hx y hy
            rw [List.mem_map] at hx
            obtain ⟨z, _, rfl⟩ := hx
            exact .inr (dig_char 16 (by omega) (by omega) _ y hy)) 46 hc
          rcases hq with hq | hq
          · exact absurd hq (by decide)
          · exact hq.ne (.inl rfl) rfl)]
        rw [grp, if_neg]
        simp only [rd22]
        rw [numF_no _ (.inr (.inl hlong))]
        simp
      have e1 : grpH (addrT a) = (a, true) := by
        unfold grpH
        rw [ht]
        have hne : (prs a).map (dig 16) ≠ [] := by
          intro e; have := congrArg List.length e; simp [hpl] at this
        cases hm : (prs a).map (dig 16) with
        | nil => exact absurd hm hne
        | cons x xs =>
          rw [split_join x xs (by
            rw [← hm]
            intro y hy hc
            rw [List.mem_map] at hy
            obtain ⟨z, _, rfl⟩ := hy
            exact (dig_char 16 (by omega) (by omega) _ _ hc).ne (.inr rfl) rfl), ← hm,
            grp_map (g := be 2) (prs a) [] (fun y hy => by rw [hexF_dig (prs_lt a y hy)]; exact ⟨rfl, rfl⟩), prs_be a (by omega)]
          rfl
      rw [addrR, e0, if_neg (by simp), e1, if_pos ⟨rfl, h16⟩]
    · rw [if_neg (by rintro (h | h); exact h4 h; exact h16 h)]
      have : addrT a = [] := by rw [addrT, if_neg h4, if_neg h16]
      rw [this]
      decide
theorem card_back (m : List UInt8) (h : m.length = 6) : cardR (cardT m) = (m, true) := by
  have hne : m.map two ≠ [] := by
    intro e; have := congrArg List.length e; simp [h] at this
  have e1 : grpC (cardT m) = (m, true) := by
    unfold grpC
    rw [cardT_eq]
    cases hm : m.map two with
    | nil => exact absurd hm hne
    | cons x xs =>
      rw [split_join x xs (by
        rw [← hm]
        intro y hy hc
        rw [List.mem_map] at hy
        obtain ⟨z, _, rfl⟩ := hy
        exact (two_char _ _ hc).ne (.inr rfl) rfl), ← hm,
        grp_map (g := fun x => [x]) m [] (fun y _ => by rw [hexF_two]; exact ⟨rfl, be1 y⟩)]
      simp
  rw [cardR, e1, if_pos ⟨rfl, h⟩]
end Go.Own.Tryd

/- alive, and the law. -/
namespace Go.Own.Tryd
open Go.Own Go.Proofs Go.RowKit
set_option maxRecDepth 20000

theorem ek61 : eqKinds Tryd.prog 61 = some [.str, .int .i64, .int .i64] := by kernel_rfl
theorem st61 : isStructT Tryd.prog 61 = true := by kernel_rfl
abbrev sampleT : List UInt8 := [97, 32, 123, 98, 125, 32, 35, 99]
theorem all_sample : allF sampleT = ([⟨[97], 0, 1⟩, ⟨[123], 2, 1⟩, ⟨[98], 3, 1⟩, ⟨[125], 4, 1⟩, ⟨[10], 8, 1⟩], 0, 0) := by decide
abbrev addr1 : List UInt8 := [49, 48, 46, 48, 46, 48, 46, 49]
abbrev addr2 : List UInt8 := [49, 48, 46, 48, 46, 48, 46, 48, 49]
theorem addr1_r : addrR addr1 = ([10, 0, 0, 1], true) := by decide
theorem addr2_r : (addrR addr2).2 = false := by decide
theorem asc1 : Asc addr1 := by unfold Asc; decide
theorem asc2 : Asc addr2 := by unfold Asc; decide
theorem card_sample : cardT [1, 171, 0, 0, 0, 0] = [48, 49, 58, 97, 98, 58, 48, 48, 58, 48, 48, 58, 48, 48, 58, 48, 48] := by decide
theorem build24 {k : AV → Prop} (hk : k (.agg (ofBytes [1, 171, 0, 0, 0, 0]))) : abuildP Tryd.prog 24 [(0, 1, (.int .u8 1)), (1, 1, (.int .u8 171))] k := build z24 rfl hk
theorem c13 {h : AHeap} (hw : W0 h) : ACalls Tryd.prog 13 [] h fun v h' => v = .bool true ∧ h' = h := by
  apply T13_calls
  unfold T13
  refine acall_of' (by kernel_rfl) ((c27 sampleT (by decide) h).mono ?_)
  rintro _ h1 ⟨hh, v1, rfl, hv⟩
  subst hh
  rw [all_sample] at hv ⊢
  refine ext rfl ?_
  refine ext rfl ?_
  refine ext rfl ?_
  refine acall_q (by kernel_rfl) (c11 hw asc1 (by decide)) ?_
  rw [addr1_r]
  refine ext rfl ?_
  refine ext rfl ?_
  refine acall_q (by kernel_rfl) (c11 hw asc2 (by decide)) ?_
  rw [addr2_r]
  refine ext rfl ?_
  refine ext rfl ?_
  refine abin_i (by decide) rfl ?_
  rw [agrd_bool, if_pos (by decide)]
  refine abin_i (by decide) rfl ?_
  rw [agrd_bool, if_pos (by decide)]
  rw [hv.len, some1_some]
  refine abin_i (by decide) rfl ?_
  rw [agrd_bool, if_pos (by decide)]
  obtain ⟨p, e1, e2, _⟩ := (hv.rd (h := h1)).at (i := 2) (by decide)
  rw [show aiaddr none 3 v1 (.int .i64 2) = some p from e1, some1_some, e2, some1_some]
  refine build (cs := Wd.cs ⟨[98], 3, 1⟩) z61 rfl ?_
  have es := (aeq_struct (xs := Wd.cs ⟨[98], 3, 1⟩) (ys := Wd.cs ⟨[98], 3, 1⟩) st61 ek61 rfl rfl).1
  refine some1_of (v := .bool true) (by refine Eq.trans es ?_; rfl) ?_
  rw [agrd_bool, if_pos rfl, agrd_bool, if_pos rfl, abin_str]
  refine some1_of (v := .bool true) rfl ?_
  rw [agrd_bool, if_pos rfl]
  refine some1_of (v := .bool true) rfl ?_
  rw [agrd_bool, if_pos rfl]
  refine build24 ?_
  refine acall_q (by kernel_rfl) (c8 hw _ rfl) ?_
  rw [card_sample]
  refine some1_of (v := .bool true) rfl ?_
  exact Ret.now ⟨rfl, rfl⟩
theorem ek24 : eqKinds Tryd.prog 24 = some (List.replicate 6 (.int .u8)) := by kernel_rfl
theorem fits_bytes : ∀ (l : List UInt8), fitsAll (List.replicate l.length (.int .u8)) (ofBytes l) = true
  | [] => rfl
  | x :: r => by
    have := fits_bytes r
    simp only [List.length_cons, List.replicate_succ, ofBytes, List.map_cons, fitsAll, Bool.and_eq_true] at this ⊢
    exact ⟨rfl, this⟩
theorem same_self : ∀ (l : List UInt8), sameAll (ofBytes l) (ofBytes l) = true
  | [] => rfl
  | x :: r => by
    have := same_self r
    simp only [ofBytes, List.map_cons, sameAll, AV.same, beq_self_eq_true, Bool.true_and] at this ⊢
    exact this
theorem u24 : Tryd.prog.underlying 24 = some (.array 6 5) := by kernel_rfl
theorem u4 : Tryd.prog.underlying 4 = some .bool := by kernel_rfl
theorem eq_mac (m : List UInt8) (hm : m.length = 6) : aeqP Tryd.prog .eql 24 (.agg (ofBytes m)) (.agg (ofBytes m)) = some (.bool true) := by
  have hf := fits_bytes m
  rw [hm] at hf
  simp only [aeqP, aeq, u24, ek24, aeqv, aeqAgg, hf, same_self, Bool.and_self, if_true]
theorem eq_bool (a b : Bool) : aeqP Tryd.prog .eql 4 (.bool a) (.bool b) = some (.bool (a == b)) := by
  simp only [aeqP, aeq, u4, aeqv]
theorem c3 {h : AHeap} (hw : W0 h) (a m : List UInt8) (hm : m.length = 6) : ACalls Tryd.prog 3 [.str a, .agg (ofBytes m)] h fun v _ => v = .bool true := by
  apply T3_calls
  unfold T3
  refine box cells?_agg fun h1 n1 => ?_
  have w1 : W0 h1 := hw.old n1.old
  have hl : (ofBytes m).length = 6 := by rw [ofBytes_length, hm]
  have l1 : aloadv true 6 (.ptr h.next 0 0) h1 = some (.agg (ofBytes m)) := by
    rw [aload_agg n1.self (by omega), List.drop_zero, List.take_of_length_le (by omega)]
  rw [l1, some1_some]
  refine acall_q (by kernel_rfl) (c7 w1 a) ?_
  refine ⟨by rw [l1, some1_some], ?_⟩
  refine acall_q (by kernel_rfl) (c8 w1 m hm) ?_
  refine acall_q (by kernel_rfl) (c9 a h1) ?_
  rw [abin_str]
  refine some1_of (v := .bool false) (by simp [astr]) ?_
  rw [agrd_bool, if_pos rfl, l1, some1_some]
  refine acall_q (by kernel_rfl) (c10 m hm h1) ?_
  rw [abin_str]
  refine some1_of (v := .bool false) (by simp [astr]) ?_
  rw [aif_bool, if_neg (by decide)]
  refine acall_q (by kernel_rfl) (c11 w1 (addrT_asc a) (addrT_len a)) ?_
  rw [addr_back]
  refine ext rfl ?_
  refine ext rfl ?_
  refine acall_q (by kernel_rfl) (c12 w1 (cardT_asc m) (cardT_len m hm)) ?_
  rw [card_back m hm]
  refine ext rfl ?_
  refine ext rfl ?_
  refine var z24 fun h2 n2 => ?_
  refine puts n2.self hl (bytes_scalar _) (splice_all (by rw [hl]; rfl)) (by simp [ofBytes]) fun h3 u3 => ?_
  have o3 : Old h1 h3 := n2.old.upd (Nat.le_refl _) u3
  refine acall_q (by kernel_rfl) (c13 (w1.old o3)) ?_
  rw [agrd_bool, if_pos rfl, agrd_bool, if_pos rfl]
  refine get_all u3.self hl ?_
  have l3 : aloadv true 6 (.ptr h.next 0 0) h3 = some (.agg (ofBytes m)) := by
    rw [aload_agg (by rw [o3.get _ (by rw [n1.next]; omega)]; exact n1.self) (by omega), List.drop_zero, List.take_of_length_le (by omega)]
  rw [l3, some1_some, eq_mac m hm, some1_some, agrd_bool, if_pos rfl]
  refine some1_of (v := .int .i64 a.length) rfl ?_
  refine abin_i (by decide) rfl ?_
  have last : a.length = 4 ∨ a.length = 16 → some1 (abin .eql (.str (if a.length = 4 ∨ a.length = 16 then (a, true) else ([], false)).1) (.str a)) fun v62 => Ret h v62 h3 fun v _ => v = .bool true := by
    intro h'
    rw [if_pos h', abin_str]
    refine some1_of (v := .bool true) (by simp [astr]) ?_
    exact Ret.now rfl
  by_cases h4 : a.length = 4
  · rw [agrd_bool, if_neg (by simp [h4])]
    have ht : (if a.length = 4 ∨ a.length = 16 then (a, true) else ([], false)).2 = true := by rw [if_pos (.inl h4)]
    rw [ht, eq_bool, some1_some, agrd_bool, if_pos (by decide)]
    refine some1_of (v := .bool false) rfl ?_
    rw [agrd_bool, if_pos rfl]
    exact last (.inl h4)
  · rw [agrd_bool, if_pos (by simp; omega)]
    refine some1_of (v := .int .i64 a.length) rfl ?_
    refine abin_i (by decide) rfl ?_
    by_cases h16 : a.length = 16
    · have ht : (if a.length = 4 ∨ a.length = 16 then (a, true) else ([], false)).2 = true := by rw [if_pos (.inr h16)]
      rw [ht, eq_bool, some1_some, agrd_bool, if_pos (by simp [h16])]
      refine some1_of (v := .bool false) rfl ?_
      rw [agrd_bool, if_pos rfl]
      exact last (.inr h16)
    · have ht : (if a.length = 4 ∨ a.length = 16 then (a, true) else ([], false)).2 = false := by rw [if_neg (by rintro (e | e); exact h4 e; exact h16 e)]
      rw [ht, eq_bool, some1_some, agrd_bool, if_pos (by simp; omega)]
      refine some1_of (v := .bool true) rfl ?_
      rw [agrd_bool, if_neg (by decide)]
      exact Ret.now rfl
end Go.Own.Tryd
