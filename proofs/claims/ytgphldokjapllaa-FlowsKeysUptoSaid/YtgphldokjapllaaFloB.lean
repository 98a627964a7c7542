/- Part of the proofs: F16, F17, F18, F19, F20, F21, F22, F23, F24, F25, F26, F27, F28, F29. -/
import Derived.Test.YtgphldokjapllaaFloA
import Derived.Test.YtgphldokjapllaaTreeB
import Derived.Test.YtgphldokjapllaaOwnD

namespace Go.Own.Try
open Go.Own Go.Proofs
set_option maxRecDepth 20000

/-- What slices.SortFunc does. -/
structure SortC : Prop where
  nil : ∀ (g : Nat) (h : AHeap), ACalls Try.prog 23 [.nils, .func (.func g) [] []] h fun v h' => v = .tuple [] ∧ h' = h
  sl : ∀ (g : Nat) (cf : En → En → Int), hasBody Try.prog g = true → (∀ a b, Pure g [.agg a.cs, .agg b.cs] (.int .i64 (cf a b))) → Go.Sort.SWO (α := En) (fun a b => decide (cf a b < 0)) →
    ∀ {h : AHeap} {id r : Nat} {l : List En}, id < h.next → h.get id = some (.cells r (ens l)) → l.length ≤ 100000 →
    ACalls Try.prog 23 [.sl id r 0 l.length 8, .func (.func g) [] []] h fun v h' => ∃ l' : List En, l'.Perm l ∧ l'.Pairwise (fun a b => ¬ cf b a < 0) ∧ v = .tuple [] ∧ h' = h.set id (.cells r (ens l'))
theorem sort_bd (S : SortC) {g : Nat} {cf : En → En → Int} (hb : hasBody Try.prog g = true) (hc : ∀ a b, Pure g [.agg a.cs, .agg b.cs] (.int .i64 (cf a b))) (ho : Go.Sort.SWO (α := En) (fun a b => decide (cf a b < 0))) {h0 h : AHeap} {v : AV} {l : List En}
    (x : Bd h0 h 8 v (ens l) l.length) (o : Old h0 h) (hl : l.length ≤ 100000) :
    ACalls Try.prog 23 [v, .func (.func g) [] []] h fun _ h' => ∃ l' : List En, l'.Perm l ∧ l'.Pairwise (fun a b => ¬ cf b a < 0) ∧ Bd h0 h' 8 v (ens l') l'.length ∧ Old h0 h' := by
  generalize hn : l.length = n at x
  generalize hcs : ens l = cs at x
  cases x with
  | nils =>
    have : l = [] := List.length_eq_zero_iff.1 hn
    subst this
    exact (S.nil g h).mono fun v h' ⟨_, e⟩ => ⟨[], .refl _, .nil, .nils, by rw [e]; exact o⟩
  | @sl i r n cs h1 h2 h3 h4 =>
    subst hn
    subst hcs
    refine (S.sl g cf hb hc ho h2 h3 hl).mono ?_
    rintro v h' ⟨l', p1, p2, _, rfl⟩
    refine ⟨l', p1, p2, ?_, o.set h1 _⟩
    rw [← p1.length_eq]
    exact .sl h1 h2 (by simp) (ens_len _)

def used (pl : List Pl) : List En := pl.filterMap fun p => if p.is = 1 then some p.e else none
theorem used_cons (p : Pl) (r : List Pl) : used (p :: r) = if p.is = 1 then p.e :: used r else used r := by
  unfold used
  rw [List.filterMap_cons]
  by_cases h : p.is = 1 <;> simp [h]
theorem used_length (pl : List Pl) : (used pl).length ≤ pl.length := List.length_filterMap_le _ _
theorem el32 : elIs Try.prog 32 8 = true := by kernel_rfl
theorem app_en' {h0 h : AHeap} {v : AV} {out : List En} {e : En} {k : AV × AHeap → Prop} (hb : Bd h0 h 8 v (ens out) out.length) (ho : Old h0 h) (hl : out.length ≤ 10000000)
    (hk : ∀ v' h', Bd h0 h' 8 v' (ens (out ++ [e])) (out ++ [e]).length → Old h0 h' → h.next ≤ h'.next → (∀ j, j < h.next → v.notsl j → h'.get j = h.get j ∧ v'.notsl j) → k (v', h')) :
    alitP Try.prog 32 1 [(0, 8, .agg e.cs)] h fun s h2 => some1 (aappend 8 80 v s h2) k := by
  refine alit_one el32 (by decide) e.len ?_
  refine hb.app1 (bytes := 80) ho rfl (by unfold room; omega) rfl ?_
  intro v' h' b1 o1 o2 o3
  exact hk v' h' (by rw [ens_snoc]; simpa using b1) o1 o2 o3
/-- A copy of the places, read. -/
theorem at_pl {pl : List Pl} (hl : pl.length = 128) {i : Nat} (hi : i < 128) : aindex (.arr 128 true 9) (.agg (pl.flatMap Pl.cs)) (.int .i64 i) = some (.agg (pl[i]'(by omega)).cs) := by
  have hlen := rows_length Pl.len pl
  have := rows_at (f := Pl.cs) Pl.len (l := pl) (i := i) (off := 0) (sz := 9) (by omega) (by omega)
  rw [Nat.add_zero, List.drop_zero] at this
  simp only [aindex]
  rw [if_pos (by omega)]
  simp only [apart, Int.toNat_natCast]
  rw [if_pos (by constructor; omega; simp), if_pos trivial, this]
  rfl

theorem c13 (S : SortC) {h : AHeap} {id : Nat} {t : Tb} (ht : TabAt h id t) : ACalls Try.prog 13 [.ptr id 0 0] h fun v h' => ∃ l : List En, ELs v l ∧ l.Perm (used t.pl) ∧ l.Pairwise (fun a b => ¬ Ahead b.flow a.flow) ∧ h' = h := by
  apply T13_calls
  unfold T13
  have hl := ht.ok.len
  refine ⟨rfl, fa (get_part (vs := t.pl.flatMap Pl.cs) ht.get (by omega) (by have := ht.ok.get_places; simpa using this) ?_)⟩
  refine aloop (fun m fr hc => Old h hc ∧ fr 9 = .agg (t.pl.flatMap Pl.cs) ∧ ∃ (i : Nat) (out : List En), fr 10 = .int .i64 i ∧ m + i = 128 ∧ Bd h hc 8 (fr 3) (ens out) out.length ∧ out.length ≤ i ∧ out ++ used (t.pl.drop i) = used t.pl) 128
    ⟨Old.refl _, by simp, 0, [], by simp, by omega, by simp; exact .nils, by simp, by simp⟩ ?_
  rintro J hJ m fr hc ⟨ho, f9, i, out, f10, hm, hb, hle, hd⟩
  rw [f9, f10]
  refine abin_i (by decide) rfl ?_
  rw [aif_bool]
  split
  · rename_i hi
    have hi' : i < 128 := by simp at hi; omega
    have hip : i < t.pl.length := by rw [ht.ok.pl]; exact hi'
    refine some1_of (at_pl ht.ok.pl hi') ?_
    rw [List.drop_eq_getElem_cons hip, used_cons] at hd
    generalize t.pl[i] = p at *
    refine var az58 ?_
    intro h2 n2
    refine puts n2.self rfl rfl (splice_all rfl) (by decide) ?_
    intro h3 u3
    have o3 : Old hc h3 := n2.old.upd (Nat.le_refl _) u3
    have b3 : Bd h h3 8 (fr 3) (ens out) out.length := hb.frame o3.next fun j _ hj _ _ _ => o3.get j hj
    refine fa (get_at u3.self rfl ?_)
    refine abin_i (by decide) rfl ?_
    rw [aif_bool]
    split
    · rename_i hu
      rw [if_pos (by simpa using hu)] at hd
      refine fa (get_part u3.self (by simp [Pl.cs]) (vs := p.e.cs) rfl ?_)
      refine app_en' b3 (ho.trans o3) (by omega) ?_
      intro v' h' b1 o1 _ _
      refine abin_i (by decide) rfl ?_
      refine hJ (m - 1) (by omega) ⟨o1, by simp [f9], i + 1, out ++ [p.e], ?_, by omega, by simpa using b1, by simp; omega, by simpa using hd⟩
      simp; rw [i64_id (by omega) (by omega)]
    · rename_i hu
      rw [if_neg (by simpa using hu)] at hd
      refine abin_i (by decide) rfl ?_
      refine hJ (m - 1) (by omega) ⟨ho.trans o3, by simp [f9], i + 1, out, ?_, by omega, by simpa using b3, by omega, hd⟩
      simp; rw [i64_id (by omega) (by omega)]
  · rename_i hi
    have : i = 128 := by simp at hi; omega
    subst this
    have hout : out = used t.pl := by
      rw [List.drop_eq_nil_of_le (by rw [ht.ok.pl]; omega)] at hd
      simpa [used] using hd
    subst hout
    refine acall_of' (by kernel_rfl) ((sort_bd S (by kernel_rfl) c24 swoA hb ho (by omega)).mono ?_)
    rintro _ h4 ⟨l, p1, p2, b4, o4⟩
    refine Ret.list o4 b4 (ens_below _ _) fun v' hv => ⟨l, hv, p1, p2.imp (fun hab => by rw [← cmpF_lt]; exact hab), rfl⟩
end Go.Own.Try

namespace Go.Own.Try
open Go.Own Go.Proofs

theorem used_append (a b : List Pl) : used (a ++ b) = used a ++ used b := List.filterMap_append
def one (p : Pl) : List En := if p.is = 1 then [p.e] else []
theorem used_cons' (p : Pl) (r : List Pl) : used (p :: r) = one p ++ used r := by
  rw [used_cons]; unfold one; split <;> rfl
/-- The entries, of which one place's is told apart. -/
theorem used_split {pl : List Pl} {i : Nat} (hi : i < pl.length) : ∃ a b, used pl = a ++ one pl[i] ++ b ∧ ∀ p, used (pl.set i p) = a ++ one p ++ b := by
  refine ⟨used (pl.take i), used (pl.drop (i + 1)), ?_, fun p => ?_⟩
  · conv => lhs; rw [← List.take_append_drop i pl]
    rw [List.drop_eq_getElem_cons hi, used_append, used_cons', List.append_assoc]
  · rw [List.set_eq_take_append_cons_drop, if_pos hi, used_append, used_cons', List.append_assoc]
theorem placeAt_set {t : Tb} (k : t.Ok) {i j : Nat} (hi : i < 128) (p : Pl) (a b : Int) : placeAt { t with pl := t.pl.set i p, many := a, marks := b } j = if j = i then p else placeAt t j := by
  unfold placeAt
  simp only [List.getD_eq_getElem?_getD, List.getElem?_set]
  by_cases h : i = j
  · subst h; simp [k.pl, hi]
  · rw [if_neg h, if_neg (fun e => h e.symm)]
theorem mem_used {t : Tb} (k : t.Ok) {e : En} : e ∈ used t.pl ↔ ∃ i, i < 128 ∧ (placeAt t i).is = 1 ∧ (placeAt t i).e = e := by
  simp only [used, List.mem_filterMap]
  constructor
  · rintro ⟨p, hp, h⟩
    obtain ⟨i, hi, rfl⟩ := List.mem_iff_getElem.1 hp
    have hi' : i < 128 := by rw [← k.pl]; exact hi
    rw [placeAt_eq k hi'] at h
    split at h
    · rename_i h1; exact ⟨i, hi', h1, Option.some.inj h⟩
    · cases h
  · rintro ⟨i, hi, h1, h2⟩
    refine ⟨placeAt t i, ?_, by rw [if_pos h1, h2]⟩
    rw [← placeAt_eq k hi]
    exact List.getElem_mem _

/-- Entries lie in a table: whoever looks from a flow's first place on comes to its entry. -/
structure TI (H : List UInt8 → Fl → Int) (t : Tb) (s : List En) : Prop where
  ok : t.Ok
  perm : (used t.pl).Perm s
  dist : s.Pairwise (fun a b => a.flow ≠ b.flow)
  kinds : ∀ i, i < 128 → (placeAt t i).is = 0 ∨ (placeAt t i).is = 1 ∨ (placeAt t i).is = 2
  many : t.many = s.length
  chain : ∀ i, i < 128 → (placeAt t i).is = 1 → ∃ k, k < 128 ∧ i = ((H t.key (placeAt t i).e.flow).toNat % 128 + k) % 128 ∧ ∀ j, j < k → (placeAt t (((H t.key (placeAt t i).e.flow).toNat % 128 + j) % 128)).is ≠ 0

theorem fgo_found {pl : List Pl} {f : Fl} : ∀ {n at_ : Nat} {spot : Int} {a : Int}, at_ < 128 → fgo pl f n at_ spot = (a, true) → ∃ i : Nat, i < 128 ∧ a = i ∧ (pl.getD i default).is = 1 ∧ (pl.getD i default).e.flow = f
  | 0, _, _, _, _, h => by simp [fgo] at h
  | n + 1, at_, spot, a, hat, h => by
    rw [fgo] at h
    split at h
    · rename_i hm
      simp only [Prod.mk.injEq, and_true] at h
      exact ⟨at_, hat, h.symm, hm.1, hm.2⟩
    · split at h
      · simp at h
      · exact fgo_found (Nat.mod_lt _ (by decide)) h
theorem fgo_find {pl : List Pl} {f : Fl} : ∀ {n at_ k : Nat} {spot : Int}, at_ < 128 → k < n → (∀ j, j < k → (pl.getD ((at_ + j) % 128) default).is ≠ 0) → (pl.getD ((at_ + k) % 128) default).is = 1 → (pl.getD ((at_ + k) % 128) default).e.flow = f →
    (fgo pl f n at_ spot).2 = true
  | 0, _, k, _, _, h, _, _, _ => by omega
  | n + 1, at_, k, spot, hat, h, hj, h1, h2 => by
    rw [fgo]
    split
    · rfl
    · rename_i hm
      cases k with
      | zero =>
        rw [Nat.add_zero, Nat.mod_eq_of_lt hat] at h1 h2
        exact absurd ⟨h1, h2⟩ hm
      | succ k =>
        have h0 := hj 0 (by omega)
        rw [Nat.add_zero, Nat.mod_eq_of_lt hat] at h0
        rw [if_neg h0]
        have e : ∀ m, ((at_ + 1) % 128 + m) % 128 = (at_ + (m + 1)) % 128 := fun m => by omega
        refine fgo_find (k := k) (Nat.mod_lt _ (by decide)) (by omega) (fun j hjk => ?_) ?_ ?_
        · rw [e]; exact hj (j + 1) (by omega)
        · rw [e]; exact h1
        · rw [e]; exact h2
theorem fgo_kept {pl : List Pl} {f : Fl} (hno : ∀ i, i < 128 → ¬ ((pl.getD i default).is = 1 ∧ (pl.getD i default).e.flow = f)) : ∀ {n at_ : Nat} {spot : Int}, at_ < 128 → 0 ≤ spot → fgo pl f n at_ spot = (spot, false)
  | 0, _, _, _, _ => rfl
  | n + 1, at_, spot, hat, hs => by
    rw [fgo, if_neg (hno at_ hat)]
    have : ¬ ((pl.getD at_ default).is ≠ 1 ∧ spot < 0) := by omega
    rw [if_neg this]
    split
    · rfl
    · exact fgo_kept hno (Nat.mod_lt _ (by decide)) hs
theorem fgo_spot {pl : List Pl} {f : Fl} (hno : ∀ i, i < 128 → ¬ ((pl.getD i default).is = 1 ∧ (pl.getD i default).e.flow = f)) : ∀ {n at_ k : Nat} {spot : Int}, at_ < 128 → spot < 0 → k < n → (∀ j, j < k → (pl.getD ((at_ + j) % 128) default).is = 1) →
    (pl.getD ((at_ + k) % 128) default).is ≠ 1 → fgo pl f n at_ spot = ((((at_ + k) % 128 : Nat) : Int), false)
  | 0, _, k, _, _, _, h, _, _ => by omega
  | n + 1, at_, k, spot, hat, hs, h, hj, h1 => by
    rw [fgo, if_neg (hno at_ hat)]
    cases k with
    | zero =>
      have e0 : (at_ + 0) % 128 = at_ := by omega
      rw [e0] at h1 ⊢
      have e1 : (if (pl.getD at_ default).is ≠ 1 ∧ spot < 0 then (at_ : Int) else spot) = at_ := if_pos ⟨h1, hs⟩
      rw [e1]
      split
      · rfl
      · exact fgo_kept hno (Nat.mod_lt _ (by decide)) (by omega)
    | succ k =>
      have h0 := hj 0 (by omega)
      rw [Nat.add_zero, Nat.mod_eq_of_lt hat] at h0
      have e1 : (if (pl.getD at_ default).is ≠ 1 ∧ spot < 0 then (at_ : Int) else spot) = spot := if_neg fun e => e.1 h0
      have e2 : ¬ (pl.getD at_ default).is = 0 := by rw [h0]; decide
      rw [e1, if_neg e2]
      have e : ∀ m, ((at_ + 1) % 128 + m) % 128 = (at_ + (m + 1)) % 128 := fun m => by omega
      have := fgo_spot (n := n) (k := k) (spot := spot) hno (Nat.mod_lt (at_ + 1) (by decide)) hs (by omega) (fun j hjk => by rw [e]; exact hj (j + 1) (by omega)) (by rw [e]; exact h1)
      rw [e] at this
      exact this
theorem least {p : Nat → Prop} [DecidablePred p] : ∀ (n : Nat), (∃ k, k < n ∧ p k) → ∃ k, k < n ∧ p k ∧ ∀ j, j < k → ¬ p j
  | 0, ⟨k, h, _⟩ => by omega
  | n + 1, ⟨k, h, hp⟩ => by
    by_cases he : ∃ k, k < n ∧ p k
    · obtain ⟨k, h1, h2, h3⟩ := least n he
      exact ⟨k, by omega, h2, h3⟩
    · have : k = n := by
        rcases Nat.lt_or_ge k n with h1 | h1
        · exact absurd ⟨k, h1, hp⟩ he
        · omega
      subst this
      exact ⟨k, h, hp, fun j hj hpj => he ⟨j, hj, hpj⟩⟩

namespace TI
variable {H : List UInt8 → Fl → Int} {t : Tb} {s : List En}
theorem mem (I : TI H t s) {e : En} : e ∈ s ↔ ∃ i, i < 128 ∧ (placeAt t i).is = 1 ∧ (placeAt t i).e = e := by rw [← I.perm.mem_iff, mem_used I.ok]
theorem flow_eq (I : TI H t s) {a b : En} (ha : a ∈ s) (hb : b ∈ s) (h : a.flow = b.flow) : a = b := by
  have hd := I.dist
  clear I
  induction s with
  | nil => cases ha
  | cons x r ih =>
    rw [List.pairwise_cons] at hd
    rcases List.mem_cons.1 ha with ha' | ha'
    · rcases List.mem_cons.1 hb with hb' | hb'
      · rw [ha', hb']
      · exact absurd h (ha' ▸ hd.1 b hb')
    · rcases List.mem_cons.1 hb with hb' | hb'
      · exact absurd h.symm (hb' ▸ hd.1 a ha')
      · exact ih ha' hb' hd.2
theorem find_some (I : TI H t s) {f : Fl} {e : En} (he : e ∈ s) (hf : e.flow = f) : ∃ i : Nat, i < 128 ∧ findT H t f = ((i : Int), true) ∧ (placeAt t i).is = 1 ∧ (placeAt t i).e = e := by
  obtain ⟨i, hi, h1, h2⟩ := I.mem.1 he
  obtain ⟨k, hk, hik, hch⟩ := I.chain i hi h1
  rw [h2, hf] at hik hch
  have h3 : (findT H t f).2 = true := by
    unfold findT
    refine fgo_find (k := k) (Nat.mod_lt _ (by decide)) hk hch ?_ ?_
    · rw [← hik]; exact h1
    · rw [← hik]; show (placeAt t i).e.flow = f; rw [h2, hf]
  have h4 : fgo t.pl f 128 ((H t.key f).toNat % 128) (-1) = ((findT H t f).1, true) := by rw [← h3]; rfl
  obtain ⟨i', hi', ha, hb, hc⟩ := fgo_found (Nat.mod_lt _ (by decide)) h4
  refine ⟨i', hi', by rw [← ha, ← h3], hb, ?_⟩
  exact I.flow_eq (I.mem.2 ⟨i', hi', hb, rfl⟩) he (by rw [hf]; exact hc)
theorem find_none (I : TI H t s) {f : Fl} (hno : ∀ e ∈ s, e.flow ≠ f) (hl : s.length < 128) : ∃ k : Nat, k < 128 ∧ findT H t f = (((((H t.key f).toNat % 128 + k) % 128 : Nat) : Int), false) ∧ (placeAt t (((H t.key f).toNat % 128 + k) % 128)).is ≠ 1 ∧
    ∀ j, j < k → (placeAt t (((H t.key f).toNat % 128 + j) % 128)).is = 1 := by
  have hno' : ∀ i, i < 128 → ¬ ((t.pl.getD i default).is = 1 ∧ (t.pl.getD i default).e.flow = f) := fun i hi ⟨h1, h2⟩ => hno _ (I.mem.2 ⟨i, hi, h1, rfl⟩) h2
  have hex : ∃ k, k < 128 ∧ (placeAt t (((H t.key f).toNat % 128 + k) % 128)).is ≠ 1 := by
    have hc : ¬ ∀ i, i < 128 → (placeAt t i).is = 1 := by
      intro hall
      have : (used t.pl).length = 128 := by
        rw [← I.ok.pl]
        have hall' : ∀ p ∈ t.pl, p.is = 1 := by
          intro p hp
          obtain ⟨i, hi, rfl⟩ := List.mem_iff_getElem.1 hp
          have hi' : i < 128 := by rw [← I.ok.pl]; exact hi
          rw [placeAt_eq I.ok hi']; exact hall i hi'
        generalize t.pl = pl at hall'
        induction pl with
        | nil => rfl
        | cons p r ih => rw [used_cons, if_pos (hall' p (by simp)), List.length_cons, List.length_cons, ih fun q hq => hall' q (by simp [hq])]
      have := I.perm.length_eq
      omega
    have ⟨i, hi⟩ := Classical.not_forall.1 hc
    have ⟨hi1, hi2⟩ := Classical.not_imp.1 hi
    refine ⟨(i + 128 - (H t.key f).toNat % 128) % 128, Nat.mod_lt _ (by decide), ?_⟩
    have : ((H t.key f).toNat % 128 + (i + 128 - (H t.key f).toNat % 128) % 128) % 128 = i := by omega
    rw [this]; exact hi2
  obtain ⟨k, h1, h2, h3⟩ := least 128 hex
  have h3' : ∀ j, j < k → (placeAt t (((H t.key f).toNat % 128 + j) % 128)).is = 1 := fun j hj => Classical.not_not.1 (h3 j hj)
  exact ⟨k, h1, fgo_spot hno' (Nat.mod_lt _ (by decide)) (by decide) h1 h3' h2, h2, h3'⟩
end TI
end Go.Own.Try

namespace Go.Own.Try
open Go.Own Go.Proofs

theorem one_used {p : Pl} (h : p.is = 1) : one p = [p.e] := if_pos h
theorem one_not {p : Pl} (h : p.is ≠ 1) : one p = [] := if_neg h
theorem ite_nz {c : Prop} [Decidable c] {p q : Pl} (hp : p.is ≠ 0) (hq : q.is ≠ 0) : (if c then p else q).is ≠ 0 := by split <;> assumption
theorem w64_id {x : Int} (a : -9223372036854775808 ≤ x) (b : x ≤ 9223372036854775807) : w64 x = x := i64_id a b
namespace TI
variable {H : List UInt8 → Fl → Int} {t : Tb} {s : List En}
theorem chain_set (I : TI H t s) {i : Nat} (hi : i < 128) {p : Pl} (hp : p.is ≠ 0) (a b : Int) {j : Nat} (hj : j < 128) (hne : j ≠ i) (hu : (placeAt t j).is = 1) :
    ∃ k, k < 128 ∧ j = ((H t.key (placeAt t j).e.flow).toNat % 128 + k) % 128 ∧ ∀ m, m < k → (placeAt { t with pl := t.pl.set i p, many := a, marks := b } (((H t.key (placeAt t j).e.flow).toNat % 128 + m) % 128)).is ≠ 0 := by
  have _ := hne
  obtain ⟨k, h1, h2, h3⟩ := I.chain j hj hu
  refine ⟨k, h1, h2, fun m hm => ?_⟩
  rw [placeAt_set I.ok hi]
  split
  · exact hp
  · exact h3 m hm
theorem len128 (I : TI H t s) : s.length ≤ 128 := by
  rw [← I.perm.length_eq]
  have := used_length t.pl
  rw [I.ok.pl] at this
  exact this
/-- A new entry is laid. -/
theorem lay_new (I : TI H t s) {e : En} {i k : Nat} (hno : ∀ x ∈ s, x.flow ≠ e.flow) (hk : k < 128) (hik : i = ((H t.key e.flow).toNat % 128 + k) % 128) (hi1 : (placeAt t i).is ≠ 1)
    (hch : ∀ j, j < k → (placeAt t (((H t.key e.flow).toNat % 128 + j) % 128)).is = 1) : TI H (layT t i e) (e :: s) := by
  have hi : i < 128 := by rw [hik]; exact Nat.mod_lt _ (by decide)
  have hl := I.len128
  refine ⟨I.ok.lay i e, ?_, ?_, ?_, ?_, ?_⟩
  · obtain ⟨a, b, h1, h2⟩ := used_split (pl := t.pl) (i := i) (by rw [I.ok.pl]; exact hi)
    rw [placeAt_eq I.ok hi, one_not hi1, List.append_nil] at h1
    show (used (t.pl.set i ⟨1, e⟩)).Perm _
    rw [h2, one_used rfl, List.append_assoc, List.singleton_append]
    exact List.perm_middle.trans (List.Perm.cons _ (h1 ▸ I.perm))
  · exact List.pairwise_cons.2 ⟨fun x hx => (hno x hx).symm, I.dist⟩
  · intro j hj
    unfold layT
    rw [placeAt_set I.ok hi]
    split
    · exact .inr (.inl rfl)
    · exact I.kinds j hj
  · show (if (placeAt t i).is ≠ 1 then w64 (t.many + 1) else t.many) = _
    rw [if_pos hi1, I.many, w64_id (by omega) (by omega)]
    simp
  · intro j hj hu
    unfold layT at hu ⊢
    rw [placeAt_set I.ok hi] at hu ⊢
    by_cases hji : j = i
    · rw [if_pos hji] at hu ⊢
      refine ⟨k, hk, by rw [hji, hik], fun m hm => ?_⟩
      rw [placeAt_set I.ok hi]
      have := hch m hm
      exact ite_nz (by show (1 : Int) ≠ 0; decide) fun h0 => absurd (this.symm.trans h0) (by decide)
    · rw [if_neg hji] at hu ⊢
      exact I.chain_set hi (p := ⟨1, e⟩) (by show (1 : Int) ≠ 0; decide) _ _ hj hji hu
/-- An entry at a place. -/
theorem split_at (I : TI H t s) {i : Nat} (hi : i < 128) (hu : (placeAt t i).is = 1) : ∃ a b, used t.pl = a ++ (placeAt t i).e :: b ∧ (∀ p, used (t.pl.set i p) = a ++ one p ++ b) ∧ (a ++ b).Perm (dropE (placeAt t i).e.flow s) := by
  obtain ⟨a, b, h1, h2⟩ := used_split (pl := t.pl) (i := i) (by rw [I.ok.pl]; exact hi)
  rw [placeAt_eq I.ok hi, one_used hu, List.append_assoc, List.singleton_append] at h1
  refine ⟨a, b, h1, h2, ?_⟩
  have hp : (a ++ (placeAt t i).e :: b).Perm s := h1 ▸ I.perm
  have hp2 : ((placeAt t i).e :: (a ++ b)).Perm s := List.perm_middle.symm.trans hp
  have hd : ((placeAt t i).e :: (a ++ b)).Pairwise (fun a b => a.flow ≠ b.flow) := (hp2.pairwise_iff (fun h => h.symm)).2 I.dist
  have h3 := hp2.filter (fun x => !decide (x.flow = (placeAt t i).e.flow))
  rw [List.filter_cons, if_neg (by simp)] at h3
  rw [List.pairwise_cons] at hd
  have h4 : (a ++ b).filter (fun x => !decide (x.flow = (placeAt t i).e.flow)) = a ++ b := by
    rw [List.filter_eq_self]
    intro x hx
    simpa using fun h => hd.1 x hx h.symm
  rw [h4] at h3
  exact h3
/-- An entry is laid in the place of the one of its flow. -/
theorem lay_old (I : TI H t s) {e : En} {i : Nat} (hi : i < 128) (hu : (placeAt t i).is = 1) (hf : (placeAt t i).e.flow = e.flow) : TI H (layT t i e) (e :: dropE e.flow s) := by
  obtain ⟨a, b, h1, h2, h3⟩ := I.split_at hi hu
  rw [hf] at h3
  have hlen : s.length = (dropE e.flow s).length + 1 := by
    rw [← I.perm.length_eq, h1, ← h3.length_eq]; simp; omega
  refine ⟨I.ok.lay i e, ?_, ?_, ?_, ?_, ?_⟩
  · show (used (t.pl.set i ⟨1, e⟩)).Perm _
    rw [h2, one_used rfl, List.append_assoc, List.singleton_append]
    exact List.perm_middle.trans (List.Perm.cons _ h3)
  · refine List.pairwise_cons.2 ⟨fun x hx => ?_, I.dist.filter _⟩
    have := (List.mem_filter.1 hx).2
    exact fun h => by simp [h] at this
  · intro j hj
    unfold layT
    rw [placeAt_set I.ok hi]
    split
    · exact .inr (.inl rfl)
    · exact I.kinds j hj
  · show (if (placeAt t i).is ≠ 1 then w64 (t.many + 1) else t.many) = _
    rw [if_neg (by simp [hu]), I.many, hlen]
    simp
  · intro j hj hu'
    unfold layT at hu' ⊢
    rw [placeAt_set I.ok hi] at hu' ⊢
    by_cases hji : j = i
    · rw [if_pos hji] at hu' ⊢
      obtain ⟨k, k1, k2, k3⟩ := I.chain i hi hu
      rw [hf] at k2 k3
      refine ⟨k, k1, by rw [hji]; exact k2, fun m hm => ?_⟩
      rw [placeAt_set I.ok hi]
      exact ite_nz (by show (1 : Int) ≠ 0; decide) (k3 m hm)
    · rw [if_neg hji] at hu' ⊢
      exact I.chain_set hi (p := ⟨1, e⟩) (by show (1 : Int) ≠ 0; decide) _ _ hj hji hu'
/-- An entry is taken out. -/
theorem out (I : TI H t s) {i : Nat} {m : Int} (hi : i < 128) (hu : (placeAt t i).is = 1) : TI H { t with pl := t.pl.set i ⟨2, zeroE⟩, many := w64 (t.many - 1), marks := m } (dropE (placeAt t i).e.flow s) := by
  obtain ⟨a, b, h1, h2, h3⟩ := I.split_at hi hu
  have hl := I.len128
  have hlen : s.length = (dropE (placeAt t i).e.flow s).length + 1 := by
    rw [← I.perm.length_eq, h1, ← h3.length_eq]; simp; omega
  refine ⟨I.ok.set _ _ _ _, ?_, I.dist.filter _, ?_, ?_, ?_⟩
  · show (used (t.pl.set i ⟨2, zeroE⟩)).Perm _
    rw [h2, one_not (by show (2 : Int) ≠ 1; decide), List.append_nil]
    exact h3
  · intro j hj
    rw [placeAt_set I.ok hi]
    split
    · exact .inr (.inr rfl)
    · exact I.kinds j hj
  · show w64 (t.many - 1) = _
    rw [I.many, hlen, w64_id (by omega) (by omega)]
    omega
  · intro j hj hu'
    rw [placeAt_set I.ok hi] at hu' ⊢
    by_cases hji : j = i
    · rw [if_pos hji] at hu'; exact absurd hu' (by decide)
    · rw [if_neg hji] at hu' ⊢
      exact I.chain_set hi (p := ⟨2, zeroE⟩) (by show (2 : Int) ≠ 0; decide) _ _ hj hji hu'
end TI
/-- A table without entries. -/
def emptyT (key : List UInt8) : Tb := ⟨key, List.replicate 128 ⟨0, zeroE⟩, 0, 0⟩
theorem TI.empty {H : List UInt8 → Fl → Int} {key : List UInt8} (hk : key.length = 16) : TI H (emptyT key) [] := by
  have hp : ∀ i, i < 128 → placeAt (emptyT key) i = ⟨0, zeroE⟩ := by
    intro i hi
    unfold placeAt emptyT
    rw [List.getD_eq_getElem?_getD, List.getElem?_replicate, if_pos hi]; rfl
  refine ⟨⟨hk, by simp [emptyT]⟩, ?_, .nil, fun i hi => .inl (by rw [hp i hi]), rfl, fun i hi hu => ?_⟩
  · have : used (emptyT key).pl = [] := by
      simp only [used, emptyT, List.filterMap_eq_nil_iff]
      intro p hp
      rw [List.eq_of_mem_replicate hp]; rfl
    rw [this]
  · rw [hp i hi] at hu; exact absurd hu (by decide)
end Go.Own.Try

namespace Go.Own.Try
open Go.Own Go.Proofs
set_option maxRecDepth 20000

theorem TI.to {H : List UInt8 → Fl → Int} {t : Tb} {s l : List En} (I : TI H t s) (h : s.Perm l) : TI H t l :=
  ⟨I.ok, I.perm.trans h, (h.pairwise_iff (fun h => h.symm)).1 I.dist, I.kinds, by rw [I.many, h.length_eq], I.chain⟩
theorem az59 : azero Try.prog 59 = some ((List.replicate 128 (⟨0, zeroE⟩ : Pl)).flatMap Pl.cs) := by kernel_rfl
/-- The table holds these entries now. -/
def Holds (H : List UInt8 → Fl → Int) (h : AHeap) (id : Nat) (l : List En) (h' : AHeap) : Prop := ∃ t' : Tb, TI H t' l ∧ h' = h.set id (.cells 0 t'.cs)

theorem c64 {H : List UInt8 → Fl → Int} (hH : HashC H) (S : SortC) {h : AHeap} {id : Nat} {t : Tb} {l : List En} (ht : TabAt h id t) (I : TI H t l) (hl : l.length < 128) :
    ACalls Try.prog 64 [.ptr id 0 0] h fun v h' => v = .tuple [] ∧ Holds H h id l h' := by
  apply T64_calls
  unfold T64
  refine acall_of' (by kernel_rfl) ((c13 S ht).mono ?_)
  rintro r h' ⟨l1, hr, hp1, _, hh⟩
  obtain rfl := hh.symm
  have hp : l1.Perm l := hp1.trans I.perm
  have hlen : l1.length = l.length := hp.length_eq
  have I1 : TI H t l1 := I.to hp.symm
  refine build az59 (cs := (List.replicate 128 (⟨0, zeroE⟩ : Pl)).flatMap Pl.cs) rfl ?_
  refine ⟨rfl, fa ?_⟩
  have hk := ht.ok
  have hkl := hk.len
  refine puts ht.get (by rw [rows_length Pl.len]; simp) (by rw [List.all_eq_true]; intro x hx; obtain ⟨p, _, hx⟩ := List.mem_flatMap.1 hx; exact List.all_eq_true.1 (show p.cs.all AV.scalar = true from rfl) x hx) (cs' := Tb.cs { t with pl := List.replicate 128 ⟨0, zeroE⟩ }) (by rw [Nat.zero_add]; exact hk.set_all _ (by simp)) (by omega) ?_
  intro h2 u2
  have t2 : TabAt h2 id { t with pl := List.replicate 128 ⟨0, zeroE⟩ } := ⟨by rw [u2.next]; exact ht.lt, u2.self, ⟨hk.key, by simp⟩⟩
  have o2 := ((Old.refl h).x id).upd (.inr rfl) u2
  refine ⟨rfl, fa (put_many t2 ?_)⟩
  intro h3 u3 t3
  refine ⟨rfl, fa (put_marks t3 ?_)⟩
  intro h4 u4 t4
  have o4 := (o2.upd (.inr rfl) u3).upd (.inr rfl) u4
  refine some1_of hr.rd.len ?_
  refine aloop (fun m fr hc => OldX h id hc ∧ fr 0 = .ptr id 0 0 ∧ fr 19 = r ∧ fr 20 = .int .i64 l1.length ∧ ∃ (i : Nat) (ti : Tb), fr 21 = .int .i64 i ∧ m + i = l1.length ∧ TabAt hc id ti ∧ ti.key = t.key ∧ TI H ti (l1.take i).reverse) l1.length
    ⟨o4, by simp, by simp, by simp, 0, emptyT t.key, by simp, by omega, t4, rfl, by simpa using TI.empty hk.key⟩ ?_
  rintro J hJ m fr hc ⟨oc, f0, f19, f20, i, ti, f21, hm, tc, hkey, Ii⟩
  rw [f0, f19, f20, f21]
  refine abin_i (by decide) rfl ?_
  rw [aif_bool]
  split
  · rename_i hi
    have hi' : i < l1.length := by simp at hi; omega
    have hrd : ERd hc r l1 := hr.rd
    obtain ⟨p, e1, e2, _⟩ := hrd.row hi'
    have htk : l1.take (i + 1) = l1.take i ++ [l1[i]] := by rw [List.take_succ_eq_append_getElem hi']
    have hno : ∀ x ∈ (l1.take i).reverse, x.flow ≠ l1[i].flow := by
      intro x hx
      have hd := I1.dist
      rw [← List.take_append_drop (i + 1) l1, htk] at hd
      have := (List.pairwise_append.1 (List.pairwise_append.1 hd).1).2.2 x (List.mem_reverse.1 hx) l1[i] (by simp)
      exact this
    rw [e1, some1_some, e2, some1_some]
    generalize l1[i] = e at *
    refine var az39 ?_
    intro h5 n5
    refine puts n5.self rfl rfl (splice_all rfl) (by decide) ?_
    intro h6 u6
    have o6 : Old hc h6 := n5.old.upd (Nat.le_refl _) u6
    have t6 := tc.old o6
    refine fa (get_part u6.self (by simp [En.cs]) (vs := e.flow.cs) rfl ?_)
    refine acall_q (by kernel_rfl) (c26 hH e.flow t6) ?_
    obtain ⟨k, k1, k2, k3, k4⟩ := Ii.find_none hno (by simp; omega)
    rw [k2]
    refine ext rfl (ext rfl ?_)
    refine get_all u6.self rfl ?_
    refine acall_of' (by kernel_rfl) ((c36 e t6 (Nat.mod_lt _ (by decide))).mono ?_)
    rintro _ h7 ⟨rfl, rfl⟩
    refine abin_i (by decide) rfl ?_
    refine hJ (m - 1) (by omega) ⟨(oc.old o6).set, by simp [f0], by simp [f19], by simp [f20], i + 1, layT ti (((H ti.key e.flow).toNat % 128 + k) % 128) e, ?_, by omega, ⟨t6.lt, by rw [hset_get, if_pos rfl], t6.ok.lay _ _⟩, hkey, ?_⟩
    · simp; rw [i64_id (by omega) (by omega)]
    · rw [htk, List.reverse_append]
      exact Ii.lay_new hno k1 rfl k3 k4
  · rename_i hi
    have : i = l1.length := by simp at hi; omega
    subst this
    rw [List.take_length] at Ii
    exact Ret.mod oc ht.lt tc.get (Tb.und _ _) (by simp [AV.und, belows]) ⟨rfl, ti, Ii.to ((List.reverse_perm l1).trans hp), rfl⟩

theorem c46 {H : List UInt8 → Fl → Int} (hH : HashC H) (S : SortC) {h : AHeap} {id i : Nat} {t : Tb} {l : List En} (ht : TabAt h id t) (I : TI H t l) (hl : l.length < 128) (hi : i < 128) (hu : (placeAt t i).is = 1) :
    ACalls Try.prog 46 [.ptr id 0 0, .int .i64 i] h fun v h' => v = .tuple [] ∧ Holds H h id (dropE (placeAt t i).e.flow l) h' := by
  apply T46_calls
  unfold T46
  refine build az58 (cs := Pl.cs ⟨2, zeroE⟩) rfl ?_
  refine ⟨rfl, fa (ia hi (put_pl ht hi ?_))⟩
  intro h2 u2 t2
  refine ⟨rfl, fa (get_many t2 ?_)⟩
  refine abin_i (by decide) rfl ?_
  refine ⟨rfl, fa (put_many t2 ?_)⟩
  intro h3 u3 t3
  refine ⟨rfl, fa (get_marks t3 ?_)⟩
  refine abin_i (by decide) rfl ?_
  refine ⟨rfl, fa (put_marks t3 ?_)⟩
  intro h4 u4 t4
  have o4 := ((((Old.refl h).x id).upd (.inr rfl) u2).upd (.inr rfl) u3).upd (.inr rfl) u4
  have I4 := I.out (m := w64 (t.marks + 1)) hi hu
  refine ⟨rfl, fa (get_marks t4 ?_)⟩
  refine abin_i (by decide) rfl ?_
  rw [aif_bool]
  split
  · have hl4 : (dropE (placeAt t i).e.flow l).length < 128 := Nat.lt_of_le_of_lt (dropE_length _ _) hl
    refine acall_of' (by kernel_rfl) ((c64 hH S t4 I4 hl4).mono ?_)
    rintro _ h5 ⟨_, t5, I5, rfl⟩
    exact Ret.mod (o := .cells 0 t5.cs) (o4.set) ht.lt (by simp) (Tb.und _ _) (by simp [AV.und, belows]) ⟨rfl, t5, I5, rfl⟩
  · exact Ret.mod o4 ht.lt t4.get (Tb.und _ _) (by simp [AV.und, belows]) ⟨rfl, _, I4, rfl⟩
end Go.Own.Try

namespace Go.Own.Try
open Go.Own Go.Proofs
set_option maxRecDepth 20000

theorem wl_perm (e : En) : ∀ (b : Bool) (l : List En), (wl e b l).Perm (if b then l else e :: l)
  | true, [] => by simp [wl]
  | false, [] => by simp [wl]
  | true, x :: r => by
    unfold wl
    simpa using (wl_perm e true r)
  | false, x :: r => by
    unfold wl
    split
    · simpa using wl_perm e true r
    · have := wl_perm e false r
      simp only [Bool.false_eq_true, if_false] at this ⊢
      exact (List.Perm.cons x this).trans (List.Perm.swap _ _ _)
theorem withE_perm (e : En) (l : List En) : (withE e l).Perm (e :: dropE e.flow l) := wl_perm e false _
theorem dropE_self {f : Fl} {l : List En} (h : ∀ x ∈ l, x.flow ≠ f) : dropE f l = l := by
  unfold dropE
  rw [List.filter_eq_self]
  intro x hx; simpa using h x hx
theorem getE_none {f : Fl} {l : List En} : getE f l = none ↔ ∀ x ∈ l, x.flow ≠ f := by simp [getE]
theorem getE_mem {f : Fl} {l : List En} {e : En} (h : getE f l = some e) : e ∈ l ∧ e.flow = f := by
  unfold getE at h
  exact ⟨List.mem_of_find?_eq_some h, by simpa using List.find?_some h⟩
/-- What find tells of a table, in words of the entries. -/
theorem TI.find {H : List UInt8 → Fl → Int} {t : Tb} {l : List En} (I : TI H t l) (hl : l.length < 128) (f : Fl) :
    ∃ i : Nat, i < 128 ∧ findT H t f = ((i : Int), (getE f l).isSome) ∧ (∀ e, getE f l = some e → (placeAt t i).is = 1 ∧ (placeAt t i).e = e) ∧ (∀ e : En, e.flow = f → TI H (layT t i e) (withE e l)) := by
  cases hg : getE f l with
  | some e =>
    obtain ⟨h1, h2⟩ := getE_mem hg
    obtain ⟨i, hi, h3, h4, h5⟩ := I.find_some h1 h2
    refine ⟨i, hi, h3, fun e' he' => by cases he'; exact ⟨h4, h5⟩, fun e' he' => ?_⟩
    exact (I.lay_old hi h4 (by rw [h5, h2, he'])).to (withE_perm e' l).symm
  | none =>
    have hno := getE_none.1 hg
    obtain ⟨k, k1, k2, k3, k4⟩ := I.find_none hno hl
    refine ⟨_, Nat.mod_lt _ (by decide), k2, (by intro e he; cases he), ?_⟩
    intro e he
    subst he
    refine (I.lay_new hno k1 rfl k3 k4).to ?_
    have := (withE_perm e l).symm
    rwa [dropE_self hno] at this

theorem c17 {h : AHeap} {id : Nat} {t : Tb} (ht : TabAt h id t) : ACalls Try.prog 17 [.ptr id 0 0] h fun v h' => v = .int .i64 t.many ∧ h' = h := by
  apply T17_calls
  unfold T17
  exact ⟨rfl, fa (get_many ht (Ret.pure (Old.refl h) (by simp [AV.und]) ⟨rfl, rfl⟩))⟩

theorem c14 {H : List UInt8 → Fl → Int} (hH : HashC H) {h : AHeap} {id : Nat} {t : Tb} {l : List En} (f : Fl) (ht : TabAt h id t) (I : TI H t l) (hl : l.length < 128) :
    ACalls Try.prog 14 [.ptr id 0 0, .agg f.cs] h fun v h' => v = .tuple [.agg ((getE f l).getD zeroE).cs, .bool (getE f l).isSome] ∧ h' = h := by
  apply T14_calls
  unfold T14
  refine box rfl ?_
  intro h1 n1
  refine var az39 ?_
  intro h2 n2
  have x1 := n1.next
  have g3 : h2.get h.next = some (.cells 0 f.cs) := by rw [n2.other _ (by omega)]; exact n1.self
  have o2 := n1.old.trans n2.old
  have t2 := ht.old o2
  refine get_all g3 rfl ?_
  refine acall_q (by kernel_rfl) (c26 hH f t2) ?_
  obtain ⟨i, hi, h3, h4, _⟩ := I.find hl f
  rw [h3]
  refine ext rfl (ext rfl ?_)
  refine some1_of (v := .bool !(getE f l).isSome) rfl ?_
  rw [aif_bool]
  cases hg : getE f l with
  | none =>
    rw [if_pos (by simp), abuild_nil az39]
    refine puts n2.self rfl rfl (splice_all rfl) (by decide) ?_
    intro h5 u5
    refine get_all u5.self rfl ?_
    exact Ret.pure (o2.upd (by omega) u5) (by simp [AV.und, belows, En.below]) ⟨rfl, rfl⟩
  | some e =>
    rw [if_neg (by simp)]
    refine ⟨rfl, fa (ia hi (fa (get_en t2 hi ?_)))⟩
    rw [(h4 e hg).2]
    refine puts n2.self rfl rfl (splice_all rfl) (by decide) ?_
    intro h5 u5
    refine get_all u5.self rfl ?_
    exact Ret.pure (o2.upd (by omega) u5) (by simp [AV.und, belows, En.below]) ⟨rfl, rfl⟩

theorem c29 {H : List UInt8 → Fl → Int} (hH : HashC H) (S : SortC) {h : AHeap} {id : Nat} {t : Tb} {l : List En} (f : Fl) (ht : TabAt h id t) (I : TI H t l) (hl : l.length < 128) :
    ACalls Try.prog 29 [.ptr id 0 0, .agg f.cs] h fun v h' => v = .bool (getE f l).isSome ∧ Holds H h id (dropE f l) h' := by
  apply T29_calls
  unfold T29
  refine box rfl ?_
  intro h1 n1
  have t1 := ht.old n1.old
  refine get_all n1.self rfl ?_
  refine acall_q (by kernel_rfl) (c26 hH f t1) ?_
  obtain ⟨i, hi, h3, h4, _⟩ := I.find hl f
  rw [h3]
  refine ext rfl (ext rfl ?_)
  rw [aif_bool]
  cases hg : getE f l with
  | none =>
    rw [if_neg (by simp)]
    refine Ret.pure n1.old (by simp [AV.und]) ⟨rfl, t, ?_, (AHeap.set_self ht.get).symm⟩
    rw [dropE_self (getE_none.1 hg)]; exact I
  | some e =>
    rw [if_pos (by simp)]
    obtain ⟨h5, h6⟩ := h4 e hg
    refine acall_of' (by kernel_rfl) ((c46 hH S t1 I hl hi h5).mono ?_)
    rintro _ h7 ⟨_, t7, I7, rfl⟩
    rw [h6, (getE_mem hg).2] at I7
    exact Ret.mod (o := .cells 0 t7.cs) (n1.old.x id).set ht.lt (by simp) (Tb.und _ _) (by simp [AV.und]) ⟨rfl, t7, I7, rfl⟩
end Go.Own.Try

namespace Go.Own.Try
open Go.Own Go.Proofs
set_option maxRecDepth 20000

theorem Holds.same {H : List UInt8 → Fl → Int} {h : AHeap} {id : Nat} {t : Tb} {l : List En} (ht : TabAt h id t) (I : TI H t l) : Holds H h id l h := ⟨t, I, (AHeap.set_self ht.get).symm⟩
theorem TI.many_ge {H : List UInt8 → Fl → Int} {t : Tb} {l : List En} (I : TI H t l) : decide (t.many ≥ 64) = decide (64 ≤ l.length) := by rw [I.many]; simp; omega

theorem c19 {H : List UInt8 → Fl → Int} (hH : HashC H) {h : AHeap} {id : Nat} {t : Tb} {l : List En} (f : Fl) (b flags now : Int) (ht : TabAt h id t) (I : TI H t l) (hl : l.length < 128) :
    ACalls Try.prog 19 [.ptr id 0 0, .agg f.cs, .int .i64 b, .int .i64 flags, .int .i64 now] h fun v h' => v = .int .i64 (openR l ⟨f, b, 0, 0⟩ flags now).2 ∧ Holds H h id (openR l ⟨f, b, 0, 0⟩ flags now).1 h' := by
  apply T19_calls
  unfold T19
  refine box rfl ?_
  intro h1 n1
  have t1 := ht.old n1.old
  have o1 := n1.old
  have hne : h.next ≠ id := by have := ht.lt; omega
  refine get_all n1.self rfl ?_
  refine acall_q (by kernel_rfl) (c26 hH f t1) ?_
  obtain ⟨i, hi, h3, h4, h5⟩ := I.find hl f
  rw [h3]
  refine ext rfl (ext rfl ?_)
  have same : ∀ {n : Int}, openR l ⟨f, b, 0, 0⟩ flags now = (l, n) → Ret h (.int .i64 n) h1 fun v h' => v = .int .i64 (openR l ⟨f, b, 0, 0⟩ flags now).2 ∧ Holds H h id (openR l ⟨f, b, 0, 0⟩ flags now).1 h' := by
    intro n hR
    rw [hR]
    exact Ret.pure o1 (by simp [AV.und]) ⟨rfl, Holds.same ht I⟩
  refine acall_q (by kernel_rfl) (c33 b h1) ?_
  refine some1_of (v := .bool !(decide (0 ≤ b) && decide (b < 16))) rfl ?_
  rw [agrd_bool]
  split
  rotate_left
  · rename_i hw
    refine same ?_
    unfold openR
    rw [if_pos]
    simp at hw ⊢; omega
  rename_i hw1
  refine acall_q (by kernel_rfl) (c34 now h1) ?_
  refine some1_of (v := .bool !(decide (0 ≤ now) && decide (now ≤ 1099511626776))) rfl ?_
  rw [aif_bool]
  split
  · rename_i hw
    refine same ?_
    unfold openR
    rw [if_pos]
    simp at hw ⊢; omega
  rename_i hw2
  have hw : ¬ wrongB b now = true := by simp at hw1 hw2 ⊢; omega
  refine some1_of (v := .bool !(getE f l).isSome) rfl ?_
  by_cases hfull : (getE f l).isNone ∧ 64 ≤ l.length
  · have hR : openR l ⟨f, b, 0, 0⟩ flags now = (l, 100) := by unfold openR; rw [if_neg hw, if_pos hfull]
    rw [agrd_bool, if_pos (by have := hfull.1; simp at this ⊢; exact this)]
    refine ⟨rfl, fa (get_many t1 ?_)⟩
    refine abin_i (by decide) rfl ?_
    rw [aif_bool, if_pos (by rw [I.many_ge]; simpa using hfull.2)]
    exact same hR
  have hR : openR l ⟨f, b, 0, 0⟩ flags now = (withE ⟨f, b, if f.proto = 6 then stepI 1 flags else 4, w64 (now + lifeI (if f.proto = 6 then stepI 1 flags else 4))⟩ l, 0) := by
    unfold openR; rw [if_neg hw, if_neg hfull]; rfl
  rw [hR]
  rw [agrd_bool]
  split
  case' isTrue =>
    rename_i hc
    refine ⟨rfl, fa (get_many t1 ?_)⟩
    refine abin_i (by decide) rfl ?_
    rw [aif_bool, if_neg (by rw [I.many_ge]; intro hx; exact hfull ⟨by simpa using hc, by simpa using hx⟩)]
  all_goals
    refine joined (fun fr hj => hj = h1 ∧ fr 0 = .ptr id 0 0 ∧ fr 2 = .int .i64 b ∧ fr 4 = .int .i64 now ∧ fr 6 = .ptr h.next 0 0 ∧ fr 11 = .int .i64 i ∧ fr 13 = .int .i64 (if f.proto = 6 then stepI 1 flags else 4)) ?_ ?_
    · rintro fr hj ⟨hh, f0, f2, f4, f6, f11, f13⟩
      obtain rfl := hh.symm
      rw [f0, f2, f4, f6, f11, f13]
      refine get_all n1.self rfl ?_
      refine aqcall_of (c21 _ _) ?_
      refine abin_i (by decide) rfl ?_
      refine build az39 (cs := En.cs ⟨f, b, if f.proto = 6 then stepI 1 flags else 4, w64 (now + lifeI (if f.proto = 6 then stepI 1 flags else 4))⟩) rfl ?_
      refine acall_of' (by kernel_rfl) ((c36 _ t1 hi).mono ?_)
      rintro _ h7 ⟨rfl, rfl⟩
      refine Ret.mod (o := .cells 0 (layT t i _).cs) (o1.x id).set ht.lt (by simp) (Tb.und _ _) (by simp [AV.und]) ⟨rfl, _, h5 _ rfl, rfl⟩
    · intro K hK
      refine fa (get_at n1.self rfl ?_)
      refine abin_i (by decide) rfl ?_
      rw [aif_bool]
      split
      · rename_i hp
        have hp : f.proto = 6 := by simpa using hp
        refine acall_q (by kernel_rfl) (c35 1 flags h1) ?_
        exact hK ⟨rfl, by simp, by simp, by simp, by simp, by simp, by simp [hp]⟩
      · rename_i hp
        have hp : ¬ f.proto = 6 := by simpa using hp
        exact hK ⟨rfl, by simp, by simp, by simp, by simp, by simp, by simp [hp]⟩

theorem c20 {H : List UInt8 → Fl → Int} (hH : HashC H) {h : AHeap} {id : Nat} {t : Tb} {l : List En} (f : Fl) (flags now : Int) (ht : TabAt h id t) (I : TI H t l) (hl : l.length < 128) :
    ACalls Try.prog 20 [.ptr id 0 0, .agg f.cs, .int .i64 flags, .int .i64 now] h fun v h' => v = .tuple [.agg (seeR l f flags now).2.1.cs, .bool (seeR l f flags now).2.2] ∧ Holds H h id (seeR l f flags now).1 h' := by
  apply T20_calls
  unfold T20
  refine box rfl ?_
  intro h1 n1
  refine var az39 ?_
  intro h2 n2
  have x1 := n1.next
  have x2 := n2.next
  have lt := ht.lt
  have g5 : h2.get h.next = some (.cells 0 f.cs) := by rw [n2.other _ (by omega)]; exact n1.self
  have o2 := n1.old.trans n2.old
  have t2 := ht.old o2
  refine get_all g5 rfl ?_
  refine acall_q (by kernel_rfl) (c26 hH f t2) ?_
  obtain ⟨i, hi, h3, h4, h5⟩ := I.find hl f
  rw [h3]
  refine ext rfl (ext rfl ?_)
  refine some1_of (v := .bool !(getE f l).isSome) rfl ?_
  have none_ : seeR l f flags now = (l, zeroE, false) → abuildP Try.prog 39 [] (fun v26 => some1 (astorev 8 (.ptr h1.next 0 0) v26 h2) fun h7 => some1 (aloadv true 8 (.ptr h1.next 0 0) h7) fun w => Ret h (.tuple [w, .bool false]) h7
      fun v h' => v = .tuple [.agg (seeR l f flags now).2.1.cs, .bool (seeR l f flags now).2.2] ∧ Holds H h id (seeR l f flags now).1 h') := by
    intro hR
    rw [abuild_nil az39]
    refine puts n2.self rfl rfl (splice_all rfl) (by decide) ?_
    intro h7 u7
    refine get_all u7.self rfl ?_
    rw [hR]
    exact Ret.pure (o2.upd (by omega) u7) (by simp [AV.und, belows, En.below]) ⟨rfl, Holds.same ht I⟩
  rw [agrd_bool]
  cases hg : getE f l with
  | none =>
    rw [if_neg (by simp)]
    exact none_ (by unfold seeR; rw [hg])
  | some e =>
    rw [if_pos (by simp)]
    refine acall_q (by kernel_rfl) (c34 now h2) ?_
    refine some1_of (v := .bool !(decide (0 ≤ now) && decide (now ≤ 1099511626776))) rfl ?_
    rw [aif_bool]
    split
    · rename_i hw
      refine none_ ?_
      unfold seeR; rw [hg]
      refine if_pos ?_
      simp at hw ⊢; omega
    · rename_i hw
      have hw' : ¬ wrongB 0 now = true := by simp at hw ⊢; omega
      have hR : seeR l f flags now = (withE { e with state := stepI e.state flags, ends := w64 (now + lifeI (stepI e.state flags)) } l, { e with state := stepI e.state flags, ends := w64 (now + lifeI (stepI e.state flags)) }, true) := by
        unfold seeR; rw [hg]; exact if_neg hw'
      rw [hR]
      obtain ⟨h6, h7⟩ := h4 e hg
      refine ⟨rfl, fa (ia hi (fa (get_en t2 hi ?_)))⟩
      rw [h7]
      refine var az39 ?_
      intro h8 n8
      have x8 := n8.next
      refine puts n8.self rfl rfl (splice_all rfl) (by decide) ?_
      intro h9 u9
      refine fa (get_at u9.self rfl ?_)
      refine acall_q (by kernel_rfl) (c35 _ flags h9) ?_
      refine fa (put u9.self rfl rfl (cs' := En.cs { e with state := stepI e.state flags }) rfl (by simp [En.cs]) ?_)
      intro h10 u10
      refine fa (get_at u10.self rfl ?_)
      refine acall_q (by kernel_rfl) (c21 _ h10) ?_
      refine abin_i (by decide) rfl ?_
      refine fa (put u10.self rfl rfl (cs' := En.cs { e with state := stepI e.state flags, ends := w64 (now + lifeI (stepI e.state flags)) }) rfl (by simp [En.cs]) ?_)
      intro h11 u11
      refine get_all u11.self rfl ?_
      have o11 : Old h h11 := (((o2.trans n8.old).upd (by omega) u9).upd (by omega) u10).upd (by omega) u11
      have t11 := ht.old o11
      refine acall_of' (by kernel_rfl) ((c36 _ t11 hi).mono ?_)
      rintro _ h12 ⟨rfl, rfl⟩
      have hne : h2.next ≠ id := by omega
      refine get_all (by rw [hset_get, if_neg hne]; exact u11.self) rfl ?_
      have g8 : h11.get h1.next = some (.cells 0 zeroE.cs) := by rw [u11.other _ (by omega), u10.other _ (by omega), u9.other _ (by omega), n8.other _ (by omega)]; exact n2.self
      refine puts (cs := zeroE.cs) (by rw [hset_get, if_neg (by omega)]; exact g8) rfl rfl (splice_all rfl) (by decide) ?_
      intro h13 u13
      refine get_all u13.self rfl ?_
      refine Ret.mod (o := .cells 0 (layT t i _).cs) ((o11.x id).set.upd (.inl (by omega)) u13) ht.lt (by rw [u13.other _ (by omega)]; simp) (Tb.und _ _) (by simp [AV.und, belows, En.below]) ⟨rfl, _, h5 { e with state := stepI e.state flags, ends := w64 (now + lifeI (stepI e.state flags)) } (getE_mem hg).2, rfl⟩
end Go.Own.Try

namespace Go.Own.Try
open Go.Own Go.Proofs
set_option maxRecDepth 20000

theorem c8 {h : AHeap} {key : List UInt8} (hk : key.length = 16) : ACalls Try.prog 8 [.agg (ofBytes key)] h fun v h' => ∃ id, v = .ptr id 0 0 ∧ h.next ≤ id ∧ TabAt h' id (emptyT key) ∧ Old h h' := by
  apply T8_calls
  unfold T8
  refine box rfl ?_
  intro h1 n1
  have hl : (ofBytes key).length = 16 := by rw [ofBytes_length, hk]
  refine get_all n1.self hl ?_
  refine build az61 (cs := (emptyT key).cs) ?_ ?_
  · simp only [afill, AV.cells?]
    have hz : (Tb.cs ⟨List.replicate 16 0, List.replicate 128 ⟨0, zeroE⟩, 0, 0⟩) = ofBytes (List.replicate 16 0) ++ ((List.replicate 128 (⟨0, zeroE⟩ : Pl)).flatMap Pl.cs ++ [.int .i64 0, .int .i64 0]) := rfl
    have h16 : (ofBytes (List.replicate 16 0)).length = 16 := by rw [ofBytes_length]; rfl
    rw [if_pos ⟨hl, by rw [hz, List.length_append, h16]; omega⟩, hz]
    have := splice_left (A := ofBytes (List.replicate 16 0)) (B := (List.replicate 128 (⟨0, zeroE⟩ : Pl)).flatMap Pl.cs ++ [.int .i64 0, .int .i64 0]) (vs := ofBytes key) (o := 0) (by omega)
    rw [this, splice_all (by rw [hl, h16])]
    rfl
  · refine box rfl ?_
    intro h2 n2
    have x1 := n1.next
    have x2 := n2.next
    exact Ret.now ⟨h1.next, rfl, by omega, ⟨by omega, n2.self, ⟨hk, by simp [emptyT]⟩⟩, n1.old.trans n2.old⟩

theorem life_zero {s : Int} : lifeI s = 0 ↔ s < 1 ∨ s > 4 := by
  unfold lifeI
  repeat' split
  all_goals omega

theorem c28 {H : List UInt8 → Fl → Int} (hH : HashC H) (S : SortC) {h : AHeap} {id : Nat} {t : Tb} {l : List En} (e : En) (now : Int) (ht : TabAt h id t) (I : TI H t l) (hl : l.length < 128) :
    ACalls Try.prog 28 [.ptr id 0 0, .agg e.cs, .int .i64 now] h fun v h' => v = .int .i64 (putR l e now).2 ∧ Holds H h id (putR l e now).1 h' := by
  apply T28_calls
  unfold T28
  refine box rfl ?_
  intro h1 n1
  have t1 := ht.old n1.old
  have o1 := n1.old
  have g4 := n1.self
  refine fa (get_part g4 (by simp [En.cs]) (vs := e.flow.cs) rfl ?_)
  refine acall_q (by kernel_rfl) (c26 hH e.flow t1) ?_
  obtain ⟨i, hi, h3, h4, h5⟩ := I.find hl e.flow
  rw [h3]
  refine ext rfl (ext rfl ?_)
  have same : ∀ {n : Int}, putR l e now = (l, n) → Ret h (.int .i64 n) h1 fun v h' => v = .int .i64 (putR l e now).2 ∧ Holds H h id (putR l e now).1 h' := by
    intro n hR
    rw [hR]
    exact Ret.pure o1 (by simp [AV.und]) ⟨rfl, Holds.same ht I⟩
  have bad : (wrongB e.backend now ∨ e.state < 1 ∨ e.state > 4 ∨ e.ends < 0 ∨ e.ends > 1099511627776) → putR l e now = (l, 1) := fun hw => by unfold putR; rw [if_pos hw]
  refine fa (get_at g4 rfl ?_)
  refine acall_q (by kernel_rfl) (c33 e.backend h1) ?_
  refine some1_of (v := .bool !(decide (0 ≤ e.backend) && decide (e.backend < 16))) rfl ?_
  rw [agrd_bool]
  split
  rotate_left
  · rename_i hw
    exact same (bad (.inl (by simp at hw ⊢; omega)))
  rename_i w1
  refine fa (get_at g4 rfl ?_)
  refine acall_q (by kernel_rfl) (c21 e.state h1) ?_
  refine abin_i (by decide) rfl ?_
  rw [agrd_bool]
  split
  rotate_left
  · rename_i hw
    have := (life_zero (s := e.state)).1 (by simpa using hw)
    exact same (bad (.inr (by omega)))
  rename_i w2
  have w2 : ¬ (e.state < 1 ∨ e.state > 4) := fun hx => by have := life_zero.2 hx; simp [this] at w2
  refine fa (get_at g4 rfl ?_)
  refine abin_i (by decide) rfl ?_
  rw [agrd_bool]
  split
  rotate_left
  · rename_i hw
    exact same (bad (.inr (.inr (.inr (.inl (by simpa using hw))))))
  rename_i w3
  refine fa (get_at g4 rfl ?_)
  refine abin_i (by decide) rfl ?_
  rw [agrd_bool]
  split
  rotate_left
  · rename_i hw
    exact same (bad (.inr (.inr (.inr (.inr (by simpa using hw))))))
  rename_i w4
  refine acall_q (by kernel_rfl) (c34 now h1) ?_
  refine some1_of (v := .bool !(decide (0 ≤ now) && decide (now ≤ 1099511626776))) rfl ?_
  rw [aif_bool]
  split
  · rename_i hw
    exact same (bad (.inl (by simp at hw ⊢; omega)))
  rename_i w5
  have hgood : ¬ (wrongB e.backend now ∨ e.state < 1 ∨ e.state > 4 ∨ e.ends < 0 ∨ e.ends > 1099511627776) := by simp at *; omega
  refine some1_of (v := .bool !(getE e.flow l).isSome) rfl ?_
  by_cases hfull : (getE e.flow l).isNone ∧ 64 ≤ l.length
  · have hR : putR l e now = (l, 100) := by unfold putR; rw [if_neg hgood, if_pos hfull]
    rw [agrd_bool, if_pos (by have := hfull.1; simp at this ⊢; exact this)]
    refine ⟨rfl, fa (get_many t1 ?_)⟩
    refine abin_i (by decide) rfl ?_
    rw [aif_bool, if_pos (by rw [I.many_ge]; simpa using hfull.2)]
    exact same hR
  rw [agrd_bool]
  split
  case' isTrue =>
    rename_i hc
    refine ⟨rfl, fa (get_many t1 ?_)⟩
    refine abin_i (by decide) rfl ?_
    rw [aif_bool, if_neg (by rw [I.many_ge]; intro hx; exact hfull ⟨by simpa using hc, by simpa using hx⟩)]
  all_goals
    refine fa (get_at g4 rfl ?_)
    refine abin_i (by decide) rfl ?_
    rw [aif_bool]
    split
    · rename_i hn
      have hR : putR l e now = (dropE e.flow l, 101) := by unfold putR; rw [if_neg hgood, if_neg hfull, if_pos (by simpa using hn)]
      rw [hR, aif_bool]
      cases hg : getE e.flow l with
      | none =>
        rw [if_neg (by simp)]
        refine Ret.pure o1 (by simp [AV.und]) ⟨rfl, ?_⟩
        show Holds H h id (dropE e.flow l) h
        rw [dropE_self (getE_none.1 hg)]
        exact Holds.same ht I
      | some e0 =>
        rw [if_pos (by simp)]
        obtain ⟨h6, h7⟩ := h4 e0 hg
        refine acall_of' (by kernel_rfl) ((c46 hH S t1 I hl hi h6).mono ?_)
        rintro _ h8 ⟨_, t8, I8, rfl⟩
        rw [h7, (getE_mem hg).2] at I8
        exact Ret.mod (o := .cells 0 t8.cs) (o1.x id).set ht.lt (by simp) (Tb.und _ _) (by simp [AV.und]) ⟨rfl, t8, I8, rfl⟩
    · rename_i hn
      have hR : putR l e now = (withE e l, 0) := by unfold putR; rw [if_neg hgood, if_neg hfull, if_neg (by simpa using hn)]
      rw [hR]
      refine get_all g4 rfl ?_
      refine acall_of' (by kernel_rfl) ((c36 _ t1 hi).mono ?_)
      rintro _ h7 ⟨rfl, rfl⟩
      exact Ret.mod (o := .cells 0 (layT t i _).cs) (o1.x id).set ht.lt (by simp) (Tb.und _ _) (by simp [AV.und]) ⟨rfl, _, h5 _ rfl, rfl⟩
end Go.Own.Try

namespace Go.Own.Try
open Go.Own Go.Proofs
set_option maxRecDepth 20000

theorem il_true (e : En) : ∀ (l : List En), il e true l = l
  | [] => by simp [il]
  | x :: r => by simp [il, il_true e r]
theorem il_perm (e : En) : ∀ (l : List En), (il e false l).Perm (e :: l)
  | [] => by simp [il]
  | x :: r => by
    unfold il
    split
    · rw [il_true]
    · exact (List.Perm.cons x (il_perm e r)).trans (List.Perm.swap _ _ _)
theorem il_sorted {e : En} : ∀ {l : List En}, l.Pairwise AheadE → (∀ x ∈ l, Ahead x.flow e.flow) → (il e false l).Pairwise AheadE
  | [], _, _ => by simp [il]
  | x :: r, hp, ha => by
    rw [List.pairwise_cons] at hp
    unfold il
    split
    · rename_i hgt
      have hgt : e.ends < x.ends := by simpa using hgt
      rw [il_true]
      refine List.pairwise_cons.2 ⟨fun y hy => .inl ?_, List.pairwise_cons.2 hp⟩
      rcases List.mem_cons.1 hy with rfl | hy
      · exact hgt
      · rcases hp.1 y hy with h | h <;> omega
    · rename_i hgt
      have hgt : ¬ e.ends < x.ends := by simpa using hgt
      refine List.pairwise_cons.2 ⟨fun y hy => ?_, il_sorted hp.2 fun y hy => ha y (by simp [hy])⟩
      rcases List.mem_cons.1 ((il_perm e r).mem_iff.1 hy) with rfl | hy
      · have := ha x (by simp)
        rcases Int.lt_or_eq_of_le (Int.not_lt.1 hgt) with h | h
        · exact .inl h
        · exact .inr ⟨h, this⟩
      · exact hp.1 y hy
def Srt (l : List En) : Prop := l.Pairwise (fun a b => Ahead a.flow b.flow)
theorem exO_spec (now : Int) : ∀ {l out : List En}, Srt l → out.Pairwise AheadE → (∀ x ∈ out, ∀ y ∈ l, Ahead x.flow y.flow) → (exO now out l).Pairwise AheadE ∧ (exO now out l).Perm (out ++ l.filter fun e => decide (e.ends ≤ now))
  | [], out, _, ho, _ => ⟨ho, by simp [exO]⟩
  | e :: r, out, hl, ho, ha => by
    unfold Srt at hl
    rw [List.pairwise_cons] at hl
    unfold exO
    split
    · rename_i hgt
      obtain ⟨h1, h2⟩ := exO_spec now (l := r) (out := out) hl.2 ho fun x hx y hy => ha x hx y (by simp [hy])
      refine ⟨h1, ?_⟩
      rw [List.filter_cons, if_neg (by simp; omega)]; exact h2
    · rename_i hgt
      obtain ⟨h1, h2⟩ := exO_spec now (l := r) (out := il e false out) hl.2 (il_sorted ho fun x hx => ha x hx e (by simp)) (by
        intro x hx y hy
        rcases List.mem_cons.1 ((il_perm e out).mem_iff.1 hx) with rfl | hx
        · exact hl.1 y hy
        · exact ha x hx y (by simp [hy]))
      refine ⟨h1, h2.trans ?_⟩
      rw [List.filter_cons, if_pos (by simp; omega)]
      exact ((il_perm e out).append_right _).trans List.perm_middle.symm
theorem Srt.dist {l : List En} (h : Srt l) : l.Pairwise (fun a b => a.flow ≠ b.flow) := by
  refine List.Pairwise.imp ?_ h
  intro a b hab e
  rw [e] at hab
  exact ahead_irrefl _ hab
theorem flow_eq {s : List En} (hd : s.Pairwise (fun a b => a.flow ≠ b.flow)) {a b : En} (ha : a ∈ s) (hb : b ∈ s) (h : a.flow = b.flow) : a = b := by
  induction s with
  | nil => cases ha
  | cons x r ih =>
    rw [List.pairwise_cons] at hd
    rcases List.mem_cons.1 ha with ha' | ha'
    · rcases List.mem_cons.1 hb with hb' | hb'
      · rw [ha', hb']
      · exact absurd h (ha' ▸ hd.1 b hb')
    · rcases List.mem_cons.1 hb with hb' | hb'
      · exact absurd h.symm (hb' ▸ hd.1 a ha')
      · exact ih hd.2 ha' hb'
/-- The only sorted row of the same entries. -/
theorem srt_unique {l l' : List En} (hl : Srt l) (hp : l'.Perm l) (hs : l'.Pairwise (fun a b => ¬ Ahead b.flow a.flow)) : l' = l := by
  refine List.Perm.eq_of_pairwise (le := fun a b => ¬ Ahead b.flow a.flow) ?_ hs (hl.imp fun hab hba => ahead_irrefl _ (ahead_trans hab hba)) hp
  intro a b ha hb h1 h2
  by_cases he : a.flow = b.flow
  · exact flow_eq hl.dist (hp.mem_iff.1 ha) hb he
  · rcases ahead_total he with h | h
    · exact absurd h h2
    · exact absurd h h1
theorem exO_unique {l L : List En} {now : Int} (hl : Srt l) (hp : L.Perm (l.filter fun e => decide (e.ends ≤ now))) (hs : L.Pairwise (fun a b => ¬ AheadE b a)) : L = exO now [] l := by
  obtain ⟨h1, h2⟩ := exO_spec now (out := []) hl .nil (by simp)
  rw [List.nil_append] at h2
  refine List.Perm.eq_of_pairwise (le := fun a b => ¬ AheadE b a) ?_ hs (h1.imp fun hab hba => aheadE_irrefl _ (aheadE_trans hab hba)) (hp.trans h2.symm)
  intro a b ha hb h3 h4
  have ha' := (List.mem_filter.1 (hp.mem_iff.1 ha)).1
  have hb' := (List.mem_filter.1 (h2.mem_iff.1 hb)).1
  have he : a.flow = b.flow := by
    by_cases he : a.flow = b.flow
    · exact he
    · exfalso
      simp only [AheadE, not_or, not_and] at h3 h4
      have : a.ends = b.ends := by omega
      rcases ahead_total he with h | h
      · exact h4.2 this h
      · exact h3.2 this.symm h
  exact flow_eq hl.dist ha' hb' he
theorem fold_drop : ∀ (L l : List En), L.foldl (fun l e => dropE e.flow l) l = l.filter fun x => L.all fun e => !decide (x.flow = e.flow)
  | [], l => by
    simp only [List.foldl_nil, List.all_nil]
    exact (List.filter_eq_self.2 (by simp)).symm
  | e :: L, l => by
    rw [List.foldl_cons, fold_drop L]
    simp only [dropE, List.filter_filter, List.all_cons]
    congr 1; funext x; rw [Bool.and_comm]
theorem fold_exL {l L : List En} {now : Int} (hl : Srt l) (hp : L.Perm (l.filter fun e => decide (e.ends ≤ now))) : L.foldl (fun l e => dropE e.flow l) l = exL now l := by
  rw [fold_drop]
  unfold exL
  refine List.filter_congr fun x hx => ?_
  rw [Bool.eq_iff_iff, List.all_eq_true, decide_eq_true_eq]
  constructor
  · intro h
    by_cases hc : x.ends > now
    · exact hc
    · have := h x (hp.mem_iff.2 (List.mem_filter.2 ⟨hx, by simp; omega⟩))
      simp at this
  · intro h e he
    obtain ⟨h1, h2⟩ := List.mem_filter.1 (hp.mem_iff.1 he)
    simp only [Bool.not_eq_true', decide_eq_false_iff_not]
    intro hf
    have := flow_eq hl.dist hx h1 hf
    subst this
    simp at h2; omega

/-- A list is returned, and one object was written. -/
theorem Ret.listmod {h0 h : AHeap} {id n : Nat} {o : AObj} {v : AV} {cs : List AV} {Q : AV → AHeap → Prop} (ho : OldX h0 id h) (hid : id < h0.next) (hg : h.get id = some o) (hbo : o.und h0.next) (hb : Bd h0 h 8 v cs n) (hbl : belows h0.next cs)
    (hq : ∀ v', Ls 8 v' cs n → Q v' (h0.set id o)) : Ret h0 v h Q := by
  cases hb with
  | nils => exact Ret.mod ho hid hg hbo (by simp only [AV.und]) (hq _ .nils)
  | @sl i r n cs h1 h2 h3 h4 =>
    refine .via (Weak.freeze h3) ?_
    have : (AV.sl i r 0 n 8).fz i r cs = .lst cs n := by
      simp only [AV.fz, true_and]
      rw [if_pos (by omega), List.drop_zero, List.take_of_length_le (by omega)]
    rw [this]
    refine Ret.mod ⟨ho.next, fun j hj hn => ?_⟩ hid (by rw [AHeap.get_drop, if_neg (by omega)]; exact hg) hbo (by simpa only [AV.und] using hbl) (hq _ (.lst h4))
    rw [AHeap.get_drop, if_neg (by omega)]; exact ho.get j hj hn

def gone (now : Int) (pl : List Pl) : List En := (used pl).filter fun e => decide (e.ends ≤ now)
theorem gone_cons (now : Int) (p : Pl) (r : List Pl) : gone now (p :: r) = if p.is = 1 ∧ p.e.ends ≤ now then p.e :: gone now r else gone now r := by
  unfold gone
  rw [used_cons]
  by_cases h1 : p.is = 1
  · rw [if_pos h1, List.filter_cons]
    by_cases h2 : p.e.ends ≤ now
    · rw [if_pos (by simpa using h2), if_pos ⟨h1, h2⟩]
    · rw [if_neg (by simpa using h2), if_neg (fun h => h2 h.2)]
  · rw [if_neg h1, if_neg (fun h => h1 h.1)]

theorem c18 {H : List UInt8 → Fl → Int} (hH : HashC H) (S : SortC) {h : AHeap} {id : Nat} {t : Tb} {l : List En} (now : Int) (ht : TabAt h id t) (I : TI H t l) (hl : l.length < 128) (hsrt : Srt l) :
    ACalls Try.prog 18 [.ptr id 0 0, .int .i64 now] h fun v h' => ELs v (exO now [] l) ∧ Holds H h id (exL now l) h' := by
  apply T18_calls
  unfold T18
  have hkl := ht.ok.len
  have hid := ht.lt
  refine ⟨rfl, fa (get_part (vs := t.pl.flatMap Pl.cs) ht.get (by omega) (by have := ht.ok.get_places; simpa using this) ?_)⟩
  refine aloop (fun m fr hc => Old h hc ∧ fr 0 = .ptr id 0 0 ∧ fr 1 = .int .i64 now ∧ fr 13 = .agg (t.pl.flatMap Pl.cs) ∧ ∃ (i : Nat) (out : List En), fr 14 = .int .i64 i ∧ m + i = 128 ∧ Bd h hc 8 (fr 5) (ens out) out.length ∧ out.length ≤ i ∧ out ++ gone now (t.pl.drop i) = gone now t.pl) 128
    ⟨Old.refl _, by simp, by simp, by simp, 0, [], by simp, by omega, by simp; exact .nils, by simp, by simp⟩ ?_
  rintro J hJ m fr hc ⟨ho, f0, f1, f13, i, out, f14, hm, hb, hle, hd⟩
  rw [f13, f14, f1]
  refine abin_i (by decide) rfl ?_
  rw [aif_bool]
  split
  · rename_i hi
    have hi' : i < 128 := by simp at hi; omega
    have hip : i < t.pl.length := by rw [ht.ok.pl]; exact hi'
    refine some1_of (at_pl ht.ok.pl hi') ?_
    rw [List.drop_eq_getElem_cons hip, gone_cons] at hd
    generalize t.pl[i] = p at *
    refine var az58 ?_
    intro h2 n2
    refine puts n2.self rfl rfl (splice_all rfl) (by decide) ?_
    intro h3 u3
    have o3 : Old hc h3 := n2.old.upd (Nat.le_refl _) u3
    have b3 : Bd h h3 8 (fr 5) (ens out) out.length := hb.frame o3.next fun j _ hj _ _ _ => o3.get j hj
    refine fa (get_at u3.self rfl ?_)
    refine abin_i (by decide) rfl ?_
    rw [agrd_bool]
    split
    · rename_i hu
      have hu : p.is = 1 := by simpa using hu
      refine fa (fa (get_at u3.self rfl ?_))
      refine abin_i (by decide) rfl ?_
      rw [aif_bool]
      split
      · rename_i hn
        rw [if_pos ⟨hu, by simpa using hn⟩] at hd
        refine fa (get_part u3.self (by simp [Pl.cs]) (vs := p.e.cs) rfl ?_)
        refine app_en' b3 (ho.trans o3) (by omega) ?_
        intro v' h' b1 o1 _ _
        refine abin_i (by decide) rfl ?_
        refine hJ (m - 1) (by omega) ⟨o1, by simp [f0], by simp [f1], by simp [f13], i + 1, out ++ [p.e], ?_, by omega, by simpa using b1, by simp; omega, by simpa using hd⟩
        simp; rw [i64_id (by omega) (by omega)]
      · rename_i hn
        rw [if_neg (fun hx => hn (by simpa using hx.2))] at hd
        refine abin_i (by decide) rfl ?_
        refine hJ (m - 1) (by omega) ⟨ho.trans o3, by simp [f0], by simp [f1], by simp [f13], i + 1, out, ?_, by omega, by simpa using b3, by omega, hd⟩
        simp; rw [i64_id (by omega) (by omega)]
    · rename_i hu
      rw [if_neg (fun hx => hu (by simpa using hx.1))] at hd
      refine abin_i (by decide) rfl ?_
      refine hJ (m - 1) (by omega) ⟨ho.trans o3, by simp [f0], by simp [f1], by simp [f13], i + 1, out, ?_, by omega, by simpa using b3, by omega, hd⟩
      simp; rw [i64_id (by omega) (by omega)]
  · rename_i hi
    have : i = 128 := by simp at hi; omega
    subst this
    have hout : out = gone now t.pl := by
      rw [List.drop_eq_nil_of_le (by rw [ht.ok.pl]; omega)] at hd
      simpa [gone, used] using hd
    subst hout
    refine acall_of' (by kernel_rfl) ((sort_bd S (by kernel_rfl) c30 swoE hb ho (by omega)).mono ?_)
    rintro _ h4 ⟨L, p1, p2, b4, o4⟩
    have hpL : L.Perm (l.filter fun e => decide (e.ends ≤ now)) := p1.trans (I.perm.filter _)
    have hL : L = exO now [] l := exO_unique hsrt hpL (p2.imp fun hab hx => hab (by have := ltE_iff.2 hx; simpa [ltE] using this))
    have hfold := fold_exL hsrt hpL
    have hLl : L.length ≤ l.length := by rw [hpL.length_eq]; exact List.length_filter_le _ _
    refine some1_of b4.rd.len ?_
    refine aloop (fun m fr2 hc2 => OldX h id hc2 ∧ fr2 0 = .ptr id 0 0 ∧ fr2 35 = fr 5 ∧ fr2 5 = fr 5 ∧ fr2 36 = .int .i64 L.length ∧ Bd h hc2 8 (fr 5) (ens L) L.length ∧ ∃ (j : Nat) (tj : Tb), fr2 37 = .int .i64 j ∧ m + j = L.length ∧ TabAt hc2 id tj ∧ TI H tj ((L.take j).foldl (fun l e => dropE e.flow l) l)) L.length
      ⟨o4.x id, by simp [f0], by simp, by simp, by simp, b4, 0, t, by simp, by omega, ht.old o4, by simpa using I⟩ ?_
    rintro J2 hJ2 m2 fr2 hc2 ⟨oc, g0, g35, g5, g36, bc, j, tj, g37, hm2, tc, Ij⟩
    rw [g0, g35, g5, g36, g37]
    refine abin_i (by decide) rfl ?_
    rw [aif_bool]
    split
    · rename_i hj
      have hj' : j < L.length := by simp at hj; omega
      obtain ⟨p, e1, e2, _⟩ := ERd.row bc.rd hj'
      have htk : L.take (j + 1) = L.take j ++ [L[j]] := by rw [List.take_succ_eq_append_getElem hj']
      rw [e1, some1_some, e2, some1_some]
      have hlj : ((L.take j).foldl (fun l e => dropE e.flow l) l).length < 128 := by
        rw [fold_drop]; exact Nat.lt_of_le_of_lt (List.length_filter_le _ _) hl
      generalize L[j] = e at *
      refine var az39 ?_
      intro h5 n5
      refine puts n5.self rfl rfl (splice_all rfl) (by decide) ?_
      intro h6 u6
      have o6 : Old hc2 h6 := n5.old.upd (Nat.le_refl _) u6
      refine fa (get_part u6.self (by simp [En.cs]) (vs := e.flow.cs) rfl ?_)
      refine acall_of' (by kernel_rfl) ((c29 hH S e.flow (tc.old o6) Ij hlj).mono ?_)
      rintro _ h7 ⟨_, t7, I7, rfl⟩
      refine abin_i (by decide) rfl ?_
      refine hJ2 (m2 - 1) (by omega) ⟨(oc.old o6).set, by simp [g0], by simp [g35], by simp [g5], by simp [g36], ?_, j + 1, t7, ?_, by omega, ⟨Nat.lt_of_lt_of_le tc.lt o6.next, by rw [hset_get, if_pos rfl], I7.ok⟩, ?_⟩
      · refine bc.frame (by simp; exact o6.next) fun k hk hk2 _ _ _ => ?_
        rw [hset_get, if_neg (by omega)]
        exact o6.get k hk2
      · simp; rw [i64_id (by omega) (by omega)]
      · rw [htk, List.foldl_append]; exact I7
    · rename_i hj
      have : j = L.length := by simp at hj; omega
      subst this
      rw [List.take_length, hfold] at Ij
      refine Ret.listmod (o := .cells 0 tj.cs) oc hid tc.get (Tb.und _ _) bc (ens_below _ _) fun v' hv => ⟨?_, tj, Ij, rfl⟩
      rw [← hL]; exact hv
end Go.Own.Try

namespace Go.Own.Try
open Go.Own Go.Proofs
set_option maxRecDepth 20000

theorem c16 {H : List UInt8 → Fl → Int} (hH : HashC H) (S : SortC) {h : AHeap} {id : Nat} {t : Tb} {l : List En} (o : Opn) (ht : TabAt h id t) (I : TI H t l) (hl : l.length < 128) (hsrt : Srt l) :
    ACalls Try.prog 16 [.ptr id 0 0, .agg o.cs] h fun v h' => AnsV v (doR l o).2 ∧ Holds H h id (doR l o).1 h' := by
  apply T16_calls
  unfold T16
  refine box rfl ?_
  intro h1 n1
  refine var az50 ?_
  intro h2 n2
  refine var az50 ?_
  intro h3 n3
  have x1 := n1.next
  have x2 := n2.next
  have x3 := n3.next
  have lt := ht.lt
  have o3 : Old h h3 := (n1.old.trans n2.old).trans n3.old
  have g3 : h3.get h.next = some (.cells 0 o.cs) := by rw [n3.other _ (by omega), n2.other _ (by omega)]; exact n1.self
  have g4 : h3.get h1.next = some (.cells 0 (ansC 0 zeroE .nils)) := by rw [n3.other _ (by omega)]; exact n2.self
  have g5 : h3.get h2.next = some (.cells 0 (ansC 0 zeroE .nils)) := n3.self
  have t3 := ht.old o3
  refine joined (fun fr hj => fr 4 = .ptr h1.next 0 0 ∧ fr 5 = .ptr h2.next 0 0 ∧ OldX h id hj ∧ hj.get h1.next = some (.cells 0 (ansC 0 zeroE .nils)) ∧ ∃ (is : Bool) (e : Int) (x : AV) (t' : Tb), fr 6 = .bool is ∧
    hj.get h2.next = some (.cells 0 (ansC e (doR l o).2.seen x)) ∧ (if is then e else 1) = (doR l o).2.e ∧ ELs x (doR l o).2.l ∧ hj.get id = some (.cells 0 t'.cs) ∧ TI H t' (doR l o).1) ?_ ?_
  · rintro fr hj ⟨f4, f5, oj, j4, is, e, x, t', f6, j5, he, hx, jt, I'⟩
    rw [f4, f5, f6]
    have hsx := hx.scalar
    have fin : ∀ {hx' : AHeap} {e' : Int}, OldX h id hx' → hx'.get h1.next = some (.cells 0 (ansC 0 zeroE .nils)) → hx'.get h2.next = some (.cells 0 (ansC e' (doR l o).2.seen x)) → e' = (doR l o).2.e → hx'.get id = some (.cells 0 t'.cs) →
        some1 (aloadv true 10 (.ptr h2.next 0 0) hx') fun v70 => some1 (astorev 10 (.ptr h1.next 0 0) v70 hx') fun h17 => some1 (aloadv true 10 (.ptr h1.next 0 0) h17) fun w => Ret h w h17 fun v h' => AnsV v (doR l o).2 ∧ Holds H h id (doR l o).1 h' := by
      intro hx' e' ox k4 k5 hee kt
      refine get_all k5 rfl ?_
      refine puts k4 rfl (by simp only [ansC, List.all_cons, List.all_nil, hsx]; rfl) (splice_all rfl) (by decide) ?_
      intro h7 u7
      refine get_all u7.self rfl ?_
      refine Ret.mod (o := .cells 0 t'.cs) (ox.upd (.inl (by omega)) u7) lt (by rw [u7.other _ (by omega)]; exact kt) (Tb.und _ _) (by simp [AV.und, belows, ansC, hx.below (ens_below _ _)]) ⟨⟨x, by rw [hee], hx⟩, t', I', rfl⟩
    refine some1_of (v := .bool !is) rfl ?_
    rw [aif_bool]
    cases is with
    | true =>
      rw [if_neg (by decide)]
      exact fin oj j4 j5 (by simpa using he) jt
    | false =>
      rw [if_pos (by decide)]
      refine fa (put j5 rfl rfl (cs' := ansC 1 (doR l o).2.seen x) rfl (by simp [ansC]) ?_)
      intro h6 u6
      exact fin (oj.upd (.inl (by omega)) u6) (by rw [u6.other _ (by omega)]; exact j4) u6.self (by simpa using he) (by rw [u6.other _ (by omega)]; exact jt)
  · intro K hK
    refine fa (get_at g3 rfl ?_)
    refine abin_i (by decide) rfl ?_
    rw [aif_bool]
    split
    · rename_i hk
      have hk : o.kind = 0 := by simpa using hk
      have hR : doR l o = ((openR l ⟨o.e.flow, o.e.backend, 0, 0⟩ o.flags o.now).1, ⟨(openR l ⟨o.e.flow, o.e.backend, 0, 0⟩ o.flags o.now).2, zeroE, []⟩) := by unfold doR; rw [if_pos hk]
      refine fa (fa (get_part g3 (by simp [Opn.cs]) (vs := o.e.flow.cs) rfl ?_))
      refine fa (fa (get_at g3 rfl (fa (get_at g3 rfl (fa (get_at g3 rfl ?_))))))
      refine acall_of' (by kernel_rfl) ((c19 hH o.e.flow o.e.backend o.flags o.now t3 I hl).mono ?_)
      rintro _ h4 ⟨rfl, t4, I4, rfl⟩
      refine fa (put (cs := ansC 0 zeroE .nils) (by rw [hset_get, if_neg (by omega)]; exact g5) rfl rfl (cs' := ansC (openR l ⟨o.e.flow, o.e.backend, 0, 0⟩ o.flags o.now).2 zeroE .nils) rfl (by decide) ?_)
      intro h5 u5
      refine hK ⟨by simp, by simp, (o3.x id).set.upd (.inl (by omega)) u5, by rw [u5.other _ (by omega), hset_get, if_neg (by omega)]; exact g4, true, _, .nils, t4, by simp, by rw [hR]; exact u5.self, by rw [hR]; rfl, by rw [hR]; exact .nils, by rw [u5.other _ (by omega)]; simp, by rw [hR]; exact I4⟩
    rename_i k0
    have k0 : ¬ o.kind = 0 := by simpa using k0
    refine abin_i (by decide) rfl ?_
    rw [aif_bool]
    split
    · rename_i hk
      have hk : o.kind = 1 := by simpa using hk
      have hR : doR l o = ((seeR l o.e.flow o.flags o.now).1, ⟨if (seeR l o.e.flow o.flags o.now).2.2 then 0 else 1, (seeR l o.e.flow o.flags o.now).2.1, []⟩) := by unfold doR; rw [if_neg k0, if_pos hk]
      refine fa (fa (get_part g3 (by simp [Opn.cs]) (vs := o.e.flow.cs) rfl ?_))
      refine fa (get_at g3 rfl (fa (get_at g3 rfl ?_)))
      refine acall_of' (by kernel_rfl) ((c20 hH o.e.flow o.flags o.now t3 I hl).mono ?_)
      rintro _ h4 ⟨rfl, t4, I4, rfl⟩
      generalize seeR l o.e.flow o.flags o.now = sr at *
      refine ext rfl (ext rfl ?_)
      refine var az39 ?_
      intro h5 n5
      have x5 := n5.next
      simp only [set_next] at x5
      have n5n : (h3.set id (.cells 0 t4.cs)).next = h3.next := rfl
      refine puts n5.self rfl rfl (splice_all rfl) (by decide) ?_
      intro h6 u6
      refine get_all u6.self rfl ?_
      have e6 : ∀ j, j < h3.next → h6.get j = (h3.set id (.cells 0 t4.cs)).get j := fun j hj => by rw [u6.other _ (by rw [n5n]; omega), n5.other _ (by rw [n5n]; omega)]
      have o6 : OldX h id h6 := ((o3.x id).set.old n5.old).upd (.inl (by rw [n5n]; omega)) u6
      refine fa (puts (cs := ansC 0 zeroE .nils) (by rw [e6 _ (by omega), hset_get, if_neg (by omega)]; exact g5) rfl rfl (cs' := ansC 0 sr.2.1 .nils) rfl (by decide) ?_)
      intro h7 u7
      refine hK ⟨by simp, by simp, o6.upd (.inl (by omega)) u7, by rw [u7.other _ (by omega), e6 _ (by omega), hset_get, if_neg (by omega)]; exact g4, sr.2.2, 0, .nils, t4, by simp, by rw [hR]; exact u7.self, by rw [hR], by rw [hR]; exact .nils, ?_, by rw [hR]; exact I4⟩
      rw [u7.other _ (by omega), e6 _ (by omega)]; simp
    rename_i k1
    have k1 : ¬ o.kind = 1 := by simpa using k1
    refine abin_i (by decide) rfl ?_
    rw [aif_bool]
    split
    · rename_i hk
      have hk : o.kind = 2 := by simpa using hk
      have hR : doR l o = ((putR l o.e o.now).1, ⟨(putR l o.e o.now).2, zeroE, []⟩) := by unfold doR; rw [if_neg k0, if_neg k1, if_pos hk]
      refine fa (get_part g3 (by simp [Opn.cs]) (vs := o.e.cs) rfl ?_)
      refine fa (get_at g3 rfl ?_)
      refine acall_of' (by kernel_rfl) ((c28 hH S o.e o.now t3 I hl).mono ?_)
      rintro _ h4 ⟨rfl, t4, I4, rfl⟩
      refine fa (put (cs := ansC 0 zeroE .nils) (by rw [hset_get, if_neg (by omega)]; exact g5) rfl rfl (cs' := ansC (putR l o.e o.now).2 zeroE .nils) rfl (by decide) ?_)
      intro h5 u5
      refine hK ⟨by simp, by simp, (o3.x id).set.upd (.inl (by omega)) u5, by rw [u5.other _ (by omega), hset_get, if_neg (by omega)]; exact g4, true, _, .nils, t4, by simp, by rw [hR]; exact u5.self, by rw [hR]; rfl, by rw [hR]; exact .nils, by rw [u5.other _ (by omega)]; simp, by rw [hR]; exact I4⟩
    rename_i k2
    have k2 : ¬ o.kind = 2 := by simpa using k2
    refine abin_i (by decide) rfl ?_
    rw [aif_bool]
    split
    · rename_i hk
      have hk : o.kind = 3 := by simpa using hk
      have hR : doR l o = (dropE o.e.flow l, ⟨if (getE o.e.flow l).isNone then 1 else 0, zeroE, []⟩) := by unfold doR; rw [if_neg k0, if_neg k1, if_neg k2, if_pos hk]
      refine fa (fa (get_part g3 (by simp [Opn.cs]) (vs := o.e.flow.cs) rfl ?_))
      refine acall_of' (by kernel_rfl) ((c29 hH S o.e.flow t3 I hl).mono ?_)
      rintro _ h4 ⟨rfl, t4, I4, rfl⟩
      refine hK ⟨by simp, by simp, (o3.x id).set, by rw [hset_get, if_neg (by omega)]; exact g4, (getE o.e.flow l).isSome, 0, .nils, t4, by simp, by rw [hR, hset_get, if_neg (by omega)]; exact g5, by rw [hR]; cases getE o.e.flow l <;> rfl, by rw [hR]; exact .nils, by simp, by rw [hR]; exact I4⟩
    rename_i k3
    have k3 : ¬ o.kind = 3 := by simpa using k3
    refine abin_i (by decide) rfl ?_
    rw [aif_bool]
    split
    · rename_i hk
      have hk : o.kind = 4 := by simpa using hk
      have hR : doR l o = (exL o.now l, ⟨0, zeroE, exO o.now [] l⟩) := by unfold doR; rw [if_neg k0, if_neg k1, if_neg k2, if_neg k3, if_pos hk]
      refine fa (get_at g3 rfl ?_)
      refine acall_of' (by kernel_rfl) ((c18 hH S o.now t3 I hl hsrt).mono ?_)
      rintro r h4 ⟨hr, t4, I4, rfl⟩
      have hxl : (exO o.now [] l).length ≤ 1000000 := by
        rw [(exO_spec o.now (out := []) hsrt .nil (by simp)).2.length_eq]
        simp
        have := List.length_filter_le (fun e : En => decide (e.ends ≤ o.now)) l
        omega
      refine acall_of' (by kernel_rfl) ((c12 hr.rd hxl).mono ?_)
      rintro r2 h5 ⟨hr2, hh⟩
      subst hh
      refine fa (put (cs := ansC 0 zeroE .nils) (by rw [hset_get, if_neg (by omega)]; exact g5) hr2.cells hr2.scalar (cs' := ansC 0 zeroE r2) rfl (by decide) ?_)
      intro h6 u6
      refine hK ⟨by simp, by simp, (o3.x id).set.upd (.inl (by omega)) u6, by rw [u6.other _ (by omega), hset_get, if_neg (by omega)]; exact g4, true, 0, r2, t4, by simp, by rw [hR]; exact u6.self, by rw [hR]; rfl, by rw [hR]; exact hr2, by rw [u6.other _ (by omega)]; simp, by rw [hR]; exact I4⟩
    · rename_i k4
      have k4 : ¬ o.kind = 4 := by simpa using k4
      have hR : doR l o = (l, ⟨0, zeroE, []⟩) := by unfold doR; rw [if_neg k0, if_neg k1, if_neg k2, if_neg k3, if_neg k4]
      refine hK ⟨by simp, by simp, o3.x id, g4, true, 0, .nils, t, by simp, by rw [hR]; exact g5, by rw [hR]; rfl, by rw [hR]; exact .nils, t3.get, by rw [hR]; exact I⟩
end Go.Own.Try

namespace Go.Own.Try
open Go.Own Go.Proofs

theorem wl_mem (e : En) (b : Bool) (l : List En) {y : En} (h : y ∈ wl e b l) : y = e ∨ y ∈ l := by
  have := (wl_perm e b l).mem_iff.1 h
  cases b <;> simp_all
theorem wl_true (e : En) : ∀ (l : List En), wl e true l = l
  | [] => by simp [wl]
  | x :: r => by simp [wl, wl_true e r]
theorem wl_srt {e : En} : ∀ {l : List En}, Srt l → (∀ x ∈ l, x.flow ≠ e.flow) → Srt (wl e false l)
  | [], _, _ => by simp [wl, Srt]
  | x :: r, hs, hn => by
    unfold Srt at hs
    rw [List.pairwise_cons] at hs
    unfold wl
    split
    · rename_i ha
      have ha : Ahead e.flow x.flow := ahead_iff.1 (by simpa using ha)
      rw [wl_true]
      refine List.pairwise_cons.2 ⟨fun y hy => ?_, List.pairwise_cons.2 hs⟩
      rcases List.mem_cons.1 hy with rfl | hy
      · exact ha
      · exact ahead_trans ha (hs.1 y hy)
    · rename_i ha
      have ha : ¬ Ahead e.flow x.flow := fun h => ha (by simpa using ahead_iff.2 h)
      refine List.pairwise_cons.2 ⟨fun y hy => ?_, wl_srt hs.2 fun y hy => hn y (by simp [hy])⟩
      rcases wl_mem _ _ _ hy with rfl | hy
      · rcases ahead_total (hn x (by simp)) with h | h
        · exact h
        · exact absurd h ha
      · exact hs.1 y hy
theorem dropE_srt {f : Fl} {l : List En} (h : Srt l) : Srt (dropE f l) := h.filter _
theorem dropE_no {f : Fl} {l : List En} : ∀ x ∈ dropE f l, x.flow ≠ f := fun x hx => by simpa using (List.mem_filter.1 hx).2
theorem withE_srt {e : En} {l : List En} (h : Srt l) : Srt (withE e l) := wl_srt (dropE_srt h) dropE_no
theorem withE_length (e : En) (l : List En) : (withE e l).length = (dropE e.flow l).length + 1 := by rw [(withE_perm e l).length_eq]; rfl
theorem dropE_lt {f : Fl} {l : List En} (h : (getE f l).isSome = true) : (dropE f l).length < l.length := by
  obtain ⟨e, he⟩ := Option.isSome_iff_exists.1 h
  obtain ⟨h1, h2⟩ := getE_mem he
  clear h he
  induction l with
  | nil => cases h1
  | cons x r ih =>
    rw [dropE_cons]
    split
    · have := dropE_length f r; simp; omega
    · rename_i hx
      rcases List.mem_cons.1 h1 with rfl | h1
      · exact absurd h2 hx
      · have := ih h1; simp; omega
/-- What the document's entries always are. -/
structure Good (l : List En) : Prop where
  srt : Srt l
  len : l.length ≤ 64
theorem Good.nil : Good [] := ⟨.nil, by simp⟩
theorem Good.with {l : List En} (g : Good l) {e : En} (h : ¬ ((getE e.flow l).isNone = true ∧ 64 ≤ l.length)) : Good (withE e l) := by
  refine ⟨withE_srt g.srt, ?_⟩
  rw [withE_length]
  have := g.len
  have h2 := dropE_length e.flow l
  cases hg : getE e.flow l with
  | none => rw [hg] at h; simp at h; omega
  | some x => have := dropE_lt (f := e.flow) (l := l) (by rw [hg]; rfl); omega
theorem Good.drop {l : List En} (g : Good l) (f : Fl) : Good (dropE f l) := ⟨dropE_srt g.srt, Nat.le_trans (dropE_length _ _) g.len⟩
theorem Good.exL {l : List En} (g : Good l) (n : Int) : Good (exL n l) := ⟨g.srt.filter _, Nat.le_trans (List.length_filter_le _ _) g.len⟩
theorem Good.open {l : List En} (g : Good l) (e : En) (fl n : Int) : Good (openR l e fl n).1 := by
  unfold openR
  split
  · exact g
  · split
    · exact g
    · rename_i h; exact g.with h
theorem Good.put {l : List En} (g : Good l) (e : En) (n : Int) : Good (putR l e n).1 := by
  unfold putR
  split
  · exact g
  · split
    · exact g
    · split
      · exact g.drop _
      · rename_i h _; exact g.with h
theorem Good.see {l : List En} (g : Good l) (f : Fl) (fl n : Int) : Good (seeR l f fl n).1 := by
  unfold seeR
  split
  · exact g
  · rename_i e he
    split
    · exact g
    · exact g.with (by rw [show ({ e with state := stepI e.state fl, ends := IntKind.i64.wrap (n + lifeI (stepI e.state fl)) } : En).flow = f from (getE_mem he).2, he]; simp)
theorem Good.do {l : List En} (g : Good l) (o : Opn) : Good (doR l o).1 := by
  unfold doR
  split
  · exact g.open _ _ _
  · split
    · exact g.see _ _ _
    · split
      · exact g.put _ _
      · split
        · exact g.drop _
        · split
          · exact g.exL _
          · exact g
end Go.Own.Try

namespace Go.Own.Try
open Go.Own Go.Proofs
set_option maxRecDepth 20000

theorem Opn.len (o : Opn) : o.cs.length = 11 := rfl
theorem az47 : azero Try.prog 47 = some (Opn.cs ⟨0, 0, 0, zeroE⟩) := by kernel_rfl
abbrev OLs (v : AV) (ops : List Opn) : Prop := Ls 11 v (ops.flatMap Opn.cs) ops.length
def runR (l : List En) (ops : List Opn) : List En := ops.foldl (fun l o => (doR l o).1) l

theorem c10 {H : List UInt8 → Fl → Int} (hH : HashC H) (S : SortC) {h : AHeap} {id : Nat} {t : Tb} {l : List En} {s sc : AV} {ops : List Opn} (ht : TabAt h id t) (I : TI H t l) (g : Good l) (hs : ELs s l) (hsc : OLs sc ops) (hn : ops.length ≤ 1000000) :
    ACalls Try.prog 10 [.ptr id 0 0, s, sc] h fun v h' => ∃ s', v = .tuple [s', .bool true] ∧ ELs s' (runR l ops) ∧ Holds H h id (runR l ops) h' := by
  apply T10_calls
  unfold T10
  have lt := ht.lt
  refine some1_of hsc.rd.len ?_
  refine aloop (fun m fr hc => OldX h id hc ∧ fr 0 = .ptr id 0 0 ∧ fr 13 = sc ∧ fr 14 = .int .i64 ops.length ∧ ∃ (i : Nat) (ti : Tb) (li : List En), fr 15 = .int .i64 i ∧ m + i = ops.length ∧ ELs (fr 1) li ∧ Good li ∧ TabAt hc id ti ∧ TI H ti li ∧ runR li (ops.drop i) = runR l ops) ops.length
    ⟨(Old.refl h).x id, by simp, by simp, by simp, 0, t, l, by simp, by omega, by simpa using hs, g, ht, I, by simp⟩ ?_
  rintro J hJ m fr hc ⟨oc, f0, f13, f14, i, ti, li, f15, hm, hli, gi, tc, Ii, hrun⟩
  rw [f0, f13, f14, f15]
  refine abin_i (by decide) rfl ?_
  rw [aif_bool]
  split
  · rename_i hi
    have hi' : i < ops.length := by simp at hi; omega
    have hrd : Rd hc 11 sc (ops.flatMap Opn.cs) ops.length := hsc.rd
    obtain ⟨p, e1, e2, _⟩ := Rd.row Opn.len hrd hi'
    rw [e1, some1_some, e2, some1_some]
    rw [List.drop_eq_getElem_cons hi', runR, List.foldl_cons] at hrun
    generalize ops[i] = o at *
    have tlt := tc.lt
    refine var az47 ?_
    intro h1 n1
    refine puts n1.self rfl rfl (splice_all rfl) (by decide) ?_
    intro h2 u2
    refine get_all u2.self rfl ?_
    have o2 : Old hc h2 := n1.old.upd (Nat.le_refl _) u2
    have len_i : li.length ≤ 1000000 := by have := gi.len; omega
    refine acall_of' (by kernel_rfl) ((c22 o hli len_i).mono ?_)
    rintro _ h3 ⟨s', w, rfl, hs', ⟨x, rfl, hx⟩, hh⟩
    obtain rfl := hh.symm
    refine ext rfl (ext rfl ?_)
    refine var az50 ?_
    intro h4 n4
    have x1 := n1.next
    have x2 := u2.next
    have x4 := n4.next
    refine puts n4.self rfl (by have := hx.scalar; simp only [ansC, List.all_cons, List.all_nil, this]; rfl) (splice_all rfl) (by decide) ?_
    intro h5 u5
    have o5 : Old hc h5 := (o2.trans n4.old).upd (by omega) u5
    have x5 := u5.next
    refine get_all (by rw [u5.other _ (by omega), n4.other _ (by omega)]; exact u2.self) rfl ?_
    refine acall_of' (by kernel_rfl) ((c16 hH S o (tc.old o5) Ii (by have := gi.len; omega) gi.srt).mono ?_)
    rintro _ h6 ⟨⟨y, rfl, hy⟩, t6, I6, rfl⟩
    refine var az50 ?_
    intro h7 n7
    have n7n : (h5.set id (.cells 0 t6.cs)).next = h5.next := rfl
    refine puts n7.self rfl (by have := hy.scalar; simp only [ansC, List.all_cons, List.all_nil, this]; rfl) (splice_all rfl) (by decide) ?_
    intro h8 u8
    have e8 : ∀ j, j < h5.next → h8.get j = (h5.set id (.cells 0 t6.cs)).get j := fun j hj => by rw [u8.other _ (by rw [n7n]; omega), n7.other _ (by rw [n7n]; omega)]
    have g12 := u8.self
    have g11 : h8.get h2.next = some (.cells 0 (ansC (doR li o).2.e (doR li o).2.seen x)) := by rw [e8 _ (by omega), hset_get, if_neg (by omega)]; exact u5.self
    have t8 : TabAt h8 id t6 := ⟨by rw [u8.next, n7.next, n7n]; omega, by rw [e8 _ (by omega)]; simp, I6.ok⟩
    have o8 : OldX h id h8 := ((oc.old o5).set.old n7.old).upd (.inl (by rw [n7n]; have := oc.next; have := o5.next; omega)) u8
    refine fa (get_at g12 rfl (fa (get_at g11 rfl ?_)))
    refine abin_i (by decide) rfl ?_
    rw [agrd_bool, if_pos (by simp)]
    refine fa (get_part g12 (by simp [ansC]) (vs := (doR li o).2.seen.cs) rfl (fa (get_part g11 (by simp [ansC]) (vs := (doR li o).2.seen.cs) rfl ?_)))
    rw [aneq_en, some1_some, agrd_bool, if_pos (by simp)]
    refine fa (get_at g12 rfl (fa (get_at g11 rfl ?_)))
    have gd := gi.do o
    have hal : (doR li o).2.l.length ≤ 1000000 := by
      have hx : ∀ n, (exO n [] li).length ≤ 1000000 := fun n => by
        rw [(exO_spec n (out := []) gi.srt .nil (by simp)).2.length_eq]
        simp
        have := List.length_filter_le (fun e : En => decide (e.ends ≤ n)) li
        omega
      unfold doR
      repeat' split
      all_goals first | exact hx _ | simp
    refine acall_q (by kernel_rfl) (c11 hy.rd hx.rd hal) ?_
    refine some1_of (v := .bool !(decide ((doR li o).2.l = (doR li o).2.l))) rfl ?_
    rw [agrd_bool, if_pos (by simp)]
    refine acall_q (by kernel_rfl) (c17 t8) ?_
    refine some1_of hs'.rd.len ?_
    refine abin_i (by decide) rfl ?_
    rw [aif_bool, if_neg (by simp [I6.many])]
    refine abin_i (by decide) rfl ?_
    refine hJ (m - 1) (by omega) ⟨o8, by simp [f0], by simp [f13], by simp [f14], i + 1, t6, (doR li o).1, ?_, by omega, by simpa using hs', gd, t8, I6, hrun⟩
    simp; rw [i64_id (by omega) (by omega)]
  · rename_i hi
    have : i = ops.length := by simp at hi; omega
    subst this
    rw [List.drop_length] at hrun
    have hrun : li = runR l ops := hrun
    subst hrun
    refine Ret.mod (o := .cells 0 ti.cs) oc lt tc.get (Tb.und _ _) (by simp [AV.und, belows, hli.below (ens_below _ _)]) ⟨_, rfl, hli, ti, Ii, rfl⟩
end Go.Own.Try

namespace Go.Own.Try
open Go.Own Go.Proofs
set_option maxRecDepth 20000

theorem az22 : azero Try.prog 22 = some (ofBytes (List.replicate 16 0)) := by kernel_rfl
theorem az37 : azero Try.prog 37 = some (Fl.cs ⟨0, [], [], 0, 0, by decide, by decide⟩) := by kernel_rfl
theorem ek39 : eqKinds Try.prog 39 = some [.int .i64, .str, .str, .int .i64, .int .i64, .int .i64, .int .i64, .int .i64] := by kernel_rfl
theorem st39 : isStructT Try.prog 39 = true := by kernel_rfl
theorem aeq_en39 (a b : En) : aeqP Try.prog .eql 39 (.agg a.cs) (.agg b.cs) = some (.bool (decide (a = b))) := by
  rw [(aeq_struct st39 ek39 rfl rfl).1, same_en]
theorem aeq_en42 (a b : En) : aeqP Try.prog .eql 42 (.agg a.cs) (.agg b.cs) = some (.bool (decide (a = b))) := by
  rw [(aeq_struct st42 ek42 rfl rfl).1, same_en]
theorem isnil (id : Nat) : aeqP Try.prog .eql 24 (.ptr id 0 0) .nilp = some (.bool false) := by kernel_rfl
theorem notnil (id : Nat) : aeqP Try.prog .neq 24 (.ptr id 0 0) .nilp = some (.bool true) := by kernel_rfl
theorem ifF {b : Bool} {A B : Prop} (hb : b = true) (h : A) : agrd (.bool b) true A B := by subst hb; exact h
def aF : Fl := ⟨6, [97], [98], 1, 2, by decide, by decide⟩
theorem a1 : openR [] ⟨aF, 3, 0, 0⟩ 2 100 = ([⟨aF, 3, 1, 160⟩], 0) := by decide
theorem a2 : seeR [⟨aF, 3, 1, 160⟩] aF 16 110 = ([⟨aF, 3, 2, 1010⟩], ⟨aF, 3, 2, 1010⟩, true) := by decide
theorem a3 : exO 2000 [] [⟨aF, 3, 2, 1010⟩] = [⟨aF, 3, 2, 1010⟩] := by decide
theorem a4 : exL 2000 [⟨aF, 3, 2, 1010⟩] = [] := by decide
theorem a5 : getE aF [⟨aF, 3, 1, 160⟩] = some ⟨aF, 3, 1, 160⟩ := by decide

theorem c9 {H : List UInt8 → Fl → Int} (hH : HashC H) (S : SortC) : Pure 9 [] (.bool true) := by
  intro h
  apply T9_calls
  unfold T9
  rw [abuild_nil az22]
  refine acall_of' (by kernel_rfl) ((c8 (key := List.replicate 16 0) rfl).mono ?_)
  rintro _ h1 ⟨id, rfl, hid, t1, o1⟩
  refine some1_of (isnil id) ?_
  rw [aif_bool, if_neg (by decide)]
  refine build az37 (cs := aF.cs) rfl ?_
  refine var az37 ?_
  intro h2 n2
  have lt1 := t1.lt
  refine puts n2.self rfl rfl (splice_all rfl) (by decide) ?_
  intro h3 u3
  have x1 := o1.next
  have x2 := n2.next
  have x3 := u3.next
  have o3 : Old h1 h3 := n2.old.upd (Nat.le_refl _) u3
  have oo3 := o1.trans o3
  have t3 := t1.old o3
  refine get_all u3.self rfl ?_
  refine acall_of' (by kernel_rfl) ((c19 hH aF 3 2 100 t3 (TI.empty rfl) (by decide)).mono ?_)
  rintro _ h4 ⟨rfl, t4, I4, rfl⟩
  rw [a1] at I4 ⊢
  have T4 : TabAt (h3.set id (.cells 0 t4.cs)) id t4 := ⟨t3.lt, by simp, I4.ok⟩
  have oo4 : Old h (h3.set id (.cells 0 t4.cs)) := oo3.set hid _
  have g4 : (h3.set id (.cells 0 t4.cs)).get h1.next = some (.cells 0 aF.cs) := by rw [hset_get, if_neg (by omega)]; exact u3.self
  have x4 : (h3.set id (.cells 0 t4.cs)).next = h3.next := rfl
  generalize h3.set id (.cells 0 t4.cs) = h4 at *
  refine get_all g4 rfl ?_
  refine acall_q (by kernel_rfl) (c14 hH aF T4 I4 (by decide)) ?_
  rw [a5]
  refine ext rfl (ext rfl ?_)
  refine var az39 ?_
  intro h5 n5
  have x5 := n5.next
  refine puts n5.self rfl rfl (splice_all rfl) (by decide) ?_
  intro h6 u6
  have x6 := u6.next
  have o6 : Old h4 h6 := n5.old.upd (Nat.le_refl _) u6
  have T6 := T4.old o6
  have g6 : h6.get h1.next = some (.cells 0 aF.cs) := by rw [o6.get _ (by omega)]; exact g4
  refine get_all g6 rfl ?_
  refine acall_of' (by kernel_rfl) ((c20 hH aF 16 110 T6 I4 (by decide)).mono ?_)
  rintro _ h7 ⟨rfl, t7, I7, rfl⟩
  rw [a2] at I7 ⊢
  have T7 : TabAt (h6.set id (.cells 0 t7.cs)) id t7 := ⟨T6.lt, by simp, I7.ok⟩
  have oo7 : Old h (h6.set id (.cells 0 t7.cs)) := (oo4.trans o6).set hid _
  have g7 : (h6.set id (.cells 0 t7.cs)).get h1.next = some (.cells 0 aF.cs) := by rw [hset_get, if_neg (by omega)]; exact g6
  have k7 : (h6.set id (.cells 0 t7.cs)).get h4.next = some (.cells 0 (En.cs ⟨aF, 3, 1, 160⟩)) := by rw [hset_get, if_neg (by omega)]; exact u6.self
  have x7 : (h6.set id (.cells 0 t7.cs)).next = h6.next := rfl
  generalize h6.set id (.cells 0 t7.cs) = h7 at *
  refine ext rfl (ext rfl ?_)
  refine var az39 ?_
  intro h8 n8
  have x8 := n8.next
  refine puts n8.self rfl rfl (splice_all rfl) (by decide) ?_
  intro h9 u9
  have x9 := u9.next
  have o9 : Old h7 h9 := n8.old.upd (Nat.le_refl _) u9
  have T9 := T7.old o9
  refine acall_of' (by kernel_rfl) ((c18 hH S 2000 T9 I7 (by decide) (by simp [Srt])).mono ?_)
  rintro r h10 ⟨hr, t10, I10, rfl⟩
  rw [a3] at hr
  rw [a4] at I10
  have T10 : TabAt (h9.set id (.cells 0 t10.cs)) id t10 := ⟨T9.lt, by simp, I10.ok⟩
  have oo10 : Old h (h9.set id (.cells 0 t10.cs)) := (oo7.trans o9).set hid _
  have g10 : (h9.set id (.cells 0 t10.cs)).get h1.next = some (.cells 0 aF.cs) := by rw [hset_get, if_neg (by omega), o9.get _ (by omega)]; exact g7
  have k10 : (h9.set id (.cells 0 t10.cs)).get h4.next = some (.cells 0 (En.cs ⟨aF, 3, 1, 160⟩)) := by rw [hset_get, if_neg (by omega), o9.get _ (by omega)]; exact k7
  have m10 : (h9.set id (.cells 0 t10.cs)).get h7.next = some (.cells 0 (En.cs ⟨aF, 3, 2, 1010⟩)) := by rw [hset_get, if_neg (by omega)]; exact u9.self
  generalize h9.set id (.cells 0 t10.cs) = hA at *
  refine abin_i (by decide) rfl (ifF rfl (ifF rfl ?_))
  refine get_all k10 rfl (get_all g10 rfl ?_)
  refine build az39 (cs := En.cs ⟨aF, 3, 1, 160⟩) rfl ?_
  refine some1_of (aeq_en39 _ _) (ifF (by decide) (ifF rfl ?_))
  refine fa (get_at m10 rfl (abin_i (by decide) rfl (ifF rfl ?_)))
  refine fa (get_at m10 rfl (abin_i (by decide) rfl (ifF rfl ?_)))
  refine some1_of hr.rd.len (abin_i (by decide) rfl (ifF rfl ?_))
  refine acall_q (by kernel_rfl) (c17 T10) ?_
  rw [I10.many]
  refine abin_i (by decide) rfl (ifF rfl ?_)
  refine acall_q (by kernel_rfl) (c21 4 hA) ?_
  refine abin_i (by decide) rfl ?_
  exact Ret.pure oo10 (by simp [AV.und]) ⟨rfl, rfl⟩
end Go.Own.Try

namespace Go.Own.Try
open Go.Own Go.Proofs
set_option maxRecDepth 20000

theorem runR_good {l : List En} (g : Good l) : ∀ (ops : List Opn), Good (runR l ops) := by
  intro ops
  induction ops generalizing l with
  | nil => exact g
  | cons o r ih => exact ih (g.do o)
theorem aeq_bool4 (a b : Bool) : aeqP Try.prog .eql 4 (.bool a) (.bool b) = some (.bool (a == b)) := by kernel_rfl

/-- FlowsAll. -/
theorem c3 {H : List UInt8 → Fl → Int} (hH : HashC H) (S : SortC) {h : AHeap} {key : List UInt8} {sc : AV} {ops : List Opn} (hk : key.length = 16) (hsc : OLs sc ops) :
    ACalls Try.prog 3 [.agg (ofBytes key), sc] h fun v _ => v = .bool true := by
  apply T3_calls
  unfold T3
  refine box rfl ?_
  intro h1 n1
  refine get_all n1.self (by rw [ofBytes_length, hk]) ?_
  refine acall_of' (by kernel_rfl) ((c8 hk).mono ?_)
  rintro _ h2 ⟨id, rfl, hid, t2, o2⟩
  refine some1_of (isnil id) ?_
  rw [agrd_bool, if_pos rfl]
  refine some1_of hsc.rd.len ?_
  refine abin_i (by decide) rfl ?_
  rw [aif_bool]
  split
  · refine some1_of (notnil id) (ifF rfl ?_)
    refine acall_q (by kernel_rfl) (c9 hH S h2) ?_
    exact Ret.now rfl
  · rename_i hn
    have hn : ops.length ≤ 1000000 := by simp at hn; omega
    refine acall_of' (by kernel_rfl) ((c10 hH S (s := .nils) t2 (TI.empty hk) Good.nil .nils hsc hn).mono ?_)
    rintro _ h3 ⟨s', rfl, hs', t3, I3, rfl⟩
    have T3 : TabAt (h2.set id (.cells 0 t3.cs)) id t3 := ⟨t2.lt, by simp, I3.ok⟩
    have g := runR_good Good.nil ops
    refine ext rfl (ext rfl ?_)
    refine acall_q (by kernel_rfl) (c9 hH S _) (ifF rfl (ifF rfl ?_))
    refine acall_of' (by kernel_rfl) ((c13 S T3).mono ?_)
    rintro r h4 ⟨L, hr, p1, p2, hh⟩
    subst hh
    have hL : L = runR [] ops := srt_unique g.srt (p1.trans I3.perm) p2
    subst hL
    have hlen : (runR [] ops).length ≤ 1000000 := by have := g.len; omega
    refine acall_of' (by kernel_rfl) ((c12 hr.rd hlen).mono ?_)
    rintro r2 h5 ⟨hr2, hh⟩
    subst hh
    refine acall_q (by kernel_rfl) (c11 hr2.rd hs'.rd hlen) ?_
    exact Ret.now (by simp)

/-- FlowsAsks. -/
theorem c4 {H : List UInt8 → Fl → Int} (hH : HashC H) (S : SortC) {h : AHeap} {key : List UInt8} {sc : AV} {ops : List Opn} (f : Fl) (hk : key.length = 16) (hsc : OLs sc ops) :
    ACalls Try.prog 4 [.agg (ofBytes key), sc, .agg f.cs] h fun v _ => v = .bool true := by
  apply T4_calls
  unfold T4
  refine box rfl ?_
  intro h0 n0
  refine box rfl ?_
  intro h1 n1
  have x0 := n0.next
  have x1 := n1.next
  refine get_all (by rw [n1.other _ (by omega)]; exact n0.self) (by rw [ofBytes_length, hk]) ?_
  refine acall_of' (by kernel_rfl) ((c8 hk).mono ?_)
  rintro _ h2 ⟨id, rfl, hid, t2, o2⟩
  have y2 := o2.next
  refine some1_of (isnil id) ?_
  rw [agrd_bool, if_pos rfl]
  refine some1_of hsc.rd.len ?_
  refine abin_i (by decide) rfl ?_
  rw [aif_bool]
  split
  · refine some1_of (notnil id) (ifF rfl ?_)
    refine acall_q (by kernel_rfl) (c9 hH S h2) ?_
    exact Ret.now rfl
  · rename_i hn
    have hn : ops.length ≤ 1000000 := by simp at hn; omega
    refine acall_of' (by kernel_rfl) ((c10 hH S (s := .nils) t2 (TI.empty hk) Good.nil .nils hsc hn).mono ?_)
    rintro _ h3 ⟨s', rfl, hs', t3, I3, rfl⟩
    have T3 : TabAt (h2.set id (.cells 0 t3.cs)) id t3 := ⟨t2.lt, by simp, I3.ok⟩
    have g5 : (h2.set id (.cells 0 t3.cs)).get h0.next = some (.cells 0 f.cs) := by rw [hset_get, if_neg (by omega), o2.get _ (by omega)]; exact n1.self
    have z3 : (h2.set id (.cells 0 t3.cs)).next = h2.next := rfl
    generalize h2.set id (.cells 0 t3.cs) = h3 at *
    have g := runR_good Good.nil ops
    have hlen : (runR [] ops).length ≤ 1000000 := by have := g.len; omega
    refine ext rfl (ext rfl ?_)
    refine get_all g5 rfl ?_
    refine acall_q (by kernel_rfl) (c14 hH f T3 I3 (by have := g.len; omega)) ?_
    refine ext rfl (ext rfl ?_)
    refine var az39 ?_
    intro h4 n4
    refine puts n4.self rfl rfl (splice_all rfl) (by decide) ?_
    intro h5 u5
    have x4 := n4.next
    have x5 := u5.next
    have o5 : Old h3 h5 := n4.old.upd (Nat.le_refl _) u5
    refine get_all (by rw [o5.get _ (by omega)]; exact g5) rfl ?_
    refine acall_q (by kernel_rfl) (c15 f hs'.rd hlen) ?_
    refine ext rfl (ext rfl ?_)
    refine var az42 ?_
    intro h6 n6
    refine puts n6.self rfl rfl (splice_all rfl) (by decide) ?_
    intro h7 u7
    have x6 := n6.next
    refine acall_q (by kernel_rfl) (c9 hH S _) (ifF rfl ?_)
    refine get_all (by rw [u7.other _ (by omega), n6.other _ (by omega)]; exact u5.self) rfl ?_
    refine get_all u7.self rfl ?_
    refine some1_of (aeq_en42 _ _) (ifF (by simp) ?_)
    refine some1_of (aeq_bool4 _ _) ?_
    exact Ret.now (by simp)
end Go.Own.Try

namespace Go.Proofs
open Go.Shelf Go.RowKit Go.Lib Go.Sort
set_option maxRecDepth 20000
def trySort_ren : Go.Shelf.Ren := ⟨fun | 6 => 23 | 14 => 42 | 15 => 43 | 20 => 52 | 21 => 53 | 22 => 54 | 23 => 55 | 24 => 56 | 25 => 57 | 26 => 58 | 27 => 59 | 28 => 60 | 29 => 61 | 46 => 66 | 47 => 67 | 48 => 68 | 49 => 69 | 50 => 70 | 57 => 74 | n => n, fun | 0 => 0 | 3 => 3 | 4 => 4 | 5 => 5 | 9 => 9 | 22 => 32 | 24 => 39 | 25 => 69 | 39 => 89 | 45 => 98 | 46 => 99 | 50 => 70 | 53 => 105 | 55 => 91 | 66 => 111 | 70 => 115 | 76 => 122 | 77 => 123 | n => n, fun n => n⟩
theorem trySort : SlLaysF0.n6 Try.prog trySort_ren := {
  mixed := by kernel_rfl
  f6 := ⟨Try.f23.name, by decide, Try.func23.trans (congrArg some (by kernel_rfl))⟩
  f14 := ⟨Try.f42.name, by decide, Try.func42.trans (congrArg some (by kernel_rfl))⟩
  f15 := Try.func43.trans (congrArg some (by kernel_rfl))
  f20 := ⟨Try.f52.name, by decide, Try.func52.trans (congrArg some (by kernel_rfl))⟩
  f21 := ⟨Try.f53.name, by decide, Try.func53.trans (congrArg some (by kernel_rfl))⟩
  f22 := ⟨Try.f54.name, by decide, Try.func54.trans (congrArg some (by kernel_rfl))⟩
  f23 := ⟨Try.f55.name, by decide, Try.func55.trans (congrArg some (by kernel_rfl))⟩
  f24 := ⟨Try.f56.name, by decide, Try.func56.trans (congrArg some (by kernel_rfl))⟩
  f25 := ⟨Try.f57.name, by decide, Try.func57.trans (congrArg some (by kernel_rfl))⟩
  f26 := ⟨Try.f58.name, by decide, Try.func58.trans (congrArg some (by kernel_rfl))⟩
  f27 := ⟨Try.f59.name, by decide, Try.func59.trans (congrArg some (by kernel_rfl))⟩
  f28 := Try.func60.trans (congrArg some (by kernel_rfl))
  f29 := Try.func61.trans (congrArg some (by kernel_rfl))
  f46 := ⟨Try.f66.name, by decide, Try.func66.trans (congrArg some (by kernel_rfl))⟩
  f47 := Try.func67.trans (congrArg some (by kernel_rfl))
  f48 := Try.func68.trans (congrArg some (by kernel_rfl))
  f49 := ⟨Try.f69.name, by decide, Try.func69.trans (congrArg some (by kernel_rfl))⟩
  f50 := ⟨Try.f70.name, by decide, Try.func70.trans (congrArg some (by kernel_rfl))⟩
  f57 := ⟨Try.f74.name, by decide, Try.func74.trans (congrArg some (by kernel_rfl))⟩
  t0 := Try.underlying0
  a0 := Try.isAgg0
  z0 := Try.sizeOf0
  v0 := Try.zeroValue0
  t3 := Try.underlying3
  a3 := Try.isAgg3
  z3 := Try.sizeOf3
  v3 := Try.zeroValue3
  t4 := Try.underlying4
  a4 := Try.isAgg4
  z4 := Try.sizeOf4
  v4 := Try.zeroValue4
  t5 := Try.underlying5
  a5 := Try.isAgg5
  z5 := Try.sizeOf5
  v5 := Try.zeroValue5
  t9 := Try.underlying9
  a9 := Try.isAgg9
  z9 := Try.sizeOf9
  v9 := Try.zeroValue9
  t22 := Try.underlying32
  a22 := Try.isAgg32
  z22 := Try.sizeOf32
  v22 := Try.zeroValue32
  t25 := Try.underlying69
  a25 := Try.isAgg69
  z25 := Try.sizeOf69
  v25 := Try.zeroValue69
  t39 := Try.underlying89
  a39 := Try.isAgg89
  z39 := Try.sizeOf89
  v39 := Try.zeroValue89
  t45 := Try.underlying98
  a45 := Try.isAgg98
  z45 := Try.sizeOf98
  v45 := Try.zeroValue98
  t46 := Try.underlying99
  a46 := Try.isAgg99
  z46 := Try.sizeOf99
  v46 := Try.zeroValue99
  t50 := Try.underlying70
  a50 := Try.isAgg70
  z50 := Try.sizeOf70
  v50 := Try.zeroValue70
  t53 := Try.underlying105
  a53 := Try.isAgg105
  z53 := Try.sizeOf105
  v53 := Try.zeroValue105
  t55 := Try.underlying91
  a55 := Try.isAgg91
  z55 := Try.sizeOf91
  v55 := Try.zeroValue91
  t66 := Try.underlying111
  a66 := Try.isAgg111
  z66 := Try.sizeOf111
  v66 := Try.zeroValue111
  t70 := Try.underlying115
  a70 := Try.isAgg115
  z70 := Try.sizeOf115
  v70 := Try.zeroValue115
  t76 := Try.underlying122
  a76 := Try.isAgg122
  z76 := Try.sizeOf122
  v76 := Try.zeroValue122
  t77 := Try.underlying123
  a77 := Try.isAgg123
  z77 := Try.sizeOf123
  v77 := Try.zeroValue123 }
end Go.Proofs
namespace Go.Own.Try
open Go.Own Go.Proofs Go.RowKit
set_option maxRecDepth 20000

def En.enc (e : En) : List Value := [.int .i64 e.flow.proto, .string ⟨e.flow.src.toArray⟩, .string ⟨e.flow.dst.toArray⟩, .int .i64 e.flow.port, .int .i64 e.flow.dest, .int .i64 e.backend, .int .i64 e.state, .int .i64 e.ends]
theorem En.enc_rel (G : Ghost) (e : En) : lrel G e.cs e.enc := by
  simp only [En.cs, En.enc, lrel, vrel]
  exact ⟨_, _, rfl, rfl, _, _, rfl, rfl, _, _, rfl, rfl, _, _, rfl, rfl, _, _, rfl, rfl, _, _, rfl, rfl, _, _, rfl, rfl, _, _, rfl, rfl, rfl⟩
theorem En.enc_det (G : Ghost) (e : En) (rs : List Value) (h : lrel G e.cs rs) : rs = e.enc := by
  simp only [En.cs, lrel, vrel] at h
  obtain ⟨_, _, rfl, rfl, _, _, rfl, rfl, _, _, rfl, rfl, _, _, rfl, rfl, _, _, rfl, rfl, _, _, rfl, rfl, _, _, rfl, rfl, _, _, rfl, rfl, rfl⟩ := h
  rfl
theorem tk39 : tkind Try.prog 39 = some (true, 8) := by kernel_rfl
theorem sortC : SortC := {
  nil := fun g h => sort_none trySort g h
  sl := fun g cf hb hc hO {h id r l} _ hg hl => by
    have := sort_calls trySort (k := 8) (fun w => run_isAgg tk39) (fun w => tkind_size tk39) (cs := En.cs) (enc := En.enc) En.enc_rel En.enc_det En.len (by decide) En.scalar (cf := cf) hO hb (fun x y h => (hc x y h).mono fun v _ hv => hv.1) hg (by omega)
    exact this }
end Go.Own.Try
