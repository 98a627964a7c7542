/- Part of the proofs: F38. -/
import Derived.Test.YtgphldokjapllaaFloB
import Derived.Test.YtgphldokjapllaaTreeB

namespace Go.Own.Try
open Go.Own Go.Proofs
set_option maxRecDepth 20000

theorem getE_of_mem {e : En} {l : List En} (h : e ∈ l) : (getE e.flow l).isSome = true := by
  cases hg : getE e.flow l with
  | some x => rfl
  | none => exact absurd rfl (getE_none.1 hg e h)
theorem getE_with {e x : En} {l : List En} (h : e ∈ l) : (getE e.flow (withE x l)).isSome = true := by
  by_cases hf : e.flow = x.flow
  · rw [hf]
    exact getE_of_mem ((withE_perm x l).mem_iff.2 (List.mem_cons_self ..))
  · refine getE_of_mem ((withE_perm x l).mem_iff.2 (List.mem_cons_of_mem _ ?_))
    exact List.mem_filter.2 ⟨h, by simpa using hf⟩
theorem getE_drop {e : En} {f : Fl} {l : List En} (h : e ∈ l) (hn : (getE e.flow (dropE f l)).isSome = false) : e.flow = f := by
  apply Classical.byContradiction
  intro hf
  have : (getE e.flow (dropE f l)).isSome = true := getE_of_mem (List.mem_filter.2 ⟨h, by simpa using hf⟩)
  rw [this] at hn; cases hn
/-- Who is there no more was dropped, or has ended. -/
theorem stay {l : List En} {o : Opn} {e : En} (h : e ∈ l) (hn : (getE e.flow (doR l o).1).isSome = false) : (o.kind = 4 ∧ e.ends ≤ o.now) ∨ ((o.kind = 3 ∨ o.kind = 2) ∧ e.flow = o.e.flow) := by
  have same : (getE e.flow l).isSome = false → False := fun h' => by rw [getE_of_mem h] at h'; cases h'
  have wit : ∀ x, (getE e.flow (withE x l)).isSome = false → False := fun x h' => by rw [getE_with h] at h'; cases h'
  unfold doR at hn
  split at hn
  · exfalso
    simp only [openR] at hn
    split at hn
    · exact same hn
    · split at hn
      · exact same hn
      · exact wit _ hn
  · split at hn
    · exfalso
      simp only [seeR] at hn
      split at hn
      · exact same hn
      · split at hn
        · exact same hn
        · exact wit _ hn
    · split at hn
      · rename_i h2
        right
        simp only [putR] at hn
        split at hn
        · exact (same hn).elim
        · split at hn
          · exact (same hn).elim
          · split at hn
            · exact ⟨.inr h2, getE_drop h hn⟩
            · exact (wit _ hn).elim
      · split at hn
        · rename_i h3
          exact .inr ⟨.inl h3, getE_drop h hn⟩
        · split at hn
          · rename_i h4
            left
            refine ⟨h4, ?_⟩
            apply Classical.byContradiction
            intro hgt
            have : (getE e.flow (exL o.now l)).isSome = true := getE_of_mem (List.mem_filter.2 ⟨h, by simp; omega⟩)
            rw [this] at hn; cases hn
          · exact (same hn).elim
/-- FlowsStay. -/
theorem c5 {H : List UInt8 → Fl → Int} (hH : HashC H) (S : SortC) {h : AHeap} {key : List UInt8} {sc : AV} {ops : List Opn} (hk : key.length = 16) (hsc : OLs sc ops) :
    ACalls Try.prog 5 [.agg (ofBytes key), sc] h fun v _ => v = .bool true := by
  apply T5_calls
  unfold T5
  refine box rfl ?_
  intro h1 n1
  refine get_all n1.self (by rw [ofBytes_length, hk]) ?_
  refine acall_of' (by kernel_rfl) ((c8 hk).mono ?_)
  rintro _ h2 ⟨id, rfl, hid, t2, o2⟩
  refine some1_of (isnil id) ?_
  rw [agrd_bool, if_pos rfl]
  refine some1_of hsc.rd.len ?_
  refine abin_i (by decide) rfl ?_
  rw [aif_bool]
  split
  · refine some1_of (notnil id) (ifF rfl ?_)
    refine acall_q (by kernel_rfl) (c9 hH S h2) ?_
    exact Ret.now rfl
  · rename_i hn
    have hn : ops.length ≤ 1000000 := by simp at hn; omega
    refine some1_of hsc.rd.len ?_
    refine aloop (fun m fr hc => fr 5 = .ptr id 0 0 ∧ fr 27 = sc ∧ fr 28 = .int .i64 ops.length ∧ ∃ (i : Nat) (ti : Tb) (li : List En), fr 29 = .int .i64 i ∧ m + i = ops.length ∧ Good li ∧ TabAt hc id ti ∧ TI H ti li) ops.length
      ⟨by simp, by simp, by simp, 0, _, [], by simp, by omega, Good.nil, t2, TI.empty hk⟩ ?_
    rintro J hJ m fr hc ⟨f5, f27, f28, i, ti, li, f29, hm, gi, tc, Ii⟩
    rw [f5, f27, f28, f29]
    refine abin_i (by decide) rfl ?_
    rw [aif_bool]
    split
    · rename_i hi
      have hi' : i < ops.length := by simp at hi; omega
      have hrd : Rd hc 11 sc (ops.flatMap Opn.cs) ops.length := hsc.rd
      obtain ⟨p, e1, e2, _⟩ := Rd.row Opn.len hrd hi'
      refine some1_of e1 (some1_of e2 ?_)
      generalize ops[i] = o at *
      refine var az47 ?_
      intro h3 n3
      refine puts n3.self rfl rfl (splice_all rfl) (by decide) ?_
      intro h4 u4
      have x3 := n3.next
      have x4 := u4.next
      have o4 : Old hc h4 := n3.old.upd (Nat.le_refl _) u4
      have tl := tc.lt
      refine acall_of' (by kernel_rfl) ((c13 S (tc.old o4)).mono ?_)
      rintro r1 h5 ⟨L1, hr1, p1, q1, hh⟩
      obtain rfl := hh.symm
      obtain rfl : L1 = li := srt_unique gi.srt (p1.trans Ii.perm) q1
      refine get_all u4.self rfl ?_
      refine acall_of' (by kernel_rfl) ((c16 hH S o (tc.old o4) Ii (by have := gi.len; omega) gi.srt).mono ?_)
      rintro _ h6 ⟨_, t6, I6, rfl⟩
      have T6 : TabAt (h4.set id (.cells 0 t6.cs)) id t6 := ⟨(tc.old o4).lt, by simp, I6.ok⟩
      have g6 : (h4.set id (.cells 0 t6.cs)).get hc.next = some (.cells 0 o.cs) := by simp only [hset_get]; rw [if_neg (by omega)]; exact u4.self
      have x6 : (h4.set id (.cells 0 t6.cs)).next = h4.next := rfl
      generalize h4.set id (.cells 0 t6.cs) = h6 at *
      refine acall_q (by kernel_rfl) (c17 T6) ?_
      have gd := gi.do o
      have hmany := I6.many
      have gl := gd.len
      refine abin_i (by decide) rfl ?_
      rw [aif_bool, if_neg (by simp [hmany]; omega)]
      refine some1_of hr1.rd.len ?_
      refine aloop (fun m fr hc2 => fr 5 = .ptr id 0 0 ∧ fr 7 = .ptr hc.next 0 0 ∧ fr 27 = sc ∧ fr 28 = .int .i64 ops.length ∧ fr 29 = .int .i64 i ∧ fr 41 = r1 ∧ fr 42 = .int .i64 L1.length ∧ Old h6 hc2 ∧ ∃ i : Nat, fr 43 = .int .i64 i ∧ m + i = L1.length) L1.length
        ⟨by simp [f5], by simp, by simp [f27], by simp [f28], by simp [f29], by simp, by simp, Old.refl _, 0, by simp, by omega⟩ ?_
      rintro J2 hJ2 m2 fr2 hc2 ⟨f5, f7, f27, f28, f29, f41, f42, oc, i2, f43, hm2⟩
      rw [f5, f7, f41, f42, f43]
      refine abin_i (by decide) rfl ?_
      rw [aif_bool]
      split
      · rename_i hi2
        have hi2' : i2 < L1.length := by simp at hi2; omega
        have hrd2 : Rd hc2 8 r1 (ens L1) L1.length := hr1.rd
        obtain ⟨p2, d1, d2, _⟩ := Rd.row En.len hrd2 hi2'
        refine some1_of d1 (some1_of d2 ?_)
        have hin : L1[i2] ∈ L1 := List.getElem_mem hi2'
        generalize L1[i2] = e at *
        have T2 := T6.old oc
        refine var az39 ?_
        intro h7 n7
        refine puts n7.self rfl rfl (splice_all rfl) (by decide) ?_
        intro h8 u8
        have x7 := n7.next
        have x8 := u8.next
        have o8 : Old hc2 h8 := n7.old.upd (Nat.le_refl _) u8
        refine fa (get_part u8.self (by simp [En.cs]) (En.drop0 e) ?_)
        refine acall_q (by kernel_rfl) (c14 hH e.flow (T2.old o8) I6 (by omega)) ?_
        refine ext rfl (ext rfl ?_)
        refine var az39 ?_
        intro h9 n9
        refine puts n9.self rfl (En.scalar _) (splice_all rfl) (by decide) ?_
        intro h10 u10
        have x9 := n9.next
        have x10 := u10.next
        have o10 : Old hc2 h10 := (o8.trans n9.old).upd (by have := o8.next; omega) u10
        have oo : Old h6 h10 := oc.trans o10
        have tl6 := T6.lt
        have lo : hc.next < h6.next := by omega
        have go : h10.get hc.next = some (.cells 0 o.cs) := by rw [oo.get _ lo]; exact g6
        have ge : h10.get hc2.next = some (.cells 0 e.cs) := by rw [u10.other _ (by omega), n9.other _ (by omega)]; exact u8.self
        have go_on : ∀ (fr3 : Fr), fr3 5 = fr2 5 → fr3 7 = fr2 7 → fr3 27 = fr2 27 → fr3 28 = fr2 28 → fr3 29 = fr2 29 → fr3 41 = fr2 41 → fr3 42 = fr2 42 → fr3 43 = .int .i64 (IntKind.i64.wrap ((i2 : Int) + 1)) → inext J2 m2 fr3 h10 := by
          intro fr3 q5 q7 q27 q28 q29 q41 q42 q43
          have ll := gi.len
          refine hJ2 (m2 - 1) (by omega) ⟨by rw [q5, f5], by rw [q7, f7], by rw [q27, f27], by rw [q28, f28], by rw [q29, f29], by rw [q41, f41], by rw [q42, f42], oo, i2 + 1, ?_, by omega⟩
          rw [q43, i64_id (by omega) (by omega)]; rfl
        have hst := stay (o := o) hin
        refine some1_of (v := .bool !(getE e.flow (doR L1 o).1).isSome) rfl ?_
        rw [agrd_bool]
        split
        · rename_i his
          have his : (getE e.flow (doR L1 o).1).isSome = false := by simpa using his
          have hst := hst his
          refine fa (get_at go rfl (abin_i (by decide) rfl ?_))
          rw [agrd_bool]
          split
          · rename_i h4
            have h4 : o.kind = 4 := by simpa using h4
            have hle : e.ends ≤ o.now := by rcases hst with h | ⟨h | h, _⟩ <;> first | exact h.2 | omega
            refine fa (get_at ge rfl (fa (get_at go rfl (abin_i (by decide) rfl ?_))))
            refine some1_of (v := .bool !(decide (e.ends ≤ o.now))) rfl ?_
            rw [agrd_bool, if_neg (by simp [hle])]
            refine abin_i (by decide) rfl ?_
            exact go_on _ (by simp) (by simp) (by simp) (by simp) (by simp) (by simp) (by simp) (by simp)
          · rename_i h4
            have h4 : ¬ o.kind = 4 := by simpa using h4
            have hst : (o.kind = 3 ∨ o.kind = 2) ∧ e.flow = o.e.flow := by rcases hst with h | h; exact absurd h.1 h4; exact h
            obtain ⟨hk32, hfl⟩ := hst
            refine some1_of (v := .bool true) rfl ?_
            rw [agrd_bool, if_pos rfl]
            refine fa (get_at go rfl (abin_i (by decide) rfl ?_))
            rw [agrd_bool]
            split
            · rename_i h3
              have h3 : ¬ o.kind = 3 := by simpa using h3
              have h2 : o.kind = 2 := by omega
              refine fa (get_at go rfl (abin_i (by decide) rfl ?_))
              rw [agrd_bool, if_pos (by simp [h2])]
              refine fa (get_part ge (by simp [En.cs]) (En.drop0 e) (fa (fa (get_part go (by simp [Opn.cs]) (vs := o.e.flow.cs) rfl ?_))))
              refine some1_of (v := .bool true) (by rw [aeq_flow, hfl]; simp) ?_
              refine some1_of (v := .bool false) rfl ?_
              rw [aif_bool, if_neg (by simp)]
              refine abin_i (by decide) rfl ?_
              exact go_on _ (by simp) (by simp) (by simp) (by simp) (by simp) (by simp) (by simp) (by simp)
            · refine fa (get_part ge (by simp [En.cs]) (En.drop0 e) (fa (fa (get_part go (by simp [Opn.cs]) (vs := o.e.flow.cs) rfl ?_))))
              refine some1_of (v := .bool true) (by rw [aeq_flow, hfl]; simp) ?_
              refine some1_of (v := .bool false) rfl ?_
              rw [aif_bool, if_neg (by simp)]
              refine abin_i (by decide) rfl ?_
              exact go_on _ (by simp) (by simp) (by simp) (by simp) (by simp) (by simp) (by simp) (by simp)
        · refine abin_i (by decide) rfl ?_
          exact go_on _ (by simp) (by simp) (by simp) (by simp) (by simp) (by simp) (by simp) (by simp)
      · rw [f29]
        refine abin_i (by decide) rfl ?_
        refine hJ (m - 1) (by omega) ⟨by simp [f5], by simp [f27], by simp [f28], i + 1, t6, _, ?_, by omega, gd, T6.old oc, I6⟩
        simp; rw [i64_id (by omega) (by omega)]
    · refine acall_q (by kernel_rfl) (c9 hH S hc) ?_
      exact Ret.now rfl
end Go.Own.Try
