/- Part of the proofs: F39. -/
import Derived.Test.YtgphldokjapllaaFloB
import Derived.Test.YtgphldokjapllaaTreeB

namespace Go.Own.Try
open Go.Own Go.Proofs
set_option maxRecDepth 20000

/-- FlowsKeys. -/
theorem c6 {H : List UInt8 → Fl → Int} (hH : HashC H) (S : SortC) {h : AHeap} {ka kb : List UInt8} {sc : AV} {ops : List Opn} (hka : ka.length = 16) (hkb : kb.length = 16) (hsc : OLs sc ops) :
    ACalls Try.prog 6 [.agg (ofBytes ka), .agg (ofBytes kb), sc] h fun v _ => v = .bool true := by
  apply T6_calls
  unfold T6
  refine box rfl ?_
  intro h1 n1
  refine box rfl ?_
  intro h2 n2
  have x1 := n1.next
  have x2 := n2.next
  refine get_all (by rw [n2.other _ (by omega)]; exact n1.self) (by rw [ofBytes_length, hka]) ?_
  refine get_all n2.self (by rw [ofBytes_length, hkb]) ?_
  refine acall_of' (by kernel_rfl) ((c8 hka).mono ?_)
  rintro _ h3 ⟨ia, rfl, hia, ta, o3⟩
  have x3 := o3.next
  refine ⟨get_all (by rw [o3.get _ (by omega)]; exact n2.self) (by rw [ofBytes_length, hkb]) rfl, ?_⟩
  refine acall_of' (by kernel_rfl) ((c8 hkb).mono ?_)
  rintro _ h4 ⟨ib, rfl, hib, tb, o4⟩
  have hne : ia ≠ ib := by have := ta.lt; omega
  have ta4 := ta.old o4
  refine some1_of (isnil ia) ?_
  rw [agrd_bool, if_pos rfl]
  refine some1_of (isnil ib) ?_
  rw [agrd_bool, if_pos rfl]
  refine some1_of hsc.rd.len ?_
  refine abin_i (by decide) rfl ?_
  rw [aif_bool]
  split
  · refine some1_of (notnil ia) (ifF rfl ?_)
    refine some1_of (notnil ib) (ifF rfl ?_)
    refine acall_q (by kernel_rfl) (c9 hH S h4) ?_
    exact Ret.now rfl
  · rename_i hn
    have hn : ops.length ≤ 1000000 := by simp at hn; omega
    refine some1_of hsc.rd.len ?_
    refine aloop (fun m fr hc => fr 7 = .ptr ia 0 0 ∧ fr 8 = .ptr ib 0 0 ∧ fr 37 = sc ∧ fr 38 = .int .i64 ops.length ∧ ∃ (i : Nat) (t u : Tb) (li : List En), fr 39 = .int .i64 i ∧ m + i = ops.length ∧ Good li ∧ TabAt hc ia t ∧ TI H t li ∧ TabAt hc ib u ∧ TI H u li) ops.length
      ⟨by simp, by simp, by simp, by simp, 0, _, _, [], by simp, by omega, Good.nil, ta4, TI.empty hka, tb, TI.empty hkb⟩ ?_
    rintro J hJ m fr hc ⟨f7, f8, f37, f38, i, t, u, li, f39, hm, gi, tc, It, uc, Iu⟩
    rw [f7, f8, f37, f38, f39]
    refine abin_i (by decide) rfl ?_
    rw [aif_bool]
    split
    · rename_i hi
      have hi' : i < ops.length := by simp at hi; omega
      have hrd : Rd hc 11 sc (ops.flatMap Opn.cs) ops.length := hsc.rd
      obtain ⟨p, e1, e2, _⟩ := Rd.row Opn.len hrd hi'
      refine some1_of e1 (some1_of e2 ?_)
      generalize ops[i] = o at *
      refine var az47 ?_
      intro h5 n5
      refine puts n5.self rfl rfl (splice_all rfl) (by decide) ?_
      intro h6 u6
      have x5 := n5.next
      have x6 := u6.next
      have o6 : Old hc h6 := n5.old.upd (Nat.le_refl _) u6
      have tl := tc.lt
      have ul := uc.lt
      refine get_all u6.self rfl (get_all u6.self rfl ?_)
      refine some1_of az50 (some1_of az50 ?_)
      have gl := gi.len
      refine acall_of' (by kernel_rfl) ((c16 hH S o (tc.old o6) It (by omega) gi.srt).mono ?_)
      rintro _ h7 ⟨⟨y, rfl, hy⟩, t7, I7, rfl⟩
      have g7 : (h6.set ia (.cells 0 t7.cs)).get hc.next = some (.cells 0 o.cs) := by simp only [hset_get]; rw [if_neg (by omega)]; exact u6.self
      refine ⟨get_all g7 rfl rfl, ?_⟩
      have uc6 := uc.old o6
      have U7 : TabAt (h6.set ia (.cells 0 t7.cs)) ib u := ⟨uc6.lt, by simp only [hset_get]; rw [if_neg (Ne.symm hne)]; exact uc6.get, uc6.ok⟩
      refine acall_of' (by kernel_rfl) ((c16 hH S o U7 Iu (by omega) gi.srt).mono ?_)
      rintro _ h8 ⟨⟨z, rfl, hz⟩, u8, J8, rfl⟩
      have T8 : TabAt ((h6.set ia (.cells 0 t7.cs)).set ib (.cells 0 u8.cs)) ia t7 := ⟨(tc.old o6).lt, by simp [hne], I7.ok⟩
      have U8 : TabAt ((h6.set ia (.cells 0 t7.cs)).set ib (.cells 0 u8.cs)) ib u8 := ⟨uc6.lt, by simp, J8.ok⟩
      have x8 : ((h6.set ia (.cells 0 t7.cs)).set ib (.cells 0 u8.cs)).next = h6.next := rfl
      generalize (h6.set ia (.cells 0 t7.cs)).set ib (.cells 0 u8.cs) = h8 at *
      refine new ?_
      intro h9 n9
      refine new ?_
      intro h10 n10
      have x9 := n9.next
      have x10 := n10.next
      have q9 : h10.get h8.next = some (.cells 0 (ansC 0 zeroE .nils)) := by rw [n10.other _ (by omega)]; exact n9.self
      refine puts q9 rfl (by have := hy.scalar; simp only [ansC, List.all_cons, List.all_nil, this]; rfl) (splice_all rfl) (by decide) ?_
      intro h11 u11
      have x11 := u11.next
      have q10 : h11.get h9.next = some (.cells 0 (ansC 0 zeroE .nils)) := by rw [u11.other _ (by omega)]; exact n10.self
      refine puts q10 rfl (by have := hz.scalar; simp only [ansC, List.all_cons, List.all_nil, this]; rfl) (splice_all rfl) (by decide) ?_
      intro h12 u12
      have x12 := u12.next
      have g11 : h12.get h8.next = some (.cells 0 (ansC (doR li o).2.e (doR li o).2.seen y)) := by rw [u12.other _ (by omega)]; exact u11.self
      have g12 := u12.self
      have o12 : Old h8 h12 := (((n9.old.trans n10.old).upd (Nat.le_refl _) u11)).upd (by omega) u12
      refine fa (get_at g11 rfl (fa (get_at g12 rfl ?_)))
      refine abin_i (by decide) rfl ?_
      rw [agrd_bool, if_pos (by simp)]
      refine fa (get_part g11 (by simp [ansC]) (vs := (doR li o).2.seen.cs) rfl (fa (get_part g12 (by simp [ansC]) (vs := (doR li o).2.seen.cs) rfl ?_)))
      rw [aneq_en, some1_some, agrd_bool, if_pos (by simp)]
      refine fa (get_at g11 rfl (fa (get_at g12 rfl ?_)))
      have gd := gi.do o
      have hal : (doR li o).2.l.length ≤ 1000000 := by
        have hx : ∀ n, (exO n [] li).length ≤ 1000000 := fun n => by
          rw [(exO_spec n (out := []) gi.srt .nil (by simp)).2.length_eq]
          simp
          have := List.length_filter_le (fun e : En => decide (e.ends ≤ n)) li
          omega
        unfold doR
        repeat' split
        all_goals first | exact hx _ | simp
      refine acall_q (by kernel_rfl) (c11 hy.rd hz.rd hal) ?_
      refine some1_of (v := .bool !(decide ((doR li o).2.l = (doR li o).2.l))) rfl ?_
      rw [aif_bool, if_neg (by simp)]
      refine abin_i (by decide) rfl ?_
      refine hJ (m - 1) (by omega) ⟨by simp [f7], by simp [f8], by simp [f37], by simp [f38], i + 1, t7, u8, (doR li o).1, ?_, by omega, gd, T8.old o12, I7, U8.old o12, J8⟩
      simp; rw [i64_id (by omega) (by omega)]
    · have gl := gi.len
      refine acall_q (by kernel_rfl) (c9 hH S hc) (ifF rfl ?_)
      refine acall_of' (by kernel_rfl) ((c13 S tc).mono ?_)
      rintro r1 h5 ⟨L1, hr1, p1, q1, hh⟩
      obtain rfl := hh.symm
      obtain rfl : L1 = li := srt_unique gi.srt (p1.trans It.perm) q1
      refine acall_of' (by kernel_rfl) ((c12 hr1.rd (by omega)).mono ?_)
      rintro r2 h6 ⟨hr2, hh⟩
      obtain rfl := hh.symm
      refine acall_of' (by kernel_rfl) ((c13 S uc).mono ?_)
      rintro r3 h7 ⟨L3, hr3, p3, q3, hh⟩
      obtain rfl := hh.symm
      obtain rfl : L3 = L1 := srt_unique gi.srt (p3.trans Iu.perm) q3
      refine acall_of' (by kernel_rfl) ((c12 hr3.rd (by omega)).mono ?_)
      rintro r4 h8 ⟨hr4, hh⟩
      obtain rfl := hh.symm
      refine acall_q (by kernel_rfl) (c11 hr2.rd hr4.rd (by omega)) ?_
      exact Ret.now (by simp)
end Go.Own.Try
