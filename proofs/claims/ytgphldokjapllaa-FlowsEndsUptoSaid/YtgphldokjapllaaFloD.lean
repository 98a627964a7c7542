/- Part of the proofs: F36. -/
import Derived.Test.YtgphldokjapllaaFloB
import Derived.Test.YtgphldokjapllaaTreeB

namespace Go.Own.Try
open Go.Own Go.Proofs
set_option maxRecDepth 20000

/-- FlowsEnds. -/
theorem c7 {H : List UInt8 → Fl → Int} (hH : HashC H) (S : SortC) {h : AHeap} {key : List UInt8} {sc : AV} {ops : List Opn} (now : Int) (hk : key.length = 16) (hsc : OLs sc ops) :
    ACalls Try.prog 7 [.agg (ofBytes key), sc, .int .i64 now] h fun v _ => v = .bool true := by
  apply T7_calls
  unfold T7
  refine box rfl ?_
  intro h1 n1
  refine get_all n1.self (by rw [ofBytes_length, hk]) ?_
  refine acall_of' (by kernel_rfl) ((c8 hk).mono ?_)
  rintro _ h2 ⟨id, rfl, hid, t2, o2⟩
  refine some1_of (isnil id) ?_
  rw [agrd_bool, if_pos rfl]
  refine some1_of hsc.rd.len ?_
  refine abin_i (by decide) rfl ?_
  rw [aif_bool]
  split
  · refine some1_of (notnil id) (ifF rfl ?_)
    refine acall_q (by kernel_rfl) (c9 hH S h2) ?_
    exact Ret.now rfl
  · rename_i hn
    have hn : ops.length ≤ 1000000 := by simp at hn; omega
    refine some1_of hsc.rd.len ?_
    refine aloop (fun m fr hc => fr 2 = .int .i64 now ∧ fr 7 = .ptr id 0 0 ∧ fr 30 = sc ∧ fr 31 = .int .i64 ops.length ∧ ∃ (i : Nat) (ti : Tb) (li : List En), fr 32 = .int .i64 i ∧ m + i = ops.length ∧ Good li ∧ TabAt hc id ti ∧ TI H ti li) ops.length
      ⟨by simp, by simp, by simp, by simp, 0, _, [], by simp, by omega, Good.nil, t2, TI.empty hk⟩ ?_
    rintro J hJ m fr hc ⟨f2, f7, f30, f31, i, ti, li, f32, hm, gi, tc, Ii⟩
    rw [f2, f7, f30, f31, f32]
    refine abin_i (by decide) rfl ?_
    rw [aif_bool]
    split
    · rename_i hi
      have hi' : i < ops.length := by simp at hi; omega
      have hrd : Rd hc 11 sc (ops.flatMap Opn.cs) ops.length := hsc.rd
      obtain ⟨p, e1, e2, _⟩ := Rd.row Opn.len hrd hi'
      refine some1_of e1 (some1_of e2 ?_)
      generalize ops[i] = o at *
      refine var az47 ?_
      intro h3 n3
      refine puts n3.self rfl rfl (splice_all rfl) (by decide) ?_
      intro h4 u4
      refine get_all u4.self rfl ?_
      have o4 : Old hc h4 := n3.old.upd (Nat.le_refl _) u4
      refine acall_of' (by kernel_rfl) ((c16 hH S o (tc.old o4) Ii (by have := gi.len; omega) gi.srt).mono ?_)
      rintro _ h5 ⟨_, t5, I5, rfl⟩
      have T5 : TabAt (h4.set id (.cells 0 t5.cs)) id t5 := ⟨(tc.old o4).lt, by simp, I5.ok⟩
      refine abin_i (by decide) rfl ?_
      refine hJ (m - 1) (by omega) ⟨by simp [f2], by simp [f7], by simp [f30], by simp [f31], i + 1, t5, _, ?_, by omega, gi.do o, T5, I5⟩
      simp; rw [i64_id (by omega) (by omega)]
    · have gl := gi.len
      refine acall_of' (by kernel_rfl) ((c13 S tc).mono ?_)
      rintro r1 h3 ⟨L1, hr1, p1, q1, rfl⟩
      obtain rfl : L1 = li := srt_unique gi.srt (p1.trans Ii.perm) q1
      refine acall_of' (by kernel_rfl) ((c18 hH S now tc Ii (by omega) gi.srt).mono ?_)
      rintro r2 h4 ⟨hr2, t4, I4, rfl⟩
      have T4 : TabAt (h3.set id (.cells 0 t4.cs)) id t4 := ⟨tc.lt, by simp, I4.ok⟩
      generalize h3.set id (.cells 0 t4.cs) = h4 at *
      have g4 := gi.exL now
      refine acall_of' (by kernel_rfl) ((c13 S T4).mono ?_)
      rintro r3 h5 ⟨L3, hr3, p3, q3, rfl⟩
      have h3' : L3 = exL now L1 := srt_unique g4.srt (p3.trans I4.perm) q3
      have hsp := (exO_spec now (out := []) gi.srt .nil (by simp)).2
      rw [List.nil_append] at hsp
      have hol : (exO now [] L1).length ≤ 64 := by rw [hsp.length_eq]; have := List.length_filter_le (fun e : En => decide (e.ends ≤ now)) L1; omega
      refine some1_of hr3.rd.len ?_
      refine aloop (fun m fr hc => fr 2 = .int .i64 now ∧ fr 7 = .ptr id 0 0 ∧ fr 10 = r1 ∧ fr 11 = r2 ∧ fr 46 = r3 ∧ fr 47 = .int .i64 L3.length ∧ Old h5 hc ∧ ∃ i : Nat, fr 48 = .int .i64 i ∧ m + i = L3.length) L3.length
        ⟨by simp [f2], by simp [f7], by simp, by simp, by simp, by simp, Old.refl _, 0, by simp, by omega⟩ ?_
      rintro J2 hJ2 m2 fr2 hc2 ⟨f2, f7, f10, f11, f46, f47, oc, i2, f48, hm2⟩
      rw [f2, f11, f46, f47, f48]
      refine abin_i (by decide) rfl ?_
      rw [aif_bool]
      split
      · rename_i hi
        have hi' : i2 < L3.length := by simp at hi; omega
        have hrd : Rd hc2 8 r3 (ens L3) L3.length := hr3.rd
        obtain ⟨p, e1, e2, _⟩ := Rd.row En.len hrd hi'
        refine some1_of e1 (some1_of e2 ?_)
        have hin : L3[i2] ∈ exL now L1 := by rw [← h3']; exact List.getElem_mem hi'
        have hgt : L3[i2].ends > now := by simpa using (List.mem_filter.1 hin).2
        generalize L3[i2] = e at *
        refine var az39 ?_
        intro h6 n6
        refine puts n6.self rfl rfl (splice_all rfl) (by decide) ?_
        intro h7 u7
        refine fa (get_at u7.self rfl ?_)
        refine abin_i (by decide) rfl ?_
        rw [aif_bool, if_neg (by simp; omega)]
        refine abin_i (by decide) rfl ?_
        have l3 : L3.length ≤ 64 := by rw [h3']; exact g4.len
        refine hJ2 (m2 - 1) (by omega) ⟨by simp [f2], by simp [f7], by simp [f10], by simp [f11], by simp [f46], by simp [f47], (oc.trans n6.old).upd (by have := oc.next; omega) u7, i2 + 1, ?_, by omega⟩
        simp; rw [i64_id (by omega) (by omega)]
      · refine some1_of hr2.rd.len ?_
        refine aloop (fun m fr hc => fr 2 = .int .i64 now ∧ fr 7 = .ptr id 0 0 ∧ fr 10 = r1 ∧ fr 11 = r2 ∧ fr 57 = r2 ∧ fr 58 = .int .i64 (exO now [] L1).length ∧ Old h5 hc ∧ ∃ i : Nat, fr 59 = .int .i64 i ∧ m + i = (exO now [] L1).length) (exO now [] L1).length
          ⟨by simp [f2], by simp [f7], by simp [f10], by simp [f11], by simp, by simp, oc, 0, by simp, by omega⟩ ?_
        rintro J3 hJ3 m3 fr3 hc3 ⟨f2, f7, f10, f11, f57, f58, oc, i3, f59, hm3⟩
        rw [f2, f7, f10, f11, f57, f58, f59]
        refine abin_i (by decide) rfl ?_
        rw [aif_bool]
        split
        · rename_i hi
          have hi' : i3 < (exO now [] L1).length := by simp at hi; omega
          have hrd : Rd hc3 8 r2 (ens (exO now [] L1)) (exO now [] L1).length := hr2.rd
          obtain ⟨p, e1, e2, _⟩ := Rd.row En.len hrd hi'
          refine some1_of e1 (some1_of e2 ?_)
          have hin : (exO now [] L1)[i3] ∈ L1.filter fun e => decide (e.ends ≤ now) := hsp.mem_iff.1 (List.getElem_mem hi')
          have hle : (exO now [] L1)[i3].ends ≤ now := by simpa using (List.mem_filter.1 hin).2
          generalize (exO now [] L1)[i3] = e at *
          refine var az39 ?_
          intro h6 n6
          refine puts n6.self rfl rfl (splice_all rfl) (by decide) ?_
          intro h7 u7
          refine fa (get_at u7.self rfl ?_)
          refine abin_i (by decide) rfl ?_
          rw [aif_bool, if_neg (by simp; omega)]
          refine abin_i (by decide) rfl ?_
          refine hJ3 (m3 - 1) (by omega) ⟨by simp [f2], by simp [f7], by simp [f10], by simp [f11], by simp [f57], by simp [f58], (oc.trans n6.old).upd (by have := oc.next; omega) u7, i3 + 1, ?_, by omega⟩
          simp; rw [i64_id (by omega) (by omega)]
        · refine acall_q (by kernel_rfl) (c9 hH S _) (ifF rfl ?_)
          refine some1_of hr1.rd.len (some1_of hr2.rd.len ?_)
          refine acall_q (by kernel_rfl) (c17 (T4.old oc)) ?_
          refine abin_i (by decide) rfl (abin_i (by decide) rfl ?_)
          refine Ret.now ?_
          have hm4 := I4.many
          have hsum : L1.length = (exO now [] L1).length + (exL now L1).length := by
            rw [hsp.length_eq]
            unfold exL
            have key : ∀ l : List En, l.length = (l.filter fun e => decide (e.ends ≤ now)).length + (l.filter fun e => decide (e.ends > now)).length := by
              intro l
              induction l with
              | nil => rfl
              | cons e r ih =>
                simp only [gt_iff_lt] at ih ⊢
                by_cases he : e.ends ≤ now
                · have h1 : ¬ e.ends > now := by omega
                  simp [he]; omega
                · have h1 : e.ends > now := by omega
                  simp [he, h1]; omega
            exact key L1
          rw [hm4, i64_id (by omega) (by omega)]
          congr 1
          simp; omega
end Go.Own.Try
