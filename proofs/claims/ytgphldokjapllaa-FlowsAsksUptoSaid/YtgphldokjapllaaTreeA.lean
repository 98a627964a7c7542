/- Part of the proofs: Tm, TA, TB, TC, TD, TE. -/
import Derived.Test.YtgphldokjapllaaProg
import Derived.Test.YtgphldokjapllaaOwnB
import Derived.KernelRfl

namespace Go.Own.Try
open Go.Own Go.Proofs
theorem mixed : Try.prog.follows .mixedOrders = true := by kernel_rfl
end Go.Own.Try

namespace Go.Own.Try
open Go.Own Go.Proofs
set_option maxRecDepth 4000
/- outrider/flows.New -/
def T8 (a0 : AV) (h : AHeap) (Q : AV → AHeap → Prop) : Prop :=
 some1 (AV.cells? a0) fun z => anew z h fun p1 h_ =>
 some1 (aloadv true 16 p1 h_) fun v3 =>
 abuildP Try.prog 61 [(0, 16, v3)] fun v4 =>
 some1 (AV.cells? v4) fun z_2 => anew z_2 h_ fun p5 h__2 =>
 Ret h p5 h__2 Q
theorem T8_eq (a0 : AV) (h : AHeap) (Q : AV → AHeap → Prop) : T8 a0 h Q = wpc Try.prog (max (List.length [a0]) Try.f8.ntmps) (bodyOf Try.f8) (funK Try.prog Try.f8.results.toList h Q) (frame0 [a0]) h := by kernel_rfl
theorem T8_calls {a0 : AV} {h : AHeap} {Q : AV → AHeap → Prop} (H : T8 a0 h Q) : ACalls Try.prog 8 [a0] h Q := ACalls.of_tree mixed Try.func8 (by kernel_rfl) (T8_eq a0 h Q) H

/- outrider/outriderlaw10.plays -/
def T10 (a0 a1 a2 : AV) (h : AHeap) (Q : AV → AHeap → Prop) : Prop :=
 some1 (alen .sl a2 h) fun v14 =>
 ALoop (updl (frame0 [a0, a1, a2]) [(6, .nils), (7, (.bool false)), (13, a2), (14, v14), (15, (.int .i64 0))]) h fun I m fr hl =>
 some1 (abin .lss (fr 15) (fr 14)) fun v16 =>
 aif v16
 (some1 (aiaddr none 11 (fr 13) (fr 15)) fun v17 =>
 some1 (aloadv true 11 v17 hl) fun v18 =>
 some1 (azero Try.prog 47) fun z => anew z hl fun p9 h_ =>
 some1 (astorev 11 p9 v18 h_) fun h__2 =>
 some1 (aloadv true 11 p9 h__2) fun v21 =>
 acall Try.prog 22 [(fr 1), v21] h__2 fun r22 h__3 =>
 some1 (aext r22 0) fun v23 =>
 some1 (aext r22 1) fun v24 =>
 some1 (azero Try.prog 50) fun z_2 => anew z_2 h__3 fun p11 h__4 =>
 some1 (astorev 10 p11 v24 h__4) fun h__5 =>
 some1 (aloadv true 11 p9 h__5) fun v27 =>
 acall Try.prog 16 [(fr 0), v27] h__5 fun r28 h__6 =>
 some1 (azero Try.prog 50) fun z_3 => anew z_3 h__6 fun p12 h__7 =>
 some1 (astorev 10 p12 r28 h__7) fun h__8 =>
 some1 (afaddr 0 p12) fun v29 =>
 some1 (aloadv false 1 v29 h__8) fun v30 =>
 some1 (afaddr 0 p11) fun v31 =>
 some1 (aloadv false 1 v31 h__8) fun v32 =>
 some1 (abin .neq v30 v32) fun v33 =>
 agrd v33 false
 (some1 (afaddr 1 p12) fun v35 =>
 some1 (aloadv true 8 v35 h__8) fun v36 =>
 some1 (afaddr 1 p11) fun v37 =>
 some1 (aloadv true 8 v37 h__8) fun v38 =>
 some1 (aeqP Try.prog .neq 42 v36 v38) fun v39 =>
 agrd v39 false
 (some1 (afaddr 9 p12) fun v42 =>
 some1 (aloadv false 1 v42 h__8) fun v43 =>
 some1 (afaddr 9 p11) fun v44 =>
 some1 (aloadv false 1 v44 h__8) fun v45 =>
 acall Try.prog 11 [v43, v45] h__8 fun r46 h__9 =>
 some1 (aun .not r46) fun v47 =>
 agrd v47 false
 (acall Try.prog 17 [(fr 0)] h__9 fun r51 h__10 =>
 some1 (alen .sl v23 h__10) fun v53 =>
 some1 (abin .neq r51 v53) fun v54 =>
 aif v54
 (Ret h (.tuple [v23, (.bool false)]) h__10 Q)
 (some1 (abin .add (fr 15) (.int .i64 1)) fun v57 =>
 inext I m (updl fr [(16, v16), (17, v17), (18, v18), (9, p9), (20, (fr 1)), (21, v21), (22, r22), (19, r22), (23, v23), (24, v24), (11, p11), (10, v23), (25, v23), (1, v23), (26, (fr 0)), (27, v27), (28, r28), (12, p12), (29, v29), (30, v30), (31, v31), (32, v32), (33, v33), (34, v33), (34, (.bool false)), (35, v35), (34, (.bool false)), (36, v36), (34, (.bool false)), (37, v37), (34, (.bool false)), (38, v38), (34, (.bool false)), (39, v39), (40, v39), (41, v39), (41, (.bool false)), (42, v42), (41, (.bool false)), (43, v43), (41, (.bool false)), (44, v44), (41, (.bool false)), (45, v45), (41, (.bool false)), (46, r46), (41, (.bool false)), (47, v47), (48, v47), (49, v47), (49, (.bool false)), (50, (fr 0)), (49, (.bool false)), (51, r51), (49, (.bool false)), (52, v23), (49, (.bool false)), (53, v53), (49, (.bool false)), (54, v54), (55, v54), (57, v57), (15, v57)]) h__10))
 (Ret h (.tuple [v23, (.bool false)]) h__9 Q))
 (Ret h (.tuple [v23, (.bool false)]) h__8 Q))
 (Ret h (.tuple [v23, (.bool false)]) h__8 Q))
 (Ret h (.tuple [(fr 1), (.bool true)]) hl Q)
theorem T10_eq (a0 a1 a2 : AV) (h : AHeap) (Q : AV → AHeap → Prop) : T10 a0 a1 a2 h Q = wpc Try.prog (max (List.length [a0, a1, a2]) Try.f10.ntmps) (bodyOf Try.f10) (funK Try.prog Try.f10.results.toList h Q) (frame0 [a0, a1, a2]) h := by kernel_rfl
theorem T10_calls {a0 a1 a2 : AV} {h : AHeap} {Q : AV → AHeap → Prop} (H : T10 a0 a1 a2 h Q) : ACalls Try.prog 10 [a0, a1, a2] h Q := ACalls.of_tree mixed Try.func10 (by kernel_rfl) (T10_eq a0 a1 a2 h Q) H

/- outrider/outriderref10.Same -/
def T11 (a0 a1 : AV) (h : AHeap) (Q : AV → AHeap → Prop) : Prop :=
 some1 (alen .sl a0 h) fun v7 =>
 some1 (alen .sl a1 h) fun v9 =>
 some1 (abin .neq v7 v9) fun v10 =>
 aif v10
 (Ret h (.bool false) h Q)
 (ALoop (updl (frame0 [a0, a1]) [(4, (.bool false)), (6, a0), (7, v7), (8, a1), (9, v9), (10, v10), (5, (.int .i64 0))]) h fun I m fr hl =>
 some1 (alen .sl (fr 0) hl) fun v13 =>
 some1 (abin .lss (fr 5) v13) fun v14 =>
 aif v14
 (some1 (aiaddr none 8 (fr 0) (fr 5)) fun v19 =>
 some1 (aloadv true 8 v19 hl) fun v20 =>
 some1 (aiaddr none 8 (fr 1) (fr 5)) fun v23 =>
 some1 (aloadv true 8 v23 hl) fun v24 =>
 some1 (aeqP Try.prog .neq 42 v20 v24) fun v25 =>
 aif v25
 (Ret h (.bool false) hl Q)
 (some1 (abin .add (fr 5) (.int .i64 1)) fun v16 =>
 inext I m (updl fr [(11, (fr 5)), (12, (fr 0)), (13, v13), (14, v14), (17, (fr 0)), (18, (fr 5)), (19, v19), (20, v20), (21, (fr 1)), (22, (fr 5)), (23, v23), (24, v24), (25, v25), (15, (fr 5)), (16, v16), (5, v16)]) hl))
 (Ret h (.bool true) hl Q))
theorem T11_eq (a0 a1 : AV) (h : AHeap) (Q : AV → AHeap → Prop) : T11 a0 a1 h Q = wpc Try.prog (max (List.length [a0, a1]) Try.f11.ntmps) (bodyOf Try.f11) (funK Try.prog Try.f11.results.toList h Q) (frame0 [a0, a1]) h := by kernel_rfl
theorem T11_calls {a0 a1 : AV} {h : AHeap} {Q : AV → AHeap → Prop} (H : T11 a0 a1 h Q) : ACalls Try.prog 11 [a0, a1] h Q := ACalls.of_tree mixed Try.func11 (by kernel_rfl) (T11_eq a0 a1 h Q) H

/- outrider/outriderlaw10.plain -/
def T12 (a0 : AV) (h : AHeap) (Q : AV → AHeap → Prop) : Prop :=
 some1 (alen .sl a0 h) fun v7 =>
 ALoop (updl (frame0 [a0]) [(2, .nils), (3, .nils), (6, a0), (7, v7), (8, (.int .i64 0))]) h fun I m fr hl =>
 some1 (abin .lss (fr 8) (fr 7)) fun v9 =>
 aif v9
 (some1 (aiaddr none 8 (fr 6) (fr 8)) fun v10 =>
 some1 (aloadv true 8 v10 hl) fun v11 =>
 some1 (azero Try.prog 39) fun z => anew z hl fun p5 h_ =>
 some1 (astorev 8 p5 v11 h_) fun h__2 =>
 some1 (aloadv true 8 p5 h__2) fun v13 =>
 alitP Try.prog 27 1 [(0, 8, v13)] h__2 fun s14 h__3 =>
 some1 (aappend 8 80 (fr 3) s14 h__3) fun q15 =>
 some1 (abin .add (fr 8) (.int .i64 1)) fun v16 =>
 inext I m (updl fr [(9, v9), (10, v10), (11, v11), (5, p5), (12, (fr 3)), (13, v13), (14, s14), (15, q15.1), (3, q15.1), (16, v16), (8, v16)]) q15.2)
 (Ret h (fr 3) hl Q)
theorem T12_eq (a0 : AV) (h : AHeap) (Q : AV → AHeap → Prop) : T12 a0 h Q = wpc Try.prog (max (List.length [a0]) Try.f12.ntmps) (bodyOf Try.f12) (funK Try.prog Try.f12.results.toList h Q) (frame0 [a0]) h := by kernel_rfl
theorem T12_calls {a0 : AV} {h : AHeap} {Q : AV → AHeap → Prop} (H : T12 a0 h Q) : ACalls Try.prog 12 [a0] h Q := ACalls.of_tree mixed Try.func12 (by kernel_rfl) (T12_eq a0 h Q) H

/- (*outrider/flows.Table).All -/
def T13 (a0 : AV) (h : AHeap) (Q : AV → AHeap → Prop) : Prop :=
 anil a0 = true ∧
 some1 (afaddr 16 a0) fun v8 =>
 some1 (aloadv true 1152 v8 h) fun v9 =>
 ALoop (updl (frame0 [a0]) [(2, .nils), (3, .nils), (6, a0), (7, a0), (8, v8), (9, v9), (10, (.int .i64 0))]) h fun I m fr hl =>
 some1 (abin .lss (fr 10) (.int .i64 128)) fun v11 =>
 aif v11
 (some1 (aindex (.arr 128 true 9) (fr 9) (fr 10)) fun v12 =>
 some1 (azero Try.prog 58) fun z => anew z hl fun p5 h_ =>
 some1 (astorev 9 p5 v12 h_) fun h__2 =>
 some1 (afaddr 0 p5) fun v13 =>
 some1 (aloadv false 1 v13 h__2) fun v14 =>
 some1 (abin .eql v14 (.int .i64 1)) fun v15 =>
 aif v15
 (some1 (afaddr 1 p5) fun v17 =>
 some1 (aloadv true 8 v17 h__2) fun v18 =>
 alitP Try.prog 32 1 [(0, 8, v18)] h__2 fun s19 h__3 =>
 some1 (aappend 8 80 (fr 3) s19 h__3) fun q20 =>
 some1 (abin .add (fr 10) (.int .i64 1)) fun v21 =>
 inext I m (updl fr [(11, v11), (12, v12), (5, p5), (13, v13), (14, v14), (15, v15), (16, (fr 3)), (17, v17), (18, v18), (19, s19), (20, q20.1), (3, q20.1), (21, v21), (10, v21)]) q20.2)
 (some1 (abin .add (fr 10) (.int .i64 1)) fun v21_2 =>
 inext I m (updl fr [(11, v11), (12, v12), (5, p5), (13, v13), (14, v14), (15, v15), (21, v21_2), (10, v21_2)]) h__2))
 (acall Try.prog 23 [(fr 3), (.func (.func 24) [] [])] hl fun _r23 h__4 =>
 Ret h (fr 3) h__4 Q)
theorem T13_eq (a0 : AV) (h : AHeap) (Q : AV → AHeap → Prop) : T13 a0 h Q = wpc Try.prog (max (List.length [a0]) Try.f13.ntmps) (bodyOf Try.f13) (funK Try.prog Try.f13.results.toList h Q) (frame0 [a0]) h := by kernel_rfl
theorem T13_calls {a0 : AV} {h : AHeap} {Q : AV → AHeap → Prop} (H : T13 a0 h Q) : ACalls Try.prog 13 [a0] h Q := ACalls.of_tree mixed Try.func13 (by kernel_rfl) (T13_eq a0 h Q) H

/- (*outrider/flows.Table).Get -/
def T14 (a0 a1 : AV) (h : AHeap) (Q : AV → AHeap → Prop) : Prop :=
 some1 (AV.cells? a1) fun z => anew z h fun p3 h_ =>
 some1 (azero Try.prog 39) fun z_2 => anew z_2 h_ fun p4 h__2 =>
 some1 (aloadv true 5 p3 h__2) fun v10 =>
 acall Try.prog 26 [a0, v10] h__2 fun r11 h__3 =>
 some1 (aext r11 0) fun v12 =>
 some1 (aext r11 1) fun v13 =>
 some1 (aun .not v13) fun v15 =>
 aif v15
 (abuildP Try.prog 39 [] fun v16 =>
 some1 (astorev 8 p4 v16 h__3) fun h__4 =>
 some1 (aloadv true 8 p4 h__4) fun w =>
 Ret h (.tuple [w, (.bool false)]) h__4 Q)
 (anil a0 = true ∧
 some1 (afaddr 16 a0) fun v20 =>
 some1 (aiaddr (some 128) 9 v20 v12) fun v21 =>
 some1 (afaddr 1 v21) fun v22 =>
 some1 (aloadv true 8 v22 h__3) fun v23 =>
 some1 (astorev 8 p4 v23 h__3) fun h__5 =>
 some1 (aloadv true 8 p4 h__5) fun w_2 =>
 Ret h (.tuple [w_2, (.bool true)]) h__5 Q)
theorem T14_eq (a0 a1 : AV) (h : AHeap) (Q : AV → AHeap → Prop) : T14 a0 a1 h Q = wpc Try.prog (max (List.length [a0, a1]) Try.f14.ntmps) (bodyOf Try.f14) (funK Try.prog Try.f14.results.toList h Q) (frame0 [a0, a1]) h := by kernel_rfl
theorem T14_calls {a0 a1 : AV} {h : AHeap} {Q : AV → AHeap → Prop} (H : T14 a0 a1 h Q) : ACalls Try.prog 14 [a0, a1] h Q := ACalls.of_tree mixed Try.func14 (by kernel_rfl) (T14_eq a0 a1 h Q) H

/- outrider/outriderref10.Get -/
def T15 (a0 a1 : AV) (h : AHeap) (Q : AV → AHeap → Prop) : Prop :=
 some1 (AV.cells? a1) fun z => anew z h fun p3 h_ =>
 some1 (azero Try.prog 42) fun z_2 => anew z_2 h_ fun p4 h__2 =>
 some1 (aloadv true 5 p3 h__2) fun v8 =>
 acall Try.prog 27 [a0, v8] h__2 fun r9 h__3 =>
 some1 (abin .lss r9 (.int .i64 0)) fun v11 =>
 aif v11
 (abuildP Try.prog 42 [] fun v12 =>
 some1 (astorev 8 p4 v12 h__3) fun h__4 =>
 some1 (aloadv true 8 p4 h__4) fun w =>
 Ret h (.tuple [w, (.bool false)]) h__4 Q)
 (some1 (aiaddr none 8 a0 r9) fun v15 =>
 some1 (aloadv true 8 v15 h__3) fun v16 =>
 some1 (astorev 8 p4 v16 h__3) fun h__5 =>
 some1 (aloadv true 8 p4 h__5) fun w_2 =>
 Ret h (.tuple [w_2, (.bool true)]) h__5 Q)
theorem T15_eq (a0 a1 : AV) (h : AHeap) (Q : AV → AHeap → Prop) : T15 a0 a1 h Q = wpc Try.prog (max (List.length [a0, a1]) Try.f15.ntmps) (bodyOf Try.f15) (funK Try.prog Try.f15.results.toList h Q) (frame0 [a0, a1]) h := by kernel_rfl
theorem T15_calls {a0 a1 : AV} {h : AHeap} {Q : AV → AHeap → Prop} (H : T15 a0 a1 h Q) : ACalls Try.prog 15 [a0, a1] h Q := ACalls.of_tree mixed Try.func15 (by kernel_rfl) (T15_eq a0 a1 h Q) H

/- outrider/outriderlaw10.does -/
def T16 (a0 a1 : AV) (h : AHeap) (Q : AV → AHeap → Prop) : Prop :=
 some1 (AV.cells? a1) fun z => anew z h fun p3 h_ =>
 some1 (azero Try.prog 50) fun z_2 => anew z_2 h_ fun p4 h__2 =>
 some1 (azero Try.prog 50) fun z_3 => anew z_3 h__2 fun p5 h__3 =>
 join (fun (J : Fr → AHeap → Prop) =>
 some1 (afaddr 0 p3) fun v9 =>
 some1 (aloadv false 1 v9 h__3) fun v10 =>
 some1 (abin .eql v10 (.int .i64 0)) fun v12 =>
 aif v12
 (some1 (afaddr 3 p3) fun v14 =>
 some1 (afaddr 0 v14) fun v15 =>
 some1 (aloadv true 5 v15 h__3) fun v16 =>
 some1 (afaddr 3 p3) fun v17 =>
 some1 (afaddr 5 v17) fun v18 =>
 some1 (aloadv false 1 v18 h__3) fun v19 =>
 some1 (afaddr 1 p3) fun v20 =>
 some1 (aloadv false 1 v20 h__3) fun v21 =>
 some1 (afaddr 2 p3) fun v22 =>
 some1 (aloadv false 1 v22 h__3) fun v23 =>
 acall Try.prog 19 [a0, v16, v19, v21, v23] h__3 fun r24 h__4 =>
 some1 (afaddr 0 p5) fun v25 =>
 some1 (astorev 1 v25 r24 h__4) fun h__5 =>
 J (updl (frame0 [a0, a1]) [(3, p3), (4, p4), (5, p5), (6, (.bool true)), (9, v9), (10, v10), (12, v12), (11, v12), (13, a0), (14, v14), (15, v15), (16, v16), (17, v17), (18, v18), (19, v19), (20, v20), (21, v21), (22, v22), (23, v23), (24, r24), (25, v25)]) h__5)
 (some1 (abin .eql v10 (.int .i64 1)) fun v27 =>
 aif v27
 (some1 (afaddr 3 p3) fun v30 =>
 some1 (afaddr 0 v30) fun v31 =>
 some1 (aloadv true 5 v31 h__3) fun v32 =>
 some1 (afaddr 1 p3) fun v33 =>
 some1 (aloadv false 1 v33 h__3) fun v34 =>
 some1 (afaddr 2 p3) fun v35 =>
 some1 (aloadv false 1 v35 h__3) fun v36 =>
 acall Try.prog 20 [a0, v32, v34, v36] h__3 fun r37 h__6 =>
 some1 (aext r37 0) fun v38 =>
 some1 (aext r37 1) fun v39 =>
 some1 (azero Try.prog 39) fun z_4 => anew z_4 h__6 fun p7 h__7 =>
 some1 (astorev 8 p7 v38 h__7) fun h__8 =>
 some1 (aloadv true 8 p7 h__8) fun v40 =>
 some1 (afaddr 1 p5) fun v42 =>
 some1 (astorev 8 v42 v40 h__8) fun h__9 =>
 J (updl (frame0 [a0, a1]) [(3, p3), (4, p4), (5, p5), (6, (.bool true)), (9, v9), (10, v10), (12, v12), (11, v12), (27, v27), (26, v27), (29, a0), (30, v30), (31, v31), (32, v32), (33, v33), (34, v34), (35, v35), (36, v36), (37, r37), (28, r37), (38, v38), (39, v39), (7, p7), (8, v39), (40, v40), (41, v39), (42, v42), (6, v39)]) h__9)
 (some1 (abin .eql v10 (.int .i64 2)) fun v44 =>
 aif v44
 (some1 (afaddr 3 p3) fun v46 =>
 some1 (aloadv true 8 v46 h__3) fun v47 =>
 some1 (afaddr 2 p3) fun v48 =>
 some1 (aloadv false 1 v48 h__3) fun v49 =>
 acall Try.prog 28 [a0, v47, v49] h__3 fun r50 h__10 =>
 some1 (afaddr 0 p5) fun v51 =>
 some1 (astorev 1 v51 r50 h__10) fun h__11 =>
 J (updl (frame0 [a0, a1]) [(3, p3), (4, p4), (5, p5), (6, (.bool true)), (9, v9), (10, v10), (12, v12), (11, v12), (27, v27), (26, v27), (44, v44), (43, v44), (45, a0), (46, v46), (47, v47), (48, v48), (49, v49), (50, r50), (51, v51)]) h__11)
 (some1 (abin .eql v10 (.int .i64 3)) fun v53 =>
 aif v53
 (some1 (afaddr 3 p3) fun v55 =>
 some1 (afaddr 0 v55) fun v56 =>
 some1 (aloadv true 5 v56 h__3) fun v57 =>
 acall Try.prog 29 [a0, v57] h__3 fun r58 h__12 =>
 J (updl (frame0 [a0, a1]) [(3, p3), (4, p4), (5, p5), (6, (.bool true)), (9, v9), (10, v10), (12, v12), (11, v12), (27, v27), (26, v27), (44, v44), (43, v44), (53, v53), (52, v53), (54, a0), (55, v55), (56, v56), (57, v57), (58, r58), (6, r58)]) h__12)
 (some1 (abin .eql v10 (.int .i64 4)) fun v60 =>
 aif v60
 (some1 (afaddr 2 p3) fun v62 =>
 some1 (aloadv false 1 v62 h__3) fun v63 =>
 acall Try.prog 18 [a0, v63] h__3 fun r64 h__13 =>
 acall Try.prog 12 [r64] h__13 fun r65 h__14 =>
 some1 (afaddr 9 p5) fun v66 =>
 some1 (astorev 1 v66 r65 h__14) fun h__15 =>
 J (updl (frame0 [a0, a1]) [(3, p3), (4, p4), (5, p5), (6, (.bool true)), (9, v9), (10, v10), (12, v12), (11, v12), (27, v27), (26, v27), (44, v44), (43, v44), (53, v53), (52, v53), (60, v60), (59, v60), (61, a0), (62, v62), (63, v63), (64, r64), (65, r65), (66, v66)]) h__15)
 (J (updl (frame0 [a0, a1]) [(3, p3), (4, p4), (5, p5), (6, (.bool true)), (9, v9), (10, v10), (12, v12), (11, v12), (27, v27), (26, v27), (44, v44), (43, v44), (53, v53), (52, v53), (60, v60), (59, v60)]) h__3))))))
 (fun (fr : Fr) (hj : AHeap) =>
 some1 (aun .not (fr 6)) fun v68 =>
 aif v68
 (some1 (afaddr 0 (fr 5)) fun v69 =>
 some1 (astorev 1 v69 (.int .i64 1) hj) fun h__16 =>
 some1 (aloadv true 10 (fr 5) h__16) fun v70 =>
 some1 (astorev 10 (fr 4) v70 h__16) fun h__17 =>
 some1 (aloadv true 10 (fr 4) h__17) fun w =>
 Ret h w h__17 Q)
 (some1 (aloadv true 10 (fr 5) hj) fun v70_2 =>
 some1 (astorev 10 (fr 4) v70_2 hj) fun h__18 =>
 some1 (aloadv true 10 (fr 4) h__18) fun w_2 =>
 Ret h w_2 h__18 Q))
theorem T16_eq (a0 a1 : AV) (h : AHeap) (Q : AV → AHeap → Prop) : T16 a0 a1 h Q = wpc Try.prog (max (List.length [a0, a1]) Try.f16.ntmps) (bodyOf Try.f16) (funK Try.prog Try.f16.results.toList h Q) (frame0 [a0, a1]) h := by kernel_rfl
theorem T16_calls {a0 a1 : AV} {h : AHeap} {Q : AV → AHeap → Prop} (H : T16 a0 a1 h Q) : ACalls Try.prog 16 [a0, a1] h Q := ACalls.of_tree mixed Try.func16 (by kernel_rfl) (T16_eq a0 a1 h Q) H

/- (*outrider/flows.Table).Len -/
def T17 (a0 : AV) (h : AHeap) (Q : AV → AHeap → Prop) : Prop :=
 anil a0 = true ∧
 some1 (afaddr 1168 a0) fun v5 =>
 some1 (aloadv false 1 v5 h) fun v6 =>
 Ret h v6 h Q
theorem T17_eq (a0 : AV) (h : AHeap) (Q : AV → AHeap → Prop) : T17 a0 h Q = wpc Try.prog (max (List.length [a0]) Try.f17.ntmps) (bodyOf Try.f17) (funK Try.prog Try.f17.results.toList h Q) (frame0 [a0]) h := by kernel_rfl
theorem T17_calls {a0 : AV} {h : AHeap} {Q : AV → AHeap → Prop} (H : T17 a0 h Q) : ACalls Try.prog 17 [a0] h Q := ACalls.of_tree mixed Try.func17 (by kernel_rfl) (T17_eq a0 h Q) H

/- (*outrider/flows.Table).Expire -/
def T18 (a0 a1 : AV) (h : AHeap) (Q : AV → AHeap → Prop) : Prop :=
 anil a0 = true ∧
 some1 (afaddr 16 a0) fun v12 =>
 some1 (aloadv true 1152 v12 h) fun v13 =>
 ALoop (updl (frame0 [a0, a1]) [(4, .nils), (5, .nils), (10, a0), (11, a0), (12, v12), (13, v13), (14, (.int .i64 0))]) h fun I m fr hl =>
 some1 (abin .lss (fr 14) (.int .i64 128)) fun v15 =>
 aif v15
 (some1 (aindex (.arr 128 true 9) (fr 13) (fr 14)) fun v16 =>
 some1 (azero Try.prog 58) fun z => anew z hl fun p7 h_ =>
 some1 (astorev 9 p7 v16 h_) fun h__2 =>
 some1 (afaddr 0 p7) fun v17 =>
 some1 (aloadv false 1 v17 h__2) fun v18 =>
 some1 (abin .eql v18 (.int .i64 1)) fun v19 =>
 agrd v19 true
 (some1 (afaddr 1 p7) fun v21 =>
 some1 (afaddr 7 v21) fun v22 =>
 some1 (aloadv false 1 v22 h__2) fun v23 =>
 some1 (abin .leq v23 (fr 1)) fun v25 =>
 aif v25
 (some1 (afaddr 1 p7) fun v28 =>
 some1 (aloadv true 8 v28 h__2) fun v29 =>
 alitP Try.prog 32 1 [(0, 8, v29)] h__2 fun s30 h__3 =>
 some1 (aappend 8 80 (fr 5) s30 h__3) fun q31 =>
 some1 (abin .add (fr 14) (.int .i64 1)) fun v32 =>
 inext I m (updl fr [(15, v15), (16, v16), (7, p7), (17, v17), (18, v18), (19, v19), (20, v19), (20, (.bool true)), (21, v21), (20, (.bool true)), (22, v22), (20, (.bool true)), (23, v23), (20, (.bool true)), (24, (fr 1)), (20, (.bool true)), (25, v25), (26, v25), (27, (fr 5)), (28, v28), (29, v29), (30, s30), (31, q31.1), (5, q31.1), (32, v32), (14, v32)]) q31.2)
 (some1 (abin .add (fr 14) (.int .i64 1)) fun v32_2 =>
 inext I m (updl fr [(15, v15), (16, v16), (7, p7), (17, v17), (18, v18), (19, v19), (20, v19), (20, (.bool true)), (21, v21), (20, (.bool true)), (22, v22), (20, (.bool true)), (23, v23), (20, (.bool true)), (24, (fr 1)), (20, (.bool true)), (25, v25), (26, v25), (32, v32_2), (14, v32_2)]) h__2))
 (some1 (abin .add (fr 14) (.int .i64 1)) fun v32_3 =>
 inext I m (updl fr [(15, v15), (16, v16), (7, p7), (17, v17), (18, v18), (19, v19), (20, v19), (20, (.bool false)), (21, (.tuple [])), (20, (.bool false)), (22, (.tuple [])), (20, (.bool false)), (23, (.tuple [])), (20, (.bool false)), (24, (.tuple [])), (20, (.bool false)), (25, (.tuple [])), (26, (.bool false)), (32, v32_3), (14, v32_3)]) h__2))
 (acall Try.prog 23 [(fr 5), (.func (.func 30) [] [])] hl fun r34 h__4 =>
 some1 (alen .sl (fr 5) h__4) fun v36 =>
 ALoop (updl fr [(15, v15), (33, (fr 5)), (34, r34), (35, (fr 5)), (36, v36), (37, (.int .i64 0))]) h__4 fun I_2 m_2 fr_2 hl_2 =>
 some1 (abin .lss (fr_2 37) (fr_2 36)) fun v38 =>
 aif v38
 (some1 (aiaddr none 8 (fr_2 35) (fr_2 37)) fun v39 =>
 some1 (aloadv true 8 v39 hl_2) fun v40 =>
 some1 (azero Try.prog 39) fun z_2 => anew z_2 hl_2 fun p9 h__5 =>
 some1 (astorev 8 p9 v40 h__5) fun h__6 =>
 some1 (afaddr 0 p9) fun v42 =>
 some1 (aloadv true 5 v42 h__6) fun v43 =>
 acall Try.prog 29 [(fr_2 0), v43] h__6 fun r44 h__7 =>
 some1 (abin .add (fr_2 37) (.int .i64 1)) fun v45 =>
 inext I_2 m_2 (updl fr_2 [(38, v38), (39, v39), (40, v40), (9, p9), (41, (fr_2 0)), (42, v42), (43, v43), (44, r44), (45, v45), (37, v45)]) h__7)
 (Ret h (fr_2 5) hl_2 Q))
theorem T18_eq (a0 a1 : AV) (h : AHeap) (Q : AV → AHeap → Prop) : T18 a0 a1 h Q = wpc Try.prog (max (List.length [a0, a1]) Try.f18.ntmps) (bodyOf Try.f18) (funK Try.prog Try.f18.results.toList h Q) (frame0 [a0, a1]) h := by kernel_rfl
theorem T18_calls {a0 a1 : AV} {h : AHeap} {Q : AV → AHeap → Prop} (H : T18 a0 a1 h Q) : ACalls Try.prog 18 [a0, a1] h Q := ACalls.of_tree mixed Try.func18 (by kernel_rfl) (T18_eq a0 a1 h Q) H

end Go.Own.Try

namespace Go.Own.Try
open Go.Own Go.Proofs
set_option maxRecDepth 4000
/- (*outrider/flows.Table).Open -/
def T19 (a0 a1 a2 a3 a4 : AV) (h : AHeap) (Q : AV → AHeap → Prop) : Prop :=
 some1 (AV.cells? a1) fun z => anew z h fun p6 h_ =>
 some1 (aloadv true 5 p6 h_) fun v16 =>
 acall Try.prog 26 [a0, v16] h_ fun r17 h__2 =>
 some1 (aext r17 0) fun v18 =>
 some1 (aext r17 1) fun v19 =>
 acall Try.prog 33 [a2] h__2 fun r22 h__3 =>
 some1 (aun .not r22) fun v23 =>
 agrd v23 false
 (acall Try.prog 34 [a4] h__3 fun r26 h__4 =>
 some1 (aun .not r26) fun v27 =>
 aif v27
 (Ret h (.int .i64 1) h__4 Q)
 (some1 (aun .not v19) fun v31 =>
 agrd v31 true
 (anil a0 = true ∧
 some1 (afaddr 1168 a0) fun v35 =>
 some1 (aloadv false 1 v35 h__4) fun v36 =>
 some1 (abin .geq v36 (.int .i64 64)) fun v37 =>
 aif v37
 (Ret h (.int .i64 100) h__4 Q)
 (join (fun (J : Fr → AHeap → Prop) =>
 some1 (afaddr 0 p6) fun v39 =>
 some1 (aloadv false 1 v39 h__4) fun v40 =>
 some1 (abin .eql v40 (.int .i64 6)) fun v41 =>
 aif v41
 (acall Try.prog 35 [(.int .i64 1), a3] h__4 fun r43 h__5 =>
 J (updl (frame0 [a0, a1, a2, a3, a4]) [(6, p6), (10, (.int .i64 0)), (15, a0), (16, v16), (17, r17), (14, r17), (18, v18), (19, v19), (11, v18), (12, v19), (21, a2), (22, r22), (23, v23), (24, v23), (24, (.bool false)), (25, a4), (24, (.bool false)), (26, r26), (24, (.bool false)), (27, v27), (28, v27), (20, v27), (30, v19), (31, v31), (32, v31), (32, (.bool true)), (33, a0), (32, (.bool true)), (34, a0), (32, (.bool true)), (35, v35), (32, (.bool true)), (36, v36), (32, (.bool true)), (37, v37), (38, v37), (29, v37), (13, (.int .i64 4)), (39, v39), (40, v40), (41, v41), (42, a3), (43, r43), (13, r43)]) h__5)
 (J (updl (frame0 [a0, a1, a2, a3, a4]) [(6, p6), (10, (.int .i64 0)), (15, a0), (16, v16), (17, r17), (14, r17), (18, v18), (19, v19), (11, v18), (12, v19), (21, a2), (22, r22), (23, v23), (24, v23), (24, (.bool false)), (25, a4), (24, (.bool false)), (26, r26), (24, (.bool false)), (27, v27), (28, v27), (20, v27), (30, v19), (31, v31), (32, v31), (32, (.bool true)), (33, a0), (32, (.bool true)), (34, a0), (32, (.bool true)), (35, v35), (32, (.bool true)), (36, v36), (32, (.bool true)), (37, v37), (38, v37), (29, v37), (13, (.int .i64 4)), (39, v39), (40, v40), (41, v41)]) h__4))
 (fun (fr : Fr) (hj : AHeap) =>
 some1 (aloadv true 5 (fr 6) hj) fun v46 =>
 aqcall Try.prog 21 [(fr 13)] hj fun r51 =>
 some1 (abin .add (fr 4) r51) fun v52 =>
 abuildP Try.prog 39 [(0, 5, v46), (5, 1, (fr 2)), (6, 1, (fr 13)), (7, 1, v52)] fun v53 =>
 acall Try.prog 36 [(fr 0), (fr 11), v53] hj fun _r54 h__6 =>
 Ret h (.int .i64 0) h__6 Q)))
 (join (fun (J_2 : Fr → AHeap → Prop) =>
 some1 (afaddr 0 p6) fun v39_2 =>
 some1 (aloadv false 1 v39_2 h__4) fun v40_2 =>
 some1 (abin .eql v40_2 (.int .i64 6)) fun v41_2 =>
 aif v41_2
 (acall Try.prog 35 [(.int .i64 1), a3] h__4 fun r43_2 h__7 =>
 J_2 (updl (frame0 [a0, a1, a2, a3, a4]) [(6, p6), (10, (.int .i64 0)), (15, a0), (16, v16), (17, r17), (14, r17), (18, v18), (19, v19), (11, v18), (12, v19), (21, a2), (22, r22), (23, v23), (24, v23), (24, (.bool false)), (25, a4), (24, (.bool false)), (26, r26), (24, (.bool false)), (27, v27), (28, v27), (20, v27), (30, v19), (31, v31), (32, v31), (32, (.bool false)), (33, (.tuple [])), (32, (.bool false)), (34, (.tuple [])), (32, (.bool false)), (35, (.tuple [])), (32, (.bool false)), (36, (.tuple [])), (32, (.bool false)), (37, (.tuple [])), (38, (.bool false)), (29, (.bool false)), (13, (.int .i64 4)), (39, v39_2), (40, v40_2), (41, v41_2), (42, a3), (43, r43_2), (13, r43_2)]) h__7)
 (J_2 (updl (frame0 [a0, a1, a2, a3, a4]) [(6, p6), (10, (.int .i64 0)), (15, a0), (16, v16), (17, r17), (14, r17), (18, v18), (19, v19), (11, v18), (12, v19), (21, a2), (22, r22), (23, v23), (24, v23), (24, (.bool false)), (25, a4), (24, (.bool false)), (26, r26), (24, (.bool false)), (27, v27), (28, v27), (20, v27), (30, v19), (31, v31), (32, v31), (32, (.bool false)), (33, (.tuple [])), (32, (.bool false)), (34, (.tuple [])), (32, (.bool false)), (35, (.tuple [])), (32, (.bool false)), (36, (.tuple [])), (32, (.bool false)), (37, (.tuple [])), (38, (.bool false)), (29, (.bool false)), (13, (.int .i64 4)), (39, v39_2), (40, v40_2), (41, v41_2)]) h__4))
 (fun (fr_2 : Fr) (hj_2 : AHeap) =>
 some1 (aloadv true 5 (fr_2 6) hj_2) fun v46_2 =>
 aqcall Try.prog 21 [(fr_2 13)] hj_2 fun r51_2 =>
 some1 (abin .add (fr_2 4) r51_2) fun v52_2 =>
 abuildP Try.prog 39 [(0, 5, v46_2), (5, 1, (fr_2 2)), (6, 1, (fr_2 13)), (7, 1, v52_2)] fun v53_2 =>
 acall Try.prog 36 [(fr_2 0), (fr_2 11), v53_2] hj_2 fun _r54_2 h__8 =>
 Ret h (.int .i64 0) h__8 Q))))
 (Ret h (.int .i64 1) h__3 Q)
theorem T19_eq (a0 a1 a2 a3 a4 : AV) (h : AHeap) (Q : AV → AHeap → Prop) : T19 a0 a1 a2 a3 a4 h Q = wpc Try.prog (max (List.length [a0, a1, a2, a3, a4]) Try.f19.ntmps) (bodyOf Try.f19) (funK Try.prog Try.f19.results.toList h Q) (frame0 [a0, a1, a2, a3, a4]) h := by kernel_rfl
theorem T19_calls {a0 a1 a2 a3 a4 : AV} {h : AHeap} {Q : AV → AHeap → Prop} (H : T19 a0 a1 a2 a3 a4 h Q) : ACalls Try.prog 19 [a0, a1, a2, a3, a4] h Q := ACalls.of_tree mixed Try.func19 (by kernel_rfl) (T19_eq a0 a1 a2 a3 a4 h Q) H

/- (*outrider/flows.Table).See -/
def T20 (a0 a1 a2 a3 : AV) (h : AHeap) (Q : AV → AHeap → Prop) : Prop :=
 some1 (AV.cells? a1) fun z => anew z h fun p5 h_ =>
 some1 (azero Try.prog 39) fun z_2 => anew z_2 h_ fun p8 h__2 =>
 some1 (aloadv true 5 p5 h__2) fun v15 =>
 acall Try.prog 26 [a0, v15] h__2 fun r16 h__3 =>
 some1 (aext r16 0) fun v17 =>
 some1 (aext r16 1) fun v18 =>
 some1 (aun .not v18) fun v20 =>
 agrd v20 false
 (acall Try.prog 34 [a3] h__3 fun r23 h__4 =>
 some1 (aun .not r23) fun v24 =>
 aif v24
 (abuildP Try.prog 39 [] fun v26 =>
 some1 (astorev 8 p8 v26 h__4) fun h__5 =>
 some1 (aloadv true 8 p8 h__5) fun w =>
 Ret h (.tuple [w, (.bool false)]) h__5 Q)
 (anil a0 = true ∧
 some1 (afaddr 16 a0) fun v30 =>
 some1 (aiaddr (some 128) 9 v30 v17) fun v31 =>
 some1 (afaddr 1 v31) fun v32 =>
 some1 (aloadv true 8 v32 h__4) fun v33 =>
 some1 (azero Try.prog 39) fun z_3 => anew z_3 h__4 fun p12 h__6 =>
 some1 (astorev 8 p12 v33 h__6) fun h__7 =>
 some1 (afaddr 6 p12) fun v34 =>
 some1 (aloadv false 1 v34 h__7) fun v35 =>
 acall Try.prog 35 [v35, a2] h__7 fun r37 h__8 =>
 some1 (afaddr 6 p12) fun v38 =>
 some1 (astorev 1 v38 r37 h__8) fun h__9 =>
 some1 (afaddr 6 p12) fun v40 =>
 some1 (aloadv false 1 v40 h__9) fun v41 =>
 acall Try.prog 21 [v41] h__9 fun r42 h__10 =>
 some1 (abin .add a3 r42) fun v43 =>
 some1 (afaddr 7 p12) fun v44 =>
 some1 (astorev 1 v44 v43 h__10) fun h__11 =>
 some1 (aloadv true 8 p12 h__11) fun v47 =>
 acall Try.prog 36 [a0, v17, v47] h__11 fun _r48 h__12 =>
 some1 (aloadv true 8 p12 h__12) fun v49 =>
 some1 (astorev 8 p8 v49 h__12) fun h__13 =>
 some1 (aloadv true 8 p8 h__13) fun w_2 =>
 Ret h (.tuple [w_2, (.bool true)]) h__13 Q))
 (abuildP Try.prog 39 [] fun v26_2 =>
 some1 (astorev 8 p8 v26_2 h__3) fun h__14 =>
 some1 (aloadv true 8 p8 h__14) fun w_3 =>
 Ret h (.tuple [w_3, (.bool false)]) h__14 Q)
theorem T20_eq (a0 a1 a2 a3 : AV) (h : AHeap) (Q : AV → AHeap → Prop) : T20 a0 a1 a2 a3 h Q = wpc Try.prog (max (List.length [a0, a1, a2, a3]) Try.f20.ntmps) (bodyOf Try.f20) (funK Try.prog Try.f20.results.toList h Q) (frame0 [a0, a1, a2, a3]) h := by kernel_rfl
theorem T20_calls {a0 a1 a2 a3 : AV} {h : AHeap} {Q : AV → AHeap → Prop} (H : T20 a0 a1 a2 a3 h Q) : ACalls Try.prog 20 [a0, a1, a2, a3] h Q := ACalls.of_tree mixed Try.func20 (by kernel_rfl) (T20_eq a0 a1 a2 a3 h Q) H

/- outrider/flows.Life -/
def T21 (a0 : AV) (h : AHeap) (Q : AV → AHeap → Prop) : Prop :=
 some1 (abin .eql a0 (.int .i64 1)) fun v5 =>
 aif v5
 (Ret h (.int .i64 60) h Q)
 (some1 (abin .eql a0 (.int .i64 2)) fun v7 =>
 aif v7
 (Ret h (.int .i64 900) h Q)
 (some1 (abin .eql a0 (.int .i64 3)) fun v9 =>
 aif v9
 (Ret h (.int .i64 30) h Q)
 (some1 (abin .eql a0 (.int .i64 4)) fun v11 =>
 aif v11
 (Ret h (.int .i64 120) h Q)
 (Ret h (.int .i64 0) h Q))))
theorem T21_eq (a0 : AV) (h : AHeap) (Q : AV → AHeap → Prop) : T21 a0 h Q = wpc Try.prog (max (List.length [a0]) Try.f21.ntmps) (bodyOf Try.f21) (funK Try.prog Try.f21.results.toList h Q) (frame0 [a0]) h := by kernel_rfl
theorem T21_calls {a0 : AV} {h : AHeap} {Q : AV → AHeap → Prop} (H : T21 a0 h Q) : ACalls Try.prog 21 [a0] h Q := ACalls.of_tree mixed Try.func21 (by kernel_rfl) (T21_eq a0 h Q) H

/- outrider/outriderref10.Do -/
def T22 (a0 a1 : AV) (h : AHeap) (Q : AV → AHeap → Prop) : Prop :=
 some1 (AV.cells? a1) fun z => anew z h fun p3 h_ =>
 some1 (azero Try.prog 50) fun z_2 => anew z_2 h_ fun p5 h__2 =>
 some1 (azero Try.prog 50) fun z_3 => anew z_3 h__2 fun p6 h__3 =>
 some1 (afaddr 0 p3) fun v10 =>
 some1 (aloadv false 1 v10 h__3) fun v11 =>
 some1 (abin .eql v11 (.int .i64 0)) fun v13 =>
 aif v13
 (some1 (afaddr 3 p3) fun v16 =>
 some1 (afaddr 0 v16) fun v17 =>
 some1 (aloadv true 5 v17 h__3) fun v18 =>
 some1 (afaddr 3 p3) fun v19 =>
 some1 (afaddr 5 v19) fun v20 =>
 some1 (aloadv false 1 v20 h__3) fun v21 =>
 abuildP Try.prog 42 [(0, 5, v18), (5, 1, v21)] fun v22 =>
 some1 (afaddr 1 p3) fun v23 =>
 some1 (aloadv false 1 v23 h__3) fun v24 =>
 some1 (afaddr 2 p3) fun v25 =>
 some1 (aloadv false 1 v25 h__3) fun v26 =>
 acall Try.prog 37 [a0, v22, v24, v26] h__3 fun r27 h__4 =>
 some1 (aext r27 0) fun v28 =>
 some1 (aext r27 1) fun v29 =>
 some1 (afaddr 0 p6) fun v30 =>
 some1 (astorev 1 v30 v29 h__4) fun h__5 =>
 some1 (aloadv true 10 p6 h__5) fun v89 =>
 some1 (astorev 10 p5 v89 h__5) fun h__6 =>
 some1 (aloadv true 10 p5 h__6) fun w =>
 Ret h (.tuple [v28, w]) h__6 Q)
 (some1 (abin .eql v11 (.int .i64 1)) fun v32 =>
 aif v32
 (some1 (afaddr 3 p3) fun v35 =>
 some1 (afaddr 0 v35) fun v36 =>
 some1 (aloadv true 5 v36 h__3) fun v37 =>
 some1 (afaddr 1 p3) fun v38 =>
 some1 (aloadv false 1 v38 h__3) fun v39 =>
 some1 (afaddr 2 p3) fun v40 =>
 some1 (aloadv false 1 v40 h__3) fun v41 =>
 acall Try.prog 38 [a0, v37, v39, v41] h__3 fun r42 h__7 =>
 some1 (aext r42 0) fun v43 =>
 some1 (aext r42 1) fun v44 =>
 some1 (aext r42 2) fun v45 =>
 some1 (azero Try.prog 42) fun z_4 => anew z_4 h__7 fun p8 h__8 =>
 some1 (astorev 8 p8 v44 h__8) fun h__9 =>
 some1 (aloadv true 8 p8 h__9) fun v47 =>
 some1 (afaddr 1 p6) fun v48 =>
 some1 (astorev 8 v48 v47 h__9) fun h__10 =>
 some1 (aun .not v45) fun v50 =>
 aif v50
 (some1 (afaddr 0 p6) fun v51 =>
 some1 (astorev 1 v51 (.int .i64 1) h__10) fun h__11 =>
 some1 (aloadv true 10 p6 h__11) fun v89_2 =>
 some1 (astorev 10 p5 v89_2 h__11) fun h__12 =>
 some1 (aloadv true 10 p5 h__12) fun w_2 =>
 Ret h (.tuple [v43, w_2]) h__12 Q)
 (some1 (aloadv true 10 p6 h__10) fun v89_3 =>
 some1 (astorev 10 p5 v89_3 h__10) fun h__13 =>
 some1 (aloadv true 10 p5 h__13) fun w_3 =>
 Ret h (.tuple [v43, w_3]) h__13 Q))
 (some1 (abin .eql v11 (.int .i64 2)) fun v53 =>
 aif v53
 (some1 (afaddr 3 p3) fun v56 =>
 some1 (aloadv true 8 v56 h__3) fun v57 =>
 some1 (afaddr 2 p3) fun v58 =>
 some1 (aloadv false 1 v58 h__3) fun v59 =>
 acall Try.prog 39 [a0, v57, v59] h__3 fun r60 h__14 =>
 some1 (aext r60 0) fun v61 =>
 some1 (aext r60 1) fun v62 =>
 some1 (afaddr 0 p6) fun v63 =>
 some1 (astorev 1 v63 v62 h__14) fun h__15 =>
 some1 (aloadv true 10 p6 h__15) fun v89_4 =>
 some1 (astorev 10 p5 v89_4 h__15) fun h__16 =>
 some1 (aloadv true 10 p5 h__16) fun w_4 =>
 Ret h (.tuple [v61, w_4]) h__16 Q)
 (some1 (abin .eql v11 (.int .i64 3)) fun v65 =>
 aif v65
 (join (fun (J : Fr → AHeap → Prop) =>
 some1 (afaddr 3 p3) fun v67 =>
 some1 (afaddr 0 v67) fun v68 =>
 some1 (aloadv true 5 v68 h__3) fun v69 =>
 acall Try.prog 27 [a0, v69] h__3 fun r70 h__17 =>
 some1 (abin .lss r70 (.int .i64 0)) fun v71 =>
 aif v71
 (some1 (afaddr 0 p6) fun v72 =>
 some1 (astorev 1 v72 (.int .i64 1) h__17) fun h__18 =>
 J (updl (frame0 [a0, a1]) [(3, p3), (4, .nils), (5, p5), (6, p6), (10, v10), (11, v11), (13, v13), (12, v13), (32, v32), (31, v32), (53, v53), (52, v53), (65, v65), (64, v65), (66, a0), (67, v67), (68, v68), (69, v69), (70, r70), (71, v71), (72, v72)]) h__18)
 (J (updl (frame0 [a0, a1]) [(3, p3), (4, .nils), (5, p5), (6, p6), (10, v10), (11, v11), (13, v13), (12, v13), (32, v32), (31, v32), (53, v53), (52, v53), (65, v65), (64, v65), (66, a0), (67, v67), (68, v68), (69, v69), (70, r70), (71, v71)]) h__17))
 (fun (fr : Fr) (hj : AHeap) =>
 some1 (afaddr 3 (fr 3)) fun v74 =>
 some1 (afaddr 0 v74) fun v75 =>
 some1 (aloadv true 5 v75 hj) fun v76 =>
 acall Try.prog 40 [(fr 0), v76] hj fun r77 h__19 =>
 some1 (aloadv true 10 (fr 6) h__19) fun v89_5 =>
 some1 (astorev 10 (fr 5) v89_5 h__19) fun h__20 =>
 some1 (aloadv true 10 (fr 5) h__20) fun w_5 =>
 Ret h (.tuple [r77, w_5]) h__20 Q))
 (some1 (abin .eql v11 (.int .i64 4)) fun v79 =>
 aif v79
 (some1 (afaddr 2 p3) fun v82 =>
 some1 (aloadv false 1 v82 h__3) fun v83 =>
 acall Try.prog 41 [a0, v83] h__3 fun r84 h__21 =>
 some1 (aext r84 0) fun v85 =>
 some1 (aext r84 1) fun v86 =>
 some1 (afaddr 9 p6) fun v87 =>
 some1 (astorev 1 v87 v86 h__21) fun h__22 =>
 some1 (aloadv true 10 p6 h__22) fun v89_6 =>
 some1 (astorev 10 p5 v89_6 h__22) fun h__23 =>
 some1 (aloadv true 10 p5 h__23) fun w_6 =>
 Ret h (.tuple [v85, w_6]) h__23 Q)
 (some1 (aloadv true 10 p6 h__3) fun v89_7 =>
 some1 (astorev 10 p5 v89_7 h__3) fun h__24 =>
 some1 (aloadv true 10 p5 h__24) fun w_7 =>
 Ret h (.tuple [a0, w_7]) h__24 Q)))))
theorem T22_eq (a0 a1 : AV) (h : AHeap) (Q : AV → AHeap → Prop) : T22 a0 a1 h Q = wpc Try.prog (max (List.length [a0, a1]) Try.f22.ntmps) (bodyOf Try.f22) (funK Try.prog Try.f22.results.toList h Q) (frame0 [a0, a1]) h := by kernel_rfl
theorem T22_calls {a0 a1 : AV} {h : AHeap} {Q : AV → AHeap → Prop} (H : T22 a0 a1 h Q) : ACalls Try.prog 22 [a0, a1] h Q := ACalls.of_tree mixed Try.func22 (by kernel_rfl) (T22_eq a0 a1 h Q) H

/- (*outrider/flows.Table).All$1 -/
def T24 (a0 a1 : AV) (h : AHeap) (Q : AV → AHeap → Prop) : Prop :=
 some1 (AV.cells? a0) fun z => anew z h fun p2 h_ =>
 some1 (AV.cells? a1) fun z_2 => anew z_2 h_ fun p3 h__2 =>
 some1 (afaddr 0 p2) fun v5 =>
 some1 (aloadv true 5 v5 h__2) fun v6 =>
 some1 (afaddr 0 p3) fun v7 =>
 some1 (aloadv true 5 v7 h__2) fun v8 =>
 acall Try.prog 25 [v6, v8] h__2 fun r9 h__3 =>
 Ret h r9 h__3 Q
theorem T24_eq (a0 a1 : AV) (h : AHeap) (Q : AV → AHeap → Prop) : T24 a0 a1 h Q = wpc Try.prog (max (List.length [a0, a1]) Try.f24.ntmps) (bodyOf Try.f24) (funK Try.prog Try.f24.results.toList h Q) (frame0 [a0, a1]) h := by kernel_rfl
theorem T24_calls {a0 a1 : AV} {h : AHeap} {Q : AV → AHeap → Prop} (H : T24 a0 a1 h Q) : ACalls Try.prog 24 [a0, a1] h Q := ACalls.of_tree mixed Try.func24 (by kernel_rfl) (T24_eq a0 a1 h Q) H

/- outrider/flows.compare -/
def T25 (a0 a1 : AV) (h : AHeap) (Q : AV → AHeap → Prop) : Prop :=
 some1 (AV.cells? a0) fun z => anew z h fun p2 h_ =>
 some1 (AV.cells? a1) fun z_2 => anew z_2 h_ fun p3 h__2 =>
 some1 (afaddr 0 p2) fun v5 =>
 some1 (aloadv false 1 v5 h__2) fun v6 =>
 some1 (afaddr 0 p3) fun v7 =>
 some1 (aloadv false 1 v7 h__2) fun v8 =>
 aqcall Try.prog 32 [v6, v8] h__2 fun r9 =>
 some1 (afaddr 1 p2) fun v10 =>
 some1 (aloadv false 1 v10 h__2) fun v11 =>
 some1 (afaddr 1 p3) fun v12 =>
 some1 (aloadv false 1 v12 h__2) fun v13 =>
 aqcall Try.prog 44 [v11, v13] h__2 fun r14 =>
 some1 (afaddr 3 p2) fun v15 =>
 some1 (aloadv false 1 v15 h__2) fun v16 =>
 some1 (afaddr 3 p3) fun v17 =>
 some1 (aloadv false 1 v17 h__2) fun v18 =>
 aqcall Try.prog 32 [v16, v18] h__2 fun r19 =>
 some1 (afaddr 2 p2) fun v20 =>
 some1 (aloadv false 1 v20 h__2) fun v21 =>
 some1 (afaddr 2 p3) fun v22 =>
 some1 (aloadv false 1 v22 h__2) fun v23 =>
 aqcall Try.prog 44 [v21, v23] h__2 fun r24 =>
 some1 (afaddr 4 p2) fun v25 =>
 some1 (aloadv false 1 v25 h__2) fun v26 =>
 some1 (afaddr 4 p3) fun v27 =>
 some1 (aloadv false 1 v27 h__2) fun v28 =>
 acall Try.prog 32 [v26, v28] h__2 fun r29 h__3 =>
 alitP Try.prog 94 5 [(0, 1, r9), (1, 1, r14), (2, 1, r19), (3, 1, r24), (4, 1, r29)] h__3 fun s30 h__4 =>
 acall Try.prog 31 [s30] h__4 fun r31 h__5 =>
 Ret h r31 h__5 Q
theorem T25_eq (a0 a1 : AV) (h : AHeap) (Q : AV → AHeap → Prop) : T25 a0 a1 h Q = wpc Try.prog (max (List.length [a0, a1]) Try.f25.ntmps) (bodyOf Try.f25) (funK Try.prog Try.f25.results.toList h Q) (frame0 [a0, a1]) h := by kernel_rfl
theorem T25_calls {a0 a1 : AV} {h : AHeap} {Q : AV → AHeap → Prop} (H : T25 a0 a1 h Q) : ACalls Try.prog 25 [a0, a1] h Q := ACalls.of_tree mixed Try.func25 (by kernel_rfl) (T25_eq a0 a1 h Q) H

/- (*outrider/flows.Table).find -/
def T26 (a0 a1 : AV) (h : AHeap) (Q : AV → AHeap → Prop) : Prop :=
 some1 (AV.cells? a1) fun z => anew z h fun p3 h_ =>
 anil a0 = true ∧
 some1 (afaddr 0 a0) fun v11 =>
 some1 (aloadv true 16 v11 h_) fun v12 =>
 some1 (aloadv true 5 p3 h_) fun v13 =>
 acall Try.prog 45 [v12, v13] h_ fun r14 h__2 =>
 some1 (abin .rem r14 (.int .u64 128)) fun v15 =>
 some1 (acv (.int .i64) v15 h__2) fun q16 =>
 ALoop (updl (frame0 [a0, a1]) [(3, p3), (4, (.int .i64 0)), (5, (.bool false)), (9, a0), (10, a0), (11, v11), (12, v12), (13, v13), (14, r14), (15, v15), (16, q16.1), (6, q16.1), (7, (.int .i64 (-1))), (17, (.int .i64 0))]) q16.2 fun I m fr hl =>
 some1 (abin .lss (fr 17) (.int .i64 128)) fun v18 =>
 aif v18
 (anil (fr 0) = true ∧
 some1 (afaddr 16 (fr 0)) fun v22 =>
 some1 (aiaddr (some 128) 9 v22 (fr 6)) fun v23 =>
 some1 (aloadv true 9 v23 hl) fun v24 =>
 some1 (azero Try.prog 58) fun z_2 => anew z_2 hl fun p8 h__3 =>
 some1 (astorev 9 p8 v24 h__3) fun h__4 =>
 join (fun (J : Fr → AHeap → Prop) =>
 some1 (afaddr 0 p8) fun v26 =>
 some1 (aloadv false 1 v26 h__4) fun v27 =>
 some1 (abin .eql v27 (.int .i64 1)) fun v28 =>
 agrd v28 true
 (some1 (afaddr 1 p8) fun v30 =>
 some1 (afaddr 0 v30) fun v31 =>
 some1 (aloadv true 5 v31 h__4) fun v32 =>
 some1 (aloadv true 5 (fr 3) h__4) fun v33 =>
 some1 (aeqP Try.prog .eql 37 v32 v33) fun v34 =>
 aif v34
 (Ret h (.tuple [(fr 6), (.bool true)]) h__4 Q)
 (some1 (afaddr 0 p8) fun v38 =>
 some1 (aloadv false 1 v38 h__4) fun v39 =>
 some1 (abin .neq v39 (.int .i64 1)) fun v40 =>
 agrd v40 true
 (some1 (abin .lss (fr 7) (.int .i64 0)) fun v43 =>
 aif v43
 (J (updl fr [(18, v18), (19, (fr 0)), (20, (fr 6)), (21, (fr 0)), (22, v22), (23, v23), (24, v24), (8, p8), (26, v26), (27, v27), (28, v28), (29, v28), (29, (.bool true)), (30, v30), (29, (.bool true)), (31, v31), (29, (.bool true)), (32, v32), (29, (.bool true)), (33, v33), (29, (.bool true)), (34, v34), (35, v34), (25, v34), (38, v38), (39, v39), (40, v40), (41, v40), (41, (.bool true)), (42, (fr 7)), (41, (.bool true)), (43, v43), (44, v43), (37, v43), (45, (fr 6)), (7, (fr 6))]) h__4)
 (J (updl fr [(18, v18), (19, (fr 0)), (20, (fr 6)), (21, (fr 0)), (22, v22), (23, v23), (24, v24), (8, p8), (26, v26), (27, v27), (28, v28), (29, v28), (29, (.bool true)), (30, v30), (29, (.bool true)), (31, v31), (29, (.bool true)), (32, v32), (29, (.bool true)), (33, v33), (29, (.bool true)), (34, v34), (35, v34), (25, v34), (38, v38), (39, v39), (40, v40), (41, v40), (41, (.bool true)), (42, (fr 7)), (41, (.bool true)), (43, v43), (44, v43), (37, v43)]) h__4))
 (J (updl fr [(18, v18), (19, (fr 0)), (20, (fr 6)), (21, (fr 0)), (22, v22), (23, v23), (24, v24), (8, p8), (26, v26), (27, v27), (28, v28), (29, v28), (29, (.bool true)), (30, v30), (29, (.bool true)), (31, v31), (29, (.bool true)), (32, v32), (29, (.bool true)), (33, v33), (29, (.bool true)), (34, v34), (35, v34), (25, v34), (38, v38), (39, v39), (40, v40), (41, v40), (41, (.bool false)), (42, (.tuple [])), (41, (.bool false)), (43, (.tuple [])), (44, (.bool false)), (37, (.bool false))]) h__4)))
 (some1 (afaddr 0 p8) fun v38_2 =>
 some1 (aloadv false 1 v38_2 h__4) fun v39_2 =>
 some1 (abin .neq v39_2 (.int .i64 1)) fun v40_2 =>
 agrd v40_2 true
 (some1 (abin .lss (fr 7) (.int .i64 0)) fun v43_2 =>
 aif v43_2
 (J (updl fr [(18, v18), (19, (fr 0)), (20, (fr 6)), (21, (fr 0)), (22, v22), (23, v23), (24, v24), (8, p8), (26, v26), (27, v27), (28, v28), (29, v28), (29, (.bool false)), (30, (.tuple [])), (29, (.bool false)), (31, (.tuple [])), (29, (.bool false)), (32, (.tuple [])), (29, (.bool false)), (33, (.tuple [])), (29, (.bool false)), (34, (.tuple [])), (35, (.bool false)), (25, (.bool false)), (38, v38_2), (39, v39_2), (40, v40_2), (41, v40_2), (41, (.bool true)), (42, (fr 7)), (41, (.bool true)), (43, v43_2), (44, v43_2), (37, v43_2), (45, (fr 6)), (7, (fr 6))]) h__4)
 (J (updl fr [(18, v18), (19, (fr 0)), (20, (fr 6)), (21, (fr 0)), (22, v22), (23, v23), (24, v24), (8, p8), (26, v26), (27, v27), (28, v28), (29, v28), (29, (.bool false)), (30, (.tuple [])), (29, (.bool false)), (31, (.tuple [])), (29, (.bool false)), (32, (.tuple [])), (29, (.bool false)), (33, (.tuple [])), (29, (.bool false)), (34, (.tuple [])), (35, (.bool false)), (25, (.bool false)), (38, v38_2), (39, v39_2), (40, v40_2), (41, v40_2), (41, (.bool true)), (42, (fr 7)), (41, (.bool true)), (43, v43_2), (44, v43_2), (37, v43_2)]) h__4))
 (J (updl fr [(18, v18), (19, (fr 0)), (20, (fr 6)), (21, (fr 0)), (22, v22), (23, v23), (24, v24), (8, p8), (26, v26), (27, v27), (28, v28), (29, v28), (29, (.bool false)), (30, (.tuple [])), (29, (.bool false)), (31, (.tuple [])), (29, (.bool false)), (32, (.tuple [])), (29, (.bool false)), (33, (.tuple [])), (29, (.bool false)), (34, (.tuple [])), (35, (.bool false)), (25, (.bool false)), (38, v38_2), (39, v39_2), (40, v40_2), (41, v40_2), (41, (.bool false)), (42, (.tuple [])), (41, (.bool false)), (43, (.tuple [])), (44, (.bool false)), (37, (.bool false))]) h__4)))
 (fun (fr_2 : Fr) (hj : AHeap) =>
 some1 (afaddr 0 (fr_2 8)) fun v46 =>
 some1 (aloadv false 1 v46 hj) fun v47 =>
 some1 (abin .eql v47 (.int .i64 0)) fun v48 =>
 aif v48
 (Ret h (.tuple [(fr_2 7), (.bool false)]) hj Q)
 (some1 (abin .add (fr_2 6) (.int .i64 1)) fun v50 =>
 some1 (abin .rem v50 (.int .i64 128)) fun v51 =>
 some1 (abin .add (fr_2 17) (.int .i64 1)) fun v52 =>
 inext I m (updl fr_2 [(46, v46), (47, v47), (48, v48), (49, (fr_2 6)), (50, v50), (51, v51), (6, v51), (52, v52), (17, v52)]) hj)))
 (Ret h (.tuple [(fr 7), (.bool false)]) hl Q)
theorem T26_eq (a0 a1 : AV) (h : AHeap) (Q : AV → AHeap → Prop) : T26 a0 a1 h Q = wpc Try.prog (max (List.length [a0, a1]) Try.f26.ntmps) (bodyOf Try.f26) (funK Try.prog Try.f26.results.toList h Q) (frame0 [a0, a1]) h := by kernel_rfl
theorem T26_calls {a0 a1 : AV} {h : AHeap} {Q : AV → AHeap → Prop} (H : T26 a0 a1 h Q) : ACalls Try.prog 26 [a0, a1] h Q := ACalls.of_tree mixed Try.func26 (by kernel_rfl) (T26_eq a0 a1 h Q) H

/- outrider/outriderref10.Find -/
def T27 (a0 a1 : AV) (h : AHeap) (Q : AV → AHeap → Prop) : Prop :=
 some1 (AV.cells? a1) fun z => anew z h fun p3 h_ =>
 ALoop (updl (frame0 [a0, a1]) [(3, p3), (4, (.int .i64 0)), (5, (.int .i64 0))]) h_ fun I m fr hl =>
 some1 (alen .sl (fr 0) hl) fun v8 =>
 some1 (abin .lss (fr 5) v8) fun v9 =>
 aif v9
 (some1 (aiaddr none 8 (fr 0) (fr 5)) fun v14 =>
 some1 (afaddr 0 v14) fun v15 =>
 some1 (aloadv true 5 v15 hl) fun v16 =>
 some1 (aloadv true 5 (fr 3) hl) fun v17 =>
 some1 (aeqP Try.prog .eql 37 v16 v17) fun v18 =>
 aif v18
 (Ret h (fr 5) hl Q)
 (some1 (abin .add (fr 5) (.int .i64 1)) fun v11 =>
 inext I m (updl fr [(6, (fr 5)), (7, (fr 0)), (8, v8), (9, v9), (12, (fr 0)), (13, (fr 5)), (14, v14), (15, v15), (16, v16), (17, v17), (18, v18), (10, (fr 5)), (11, v11), (5, v11)]) hl))
 (Ret h (.int .i64 (-1)) hl Q)
theorem T27_eq (a0 a1 : AV) (h : AHeap) (Q : AV → AHeap → Prop) : T27 a0 a1 h Q = wpc Try.prog (max (List.length [a0, a1]) Try.f27.ntmps) (bodyOf Try.f27) (funK Try.prog Try.f27.results.toList h Q) (frame0 [a0, a1]) h := by kernel_rfl
theorem T27_calls {a0 a1 : AV} {h : AHeap} {Q : AV → AHeap → Prop} (H : T27 a0 a1 h Q) : ACalls Try.prog 27 [a0, a1] h Q := ACalls.of_tree mixed Try.func27 (by kernel_rfl) (T27_eq a0 a1 h Q) H

/- (*outrider/flows.Table).Put -/
def T28 (a0 a1 a2 : AV) (h : AHeap) (Q : AV → AHeap → Prop) : Prop :=
 some1 (AV.cells? a1) fun z => anew z h fun p4 h_ =>
 some1 (afaddr 0 p4) fun v11 =>
 some1 (aloadv true 5 v11 h_) fun v12 =>
 acall Try.prog 26 [a0, v12] h_ fun r13 h__2 =>
 some1 (aext r13 0) fun v14 =>
 some1 (aext r13 1) fun v15 =>
 some1 (afaddr 5 p4) fun v17 =>
 some1 (aloadv false 1 v17 h__2) fun v18 =>
 acall Try.prog 33 [v18] h__2 fun r19 h__3 =>
 some1 (aun .not r19) fun v20 =>
 agrd v20 false
 (some1 (afaddr 6 p4) fun v22 =>
 some1 (aloadv false 1 v22 h__3) fun v23 =>
 acall Try.prog 21 [v23] h__3 fun r24 h__4 =>
 some1 (abin .eql r24 (.int .i64 0)) fun v25 =>
 agrd v25 false
 (some1 (afaddr 7 p4) fun v28 =>
 some1 (aloadv false 1 v28 h__4) fun v29 =>
 some1 (abin .lss v29 (.int .i64 0)) fun v30 =>
 agrd v30 false
 (some1 (afaddr 7 p4) fun v33 =>
 some1 (aloadv false 1 v33 h__4) fun v34 =>
 some1 (abin .gtr v34 (.int .i64 1099511627776)) fun v35 =>
 agrd v35 false
 (acall Try.prog 34 [a2] h__4 fun r39 h__5 =>
 some1 (aun .not r39) fun v40 =>
 aif v40
 (Ret h (.int .i64 1) h__5 Q)
 (some1 (aun .not v15) fun v44 =>
 agrd v44 true
 (anil a0 = true ∧
 some1 (afaddr 1168 a0) fun v48 =>
 some1 (aloadv false 1 v48 h__5) fun v49 =>
 some1 (abin .geq v49 (.int .i64 64)) fun v50 =>
 aif v50
 (Ret h (.int .i64 100) h__5 Q)
 (some1 (afaddr 7 p4) fun v53 =>
 some1 (aloadv false 1 v53 h__5) fun v54 =>
 some1 (abin .leq v54 a2) fun v56 =>
 aif v56
 (aif v15
 (acall Try.prog 46 [a0, v14] h__5 fun _r60 h__6 =>
 Ret h (.int .i64 101) h__6 Q)
 (Ret h (.int .i64 101) h__5 Q))
 (some1 (aloadv true 8 p4 h__5) fun v63 =>
 acall Try.prog 36 [a0, v14, v63] h__5 fun _r64 h__7 =>
 Ret h (.int .i64 0) h__7 Q)))
 (some1 (afaddr 7 p4) fun v53_2 =>
 some1 (aloadv false 1 v53_2 h__5) fun v54_2 =>
 some1 (abin .leq v54_2 a2) fun v56_2 =>
 aif v56_2
 (aif v15
 (acall Try.prog 46 [a0, v14] h__5 fun _r60_2 h__8 =>
 Ret h (.int .i64 101) h__8 Q)
 (Ret h (.int .i64 101) h__5 Q))
 (some1 (aloadv true 8 p4 h__5) fun v63_2 =>
 acall Try.prog 36 [a0, v14, v63_2] h__5 fun _r64_2 h__9 =>
 Ret h (.int .i64 0) h__9 Q))))
 (Ret h (.int .i64 1) h__4 Q))
 (Ret h (.int .i64 1) h__4 Q))
 (Ret h (.int .i64 1) h__4 Q))
 (Ret h (.int .i64 1) h__3 Q)
theorem T28_eq (a0 a1 a2 : AV) (h : AHeap) (Q : AV → AHeap → Prop) : T28 a0 a1 a2 h Q = wpc Try.prog (max (List.length [a0, a1, a2]) Try.f28.ntmps) (bodyOf Try.f28) (funK Try.prog Try.f28.results.toList h Q) (frame0 [a0, a1, a2]) h := by kernel_rfl
theorem T28_calls {a0 a1 a2 : AV} {h : AHeap} {Q : AV → AHeap → Prop} (H : T28 a0 a1 a2 h Q) : ACalls Try.prog 28 [a0, a1, a2] h Q := ACalls.of_tree mixed Try.func28 (by kernel_rfl) (T28_eq a0 a1 a2 h Q) H

/- (*outrider/flows.Table).Drop -/
def T29 (a0 a1 : AV) (h : AHeap) (Q : AV → AHeap → Prop) : Prop :=
 some1 (AV.cells? a1) fun z => anew z h fun p3 h_ =>
 some1 (aloadv true 5 p3 h_) fun v9 =>
 acall Try.prog 26 [a0, v9] h_ fun r10 h__2 =>
 some1 (aext r10 0) fun v11 =>
 some1 (aext r10 1) fun v12 =>
 aif v12
 (acall Try.prog 46 [a0, v11] h__2 fun _r16 h__3 =>
 Ret h v12 h__3 Q)
 (Ret h v12 h__2 Q)
theorem T29_eq (a0 a1 : AV) (h : AHeap) (Q : AV → AHeap → Prop) : T29 a0 a1 h Q = wpc Try.prog (max (List.length [a0, a1]) Try.f29.ntmps) (bodyOf Try.f29) (funK Try.prog Try.f29.results.toList h Q) (frame0 [a0, a1]) h := by kernel_rfl
theorem T29_calls {a0 a1 : AV} {h : AHeap} {Q : AV → AHeap → Prop} (H : T29 a0 a1 h Q) : ACalls Try.prog 29 [a0, a1] h Q := ACalls.of_tree mixed Try.func29 (by kernel_rfl) (T29_eq a0 a1 h Q) H

/- (*outrider/flows.Table).Expire$1 -/
def T30 (a0 a1 : AV) (h : AHeap) (Q : AV → AHeap → Prop) : Prop :=
 some1 (AV.cells? a0) fun z => anew z h fun p2 h_ =>
 some1 (AV.cells? a1) fun z_2 => anew z_2 h_ fun p3 h__2 =>
 some1 (afaddr 7 p2) fun v5 =>
 some1 (aloadv false 1 v5 h__2) fun v6 =>
 some1 (afaddr 7 p3) fun v7 =>
 some1 (aloadv false 1 v7 h__2) fun v8 =>
 aqcall Try.prog 32 [v6, v8] h__2 fun r9 =>
 some1 (afaddr 0 p2) fun v10 =>
 some1 (aloadv true 5 v10 h__2) fun v11 =>
 some1 (afaddr 0 p3) fun v12 =>
 some1 (aloadv true 5 v12 h__2) fun v13 =>
 acall Try.prog 25 [v11, v13] h__2 fun r14 h__3 =>
 alitP Try.prog 94 2 [(0, 1, r9), (1, 1, r14)] h__3 fun s15 h__4 =>
 acall Try.prog 31 [s15] h__4 fun r16 h__5 =>
 Ret h r16 h__5 Q
theorem T30_eq (a0 a1 : AV) (h : AHeap) (Q : AV → AHeap → Prop) : T30 a0 a1 h Q = wpc Try.prog (max (List.length [a0, a1]) Try.f30.ntmps) (bodyOf Try.f30) (funK Try.prog Try.f30.results.toList h Q) (frame0 [a0, a1]) h := by kernel_rfl
theorem T30_calls {a0 a1 : AV} {h : AHeap} {Q : AV → AHeap → Prop} (H : T30 a0 a1 h Q) : ACalls Try.prog 30 [a0, a1] h Q := ACalls.of_tree mixed Try.func30 (by kernel_rfl) (T30_eq a0 a1 h Q) H

end Go.Own.Try

namespace Go.Own.Try
open Go.Own Go.Proofs
set_option maxRecDepth 4000
/- cmp.Or[int] -/
def T31 (a0 : AV) (h : AHeap) (Q : AV → AHeap → Prop) : Prop :=
 some1 (alen .sl a0 h) fun v7 =>
 ALoop (updl (frame0 [a0]) [(2, (.int .i64 0)), (3, (.int .i64 0)), (6, a0), (7, v7), (8, (.int .i64 0))]) h fun I m fr hl =>
 some1 (abin .lss (fr 8) (fr 7)) fun v9 =>
 aif v9
 (some1 (aiaddr none 1 (fr 6) (fr 8)) fun v10 =>
 some1 (aloadv false 1 v10 hl) fun v11 =>
 some1 (abin .neq v11 (fr 3)) fun v14 =>
 aif v14
 (Ret h v11 hl Q)
 (some1 (abin .add (fr 8) (.int .i64 1)) fun v16 =>
 inext I m (updl fr [(9, v9), (10, v10), (11, v11), (5, v11), (12, v11), (13, (fr 3)), (14, v14), (16, v16), (8, v16)]) hl))
 (Ret h (fr 3) hl Q)
theorem T31_eq (a0 : AV) (h : AHeap) (Q : AV → AHeap → Prop) : T31 a0 h Q = wpc Try.prog (max (List.length [a0]) Try.f31.ntmps) (bodyOf Try.f31) (funK Try.prog Try.f31.results.toList h Q) (frame0 [a0]) h := by kernel_rfl
theorem T31_calls {a0 : AV} {h : AHeap} {Q : AV → AHeap → Prop} (H : T31 a0 h Q) : ACalls Try.prog 31 [a0] h Q := ACalls.of_tree mixed Try.func31 (by kernel_rfl) (T31_eq a0 h Q) H

/- cmp.Compare[int] -/
def T32 (a0 a1 : AV) (h : AHeap) (Q : AV → AHeap → Prop) : Prop :=
 acall Try.prog 47 [a0] h fun r8 h_ =>
 acall Try.prog 47 [a1] h_ fun r10 h__2 =>
 aif r8
 (aif r10
 (Ret h (.int .i64 0) h__2 Q)
 (Ret h (.int .i64 (-1)) h__2 Q))
 (aif r10
 (Ret h (.int .i64 1) h__2 Q)
 (some1 (abin .lss a0 a1) fun v16 =>
 aif v16
 (Ret h (.int .i64 (-1)) h__2 Q)
 (some1 (abin .gtr a0 a1) fun v19 =>
 aif v19
 (Ret h (.int .i64 1) h__2 Q)
 (Ret h (.int .i64 0) h__2 Q))))
theorem T32_eq (a0 a1 : AV) (h : AHeap) (Q : AV → AHeap → Prop) : T32 a0 a1 h Q = wpc Try.prog (max (List.length [a0, a1]) Try.f32.ntmps) (bodyOf Try.f32) (funK Try.prog Try.f32.results.toList h Q) (frame0 [a0, a1]) h := by kernel_rfl
theorem T32_calls {a0 a1 : AV} {h : AHeap} {Q : AV → AHeap → Prop} (H : T32 a0 a1 h Q) : ACalls Try.prog 32 [a0, a1] h Q := ACalls.of_tree mixed Try.func32 (by kernel_rfl) (T32_eq a0 a1 h Q) H

/- outrider/flows.served -/
def T33 (a0 : AV) (h : AHeap) (Q : AV → AHeap → Prop) : Prop :=
 some1 (abin .geq a0 (.int .i64 0)) fun v4 =>
 agrd v4 true
 (some1 (abin .lss a0 (.int .i64 16)) fun v7 =>
 Ret h v7 h Q)
 (Ret h (.bool false) h Q)
theorem T33_eq (a0 : AV) (h : AHeap) (Q : AV → AHeap → Prop) : T33 a0 h Q = wpc Try.prog (max (List.length [a0]) Try.f33.ntmps) (bodyOf Try.f33) (funK Try.prog Try.f33.results.toList h Q) (frame0 [a0]) h := by kernel_rfl
theorem T33_calls {a0 : AV} {h : AHeap} {Q : AV → AHeap → Prop} (H : T33 a0 h Q) : ACalls Try.prog 33 [a0] h Q := ACalls.of_tree mixed Try.func33 (by kernel_rfl) (T33_eq a0 h Q) H

/- outrider/flows.timely -/
def T34 (a0 : AV) (h : AHeap) (Q : AV → AHeap → Prop) : Prop :=
 some1 (abin .geq a0 (.int .i64 0)) fun v4 =>
 agrd v4 true
 (some1 (abin .leq a0 (.int .i64 1099511626776)) fun v7 =>
 Ret h v7 h Q)
 (Ret h (.bool false) h Q)
theorem T34_eq (a0 : AV) (h : AHeap) (Q : AV → AHeap → Prop) : T34 a0 h Q = wpc Try.prog (max (List.length [a0]) Try.f34.ntmps) (bodyOf Try.f34) (funK Try.prog Try.f34.results.toList h Q) (frame0 [a0]) h := by kernel_rfl
theorem T34_calls {a0 : AV} {h : AHeap} {Q : AV → AHeap → Prop} (H : T34 a0 h Q) : ACalls Try.prog 34 [a0] h Q := ACalls.of_tree mixed Try.func34 (by kernel_rfl) (T34_eq a0 h Q) H

/- outrider/flows.Step -/
def T35 (a0 a1 : AV) (h : AHeap) (Q : AV → AHeap → Prop) : Prop :=
 some1 (abin .eql a0 (.int .i64 4)) fun v7 =>
 aif v7
 (Ret h (.int .i64 4) h Q)
 (some1 (abin .and a1 (.int .i64 5)) fun v10 =>
 some1 (abin .neq v10 (.int .i64 0)) fun v11 =>
 aif v11
 (Ret h (.int .i64 3) h Q)
 (some1 (abin .eql a0 (.int .i64 1)) fun v14 =>
 agrd v14 true
 (some1 (abin .and a1 (.int .i64 18)) fun v17 =>
 some1 (abin .eql v17 (.int .i64 16)) fun v18 =>
 aif v18
 (Ret h (.int .i64 2) h Q)
 (some1 (abin .eql a0 (.int .i64 3)) fun v22 =>
 agrd v22 true
 (some1 (abin .and a1 (.int .i64 18)) fun v25 =>
 some1 (abin .eql v25 (.int .i64 2)) fun v26 =>
 aif v26
 (Ret h (.int .i64 1) h Q)
 (Ret h a0 h Q))
 (Ret h a0 h Q)))
 (some1 (abin .eql a0 (.int .i64 3)) fun v22_2 =>
 agrd v22_2 true
 (some1 (abin .and a1 (.int .i64 18)) fun v25_2 =>
 some1 (abin .eql v25_2 (.int .i64 2)) fun v26_2 =>
 aif v26_2
 (Ret h (.int .i64 1) h Q)
 (Ret h a0 h Q))
 (Ret h a0 h Q))))
theorem T35_eq (a0 a1 : AV) (h : AHeap) (Q : AV → AHeap → Prop) : T35 a0 a1 h Q = wpc Try.prog (max (List.length [a0, a1]) Try.f35.ntmps) (bodyOf Try.f35) (funK Try.prog Try.f35.results.toList h Q) (frame0 [a0, a1]) h := by kernel_rfl
theorem T35_calls {a0 a1 : AV} {h : AHeap} {Q : AV → AHeap → Prop} (H : T35 a0 a1 h Q) : ACalls Try.prog 35 [a0, a1] h Q := ACalls.of_tree mixed Try.func35 (by kernel_rfl) (T35_eq a0 a1 h Q) H

/- (*outrider/flows.Table).lay -/
def T36 (a0 a1 a2 : AV) (h : AHeap) (Q : AV → AHeap → Prop) : Prop :=
 some1 (AV.cells? a2) fun z => anew z h fun p5 h_ =>
 join (fun (J : Fr → AHeap → Prop) =>
 anil a0 = true ∧
 some1 (afaddr 16 a0) fun v9 =>
 some1 (aiaddr (some 128) 9 v9 a1) fun v10 =>
 some1 (afaddr 0 v10) fun v11 =>
 some1 (aloadv false 1 v11 h_) fun v12 =>
 some1 (abin .neq v12 (.int .i64 1)) fun v13 =>
 aif v13
 (anil a0 = true ∧
 some1 (afaddr 1168 a0) fun v16 =>
 some1 (aloadv false 1 v16 h_) fun v17 =>
 some1 (abin .add v17 (.int .i64 1)) fun v18 =>
 anil a0 = true ∧
 some1 (afaddr 1168 a0) fun v20 =>
 some1 (astorev 1 v20 v18 h_) fun h__2 =>
 anil a0 = true ∧
 some1 (afaddr 16 a0) fun v24 =>
 some1 (aiaddr (some 128) 9 v24 a1) fun v25 =>
 some1 (afaddr 0 v25) fun v26 =>
 some1 (aloadv false 1 v26 h__2) fun v27 =>
 some1 (abin .eql v27 (.int .i64 2)) fun v28 =>
 aif v28
 (anil a0 = true ∧
 some1 (afaddr 1169 a0) fun v31 =>
 some1 (aloadv false 1 v31 h__2) fun v32 =>
 some1 (abin .sub v32 (.int .i64 1)) fun v33 =>
 anil a0 = true ∧
 some1 (afaddr 1169 a0) fun v35 =>
 some1 (astorev 1 v35 v33 h__2) fun h__3 =>
 J (updl (frame0 [a0, a1, a2]) [(5, p5), (6, a0), (7, a1), (8, a0), (9, v9), (10, v10), (11, v11), (12, v12), (13, v13), (14, a0), (15, a0), (16, v16), (17, v17), (18, v18), (19, a0), (20, v20), (21, a0), (22, a1), (23, a0), (24, v24), (25, v25), (26, v26), (27, v27), (28, v28), (29, a0), (30, a0), (31, v31), (32, v32), (33, v33), (34, a0), (35, v35)]) h__3)
 (J (updl (frame0 [a0, a1, a2]) [(5, p5), (6, a0), (7, a1), (8, a0), (9, v9), (10, v10), (11, v11), (12, v12), (13, v13), (14, a0), (15, a0), (16, v16), (17, v17), (18, v18), (19, a0), (20, v20), (21, a0), (22, a1), (23, a0), (24, v24), (25, v25), (26, v26), (27, v27), (28, v28)]) h__2))
 (J (updl (frame0 [a0, a1, a2]) [(5, p5), (6, a0), (7, a1), (8, a0), (9, v9), (10, v10), (11, v11), (12, v12), (13, v13)]) h_))
 (fun (fr : Fr) (hj : AHeap) =>
 some1 (aloadv true 8 (fr 5) hj) fun v38 =>
 abuildP Try.prog 58 [(0, 1, (.int .i64 1)), (1, 8, v38)] fun v39 =>
 anil (fr 0) = true ∧
 some1 (afaddr 16 (fr 0)) fun v41 =>
 some1 (aiaddr (some 128) 9 v41 (fr 1)) fun v42 =>
 some1 (astorev 9 v42 v39 hj) fun h__4 =>
 Ret h (.tuple []) h__4 Q)
theorem T36_eq (a0 a1 a2 : AV) (h : AHeap) (Q : AV → AHeap → Prop) : T36 a0 a1 a2 h Q = wpc Try.prog (max (List.length [a0, a1, a2]) Try.f36.ntmps) (bodyOf Try.f36) (funK Try.prog Try.f36.results.toList h Q) (frame0 [a0, a1, a2]) h := by kernel_rfl
theorem T36_calls {a0 a1 a2 : AV} {h : AHeap} {Q : AV → AHeap → Prop} (H : T36 a0 a1 a2 h Q) : ACalls Try.prog 36 [a0, a1, a2] h Q := ACalls.of_tree mixed Try.func36 (by kernel_rfl) (T36_eq a0 a1 a2 h Q) H

/- outrider/outriderref10.Open -/
def T37 (a0 a1 a2 a3 : AV) (h : AHeap) (Q : AV → AHeap → Prop) : Prop :=
 some1 (AV.cells? a1) fun z => anew z h fun p5 h_ =>
 some1 (afaddr 5 p5) fun v10 =>
 some1 (aloadv false 1 v10 h_) fun v11 =>
 acall Try.prog 48 [v11, a3] h_ fun r13 h__2 =>
 aif r13
 (Ret h (.tuple [a0, (.int .i64 1)]) h__2 Q)
 (some1 (afaddr 0 p5) fun v16 =>
 some1 (aloadv true 5 v16 h__2) fun v17 =>
 acall Try.prog 27 [a0, v17] h__2 fun r18 h__3 =>
 some1 (abin .lss r18 (.int .i64 0)) fun v19 =>
 agrd v19 true
 (some1 (alen .sl a0 h__3) fun v22 =>
 some1 (abin .geq v22 (.int .i64 64)) fun v23 =>
 aif v23
 (Ret h (.tuple [a0, (.int .i64 100)]) h__3 Q)
 (some1 (afaddr 6 p5) fun v26 =>
 some1 (astorev 1 v26 (.int .i64 4) h__3) fun h__4 =>
 join (fun (J : Fr → AHeap → Prop) =>
 some1 (afaddr 0 p5) fun v27 =>
 some1 (afaddr 0 v27) fun v28 =>
 some1 (aloadv false 1 v28 h__4) fun v29 =>
 some1 (abin .eql v29 (.int .i64 6)) fun v30 =>
 aif v30
 (acall Try.prog 49 [(.int .i64 1), a2] h__4 fun r32 h__5 =>
 some1 (afaddr 6 p5) fun v33 =>
 some1 (astorev 1 v33 r32 h__5) fun h__6 =>
 J (updl (frame0 [a0, a1, a2, a3]) [(5, p5), (8, .nils), (9, (.int .i64 0)), (10, v10), (11, v11), (12, a3), (13, r13), (15, a0), (16, v16), (17, v17), (18, r18), (19, v19), (20, v19), (20, (.bool true)), (21, a0), (20, (.bool true)), (22, v22), (20, (.bool true)), (23, v23), (24, v23), (26, v26), (27, v27), (28, v28), (29, v29), (30, v30), (31, a2), (32, r32), (33, v33)]) h__6)
 (J (updl (frame0 [a0, a1, a2, a3]) [(5, p5), (8, .nils), (9, (.int .i64 0)), (10, v10), (11, v11), (12, a3), (13, r13), (15, a0), (16, v16), (17, v17), (18, r18), (19, v19), (20, v19), (20, (.bool true)), (21, a0), (20, (.bool true)), (22, v22), (20, (.bool true)), (23, v23), (24, v23), (26, v26), (27, v27), (28, v28), (29, v29), (30, v30)]) h__4))
 (fun (fr : Fr) (hj : AHeap) =>
 some1 (afaddr 6 (fr 5)) fun v35 =>
 some1 (aloadv false 1 v35 hj) fun v36 =>
 acall Try.prog 50 [v36] hj fun r37 h__7 =>
 some1 (abin .add (fr 3) r37) fun v38 =>
 some1 (afaddr 7 (fr 5)) fun v39 =>
 some1 (astorev 1 v39 v38 h__7) fun h__8 =>
 some1 (aloadv true 8 (fr 5) h__8) fun v41 =>
 acall Try.prog 51 [(fr 0), v41] h__8 fun r42 h__9 =>
 Ret h (.tuple [r42, (.int .i64 0)]) h__9 Q)))
 (some1 (afaddr 6 p5) fun v26_2 =>
 some1 (astorev 1 v26_2 (.int .i64 4) h__3) fun h__10 =>
 join (fun (J_2 : Fr → AHeap → Prop) =>
 some1 (afaddr 0 p5) fun v27_2 =>
 some1 (afaddr 0 v27_2) fun v28_2 =>
 some1 (aloadv false 1 v28_2 h__10) fun v29_2 =>
 some1 (abin .eql v29_2 (.int .i64 6)) fun v30_2 =>
 aif v30_2
 (acall Try.prog 49 [(.int .i64 1), a2] h__10 fun r32_2 h__11 =>
 some1 (afaddr 6 p5) fun v33_2 =>
 some1 (astorev 1 v33_2 r32_2 h__11) fun h__12 =>
 J_2 (updl (frame0 [a0, a1, a2, a3]) [(5, p5), (8, .nils), (9, (.int .i64 0)), (10, v10), (11, v11), (12, a3), (13, r13), (15, a0), (16, v16), (17, v17), (18, r18), (19, v19), (20, v19), (20, (.bool false)), (21, (.tuple [])), (20, (.bool false)), (22, (.tuple [])), (20, (.bool false)), (23, (.tuple [])), (24, (.bool false)), (26, v26_2), (27, v27_2), (28, v28_2), (29, v29_2), (30, v30_2), (31, a2), (32, r32_2), (33, v33_2)]) h__12)
 (J_2 (updl (frame0 [a0, a1, a2, a3]) [(5, p5), (8, .nils), (9, (.int .i64 0)), (10, v10), (11, v11), (12, a3), (13, r13), (15, a0), (16, v16), (17, v17), (18, r18), (19, v19), (20, v19), (20, (.bool false)), (21, (.tuple [])), (20, (.bool false)), (22, (.tuple [])), (20, (.bool false)), (23, (.tuple [])), (24, (.bool false)), (26, v26_2), (27, v27_2), (28, v28_2), (29, v29_2), (30, v30_2)]) h__10))
 (fun (fr_2 : Fr) (hj_2 : AHeap) =>
 some1 (afaddr 6 (fr_2 5)) fun v35_2 =>
 some1 (aloadv false 1 v35_2 hj_2) fun v36_2 =>
 acall Try.prog 50 [v36_2] hj_2 fun r37_2 h__13 =>
 some1 (abin .add (fr_2 3) r37_2) fun v38_2 =>
 some1 (afaddr 7 (fr_2 5)) fun v39_2 =>
 some1 (astorev 1 v39_2 v38_2 h__13) fun h__14 =>
 some1 (aloadv true 8 (fr_2 5) h__14) fun v41_2 =>
 acall Try.prog 51 [(fr_2 0), v41_2] h__14 fun r42_2 h__15 =>
 Ret h (.tuple [r42_2, (.int .i64 0)]) h__15 Q)))
theorem T37_eq (a0 a1 a2 a3 : AV) (h : AHeap) (Q : AV → AHeap → Prop) : T37 a0 a1 a2 a3 h Q = wpc Try.prog (max (List.length [a0, a1, a2, a3]) Try.f37.ntmps) (bodyOf Try.f37) (funK Try.prog Try.f37.results.toList h Q) (frame0 [a0, a1, a2, a3]) h := by kernel_rfl
theorem T37_calls {a0 a1 a2 a3 : AV} {h : AHeap} {Q : AV → AHeap → Prop} (H : T37 a0 a1 a2 a3 h Q) : ACalls Try.prog 37 [a0, a1, a2, a3] h Q := ACalls.of_tree mixed Try.func37 (by kernel_rfl) (T37_eq a0 a1 a2 a3 h Q) H

/- outrider/outriderref10.See -/
def T38 (a0 a1 a2 a3 : AV) (h : AHeap) (Q : AV → AHeap → Prop) : Prop :=
 some1 (AV.cells? a1) fun z => anew z h fun p5 h_ =>
 some1 (azero Try.prog 42) fun z_2 => anew z_2 h_ fun p9 h__2 =>
 some1 (aloadv true 5 p5 h__2) fun v15 =>
 acall Try.prog 15 [a0, v15] h__2 fun r16 h__3 =>
 some1 (aext r16 0) fun v17 =>
 some1 (aext r16 1) fun v18 =>
 some1 (azero Try.prog 42) fun z_3 => anew z_3 h__3 fun p11 h__4 =>
 some1 (astorev 8 p11 v17 h__4) fun h__5 =>
 some1 (aun .not v18) fun v20 =>
 agrd v20 false
 (acall Try.prog 48 [(.int .i64 0), a3] h__5 fun r23 h__6 =>
 aif r23
 (abuildP Try.prog 42 [] fun v26 =>
 some1 (astorev 8 p9 v26 h__6) fun h__7 =>
 some1 (aloadv true 8 p9 h__7) fun w =>
 Ret h (.tuple [a0, w, (.bool false)]) h__7 Q)
 (some1 (afaddr 6 p11) fun v27 =>
 some1 (aloadv false 1 v27 h__6) fun v28 =>
 acall Try.prog 49 [v28, a2] h__6 fun r30 h__8 =>
 some1 (afaddr 6 p11) fun v31 =>
 some1 (astorev 1 v31 r30 h__8) fun h__9 =>
 some1 (afaddr 6 p11) fun v33 =>
 some1 (aloadv false 1 v33 h__9) fun v34 =>
 acall Try.prog 50 [v34] h__9 fun r35 h__10 =>
 some1 (abin .add a3 r35) fun v36 =>
 some1 (afaddr 7 p11) fun v37 =>
 some1 (astorev 1 v37 v36 h__10) fun h__11 =>
 some1 (aloadv true 8 p11 h__11) fun v39 =>
 aqcall Try.prog 51 [a0, v39] h__11 fun r40 =>
 some1 (aloadv true 8 p11 h__11) fun v41 =>
 some1 (astorev 8 p9 v41 h__11) fun h__12 =>
 some1 (aloadv true 8 p9 h__12) fun w_2 =>
 Ret h (.tuple [r40, w_2, (.bool true)]) h__12 Q))
 (abuildP Try.prog 42 [] fun v26_2 =>
 some1 (astorev 8 p9 v26_2 h__5) fun h__13 =>
 some1 (aloadv true 8 p9 h__13) fun w_3 =>
 Ret h (.tuple [a0, w_3, (.bool false)]) h__13 Q)
theorem T38_eq (a0 a1 a2 a3 : AV) (h : AHeap) (Q : AV → AHeap → Prop) : T38 a0 a1 a2 a3 h Q = wpc Try.prog (max (List.length [a0, a1, a2, a3]) Try.f38.ntmps) (bodyOf Try.f38) (funK Try.prog Try.f38.results.toList h Q) (frame0 [a0, a1, a2, a3]) h := by kernel_rfl
theorem T38_calls {a0 a1 a2 a3 : AV} {h : AHeap} {Q : AV → AHeap → Prop} (H : T38 a0 a1 a2 a3 h Q) : ACalls Try.prog 38 [a0, a1, a2, a3] h Q := ACalls.of_tree mixed Try.func38 (by kernel_rfl) (T38_eq a0 a1 a2 a3 h Q) H

/- outrider/outriderref10.Put -/
def T39 (a0 a1 a2 : AV) (h : AHeap) (Q : AV → AHeap → Prop) : Prop :=
 some1 (AV.cells? a1) fun z => anew z h fun p4 h_ =>
 some1 (afaddr 5 p4) fun v8 =>
 some1 (aloadv false 1 v8 h_) fun v9 =>
 acall Try.prog 48 [v9, a2] h_ fun r11 h__2 =>
 agrd r11 false
 (some1 (afaddr 6 p4) fun v13 =>
 some1 (aloadv false 1 v13 h__2) fun v14 =>
 some1 (abin .lss v14 (.int .i64 1)) fun v15 =>
 agrd v15 false
 (some1 (afaddr 6 p4) fun v18 =>
 some1 (aloadv false 1 v18 h__2) fun v19 =>
 some1 (abin .gtr v19 (.int .i64 4)) fun v20 =>
 agrd v20 false
 (some1 (afaddr 7 p4) fun v23 =>
 some1 (aloadv false 1 v23 h__2) fun v24 =>
 some1 (abin .lss v24 (.int .i64 0)) fun v25 =>
 agrd v25 false
 (some1 (afaddr 7 p4) fun v28 =>
 some1 (aloadv false 1 v28 h__2) fun v29 =>
 some1 (abin .gtr v29 (.int .i64 1099511627776)) fun v30 =>
 aif v30
 (Ret h (.tuple [a0, (.int .i64 1)]) h__2 Q)
 (some1 (afaddr 0 p4) fun v34 =>
 some1 (aloadv true 5 v34 h__2) fun v35 =>
 acall Try.prog 27 [a0, v35] h__2 fun r36 h__3 =>
 some1 (abin .lss r36 (.int .i64 0)) fun v37 =>
 agrd v37 true
 (some1 (alen .sl a0 h__3) fun v40 =>
 some1 (abin .geq v40 (.int .i64 64)) fun v41 =>
 aif v41
 (Ret h (.tuple [a0, (.int .i64 100)]) h__3 Q)
 (some1 (afaddr 7 p4) fun v44 =>
 some1 (aloadv false 1 v44 h__3) fun v45 =>
 some1 (abin .leq v45 a2) fun v47 =>
 aif v47
 (some1 (afaddr 0 p4) fun v49 =>
 some1 (aloadv true 5 v49 h__3) fun v50 =>
 acall Try.prog 40 [a0, v50] h__3 fun r51 h__4 =>
 Ret h (.tuple [r51, (.int .i64 101)]) h__4 Q)
 (some1 (aloadv true 8 p4 h__3) fun v53 =>
 acall Try.prog 51 [a0, v53] h__3 fun r54 h__5 =>
 Ret h (.tuple [r54, (.int .i64 0)]) h__5 Q)))
 (some1 (afaddr 7 p4) fun v44_2 =>
 some1 (aloadv false 1 v44_2 h__3) fun v45_2 =>
 some1 (abin .leq v45_2 a2) fun v47_2 =>
 aif v47_2
 (some1 (afaddr 0 p4) fun v49_2 =>
 some1 (aloadv true 5 v49_2 h__3) fun v50_2 =>
 acall Try.prog 40 [a0, v50_2] h__3 fun r51_2 h__6 =>
 Ret h (.tuple [r51_2, (.int .i64 101)]) h__6 Q)
 (some1 (aloadv true 8 p4 h__3) fun v53_2 =>
 acall Try.prog 51 [a0, v53_2] h__3 fun r54_2 h__7 =>
 Ret h (.tuple [r54_2, (.int .i64 0)]) h__7 Q))))
 (Ret h (.tuple [a0, (.int .i64 1)]) h__2 Q))
 (Ret h (.tuple [a0, (.int .i64 1)]) h__2 Q))
 (Ret h (.tuple [a0, (.int .i64 1)]) h__2 Q))
 (Ret h (.tuple [a0, (.int .i64 1)]) h__2 Q)
theorem T39_eq (a0 a1 a2 : AV) (h : AHeap) (Q : AV → AHeap → Prop) : T39 a0 a1 a2 h Q = wpc Try.prog (max (List.length [a0, a1, a2]) Try.f39.ntmps) (bodyOf Try.f39) (funK Try.prog Try.f39.results.toList h Q) (frame0 [a0, a1, a2]) h := by kernel_rfl
theorem T39_calls {a0 a1 a2 : AV} {h : AHeap} {Q : AV → AHeap → Prop} (H : T39 a0 a1 a2 h Q) : ACalls Try.prog 39 [a0, a1, a2] h Q := ACalls.of_tree mixed Try.func39 (by kernel_rfl) (T39_eq a0 a1 a2 h Q) H

/- outrider/outriderref10.Without -/
def T40 (a0 a1 : AV) (h : AHeap) (Q : AV → AHeap → Prop) : Prop :=
 some1 (AV.cells? a1) fun z => anew z h fun p3 h_ =>
 ALoop (updl (frame0 [a0, a1]) [(3, p3), (4, .nils), (5, .nils), (6, (.int .i64 0))]) h_ fun I m fr hl =>
 some1 (alen .sl (fr 0) hl) fun v9 =>
 some1 (abin .lss (fr 6) v9) fun v10 =>
 aif v10
 (some1 (aiaddr none 8 (fr 0) (fr 6)) fun v15 =>
 some1 (afaddr 0 v15) fun v16 =>
 some1 (aloadv true 5 v16 hl) fun v17 =>
 some1 (aloadv true 5 (fr 3) hl) fun v18 =>
 some1 (aeqP Try.prog .neq 37 v17 v18) fun v19 =>
 aif v19
 (some1 (aiaddr none 8 (fr 0) (fr 6)) fun v23 =>
 some1 (aloadv true 8 v23 hl) fun v24 =>
 alitP Try.prog 27 1 [(0, 8, v24)] hl fun s25 h__2 =>
 some1 (aappend 8 80 (fr 5) s25 h__2) fun q26 =>
 some1 (abin .add (fr 6) (.int .i64 1)) fun v12 =>
 inext I m (updl fr [(7, (fr 6)), (8, (fr 0)), (9, v9), (10, v10), (13, (fr 0)), (14, (fr 6)), (15, v15), (16, v16), (17, v17), (18, v18), (19, v19), (20, (fr 5)), (21, (fr 0)), (22, (fr 6)), (23, v23), (24, v24), (25, s25), (26, q26.1), (5, q26.1), (11, (fr 6)), (12, v12), (6, v12)]) q26.2)
 (some1 (abin .add (fr 6) (.int .i64 1)) fun v12_2 =>
 inext I m (updl fr [(7, (fr 6)), (8, (fr 0)), (9, v9), (10, v10), (13, (fr 0)), (14, (fr 6)), (15, v15), (16, v16), (17, v17), (18, v18), (19, v19), (11, (fr 6)), (12, v12_2), (6, v12_2)]) hl))
 (Ret h (fr 5) hl Q)
theorem T40_eq (a0 a1 : AV) (h : AHeap) (Q : AV → AHeap → Prop) : T40 a0 a1 h Q = wpc Try.prog (max (List.length [a0, a1]) Try.f40.ntmps) (bodyOf Try.f40) (funK Try.prog Try.f40.results.toList h Q) (frame0 [a0, a1]) h := by kernel_rfl
theorem T40_calls {a0 a1 : AV} {h : AHeap} {Q : AV → AHeap → Prop} (H : T40 a0 a1 h Q) : ACalls Try.prog 40 [a0, a1] h Q := ACalls.of_tree mixed Try.func40 (by kernel_rfl) (T40_eq a0 a1 h Q) H

/- outrider/outriderref10.Expire -/
def T41 (a0 a1 : AV) (h : AHeap) (Q : AV → AHeap → Prop) : Prop :=
 ALoop (updl (frame0 [a0, a1]) [(4, .nils), (5, .nils), (6, .nils), (7, .nils), (8, (.int .i64 0))]) h fun I m fr hl =>
 some1 (alen .sl (fr 0) hl) fun v14 =>
 some1 (abin .lss (fr 8) v14) fun v15 =>
 aif v15
 (some1 (aiaddr none 8 (fr 0) (fr 8)) fun v20 =>
 some1 (afaddr 7 v20) fun v21 =>
 some1 (aloadv false 1 v21 hl) fun v22 =>
 some1 (abin .gtr v22 (fr 1)) fun v24 =>
 aif v24
 (some1 (aiaddr none 8 (fr 0) (fr 8)) fun v28 =>
 some1 (aloadv true 8 v28 hl) fun v29 =>
 alitP Try.prog 27 1 [(0, 8, v29)] hl fun s30 h_ =>
 some1 (aappend 8 80 (fr 6) s30 h_) fun q31 =>
 some1 (abin .add (fr 8) (.int .i64 1)) fun v17 =>
 inext I m (updl fr [(12, (fr 8)), (13, (fr 0)), (14, v14), (15, v15), (18, (fr 0)), (19, (fr 8)), (20, v20), (21, v21), (22, v22), (23, (fr 1)), (24, v24), (25, (fr 6)), (26, (fr 0)), (27, (fr 8)), (28, v28), (29, v29), (30, s30), (31, q31.1), (6, q31.1), (16, (fr 8)), (17, v17), (8, v17)]) q31.2)
 (ALoop (updl fr [(12, (fr 8)), (13, (fr 0)), (14, v14), (15, v15), (18, (fr 0)), (19, (fr 8)), (20, v20), (21, v21), (22, v22), (23, (fr 1)), (24, v24), (9, .nils), (10, (.bool false)), (11, (.int .i64 0))]) hl fun I_2 m_2 fr_2 hl_2 =>
 some1 (alen .sl (fr_2 7) hl_2) fun v34 =>
 some1 (abin .lss (fr_2 11) v34) fun v35 =>
 aif v35
 (join (fun (J : Fr → AHeap → Prop) =>
 some1 (aun .not (fr_2 10)) fun v39 =>
 agrd v39 true
 (some1 (aiaddr none 8 (fr_2 7) (fr_2 11)) fun v43 =>
 some1 (afaddr 7 v43) fun v44 =>
 some1 (aloadv false 1 v44 hl_2) fun v45 =>
 some1 (aiaddr none 8 (fr_2 0) (fr_2 8)) fun v48 =>
 some1 (afaddr 7 v48) fun v49 =>
 some1 (aloadv false 1 v49 hl_2) fun v50 =>
 some1 (abin .gtr v45 v50) fun v51 =>
 aif v51
 (some1 (aiaddr none 8 (fr_2 0) (fr_2 8)) fun v56 =>
 some1 (aloadv true 8 v56 hl_2) fun v57 =>
 alitP Try.prog 27 1 [(0, 8, v57)] hl_2 fun s58 h__2 =>
 some1 (aappend 8 80 (fr_2 9) s58 h__2) fun q59 =>
 J (updl fr_2 [(32, (fr_2 11)), (33, (fr_2 7)), (34, v34), (35, v35), (38, (fr_2 10)), (39, v39), (40, v39), (40, (.bool true)), (41, (fr_2 7)), (40, (.bool true)), (42, (fr_2 11)), (40, (.bool true)), (43, v43), (40, (.bool true)), (44, v44), (40, (.bool true)), (45, v45), (40, (.bool true)), (46, (fr_2 0)), (40, (.bool true)), (47, (fr_2 8)), (40, (.bool true)), (48, v48), (40, (.bool true)), (49, v49), (40, (.bool true)), (50, v50), (40, (.bool true)), (51, v51), (52, v51), (53, (fr_2 9)), (54, (fr_2 0)), (55, (fr_2 8)), (56, v56), (57, v57), (58, s58), (59, q59.1), (9, q59.1), (10, (.bool true))]) q59.2)
 (J (updl fr_2 [(32, (fr_2 11)), (33, (fr_2 7)), (34, v34), (35, v35), (38, (fr_2 10)), (39, v39), (40, v39), (40, (.bool true)), (41, (fr_2 7)), (40, (.bool true)), (42, (fr_2 11)), (40, (.bool true)), (43, v43), (40, (.bool true)), (44, v44), (40, (.bool true)), (45, v45), (40, (.bool true)), (46, (fr_2 0)), (40, (.bool true)), (47, (fr_2 8)), (40, (.bool true)), (48, v48), (40, (.bool true)), (49, v49), (40, (.bool true)), (50, v50), (40, (.bool true)), (51, v51), (52, v51)]) hl_2))
 (J (updl fr_2 [(32, (fr_2 11)), (33, (fr_2 7)), (34, v34), (35, v35), (38, (fr_2 10)), (39, v39), (40, v39), (40, (.bool false)), (41, (.tuple [])), (40, (.bool false)), (42, (.tuple [])), (40, (.bool false)), (43, (.tuple [])), (40, (.bool false)), (44, (.tuple [])), (40, (.bool false)), (45, (.tuple [])), (40, (.bool false)), (46, (.tuple [])), (40, (.bool false)), (47, (.tuple [])), (40, (.bool false)), (48, (.tuple [])), (40, (.bool false)), (49, (.tuple [])), (40, (.bool false)), (50, (.tuple [])), (40, (.bool false)), (51, (.tuple [])), (52, (.bool false))]) hl_2))
 (fun (fr_3 : Fr) (hj : AHeap) =>
 some1 (aiaddr none 8 (fr_3 7) (fr_3 11)) fun v63 =>
 some1 (aloadv true 8 v63 hj) fun v64 =>
 alitP Try.prog 27 1 [(0, 8, v64)] hj fun s65 h__3 =>
 some1 (aappend 8 80 (fr_3 9) s65 h__3) fun q66 =>
 some1 (abin .add (fr_3 11) (.int .i64 1)) fun v37 =>
 inext I_2 m_2 (updl fr_3 [(60, (fr_3 9)), (61, (fr_3 7)), (62, (fr_3 11)), (63, v63), (64, v64), (65, s65), (66, q66.1), (9, q66.1), (36, (fr_3 11)), (37, v37), (11, v37)]) q66.2))
 (some1 (aun .not (fr_2 10)) fun v68 =>
 aif v68
 (some1 (aiaddr none 8 (fr_2 0) (fr_2 8)) fun v72 =>
 some1 (aloadv true 8 v72 hl_2) fun v73 =>
 alitP Try.prog 27 1 [(0, 8, v73)] hl_2 fun s74 h__4 =>
 some1 (aappend 8 80 (fr_2 9) s74 h__4) fun q75 =>
 some1 (abin .add (fr_2 8) (.int .i64 1)) fun v17_2 =>
 inext I m (updl fr_2 [(32, (fr_2 11)), (33, (fr_2 7)), (34, v34), (35, v35), (67, (fr_2 10)), (68, v68), (69, (fr_2 9)), (70, (fr_2 0)), (71, (fr_2 8)), (72, v72), (73, v73), (74, s74), (75, q75.1), (9, q75.1), (76, q75.1), (7, q75.1), (16, (fr_2 8)), (17, v17_2), (8, v17_2)]) q75.2)
 (some1 (abin .add (fr_2 8) (.int .i64 1)) fun v17_3 =>
 inext I m (updl fr_2 [(32, (fr_2 11)), (33, (fr_2 7)), (34, v34), (35, v35), (67, (fr_2 10)), (68, v68), (76, (fr_2 9)), (7, (fr_2 9)), (16, (fr_2 8)), (17, v17_3), (8, v17_3)]) hl_2))))
 (Ret h (.tuple [(fr 6), (fr 7)]) hl Q)
theorem T41_eq (a0 a1 : AV) (h : AHeap) (Q : AV → AHeap → Prop) : T41 a0 a1 h Q = wpc Try.prog (max (List.length [a0, a1]) Try.f41.ntmps) (bodyOf Try.f41) (funK Try.prog Try.f41.results.toList h Q) (frame0 [a0, a1]) h := by kernel_rfl
theorem T41_calls {a0 a1 : AV} {h : AHeap} {Q : AV → AHeap → Prop} (H : T41 a0 a1 h Q) : ACalls Try.prog 41 [a0, a1] h Q := ACalls.of_tree mixed Try.func41 (by kernel_rfl) (T41_eq a0 a1 h Q) H

end Go.Own.Try

namespace Go.Own.Try
open Go.Own Go.Proofs
set_option maxRecDepth 4000
/- math/bits.Len -/
def T43 (a0 : AV) (h : AHeap) (Q : AV → AHeap → Prop) : Prop :=
 acall Try.prog 61 [a0] h fun r7 h_ =>
 Ret h r7 h_ Q
theorem T43_eq (a0 : AV) (h : AHeap) (Q : AV → AHeap → Prop) : T43 a0 h Q = wpc Try.prog (max (List.length [a0]) Try.f43.ntmps) (bodyOf Try.f43) (funK Try.prog Try.f43.results.toList h Q) (frame0 [a0]) h := by kernel_rfl
theorem T43_calls {a0 : AV} {h : AHeap} {Q : AV → AHeap → Prop} (H : T43 a0 h Q) : ACalls Try.prog 43 [a0] h Q := ACalls.of_tree mixed Try.func43 (by kernel_rfl) (T43_eq a0 h Q) H

/- cmp.Compare[outrider/api.Addr] -/
def T44 (a0 a1 : AV) (h : AHeap) (Q : AV → AHeap → Prop) : Prop :=
 acall Try.prog 62 [a0] h fun r8 h_ =>
 acall Try.prog 62 [a1] h_ fun r10 h__2 =>
 aif r8
 (aif r10
 (Ret h (.int .i64 0) h__2 Q)
 (Ret h (.int .i64 (-1)) h__2 Q))
 (aif r10
 (Ret h (.int .i64 1) h__2 Q)
 (some1 (abin .lss a0 a1) fun v16 =>
 aif v16
 (Ret h (.int .i64 (-1)) h__2 Q)
 (some1 (abin .gtr a0 a1) fun v19 =>
 aif v19
 (Ret h (.int .i64 1) h__2 Q)
 (Ret h (.int .i64 0) h__2 Q))))
theorem T44_eq (a0 a1 : AV) (h : AHeap) (Q : AV → AHeap → Prop) : T44 a0 a1 h Q = wpc Try.prog (max (List.length [a0, a1]) Try.f44.ntmps) (bodyOf Try.f44) (funK Try.prog Try.f44.results.toList h Q) (frame0 [a0, a1]) h := by kernel_rfl
theorem T44_calls {a0 a1 : AV} {h : AHeap} {Q : AV → AHeap → Prop} (H : T44 a0 a1 h Q) : ACalls Try.prog 44 [a0, a1] h Q := ACalls.of_tree mixed Try.func44 (by kernel_rfl) (T44_eq a0 a1 h Q) H

/- cmp.isNaN[int] -/
def T47 (a0 : AV) (h : AHeap) (Q : AV → AHeap → Prop) : Prop :=
 some1 (abin .neq a0 a0) fun v5 =>
 Ret h v5 h Q
theorem T47_eq (a0 : AV) (h : AHeap) (Q : AV → AHeap → Prop) : T47 a0 h Q = wpc Try.prog (max (List.length [a0]) Try.f47.ntmps) (bodyOf Try.f47) (funK Try.prog Try.f47.results.toList h Q) (frame0 [a0]) h := by kernel_rfl
theorem T47_calls {a0 : AV} {h : AHeap} {Q : AV → AHeap → Prop} (H : T47 a0 h Q) : ACalls Try.prog 47 [a0] h Q := ACalls.of_tree mixed Try.func47 (by kernel_rfl) (T47_eq a0 h Q) H

/- outrider/outriderref10.wrong -/
def T48 (a0 a1 : AV) (h : AHeap) (Q : AV → AHeap → Prop) : Prop :=
 some1 (abin .lss a0 (.int .i64 0)) fun v6 =>
 agrd v6 false
 (some1 (abin .gtr a0 (.int .i64 15)) fun v9 =>
 agrd v9 false
 (some1 (abin .lss a1 (.int .i64 0)) fun v13 =>
 agrd v13 false
 (some1 (abin .gtr a1 (.int .i64 1099511626776)) fun v17 =>
 Ret h v17 h Q)
 (Ret h (.bool true) h Q))
 (Ret h (.bool true) h Q))
 (Ret h (.bool true) h Q)
theorem T48_eq (a0 a1 : AV) (h : AHeap) (Q : AV → AHeap → Prop) : T48 a0 a1 h Q = wpc Try.prog (max (List.length [a0, a1]) Try.f48.ntmps) (bodyOf Try.f48) (funK Try.prog Try.f48.results.toList h Q) (frame0 [a0, a1]) h := by kernel_rfl
theorem T48_calls {a0 a1 : AV} {h : AHeap} {Q : AV → AHeap → Prop} (H : T48 a0 a1 h Q) : ACalls Try.prog 48 [a0, a1] h Q := ACalls.of_tree mixed Try.func48 (by kernel_rfl) (T48_eq a0 a1 h Q) H

/- outrider/outriderref10.Step -/
def T49 (a0 a1 : AV) (h : AHeap) (Q : AV → AHeap → Prop) : Prop :=
 some1 (abin .eql a0 (.int .i64 4)) fun v6 =>
 aif v6
 (Ret h (.int .i64 4) h Q)
 (some1 (abin .and a1 (.int .i64 5)) fun v8 =>
 some1 (abin .neq v8 (.int .i64 0)) fun v9 =>
 aif v9
 (Ret h (.int .i64 3) h Q)
 (some1 (abin .eql a0 (.int .i64 1)) fun v11 =>
 agrd v11 true
 (some1 (abin .and a1 (.int .i64 18)) fun v14 =>
 some1 (abin .eql v14 (.int .i64 16)) fun v15 =>
 aif v15
 (Ret h (.int .i64 2) h Q)
 (some1 (abin .eql a0 (.int .i64 3)) fun v18 =>
 agrd v18 true
 (some1 (abin .and a1 (.int .i64 18)) fun v21 =>
 some1 (abin .eql v21 (.int .i64 2)) fun v22 =>
 aif v22
 (Ret h (.int .i64 1) h Q)
 (Ret h a0 h Q))
 (Ret h a0 h Q)))
 (some1 (abin .eql a0 (.int .i64 3)) fun v18_2 =>
 agrd v18_2 true
 (some1 (abin .and a1 (.int .i64 18)) fun v21_2 =>
 some1 (abin .eql v21_2 (.int .i64 2)) fun v22_2 =>
 aif v22_2
 (Ret h (.int .i64 1) h Q)
 (Ret h a0 h Q))
 (Ret h a0 h Q))))
theorem T49_eq (a0 a1 : AV) (h : AHeap) (Q : AV → AHeap → Prop) : T49 a0 a1 h Q = wpc Try.prog (max (List.length [a0, a1]) Try.f49.ntmps) (bodyOf Try.f49) (funK Try.prog Try.f49.results.toList h Q) (frame0 [a0, a1]) h := by kernel_rfl
theorem T49_calls {a0 a1 : AV} {h : AHeap} {Q : AV → AHeap → Prop} (H : T49 a0 a1 h Q) : ACalls Try.prog 49 [a0, a1] h Q := ACalls.of_tree mixed Try.func49 (by kernel_rfl) (T49_eq a0 a1 h Q) H

/- outrider/outriderref10.With -/
def T51 (a0 a1 : AV) (h : AHeap) (Q : AV → AHeap → Prop) : Prop :=
 some1 (AV.cells? a1) fun z => anew z h fun p3 h_ =>
 some1 (afaddr 0 p3) fun v9 =>
 some1 (aloadv true 5 v9 h_) fun v10 =>
 acall Try.prog 40 [a0, v10] h_ fun r11 h__2 =>
 ALoop (updl (frame0 [a0, a1]) [(3, p3), (4, .nils), (8, a0), (9, v9), (10, v10), (11, r11), (0, r11), (5, .nils), (6, (.bool false)), (7, (.int .i64 0))]) h__2 fun I m fr hl =>
 some1 (alen .sl (fr 0) hl) fun v14 =>
 some1 (abin .lss (fr 7) v14) fun v15 =>
 aif v15
 (join (fun (J : Fr → AHeap → Prop) =>
 some1 (aun .not (fr 6)) fun v19 =>
 agrd v19 true
 (some1 (afaddr 0 (fr 3)) fun v21 =>
 some1 (aloadv true 5 v21 hl) fun v22 =>
 some1 (aiaddr none 8 (fr 0) (fr 7)) fun v25 =>
 some1 (afaddr 0 v25) fun v26 =>
 some1 (aloadv true 5 v26 hl) fun v27 =>
 acall Try.prog 65 [v22, v27] hl fun r28 h__3 =>
 aif r28
 (some1 (aloadv true 8 (fr 3) h__3) fun v31 =>
 alitP Try.prog 27 1 [(0, 8, v31)] h__3 fun s32 h__4 =>
 some1 (aappend 8 80 (fr 5) s32 h__4) fun q33 =>
 J (updl fr [(12, (fr 7)), (13, (fr 0)), (14, v14), (15, v15), (18, (fr 6)), (19, v19), (20, v19), (20, (.bool true)), (21, v21), (20, (.bool true)), (22, v22), (20, (.bool true)), (23, (fr 0)), (20, (.bool true)), (24, (fr 7)), (20, (.bool true)), (25, v25), (20, (.bool true)), (26, v26), (20, (.bool true)), (27, v27), (20, (.bool true)), (28, r28), (29, r28), (30, (fr 5)), (31, v31), (32, s32), (33, q33.1), (5, q33.1), (6, (.bool true))]) q33.2)
 (J (updl fr [(12, (fr 7)), (13, (fr 0)), (14, v14), (15, v15), (18, (fr 6)), (19, v19), (20, v19), (20, (.bool true)), (21, v21), (20, (.bool true)), (22, v22), (20, (.bool true)), (23, (fr 0)), (20, (.bool true)), (24, (fr 7)), (20, (.bool true)), (25, v25), (20, (.bool true)), (26, v26), (20, (.bool true)), (27, v27), (20, (.bool true)), (28, r28), (29, r28)]) h__3))
 (J (updl fr [(12, (fr 7)), (13, (fr 0)), (14, v14), (15, v15), (18, (fr 6)), (19, v19), (20, v19), (20, (.bool false)), (21, (.tuple [])), (20, (.bool false)), (22, (.tuple [])), (20, (.bool false)), (23, (.tuple [])), (20, (.bool false)), (24, (.tuple [])), (20, (.bool false)), (25, (.tuple [])), (20, (.bool false)), (26, (.tuple [])), (20, (.bool false)), (27, (.tuple [])), (20, (.bool false)), (28, (.tuple [])), (29, (.bool false))]) hl))
 (fun (fr_2 : Fr) (hj : AHeap) =>
 some1 (aiaddr none 8 (fr_2 0) (fr_2 7)) fun v37 =>
 some1 (aloadv true 8 v37 hj) fun v38 =>
 alitP Try.prog 27 1 [(0, 8, v38)] hj fun s39 h__5 =>
 some1 (aappend 8 80 (fr_2 5) s39 h__5) fun q40 =>
 some1 (abin .add (fr_2 7) (.int .i64 1)) fun v17 =>
 inext I m (updl fr_2 [(34, (fr_2 5)), (35, (fr_2 0)), (36, (fr_2 7)), (37, v37), (38, v38), (39, s39), (40, q40.1), (5, q40.1), (16, (fr_2 7)), (17, v17), (7, v17)]) q40.2))
 (some1 (aun .not (fr 6)) fun v42 =>
 aif v42
 (some1 (aloadv true 8 (fr 3) hl) fun v44 =>
 alitP Try.prog 27 1 [(0, 8, v44)] hl fun s45 h__6 =>
 some1 (aappend 8 80 (fr 5) s45 h__6) fun q46 =>
 Ret h q46.1 q46.2 Q)
 (Ret h (fr 5) hl Q))
theorem T51_eq (a0 a1 : AV) (h : AHeap) (Q : AV → AHeap → Prop) : T51 a0 a1 h Q = wpc Try.prog (max (List.length [a0, a1]) Try.f51.ntmps) (bodyOf Try.f51) (funK Try.prog Try.f51.results.toList h Q) (frame0 [a0, a1]) h := by kernel_rfl
theorem T51_calls {a0 a1 : AV} {h : AHeap} {Q : AV → AHeap → Prop} (H : T51 a0 a1 h Q) : ACalls Try.prog 51 [a0, a1] h Q := ACalls.of_tree mixed Try.func51 (by kernel_rfl) (T51_eq a0 a1 h Q) H

/- cmp.isNaN[outrider/api.Addr] -/
def T62 (a0 : AV) (h : AHeap) (Q : AV → AHeap → Prop) : Prop :=
 some1 (abin .neq a0 a0) fun v5 =>
 Ret h v5 h Q
theorem T62_eq (a0 : AV) (h : AHeap) (Q : AV → AHeap → Prop) : T62 a0 h Q = wpc Try.prog (max (List.length [a0]) Try.f62.ntmps) (bodyOf Try.f62) (funK Try.prog Try.f62.results.toList h Q) (frame0 [a0]) h := by kernel_rfl
theorem T62_calls {a0 : AV} {h : AHeap} {Q : AV → AHeap → Prop} (H : T62 a0 h Q) : ACalls Try.prog 62 [a0] h Q := ACalls.of_tree mixed Try.func62 (by kernel_rfl) (T62_eq a0 h Q) H

/- outrider/sip.Sum -/
def T63 (a0 a1 : AV) (h : AHeap) (Q : AV → AHeap → Prop) : Prop :=
 some1 (AV.cells? a0) fun z => anew z h fun p2 h_ =>
 some1 (aslice (.arr 16 1) p2 none (some (.int .i64 8)) none h_) fun v9 =>
 aqcall Try.prog 71 [v9] h_ fun r10 =>
 some1 (aslice (.arr 16 1) p2 (some (.int .i64 8)) none none h_) fun v11 =>
 acall Try.prog 71 [v11] h_ fun r12 h__2 =>
 some1 (abin .xor (.int .u64 8317987319222330741) r10) fun v14 =>
 some1 (abin .xor (.int .u64 7237128888997146477) r12) fun v16 =>
 some1 (abin .xor (.int .u64 7816392313619706465) r10) fun v18 =>
 some1 (abin .xor (.int .u64 8387220255154660723) r12) fun v20 =>
 abuildP Try.prog 120 [(0, 1, v14), (1, 1, v16), (2, 1, v18), (3, 1, v20)] fun v21 =>
 some1 (AV.cells? v21) fun z_2 => anew z_2 h__2 fun p22 h__3 =>
 some1 (alen .sl a1 h__3) fun v24 =>
 some1 (acv (.int .u64) v24 h__3) fun q25 =>
 ALoop (updl (frame0 [a0, a1]) [(2, p2), (4, (.int .u64 0)), (9, v9), (10, r10), (11, v11), (12, r12), (5, r10), (6, r12), (13, r10), (14, v14), (15, r12), (16, v16), (17, r10), (18, v18), (19, r12), (20, v20), (21, v21), (22, p22), (7, p22), (23, a1), (24, v24), (25, q25.1), (8, q25.1)]) q25.2 fun I m fr hl =>
 some1 (alen .sl (fr 1) hl) fun v27 =>
 some1 (abin .geq v27 (.int .i64 8)) fun v28 =>
 aif v28
 (some1 (aslice (.sl 1) (fr 1) none (some (.int .i64 8)) none hl) fun v31 =>
 acall Try.prog 71 [v31] hl fun r32 h__4 =>
 acall Try.prog 72 [(fr 7), r32] h__4 fun r33 h__5 =>
 some1 (aslice (.sl 1) (fr 1) (some (.int .i64 8)) none none h__5) fun v35 =>
 inext I m (updl fr [(26, (fr 1)), (27, v27), (28, v28), (29, (fr 7)), (30, (fr 1)), (31, v31), (32, r32), (33, r33), (34, (fr 1)), (35, v35), (1, v35)]) h__5)
 (acall Try.prog 71 [(fr 1)] hl fun r38 h__6 =>
 some1 (abin .shl (fr 8) (.int .u64 56)) fun v40 =>
 some1 (abin .or r38 v40) fun v41 =>
 acall Try.prog 72 [(fr 7), v41] h__6 fun _r42 h__7 =>
 anil (fr 7) = true ∧
 some1 (aiaddr (some 4) 1 (fr 7) (.int .i64 2)) fun v45 =>
 some1 (aloadv false 1 v45 h__7) fun v46 =>
 some1 (abin .xor v46 (.int .u64 255)) fun v47 =>
 anil (fr 7) = true ∧
 some1 (aiaddr (some 4) 1 (fr 7) (.int .i64 2)) fun v49 =>
 some1 (astorev 1 v49 v47 h__7) fun h__8 =>
 acall Try.prog 73 [(fr 7), (.int .i64 4)] h__8 fun _r51 h__9 =>
 anil (fr 7) = true ∧
 some1 (aiaddr (some 4) 1 (fr 7) (.int .i64 0)) fun v54 =>
 some1 (aloadv false 1 v54 h__9) fun v55 =>
 anil (fr 7) = true ∧
 some1 (aiaddr (some 4) 1 (fr 7) (.int .i64 1)) fun v58 =>
 some1 (aloadv false 1 v58 h__9) fun v59 =>
 some1 (abin .xor v55 v59) fun v60 =>
 anil (fr 7) = true ∧
 some1 (aiaddr (some 4) 1 (fr 7) (.int .i64 2)) fun v63 =>
 some1 (aloadv false 1 v63 h__9) fun v64 =>
 some1 (abin .xor v60 v64) fun v65 =>
 anil (fr 7) = true ∧
 some1 (aiaddr (some 4) 1 (fr 7) (.int .i64 3)) fun v68 =>
 some1 (aloadv false 1 v68 h__9) fun v69 =>
 some1 (abin .xor v65 v69) fun v70 =>
 Ret h v70 h__9 Q)
theorem T63_eq (a0 a1 : AV) (h : AHeap) (Q : AV → AHeap → Prop) : T63 a0 a1 h Q = wpc Try.prog (max (List.length [a0, a1]) Try.f63.ntmps) (bodyOf Try.f63) (funK Try.prog Try.f63.results.toList h Q) (frame0 [a0, a1]) h := by kernel_rfl
theorem T63_calls {a0 a1 : AV} {h : AHeap} {Q : AV → AHeap → Prop} (H : T63 a0 a1 h Q) : ACalls Try.prog 63 [a0, a1] h Q := ACalls.of_tree mixed Try.func63 (by kernel_rfl) (T63_eq a0 a1 h Q) H

/- (*outrider/flows.Table).compact -/
def T64 (a0 : AV) (h : AHeap) (Q : AV → AHeap → Prop) : Prop :=
 acall Try.prog 13 [a0] h fun r8 h_ =>
 abuildP Try.prog 59 [] fun v12 =>
 anil a0 = true ∧
 some1 (afaddr 16 a0) fun v14 =>
 some1 (astorev 1152 v14 v12 h_) fun h__2 =>
 anil a0 = true ∧
 some1 (afaddr 1168 a0) fun v16 =>
 some1 (astorev 1 v16 (.int .i64 0) h__2) fun h__3 =>
 anil a0 = true ∧
 some1 (afaddr 1169 a0) fun v18 =>
 some1 (astorev 1 v18 (.int .i64 0) h__3) fun h__4 =>
 some1 (alen .sl r8 h__4) fun v20 =>
 ALoop (updl (frame0 [a0]) [(7, a0), (8, r8), (2, r8), (9, a0), (10, a0), (11, a0), (12, v12), (13, a0), (14, v14), (15, a0), (16, v16), (17, a0), (18, v18), (19, r8), (20, v20), (21, (.int .i64 0))]) h__4 fun I m fr hl =>
 some1 (abin .lss (fr 21) (fr 20)) fun v22 =>
 aif v22
 (some1 (aiaddr none 8 (fr 19) (fr 21)) fun v23 =>
 some1 (aloadv true 8 v23 hl) fun v24 =>
 some1 (azero Try.prog 39) fun z => anew z hl fun p4 h__5 =>
 some1 (astorev 8 p4 v24 h__5) fun h__6 =>
 some1 (afaddr 0 p4) fun v27 =>
 some1 (aloadv true 5 v27 h__6) fun v28 =>
 acall Try.prog 26 [(fr 0), v28] h__6 fun r29 h__7 =>
 some1 (aext r29 0) fun v30 =>
 some1 (aext r29 1) fun v31 =>
 some1 (aloadv true 8 p4 h__7) fun v34 =>
 acall Try.prog 36 [(fr 0), v30, v34] h__7 fun r35 h__8 =>
 some1 (abin .add (fr 21) (.int .i64 1)) fun v36 =>
 inext I m (updl fr [(22, v22), (23, v23), (24, v24), (4, p4), (26, (fr 0)), (27, v27), (28, v28), (29, r29), (25, r29), (30, v30), (31, v31), (5, v30), (6, v31), (32, (fr 0)), (33, v30), (34, v34), (35, r35), (36, v36), (21, v36)]) h__8)
 (Ret h (.tuple []) hl Q)
theorem T64_eq (a0 : AV) (h : AHeap) (Q : AV → AHeap → Prop) : T64 a0 h Q = wpc Try.prog (max (List.length [a0]) Try.f64.ntmps) (bodyOf Try.f64) (funK Try.prog Try.f64.results.toList h Q) (frame0 [a0]) h := by kernel_rfl
theorem T64_calls {a0 : AV} {h : AHeap} {Q : AV → AHeap → Prop} (H : T64 a0 h Q) : ACalls Try.prog 64 [a0] h Q := ACalls.of_tree mixed Try.func64 (by kernel_rfl) (T64_eq a0 h Q) H

/- outrider/outriderref10.ahead -/
def T65 (a0 a1 : AV) (h : AHeap) (Q : AV → AHeap → Prop) : Prop :=
 some1 (AV.cells? a0) fun z => anew z h fun p2 h_ =>
 some1 (AV.cells? a1) fun z_2 => anew z_2 h_ fun p3 h__2 =>
 some1 (afaddr 0 p2) fun v5 =>
 some1 (aloadv false 1 v5 h__2) fun v6 =>
 some1 (afaddr 0 p3) fun v7 =>
 some1 (aloadv false 1 v7 h__2) fun v8 =>
 some1 (abin .neq v6 v8) fun v9 =>
 aif v9
 (some1 (afaddr 0 p2) fun v10 =>
 some1 (aloadv false 1 v10 h__2) fun v11 =>
 some1 (afaddr 0 p3) fun v12 =>
 some1 (aloadv false 1 v12 h__2) fun v13 =>
 some1 (abin .lss v11 v13) fun v14 =>
 Ret h v14 h__2 Q)
 (some1 (afaddr 1 p2) fun v15 =>
 some1 (aloadv false 1 v15 h__2) fun v16 =>
 some1 (afaddr 1 p3) fun v17 =>
 some1 (aloadv false 1 v17 h__2) fun v18 =>
 some1 (abin .neq v16 v18) fun v19 =>
 aif v19
 (some1 (afaddr 1 p2) fun v20 =>
 some1 (aloadv false 1 v20 h__2) fun v21 =>
 some1 (afaddr 1 p3) fun v22 =>
 some1 (aloadv false 1 v22 h__2) fun v23 =>
 some1 (abin .lss v21 v23) fun v24 =>
 Ret h v24 h__2 Q)
 (some1 (afaddr 3 p2) fun v25 =>
 some1 (aloadv false 1 v25 h__2) fun v26 =>
 some1 (afaddr 3 p3) fun v27 =>
 some1 (aloadv false 1 v27 h__2) fun v28 =>
 some1 (abin .neq v26 v28) fun v29 =>
 aif v29
 (some1 (afaddr 3 p2) fun v30 =>
 some1 (aloadv false 1 v30 h__2) fun v31 =>
 some1 (afaddr 3 p3) fun v32 =>
 some1 (aloadv false 1 v32 h__2) fun v33 =>
 some1 (abin .lss v31 v33) fun v34 =>
 Ret h v34 h__2 Q)
 (some1 (afaddr 2 p2) fun v35 =>
 some1 (aloadv false 1 v35 h__2) fun v36 =>
 some1 (afaddr 2 p3) fun v37 =>
 some1 (aloadv false 1 v37 h__2) fun v38 =>
 some1 (abin .neq v36 v38) fun v39 =>
 aif v39
 (some1 (afaddr 2 p2) fun v40 =>
 some1 (aloadv false 1 v40 h__2) fun v41 =>
 some1 (afaddr 2 p3) fun v42 =>
 some1 (aloadv false 1 v42 h__2) fun v43 =>
 some1 (abin .lss v41 v43) fun v44 =>
 Ret h v44 h__2 Q)
 (some1 (afaddr 4 p2) fun v45 =>
 some1 (aloadv false 1 v45 h__2) fun v46 =>
 some1 (afaddr 4 p3) fun v47 =>
 some1 (aloadv false 1 v47 h__2) fun v48 =>
 some1 (abin .lss v46 v48) fun v49 =>
 Ret h v49 h__2 Q))))
theorem T65_eq (a0 a1 : AV) (h : AHeap) (Q : AV → AHeap → Prop) : T65 a0 a1 h Q = wpc Try.prog (max (List.length [a0, a1]) Try.f65.ntmps) (bodyOf Try.f65) (funK Try.prog Try.f65.results.toList h Q) (frame0 [a0, a1]) h := by kernel_rfl
theorem T65_calls {a0 a1 : AV} {h : AHeap} {Q : AV → AHeap → Prop} (H : T65 a0 a1 h Q) : ACalls Try.prog 65 [a0, a1] h Q := ACalls.of_tree mixed Try.func65 (by kernel_rfl) (T65_eq a0 a1 h Q) H

/- outrider/sip.number -/
def T71 (a0 : AV) (h : AHeap) (Q : AV → AHeap → Prop) : Prop :=
 some1 (alen .sl a0 h) fun v7 =>
 ALoop (updl (frame0 [a0]) [(2, (.int .u64 0)), (3, (.int .u64 0)), (6, a0), (7, v7), (8, (.int .i64 0))]) h fun I m fr hl =>
 some1 (abin .lss (fr 8) (fr 7)) fun v9 =>
 aif v9
 (some1 (aiaddr none 1 (fr 6) (fr 8)) fun v11 =>
 some1 (aloadv false 1 v11 hl) fun v12 =>
 some1 (acv (.int .u64) v12 hl) fun q15 =>
 some1 (abin .mul (.int .i64 8) (fr 8)) fun v17 =>
 some1 (abin .shl q15.1 v17) fun v18 =>
 some1 (abin .or (fr 3) v18) fun v19 =>
 some1 (abin .add (fr 8) (.int .i64 1)) fun v20 =>
 inext I m (updl fr [(9, v9), (10, (fr 8)), (11, v11), (12, v12), (4, (fr 8)), (5, v12), (13, (fr 3)), (14, v12), (15, q15.1), (16, (fr 8)), (17, v17), (18, v18), (19, v19), (3, v19), (20, v20), (8, v20)]) q15.2)
 (Ret h (fr 3) hl Q)
theorem T71_eq (a0 : AV) (h : AHeap) (Q : AV → AHeap → Prop) : T71 a0 h Q = wpc Try.prog (max (List.length [a0]) Try.f71.ntmps) (bodyOf Try.f71) (funK Try.prog Try.f71.results.toList h Q) (frame0 [a0]) h := by kernel_rfl
theorem T71_calls {a0 : AV} {h : AHeap} {Q : AV → AHeap → Prop} (H : T71 a0 h Q) : ACalls Try.prog 71 [a0] h Q := ACalls.of_tree mixed Try.func71 (by kernel_rfl) (T71_eq a0 h Q) H

/- (*outrider/sip.state).take -/
def T72 (a0 a1 : AV) (h : AHeap) (Q : AV → AHeap → Prop) : Prop :=
 anil a0 = true ∧
 some1 (aiaddr (some 4) 1 a0 (.int .i64 3)) fun v6 =>
 some1 (aloadv false 1 v6 h) fun v7 =>
 some1 (abin .xor v7 a1) fun v9 =>
 anil a0 = true ∧
 some1 (aiaddr (some 4) 1 a0 (.int .i64 3)) fun v11 =>
 some1 (astorev 1 v11 v9 h) fun h_ =>
 acall Try.prog 73 [a0, (.int .i64 2)] h_ fun _r13 h__2 =>
 anil a0 = true ∧
 some1 (aiaddr (some 4) 1 a0 (.int .i64 0)) fun v16 =>
 some1 (aloadv false 1 v16 h__2) fun v17 =>
 some1 (abin .xor v17 a1) fun v19 =>
 anil a0 = true ∧
 some1 (aiaddr (some 4) 1 a0 (.int .i64 0)) fun v21 =>
 some1 (astorev 1 v21 v19 h__2) fun h__3 =>
 Ret h (.tuple []) h__3 Q
theorem T72_eq (a0 a1 : AV) (h : AHeap) (Q : AV → AHeap → Prop) : T72 a0 a1 h Q = wpc Try.prog (max (List.length [a0, a1]) Try.f72.ntmps) (bodyOf Try.f72) (funK Try.prog Try.f72.results.toList h Q) (frame0 [a0, a1]) h := by kernel_rfl
theorem T72_calls {a0 a1 : AV} {h : AHeap} {Q : AV → AHeap → Prop} (H : T72 a0 a1 h Q) : ACalls Try.prog 72 [a0, a1] h Q := ACalls.of_tree mixed Try.func72 (by kernel_rfl) (T72_eq a0 a1 h Q) H

/- (*outrider/sip.state).rounds -/
def T73 (a0 a1 : AV) (h : AHeap) (Q : AV → AHeap → Prop) : Prop :=
 ALoop (updl (frame0 [a0, a1]) [(4, a1), (5, (.int .i64 0))]) h fun I m fr hl =>
 some1 (abin .lss (fr 5) (fr 4)) fun v6 =>
 aif v6
 (anil (fr 0) = true ∧
 some1 (aiaddr (some 4) 1 (fr 0) (.int .i64 0)) fun v9 =>
 some1 (aloadv false 1 v9 hl) fun v10 =>
 anil (fr 0) = true ∧
 some1 (aiaddr (some 4) 1 (fr 0) (.int .i64 1)) fun v13 =>
 some1 (aloadv false 1 v13 hl) fun v14 =>
 some1 (abin .add v10 v14) fun v15 =>
 anil (fr 0) = true ∧
 some1 (aiaddr (some 4) 1 (fr 0) (.int .i64 0)) fun v17 =>
 some1 (astorev 1 v17 v15 hl) fun h_ =>
 anil (fr 0) = true ∧
 some1 (aiaddr (some 4) 1 (fr 0) (.int .i64 1)) fun v21 =>
 some1 (aloadv false 1 v21 h_) fun v22 =>
 aqcall Try.prog 75 [v22, (.int .i64 13)] h_ fun r23 =>
 anil (fr 0) = true ∧
 some1 (aiaddr (some 4) 1 (fr 0) (.int .i64 0)) fun v26 =>
 some1 (aloadv false 1 v26 h_) fun v27 =>
 some1 (abin .xor r23 v27) fun v28 =>
 anil (fr 0) = true ∧
 some1 (aiaddr (some 4) 1 (fr 0) (.int .i64 1)) fun v30 =>
 some1 (astorev 1 v30 v28 h_) fun h__2 =>
 anil (fr 0) = true ∧
 some1 (aiaddr (some 4) 1 (fr 0) (.int .i64 0)) fun v34 =>
 some1 (aloadv false 1 v34 h__2) fun v35 =>
 aqcall Try.prog 75 [v35, (.int .i64 32)] h__2 fun r36 =>
 anil (fr 0) = true ∧
 some1 (aiaddr (some 4) 1 (fr 0) (.int .i64 0)) fun v38 =>
 some1 (astorev 1 v38 r36 h__2) fun h__3 =>
 anil (fr 0) = true ∧
 some1 (aiaddr (some 4) 1 (fr 0) (.int .i64 2)) fun v41 =>
 some1 (aloadv false 1 v41 h__3) fun v42 =>
 anil (fr 0) = true ∧
 some1 (aiaddr (some 4) 1 (fr 0) (.int .i64 3)) fun v45 =>
 some1 (aloadv false 1 v45 h__3) fun v46 =>
 some1 (abin .add v42 v46) fun v47 =>
 anil (fr 0) = true ∧
 some1 (aiaddr (some 4) 1 (fr 0) (.int .i64 2)) fun v49 =>
 some1 (astorev 1 v49 v47 h__3) fun h__4 =>
 anil (fr 0) = true ∧
 some1 (aiaddr (some 4) 1 (fr 0) (.int .i64 3)) fun v53 =>
 some1 (aloadv false 1 v53 h__4) fun v54 =>
 aqcall Try.prog 75 [v54, (.int .i64 16)] h__4 fun r55 =>
 anil (fr 0) = true ∧
 some1 (aiaddr (some 4) 1 (fr 0) (.int .i64 2)) fun v58 =>
 some1 (aloadv false 1 v58 h__4) fun v59 =>
 some1 (abin .xor r55 v59) fun v60 =>
 anil (fr 0) = true ∧
 some1 (aiaddr (some 4) 1 (fr 0) (.int .i64 3)) fun v62 =>
 some1 (astorev 1 v62 v60 h__4) fun h__5 =>
 anil (fr 0) = true ∧
 some1 (aiaddr (some 4) 1 (fr 0) (.int .i64 0)) fun v65 =>
 some1 (aloadv false 1 v65 h__5) fun v66 =>
 anil (fr 0) = true ∧
 some1 (aiaddr (some 4) 1 (fr 0) (.int .i64 3)) fun v69 =>
 some1 (aloadv false 1 v69 h__5) fun v70 =>
 some1 (abin .add v66 v70) fun v71 =>
 anil (fr 0) = true ∧
 some1 (aiaddr (some 4) 1 (fr 0) (.int .i64 0)) fun v73 =>
 some1 (astorev 1 v73 v71 h__5) fun h__6 =>
 anil (fr 0) = true ∧
 some1 (aiaddr (some 4) 1 (fr 0) (.int .i64 3)) fun v77 =>
 some1 (aloadv false 1 v77 h__6) fun v78 =>
 aqcall Try.prog 75 [v78, (.int .i64 21)] h__6 fun r79 =>
 anil (fr 0) = true ∧
 some1 (aiaddr (some 4) 1 (fr 0) (.int .i64 0)) fun v82 =>
 some1 (aloadv false 1 v82 h__6) fun v83 =>
 some1 (abin .xor r79 v83) fun v84 =>
 anil (fr 0) = true ∧
 some1 (aiaddr (some 4) 1 (fr 0) (.int .i64 3)) fun v86 =>
 some1 (astorev 1 v86 v84 h__6) fun h__7 =>
 anil (fr 0) = true ∧
 some1 (aiaddr (some 4) 1 (fr 0) (.int .i64 2)) fun v89 =>
 some1 (aloadv false 1 v89 h__7) fun v90 =>
 anil (fr 0) = true ∧
 some1 (aiaddr (some 4) 1 (fr 0) (.int .i64 1)) fun v93 =>
 some1 (aloadv false 1 v93 h__7) fun v94 =>
 some1 (abin .add v90 v94) fun v95 =>
 anil (fr 0) = true ∧
 some1 (aiaddr (some 4) 1 (fr 0) (.int .i64 2)) fun v97 =>
 some1 (astorev 1 v97 v95 h__7) fun h__8 =>
 anil (fr 0) = true ∧
 some1 (aiaddr (some 4) 1 (fr 0) (.int .i64 1)) fun v101 =>
 some1 (aloadv false 1 v101 h__8) fun v102 =>
 aqcall Try.prog 75 [v102, (.int .i64 17)] h__8 fun r103 =>
 anil (fr 0) = true ∧
 some1 (aiaddr (some 4) 1 (fr 0) (.int .i64 2)) fun v106 =>
 some1 (aloadv false 1 v106 h__8) fun v107 =>
 some1 (abin .xor r103 v107) fun v108 =>
 anil (fr 0) = true ∧
 some1 (aiaddr (some 4) 1 (fr 0) (.int .i64 1)) fun v110 =>
 some1 (astorev 1 v110 v108 h__8) fun h__9 =>
 anil (fr 0) = true ∧
 some1 (aiaddr (some 4) 1 (fr 0) (.int .i64 2)) fun v114 =>
 some1 (aloadv false 1 v114 h__9) fun v115 =>
 aqcall Try.prog 75 [v115, (.int .i64 32)] h__9 fun r116 =>
 anil (fr 0) = true ∧
 some1 (aiaddr (some 4) 1 (fr 0) (.int .i64 2)) fun v118 =>
 some1 (astorev 1 v118 r116 h__9) fun h__10 =>
 some1 (abin .add (fr 5) (.int .i64 1)) fun v119 =>
 inext I m (updl fr [(6, v6), (7, (fr 0)), (8, (fr 0)), (9, v9), (10, v10), (11, (fr 0)), (12, (fr 0)), (13, v13), (14, v14), (15, v15), (16, (fr 0)), (17, v17), (18, (fr 0)), (19, (fr 0)), (20, (fr 0)), (21, v21), (22, v22), (23, r23), (24, (fr 0)), (25, (fr 0)), (26, v26), (27, v27), (28, v28), (29, (fr 0)), (30, v30), (31, (fr 0)), (32, (fr 0)), (33, (fr 0)), (34, v34), (35, v35), (36, r36), (37, (fr 0)), (38, v38), (39, (fr 0)), (40, (fr 0)), (41, v41), (42, v42), (43, (fr 0)), (44, (fr 0)), (45, v45), (46, v46), (47, v47), (48, (fr 0)), (49, v49), (50, (fr 0)), (51, (fr 0)), (52, (fr 0)), (53, v53), (54, v54), (55, r55), (56, (fr 0)), (57, (fr 0)), (58, v58), (59, v59), (60, v60), (61, (fr 0)), (62, v62), (63, (fr 0)), (64, (fr 0)), (65, v65), (66, v66), (67, (fr 0)), (68, (fr 0)), (69, v69), (70, v70), (71, v71), (72, (fr 0)), (73, v73), (74, (fr 0)), (75, (fr 0)), (76, (fr 0)), (77, v77), (78, v78), (79, r79), (80, (fr 0)), (81, (fr 0)), (82, v82), (83, v83), (84, v84), (85, (fr 0)), (86, v86), (87, (fr 0)), (88, (fr 0)), (89, v89), (90, v90), (91, (fr 0)), (92, (fr 0)), (93, v93), (94, v94), (95, v95), (96, (fr 0)), (97, v97), (98, (fr 0)), (99, (fr 0)), (100, (fr 0)), (101, v101), (102, v102), (103, r103), (104, (fr 0)), (105, (fr 0)), (106, v106), (107, v107), (108, v108), (109, (fr 0)), (110, v110), (111, (fr 0)), (112, (fr 0)), (113, (fr 0)), (114, v114), (115, v115), (116, r116), (117, (fr 0)), (118, v118), (119, v119), (5, v119)]) h__10)
 (Ret h (.tuple []) hl Q)
theorem T73_eq (a0 a1 : AV) (h : AHeap) (Q : AV → AHeap → Prop) : T73 a0 a1 h Q = wpc Try.prog (max (List.length [a0, a1]) Try.f73.ntmps) (bodyOf Try.f73) (funK Try.prog Try.f73.results.toList h Q) (frame0 [a0, a1]) h := by kernel_rfl
theorem T73_calls {a0 a1 : AV} {h : AHeap} {Q : AV → AHeap → Prop} (H : T73 a0 a1 h Q) : ACalls Try.prog 73 [a0, a1] h Q := ACalls.of_tree mixed Try.func73 (by kernel_rfl) (T73_eq a0 a1 h Q) H

/- outrider/sip.turned -/
def T75 (a0 a1 : AV) (h : AHeap) (Q : AV → AHeap → Prop) : Prop :=
 some1 (abin .shl a0 a1) fun v7 =>
 some1 (abin .sub (.int .i64 64) a1) fun v10 =>
 some1 (abin .shr a0 v10) fun v11 =>
 some1 (abin .or v7 v11) fun v12 =>
 Ret h v12 h Q
theorem T75_eq (a0 a1 : AV) (h : AHeap) (Q : AV → AHeap → Prop) : T75 a0 a1 h Q = wpc Try.prog (max (List.length [a0, a1]) Try.f75.ntmps) (bodyOf Try.f75) (funK Try.prog Try.f75.results.toList h Q) (frame0 [a0, a1]) h := by kernel_rfl
theorem T75_calls {a0 a1 : AV} {h : AHeap} {Q : AV → AHeap → Prop} (H : T75 a0 a1 h Q) : ACalls Try.prog 75 [a0, a1] h Q := ACalls.of_tree mixed Try.func75 (by kernel_rfl) (T75_eq a0 a1 h Q) H

end Go.Own.Try

namespace Go.Own.Try
open Go.Own Go.Proofs
set_option maxRecDepth 4000
/- outrider/outriderlaw10.alive -/
def T9 (h : AHeap) (Q : AV → AHeap → Prop) : Prop :=
 abuildP Try.prog 22 [] fun v9 =>
 acall Try.prog 8 [v9] h fun r10 h_ =>
 some1 (aeqP Try.prog .eql 24 r10 .nilp) fun v12 =>
 aif v12
 (Ret h (.bool false) h_ Q)
 (abuildP Try.prog 37 [(0, 1, (.int .i64 6)), (1, 1, (.str [97])), (2, 1, (.str [98])), (3, 1, (.int .i64 1)), (4, 1, (.int .i64 2))] fun v13 =>
 some1 (azero Try.prog 37) fun z => anew z h_ fun p2 h__2 =>
 some1 (astorev 5 p2 v13 h__2) fun h__3 =>
 some1 (aloadv true 5 p2 h__3) fun v15 =>
 acall Try.prog 19 [r10, v15, (.int .i64 3), (.int .i64 2), (.int .i64 100)] h__3 fun r16 h__4 =>
 some1 (aloadv true 5 p2 h__4) fun v19 =>
 acall Try.prog 14 [r10, v19] h__4 fun r20 h__5 =>
 some1 (aext r20 0) fun v21 =>
 some1 (aext r20 1) fun v22 =>
 some1 (azero Try.prog 39) fun z_2 => anew z_2 h__5 fun p4 h__6 =>
 some1 (astorev 8 p4 v21 h__6) fun h__7 =>
 some1 (aloadv true 5 p2 h__7) fun v25 =>
 acall Try.prog 20 [r10, v25, (.int .i64 16), (.int .i64 110)] h__7 fun r26 h__8 =>
 some1 (aext r26 0) fun v27 =>
 some1 (aext r26 1) fun v28 =>
 some1 (azero Try.prog 39) fun z_3 => anew z_3 h__8 fun p6 h__9 =>
 some1 (astorev 8 p6 v27 h__9) fun h__10 =>
 acall Try.prog 18 [r10, (.int .i64 2000)] h__10 fun r30 h__11 =>
 some1 (abin .eql r16 (.int .i64 0)) fun v32 =>
 agrd v32 true
 (agrd v22 true
 (some1 (aloadv true 8 p4 h__11) fun v37 =>
 some1 (aloadv true 5 p2 h__11) fun v38 =>
 abuildP Try.prog 39 [(0, 5, v38), (5, 1, (.int .i64 3)), (6, 1, (.int .i64 1)), (7, 1, (.int .i64 160))] fun v39 =>
 some1 (aeqP Try.prog .eql 39 v37 v39) fun v40 =>
 agrd v40 true
 (agrd v28 true
 (some1 (afaddr 6 p6) fun v46 =>
 some1 (aloadv false 1 v46 h__11) fun v47 =>
 some1 (abin .eql v47 (.int .i64 2)) fun v48 =>
 agrd v48 true
 (some1 (afaddr 7 p6) fun v51 =>
 some1 (aloadv false 1 v51 h__11) fun v52 =>
 some1 (abin .eql v52 (.int .i64 1010)) fun v53 =>
 agrd v53 true
 (some1 (alen .sl r30 h__11) fun v57 =>
 some1 (abin .eql v57 (.int .i64 1)) fun v58 =>
 agrd v58 true
 (acall Try.prog 17 [r10] h__11 fun r62 h__12 =>
 some1 (abin .eql r62 (.int .i64 0)) fun v63 =>
 agrd v63 true
 (acall Try.prog 21 [(.int .i64 4)] h__12 fun r66 h__13 =>
 some1 (abin .eql r66 (.int .i64 120)) fun v67 =>
 Ret h v67 h__13 Q)
 (Ret h (.bool false) h__12 Q))
 (Ret h (.bool false) h__11 Q))
 (Ret h (.bool false) h__11 Q))
 (Ret h (.bool false) h__11 Q))
 (Ret h (.bool false) h__11 Q))
 (Ret h (.bool false) h__11 Q))
 (Ret h (.bool false) h__11 Q))
 (Ret h (.bool false) h__11 Q))
theorem T9_eq (h : AHeap) (Q : AV → AHeap → Prop) : T9 h Q = wpc Try.prog (max (List.length ([] : List AV)) Try.f9.ntmps) (bodyOf Try.f9) (funK Try.prog Try.f9.results.toList h Q) (frame0 []) h := by kernel_rfl
theorem T9_calls {h : AHeap} {Q : AV → AHeap → Prop} (H : T9 h Q) : ACalls Try.prog 9 [] h Q := ACalls.of_tree mixed Try.func9 (by kernel_rfl) (T9_eq h Q) H

/- (*outrider/flows.Table).remove -/
def T46 (a0 a1 : AV) (h : AHeap) (Q : AV → AHeap → Prop) : Prop :=
 abuildP Try.prog 58 [(0, 1, (.int .i64 2))] fun v6 =>
 anil a0 = true ∧
 some1 (afaddr 16 a0) fun v8 =>
 some1 (aiaddr (some 128) 9 v8 a1) fun v9 =>
 some1 (astorev 9 v9 v6 h) fun h_ =>
 anil a0 = true ∧
 some1 (afaddr 1168 a0) fun v12 =>
 some1 (aloadv false 1 v12 h_) fun v13 =>
 some1 (abin .sub v13 (.int .i64 1)) fun v14 =>
 anil a0 = true ∧
 some1 (afaddr 1168 a0) fun v16 =>
 some1 (astorev 1 v16 v14 h_) fun h__2 =>
 anil a0 = true ∧
 some1 (afaddr 1169 a0) fun v19 =>
 some1 (aloadv false 1 v19 h__2) fun v20 =>
 some1 (abin .add v20 (.int .i64 1)) fun v21 =>
 anil a0 = true ∧
 some1 (afaddr 1169 a0) fun v23 =>
 some1 (astorev 1 v23 v21 h__2) fun h__3 =>
 anil a0 = true ∧
 some1 (afaddr 1169 a0) fun v26 =>
 some1 (aloadv false 1 v26 h__3) fun v27 =>
 some1 (abin .gtr v27 (.int .i64 32)) fun v28 =>
 aif v28
 (acall Try.prog 64 [a0] h__3 fun _r30 h__4 =>
 Ret h (.tuple []) h__4 Q)
 (Ret h (.tuple []) h__3 Q)
theorem T46_eq (a0 a1 : AV) (h : AHeap) (Q : AV → AHeap → Prop) : T46 a0 a1 h Q = wpc Try.prog (max (List.length [a0, a1]) Try.f46.ntmps) (bodyOf Try.f46) (funK Try.prog Try.f46.results.toList h Q) (frame0 [a0, a1]) h := by kernel_rfl
theorem T46_calls {a0 a1 : AV} {h : AHeap} {Q : AV → AHeap → Prop} (H : T46 a0 a1 h Q) : ACalls Try.prog 46 [a0, a1] h Q := ACalls.of_tree mixed Try.func46 (by kernel_rfl) (T46_eq a0 a1 h Q) H

/- outrider/outriderref10.Life -/
def T50 (a0 : AV) (h : AHeap) (Q : AV → AHeap → Prop) : Prop :=
 alitP Try.prog 94 5 [(0, 1, (.int .i64 0)), (1, 1, (.int .i64 60)), (2, 1, (.int .i64 900)), (3, 1, (.int .i64 30)), (4, 1, (.int .i64 120))] h fun s4 h_ =>
 some1 (abin .lss a0 (.int .i64 0)) fun v6 =>
 agrd v6 false
 (some1 (abin .gtr a0 (.int .i64 4)) fun v9 =>
 aif v9
 (Ret h (.int .i64 0) h_ Q)
 (some1 (aiaddr none 1 s4 a0) fun v13 =>
 some1 (aloadv false 1 v13 h_) fun v14 =>
 Ret h v14 h_ Q))
 (Ret h (.int .i64 0) h_ Q)
theorem T50_eq (a0 : AV) (h : AHeap) (Q : AV → AHeap → Prop) : T50 a0 h Q = wpc Try.prog (max (List.length [a0]) Try.f50.ntmps) (bodyOf Try.f50) (funK Try.prog Try.f50.results.toList h Q) (frame0 [a0]) h := by kernel_rfl
theorem T50_calls {a0 : AV} {h : AHeap} {Q : AV → AHeap → Prop} (H : T50 a0 h Q) : ACalls Try.prog 50 [a0] h Q := ACalls.of_tree mixed Try.func50 (by kernel_rfl) (T50_eq a0 h Q) H

end Go.Own.Try
