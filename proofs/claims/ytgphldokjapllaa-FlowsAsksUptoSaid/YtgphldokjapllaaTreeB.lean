/- Part of the proofs: TF, TG, TH, TK. -/
import Derived.Test.YtgphldokjapllaaTreeA

namespace Go.Own.Try
open Go.Own Go.Proofs
set_option maxRecDepth 4000
/- outrider/outriderlaw10.FlowsAll -/
def T3 (a0 a1 : AV) (h : AHeap) (Q : AV → AHeap → Prop) : Prop :=
 some1 (AV.cells? a0) fun z => anew z h fun p2 h_ =>
 some1 (aloadv true 16 p2 h_) fun v8 =>
 acall Try.prog 8 [v8] h_ fun r9 h__2 =>
 some1 (aeqP Try.prog .eql 24 r9 .nilp) fun v11 =>
 agrd v11 false
 (some1 (alen .sl a1 h__2) fun v14 =>
 some1 (abin .gtr v14 (.int .i64 600)) fun v15 =>
 aif v15
 (some1 (aeqP Try.prog .neq 24 r9 .nilp) fun v18 =>
 agrd v18 true
 (acall Try.prog 9 [] h__2 fun r20 h__3 =>
 Ret h r20 h__3 Q)
 (Ret h (.bool false) h__2 Q))
 (acall Try.prog 10 [r9, .nils, a1] h__2 fun r25 h__4 =>
 some1 (aext r25 0) fun v26 =>
 some1 (aext r25 1) fun v27 =>
 acall Try.prog 9 [] h__4 fun r28 h__5 =>
 agrd r28 true
 (agrd v27 true
 (acall Try.prog 13 [r9] h__5 fun r34 h__6 =>
 acall Try.prog 12 [r34] h__6 fun r35 h__7 =>
 acall Try.prog 11 [r35, v26] h__7 fun r37 h__8 =>
 Ret h r37 h__8 Q)
 (Ret h (.bool false) h__5 Q))
 (Ret h (.bool false) h__5 Q)))
 (some1 (aeqP Try.prog .neq 24 r9 .nilp) fun v18_2 =>
 agrd v18_2 true
 (acall Try.prog 9 [] h__2 fun r20_2 h__9 =>
 Ret h r20_2 h__9 Q)
 (Ret h (.bool false) h__2 Q))
theorem T3_eq (a0 a1 : AV) (h : AHeap) (Q : AV → AHeap → Prop) : T3 a0 a1 h Q = wpc Try.prog (max (List.length [a0, a1]) Try.f3.ntmps) (bodyOf Try.f3) (funK Try.prog Try.f3.results.toList h Q) (frame0 [a0, a1]) h := by kernel_rfl
theorem T3_calls {a0 a1 : AV} {h : AHeap} {Q : AV → AHeap → Prop} (H : T3 a0 a1 h Q) : ACalls Try.prog 3 [a0, a1] h Q := ACalls.of_tree mixed Try.func3 (by kernel_rfl) (T3_eq a0 a1 h Q) H

/- outrider/outriderlaw10.FlowsAsks -/
def T4 (a0 a1 a2 : AV) (h : AHeap) (Q : AV → AHeap → Prop) : Prop :=
 some1 (AV.cells? a0) fun z => anew z h fun p3 h_ =>
 some1 (AV.cells? a2) fun z_2 => anew z_2 h_ fun p5 h__2 =>
 some1 (aloadv true 16 p3 h__2) fun v14 =>
 acall Try.prog 8 [v14] h__2 fun r15 h__3 =>
 some1 (aeqP Try.prog .eql 24 r15 .nilp) fun v17 =>
 agrd v17 false
 (some1 (alen .sl a1 h__3) fun v20 =>
 some1 (abin .gtr v20 (.int .i64 600)) fun v21 =>
 aif v21
 (some1 (aeqP Try.prog .neq 24 r15 .nilp) fun v24 =>
 agrd v24 true
 (acall Try.prog 9 [] h__3 fun r26 h__4 =>
 Ret h r26 h__4 Q)
 (Ret h (.bool false) h__3 Q))
 (acall Try.prog 10 [r15, .nils, a1] h__3 fun r31 h__5 =>
 some1 (aext r31 0) fun v32 =>
 some1 (aext r31 1) fun _v33 =>
 some1 (aloadv true 5 p5 h__5) fun v36 =>
 acall Try.prog 14 [r15, v36] h__5 fun r37 h__6 =>
 some1 (aext r37 0) fun v38 =>
 some1 (aext r37 1) fun v39 =>
 some1 (azero Try.prog 39) fun z_3 => anew z_3 h__6 fun p10 h__7 =>
 some1 (astorev 8 p10 v38 h__7) fun h__8 =>
 some1 (aloadv true 5 p5 h__8) fun v42 =>
 acall Try.prog 15 [v32, v42] h__8 fun r43 h__9 =>
 some1 (aext r43 0) fun v44 =>
 some1 (aext r43 1) fun v45 =>
 some1 (azero Try.prog 42) fun z_4 => anew z_4 h__9 fun p12 h__10 =>
 some1 (astorev 8 p12 v44 h__10) fun h__11 =>
 acall Try.prog 9 [] h__11 fun r46 h__12 =>
 agrd r46 true
 (some1 (aloadv true 8 p10 h__12) fun v48 =>
 some1 (aloadv true 8 p12 h__12) fun v49 =>
 some1 (aeqP Try.prog .eql 42 v48 v49) fun v50 =>
 agrd v50 true
 (some1 (aeqP Try.prog .eql 4 v39 v45) fun v55 =>
 Ret h v55 h__12 Q)
 (Ret h (.bool false) h__12 Q))
 (Ret h (.bool false) h__12 Q)))
 (some1 (aeqP Try.prog .neq 24 r15 .nilp) fun v24_2 =>
 agrd v24_2 true
 (acall Try.prog 9 [] h__3 fun r26_2 h__13 =>
 Ret h r26_2 h__13 Q)
 (Ret h (.bool false) h__3 Q))
theorem T4_eq (a0 a1 a2 : AV) (h : AHeap) (Q : AV → AHeap → Prop) : T4 a0 a1 a2 h Q = wpc Try.prog (max (List.length [a0, a1, a2]) Try.f4.ntmps) (bodyOf Try.f4) (funK Try.prog Try.f4.results.toList h Q) (frame0 [a0, a1, a2]) h := by kernel_rfl
theorem T4_calls {a0 a1 a2 : AV} {h : AHeap} {Q : AV → AHeap → Prop} (H : T4 a0 a1 a2 h Q) : ACalls Try.prog 4 [a0, a1, a2] h Q := ACalls.of_tree mixed Try.func4 (by kernel_rfl) (T4_eq a0 a1 a2 h Q) H

/- outrider/outriderlaw10.FlowsEnds -/
def T7 (a0 a1 a2 : AV) (h : AHeap) (Q : AV → AHeap → Prop) : Prop :=
 some1 (AV.cells? a0) fun z => anew z h fun p3 h_ =>
 some1 (aloadv true 16 p3 h_) fun v16 =>
 acall Try.prog 8 [v16] h_ fun r17 h__2 =>
 some1 (aeqP Try.prog .eql 24 r17 .nilp) fun v19 =>
 agrd v19 false
 (some1 (alen .sl a1 h__2) fun v22 =>
 some1 (abin .gtr v22 (.int .i64 400)) fun v23 =>
 aif v23
 (some1 (aeqP Try.prog .neq 24 r17 .nilp) fun v26 =>
 agrd v26 true
 (acall Try.prog 9 [] h__2 fun r28 h__3 =>
 Ret h r28 h__3 Q)
 (Ret h (.bool false) h__2 Q))
 (some1 (alen .sl a1 h__2) fun v31 =>
 ALoop (updl (frame0 [a0, a1, a2]) [(3, p3), (6, (.bool false)), (16, v16), (17, r17), (7, r17), (18, r17), (19, v19), (20, v19), (20, (.bool false)), (21, a1), (20, (.bool false)), (22, v22), (20, (.bool false)), (23, v23), (24, v23), (30, a1), (31, v31), (32, (.int .i64 0))]) h__2 fun I m fr hl =>
 some1 (abin .lss (fr 32) (fr 31)) fun v33 =>
 aif v33
 (some1 (aiaddr none 11 (fr 30) (fr 32)) fun v34 =>
 some1 (aloadv true 11 v34 hl) fun v35 =>
 some1 (azero Try.prog 47) fun z_2 => anew z_2 hl fun p9 h__4 =>
 some1 (astorev 11 p9 v35 h__4) fun h__5 =>
 some1 (aloadv true 11 p9 h__5) fun v37 =>
 acall Try.prog 16 [(fr 7), v37] h__5 fun r38 h__6 =>
 some1 (abin .add (fr 32) (.int .i64 1)) fun v39 =>
 inext I m (updl fr [(33, v33), (34, v34), (35, v35), (9, p9), (36, (fr 7)), (37, v37), (38, r38), (39, v39), (32, v39)]) h__6)
 (acall Try.prog 13 [(fr 7)] hl fun r41 h__7 =>
 acall Try.prog 18 [(fr 7), (fr 2)] h__7 fun r44 h__8 =>
 acall Try.prog 13 [(fr 7)] h__8 fun r46 h__9 =>
 some1 (alen .sl r46 h__9) fun v47 =>
 ALoop (updl fr [(33, v33), (40, (fr 7)), (41, r41), (10, r41), (42, (fr 7)), (43, (fr 2)), (44, r44), (11, r44), (45, (fr 7)), (46, r46), (47, v47), (48, (.int .i64 0))]) h__9 fun I_2 m_2 fr_2 hl_2 =>
 some1 (abin .lss (fr_2 48) (fr_2 47)) fun v49 =>
 aif v49
 (some1 (aiaddr none 8 (fr_2 46) (fr_2 48)) fun v50 =>
 some1 (aloadv true 8 v50 hl_2) fun v51 =>
 some1 (azero Try.prog 39) fun z_3 => anew z_3 hl_2 fun p13 h__10 =>
 some1 (astorev 8 p13 v51 h__10) fun h__11 =>
 some1 (afaddr 7 p13) fun v52 =>
 some1 (aloadv false 1 v52 h__11) fun v53 =>
 some1 (abin .leq v53 (fr_2 2)) fun v55 =>
 aif v55
 (Ret h (.bool false) h__11 Q)
 (some1 (abin .add (fr_2 48) (.int .i64 1)) fun v56 =>
 inext I_2 m_2 (updl fr_2 [(49, v49), (50, v50), (51, v51), (13, p13), (52, v52), (53, v53), (54, (fr_2 2)), (55, v55), (56, v56), (48, v56)]) h__11))
 (some1 (alen .sl (fr_2 11) hl_2) fun v58 =>
 ALoop (updl fr_2 [(49, v49), (57, (fr_2 11)), (58, v58), (59, (.int .i64 0))]) hl_2 fun I_3 m_3 fr_3 hl_3 =>
 some1 (abin .lss (fr_3 59) (fr_3 58)) fun v60 =>
 aif v60
 (some1 (aiaddr none 8 (fr_3 57) (fr_3 59)) fun v61 =>
 some1 (aloadv true 8 v61 hl_3) fun v62 =>
 some1 (azero Try.prog 39) fun z_4 => anew z_4 hl_3 fun p15 h__12 =>
 some1 (astorev 8 p15 v62 h__12) fun h__13 =>
 some1 (afaddr 7 p15) fun v63 =>
 some1 (aloadv false 1 v63 h__13) fun v64 =>
 some1 (abin .gtr v64 (fr_3 2)) fun v66 =>
 aif v66
 (Ret h (.bool false) h__13 Q)
 (some1 (abin .add (fr_3 59) (.int .i64 1)) fun v67 =>
 inext I_3 m_3 (updl fr_3 [(60, v60), (61, v61), (62, v62), (15, p15), (63, v63), (64, v64), (65, (fr_3 2)), (66, v66), (67, v67), (59, v67)]) h__13))
 (acall Try.prog 9 [] hl_3 fun r68 h__14 =>
 agrd r68 true
 (some1 (alen .sl (fr_3 10) h__14) fun v71 =>
 some1 (alen .sl (fr_3 11) h__14) fun v73 =>
 acall Try.prog 17 [(fr_3 7)] h__14 fun r75 h__15 =>
 some1 (abin .add v73 r75) fun v76 =>
 some1 (abin .eql v71 v76) fun v77 =>
 Ret h v77 h__15 Q)
 (Ret h (.bool false) h__14 Q))))))
 (some1 (aeqP Try.prog .neq 24 r17 .nilp) fun v26_2 =>
 agrd v26_2 true
 (acall Try.prog 9 [] h__2 fun r28_2 h__16 =>
 Ret h r28_2 h__16 Q)
 (Ret h (.bool false) h__2 Q))
theorem T7_eq (a0 a1 a2 : AV) (h : AHeap) (Q : AV → AHeap → Prop) : T7 a0 a1 a2 h Q = wpc Try.prog (max (List.length [a0, a1, a2]) Try.f7.ntmps) (bodyOf Try.f7) (funK Try.prog Try.f7.results.toList h Q) (frame0 [a0, a1, a2]) h := by kernel_rfl
theorem T7_calls {a0 a1 a2 : AV} {h : AHeap} {Q : AV → AHeap → Prop} (H : T7 a0 a1 a2 h Q) : ACalls Try.prog 7 [a0, a1, a2] h Q := ACalls.of_tree mixed Try.func7 (by kernel_rfl) (T7_eq a0 a1 a2 h Q) H

end Go.Own.Try

namespace Go.Own.Try
open Go.Own Go.Proofs
set_option maxRecDepth 4000
/- outrider/outriderlaw10.FlowsStay -/
def T5 (a0 a1 : AV) (h : AHeap) (Q : AV → AHeap → Prop) : Prop :=
 some1 (AV.cells? a0) fun z => anew z h fun p2 h_ =>
 some1 (aloadv true 16 p2 h_) fun v13 =>
 acall Try.prog 8 [v13] h_ fun r14 h__2 =>
 some1 (aeqP Try.prog .eql 24 r14 .nilp) fun v16 =>
 agrd v16 false
 (some1 (alen .sl a1 h__2) fun v19 =>
 some1 (abin .gtr v19 (.int .i64 400)) fun v20 =>
 aif v20
 (some1 (aeqP Try.prog .neq 24 r14 .nilp) fun v23 =>
 agrd v23 true
 (acall Try.prog 9 [] h__2 fun r25 h__3 =>
 Ret h r25 h__3 Q)
 (Ret h (.bool false) h__2 Q))
 (some1 (alen .sl a1 h__2) fun v28 =>
 ALoop (updl (frame0 [a0, a1]) [(2, p2), (4, (.bool false)), (13, v13), (14, r14), (5, r14), (15, r14), (16, v16), (17, v16), (17, (.bool false)), (18, a1), (17, (.bool false)), (19, v19), (17, (.bool false)), (20, v20), (21, v20), (27, a1), (28, v28), (29, (.int .i64 0))]) h__2 fun I m fr hl =>
 some1 (abin .lss (fr 29) (fr 28)) fun v30 =>
 aif v30
 (some1 (aiaddr none 11 (fr 27) (fr 29)) fun v31 =>
 some1 (aloadv true 11 v31 hl) fun v32 =>
 some1 (azero Try.prog 47) fun z_2 => anew z_2 hl fun p7 h__4 =>
 some1 (astorev 11 p7 v32 h__4) fun h__5 =>
 acall Try.prog 13 [(fr 5)] h__5 fun r34 h__6 =>
 some1 (aloadv true 11 p7 h__6) fun v36 =>
 acall Try.prog 16 [(fr 5), v36] h__6 fun r37 h__7 =>
 acall Try.prog 17 [(fr 5)] h__7 fun r39 h__8 =>
 some1 (abin .gtr r39 (.int .i64 64)) fun v40 =>
 aif v40
 (Ret h (.bool false) h__8 Q)
 (some1 (alen .sl r34 h__8) fun v42 =>
 ALoop (updl fr [(30, v30), (31, v31), (32, v32), (7, p7), (33, (fr 5)), (34, r34), (8, r34), (35, (fr 5)), (36, v36), (37, r37), (38, (fr 5)), (39, r39), (40, v40), (41, r34), (42, v42), (43, (.int .i64 0))]) h__8 fun I_2 m_2 fr_2 hl_2 =>
 some1 (abin .lss (fr_2 43) (fr_2 42)) fun v44 =>
 aif v44
 (some1 (aiaddr none 8 (fr_2 41) (fr_2 43)) fun v45 =>
 some1 (aloadv true 8 v45 hl_2) fun v46 =>
 some1 (azero Try.prog 39) fun z_3 => anew z_3 hl_2 fun p10 h__9 =>
 some1 (astorev 8 p10 v46 h__9) fun h__10 =>
 some1 (afaddr 0 p10) fun v49 =>
 some1 (aloadv true 5 v49 h__10) fun v50 =>
 acall Try.prog 14 [(fr_2 5), v50] h__10 fun r51 h__11 =>
 some1 (aext r51 0) fun v52 =>
 some1 (aext r51 1) fun v53 =>
 some1 (azero Try.prog 39) fun z_4 => anew z_4 h__11 fun p11 h__12 =>
 some1 (astorev 8 p11 v52 h__12) fun h__13 =>
 some1 (aun .not v53) fun v55 =>
 agrd v55 true
 (some1 (afaddr 0 (fr_2 7)) fun v57 =>
 some1 (aloadv false 1 v57 h__13) fun v58 =>
 some1 (abin .eql v58 (.int .i64 4)) fun v59 =>
 agrd v59 true
 (some1 (afaddr 7 p10) fun v61 =>
 some1 (aloadv false 1 v61 h__13) fun v62 =>
 some1 (afaddr 2 (fr_2 7)) fun v63 =>
 some1 (aloadv false 1 v63 h__13) fun v64 =>
 some1 (abin .leq v62 v64) fun v65 =>
 some1 (aun .not v65) fun v67 =>
 agrd v67 true
 (some1 (afaddr 0 (fr_2 7)) fun v70 =>
 some1 (aloadv false 1 v70 h__13) fun v71 =>
 some1 (abin .eql v71 (.int .i64 3)) fun v72 =>
 agrd v72 false
 (some1 (afaddr 0 (fr_2 7)) fun v74 =>
 some1 (aloadv false 1 v74 h__13) fun v75 =>
 some1 (abin .eql v75 (.int .i64 2)) fun v76 =>
 agrd v76 true
 (some1 (afaddr 0 p10) fun v79 =>
 some1 (aloadv true 5 v79 h__13) fun v80 =>
 some1 (afaddr 3 (fr_2 7)) fun v81 =>
 some1 (afaddr 0 v81) fun v82 =>
 some1 (aloadv true 5 v82 h__13) fun v83 =>
 some1 (aeqP Try.prog .eql 37 v80 v83) fun v84 =>
 some1 (aun .not v84) fun v86 =>
 aif v86
 (Ret h (.bool false) h__13 Q)
 (some1 (abin .add (fr_2 43) (.int .i64 1)) fun v88 =>
 inext I_2 m_2 (updl fr_2 [(44, v44), (45, v45), (46, v46), (10, p10), (48, (fr_2 5)), (49, v49), (50, v50), (51, r51), (47, r51), (52, v52), (53, v53), (11, p11), (12, v53), (54, v53), (55, v55), (56, v55), (56, (.bool true)), (57, v57), (56, (.bool true)), (58, v58), (56, (.bool true)), (59, v59), (56, (.bool true)), (60, v59), (60, (.bool true)), (61, v61), (60, (.bool true)), (62, v62), (60, (.bool true)), (63, v63), (60, (.bool true)), (64, v64), (60, (.bool true)), (65, v65), (56, (.bool true)), (66, v65), (56, (.bool true)), (67, v67), (68, v67), (69, v67), (69, (.bool true)), (70, v70), (69, (.bool true)), (71, v71), (69, (.bool true)), (72, v72), (69, (.bool true)), (73, v72), (73, (.bool false)), (74, v74), (73, (.bool false)), (75, v75), (73, (.bool false)), (76, v76), (69, (.bool true)), (77, v76), (69, (.bool true)), (78, v76), (78, (.bool true)), (79, v79), (78, (.bool true)), (80, v80), (78, (.bool true)), (81, v81), (78, (.bool true)), (82, v82), (78, (.bool true)), (83, v83), (78, (.bool true)), (84, v84), (69, (.bool true)), (85, v84), (69, (.bool true)), (86, v86), (87, v86), (88, v88), (43, v88)]) h__13))
 (some1 (aun .not (.bool false)) fun v86_2 =>
 aif v86_2
 (Ret h (.bool false) h__13 Q)
 (some1 (abin .add (fr_2 43) (.int .i64 1)) fun v88_2 =>
 inext I_2 m_2 (updl fr_2 [(44, v44), (45, v45), (46, v46), (10, p10), (48, (fr_2 5)), (49, v49), (50, v50), (51, r51), (47, r51), (52, v52), (53, v53), (11, p11), (12, v53), (54, v53), (55, v55), (56, v55), (56, (.bool true)), (57, v57), (56, (.bool true)), (58, v58), (56, (.bool true)), (59, v59), (56, (.bool true)), (60, v59), (60, (.bool true)), (61, v61), (60, (.bool true)), (62, v62), (60, (.bool true)), (63, v63), (60, (.bool true)), (64, v64), (60, (.bool true)), (65, v65), (56, (.bool true)), (66, v65), (56, (.bool true)), (67, v67), (68, v67), (69, v67), (69, (.bool true)), (70, v70), (69, (.bool true)), (71, v71), (69, (.bool true)), (72, v72), (69, (.bool true)), (73, v72), (73, (.bool false)), (74, v74), (73, (.bool false)), (75, v75), (73, (.bool false)), (76, v76), (69, (.bool true)), (77, v76), (69, (.bool true)), (78, v76), (78, (.bool false)), (79, (.tuple [])), (78, (.bool false)), (80, (.tuple [])), (78, (.bool false)), (81, (.tuple [])), (78, (.bool false)), (82, (.tuple [])), (78, (.bool false)), (83, (.tuple [])), (78, (.bool false)), (84, (.tuple [])), (69, (.bool true)), (85, (.bool false)), (69, (.bool true)), (86, v86_2), (87, v86_2), (88, v88_2), (43, v88_2)]) h__13)))
 (some1 (afaddr 0 p10) fun v79_2 =>
 some1 (aloadv true 5 v79_2 h__13) fun v80_2 =>
 some1 (afaddr 3 (fr_2 7)) fun v81_2 =>
 some1 (afaddr 0 v81_2) fun v82_2 =>
 some1 (aloadv true 5 v82_2 h__13) fun v83_2 =>
 some1 (aeqP Try.prog .eql 37 v80_2 v83_2) fun v84_2 =>
 some1 (aun .not v84_2) fun v86_3 =>
 aif v86_3
 (Ret h (.bool false) h__13 Q)
 (some1 (abin .add (fr_2 43) (.int .i64 1)) fun v88_3 =>
 inext I_2 m_2 (updl fr_2 [(44, v44), (45, v45), (46, v46), (10, p10), (48, (fr_2 5)), (49, v49), (50, v50), (51, r51), (47, r51), (52, v52), (53, v53), (11, p11), (12, v53), (54, v53), (55, v55), (56, v55), (56, (.bool true)), (57, v57), (56, (.bool true)), (58, v58), (56, (.bool true)), (59, v59), (56, (.bool true)), (60, v59), (60, (.bool true)), (61, v61), (60, (.bool true)), (62, v62), (60, (.bool true)), (63, v63), (60, (.bool true)), (64, v64), (60, (.bool true)), (65, v65), (56, (.bool true)), (66, v65), (56, (.bool true)), (67, v67), (68, v67), (69, v67), (69, (.bool true)), (70, v70), (69, (.bool true)), (71, v71), (69, (.bool true)), (72, v72), (69, (.bool true)), (73, v72), (73, (.bool true)), (74, (.tuple [])), (73, (.bool true)), (75, (.tuple [])), (73, (.bool true)), (76, (.tuple [])), (69, (.bool true)), (77, (.bool true)), (69, (.bool true)), (78, (.bool true)), (78, (.bool true)), (79, v79_2), (78, (.bool true)), (80, v80_2), (78, (.bool true)), (81, v81_2), (78, (.bool true)), (82, v82_2), (78, (.bool true)), (83, v83_2), (78, (.bool true)), (84, v84_2), (69, (.bool true)), (85, v84_2), (69, (.bool true)), (86, v86_3), (87, v86_3), (88, v88_3), (43, v88_3)]) h__13)))
 (some1 (abin .add (fr_2 43) (.int .i64 1)) fun v88_4 =>
 inext I_2 m_2 (updl fr_2 [(44, v44), (45, v45), (46, v46), (10, p10), (48, (fr_2 5)), (49, v49), (50, v50), (51, r51), (47, r51), (52, v52), (53, v53), (11, p11), (12, v53), (54, v53), (55, v55), (56, v55), (56, (.bool true)), (57, v57), (56, (.bool true)), (58, v58), (56, (.bool true)), (59, v59), (56, (.bool true)), (60, v59), (60, (.bool true)), (61, v61), (60, (.bool true)), (62, v62), (60, (.bool true)), (63, v63), (60, (.bool true)), (64, v64), (60, (.bool true)), (65, v65), (56, (.bool true)), (66, v65), (56, (.bool true)), (67, v67), (68, v67), (69, v67), (69, (.bool false)), (70, (.tuple [])), (69, (.bool false)), (71, (.tuple [])), (69, (.bool false)), (72, (.tuple [])), (69, (.bool false)), (73, (.tuple [])), (74, (.tuple [])), (75, (.tuple [])), (76, (.tuple [])), (69, (.bool false)), (77, (.tuple [])), (69, (.bool false)), (78, (.tuple [])), (79, (.tuple [])), (80, (.tuple [])), (81, (.tuple [])), (82, (.tuple [])), (83, (.tuple [])), (84, (.tuple [])), (69, (.bool false)), (85, (.tuple [])), (69, (.bool false)), (86, (.tuple [])), (87, (.bool false)), (88, v88_4), (43, v88_4)]) h__13))
 (some1 (aun .not (.bool false)) fun v67_2 =>
 agrd v67_2 true
 (some1 (afaddr 0 (fr_2 7)) fun v70_2 =>
 some1 (aloadv false 1 v70_2 h__13) fun v71_2 =>
 some1 (abin .eql v71_2 (.int .i64 3)) fun v72_2 =>
 agrd v72_2 false
 (some1 (afaddr 0 (fr_2 7)) fun v74_2 =>
 some1 (aloadv false 1 v74_2 h__13) fun v75_2 =>
 some1 (abin .eql v75_2 (.int .i64 2)) fun v76_2 =>
 agrd v76_2 true
 (some1 (afaddr 0 p10) fun v79_3 =>
 some1 (aloadv true 5 v79_3 h__13) fun v80_3 =>
 some1 (afaddr 3 (fr_2 7)) fun v81_3 =>
 some1 (afaddr 0 v81_3) fun v82_3 =>
 some1 (aloadv true 5 v82_3 h__13) fun v83_3 =>
 some1 (aeqP Try.prog .eql 37 v80_3 v83_3) fun v84_3 =>
 some1 (aun .not v84_3) fun v86_4 =>
 aif v86_4
 (Ret h (.bool false) h__13 Q)
 (some1 (abin .add (fr_2 43) (.int .i64 1)) fun v88_5 =>
 inext I_2 m_2 (updl fr_2 [(44, v44), (45, v45), (46, v46), (10, p10), (48, (fr_2 5)), (49, v49), (50, v50), (51, r51), (47, r51), (52, v52), (53, v53), (11, p11), (12, v53), (54, v53), (55, v55), (56, v55), (56, (.bool true)), (57, v57), (56, (.bool true)), (58, v58), (56, (.bool true)), (59, v59), (56, (.bool true)), (60, v59), (60, (.bool false)), (61, (.tuple [])), (60, (.bool false)), (62, (.tuple [])), (60, (.bool false)), (63, (.tuple [])), (60, (.bool false)), (64, (.tuple [])), (60, (.bool false)), (65, (.tuple [])), (56, (.bool true)), (66, (.bool false)), (56, (.bool true)), (67, v67_2), (68, v67_2), (69, v67_2), (69, (.bool true)), (70, v70_2), (69, (.bool true)), (71, v71_2), (69, (.bool true)), (72, v72_2), (69, (.bool true)), (73, v72_2), (73, (.bool false)), (74, v74_2), (73, (.bool false)), (75, v75_2), (73, (.bool false)), (76, v76_2), (69, (.bool true)), (77, v76_2), (69, (.bool true)), (78, v76_2), (78, (.bool true)), (79, v79_3), (78, (.bool true)), (80, v80_3), (78, (.bool true)), (81, v81_3), (78, (.bool true)), (82, v82_3), (78, (.bool true)), (83, v83_3), (78, (.bool true)), (84, v84_3), (69, (.bool true)), (85, v84_3), (69, (.bool true)), (86, v86_4), (87, v86_4), (88, v88_5), (43, v88_5)]) h__13))
 (some1 (aun .not (.bool false)) fun v86_5 =>
 aif v86_5
 (Ret h (.bool false) h__13 Q)
 (some1 (abin .add (fr_2 43) (.int .i64 1)) fun v88_6 =>
 inext I_2 m_2 (updl fr_2 [(44, v44), (45, v45), (46, v46), (10, p10), (48, (fr_2 5)), (49, v49), (50, v50), (51, r51), (47, r51), (52, v52), (53, v53), (11, p11), (12, v53), (54, v53), (55, v55), (56, v55), (56, (.bool true)), (57, v57), (56, (.bool true)), (58, v58), (56, (.bool true)), (59, v59), (56, (.bool true)), (60, v59), (60, (.bool false)), (61, (.tuple [])), (60, (.bool false)), (62, (.tuple [])), (60, (.bool false)), (63, (.tuple [])), (60, (.bool false)), (64, (.tuple [])), (60, (.bool false)), (65, (.tuple [])), (56, (.bool true)), (66, (.bool false)), (56, (.bool true)), (67, v67_2), (68, v67_2), (69, v67_2), (69, (.bool true)), (70, v70_2), (69, (.bool true)), (71, v71_2), (69, (.bool true)), (72, v72_2), (69, (.bool true)), (73, v72_2), (73, (.bool false)), (74, v74_2), (73, (.bool false)), (75, v75_2), (73, (.bool false)), (76, v76_2), (69, (.bool true)), (77, v76_2), (69, (.bool true)), (78, v76_2), (78, (.bool false)), (79, (.tuple [])), (78, (.bool false)), (80, (.tuple [])), (78, (.bool false)), (81, (.tuple [])), (78, (.bool false)), (82, (.tuple [])), (78, (.bool false)), (83, (.tuple [])), (78, (.bool false)), (84, (.tuple [])), (69, (.bool true)), (85, (.bool false)), (69, (.bool true)), (86, v86_5), (87, v86_5), (88, v88_6), (43, v88_6)]) h__13)))
 (some1 (afaddr 0 p10) fun v79_4 =>
 some1 (aloadv true 5 v79_4 h__13) fun v80_4 =>
 some1 (afaddr 3 (fr_2 7)) fun v81_4 =>
 some1 (afaddr 0 v81_4) fun v82_4 =>
 some1 (aloadv true 5 v82_4 h__13) fun v83_4 =>
 some1 (aeqP Try.prog .eql 37 v80_4 v83_4) fun v84_4 =>
 some1 (aun .not v84_4) fun v86_6 =>
 aif v86_6
 (Ret h (.bool false) h__13 Q)
 (some1 (abin .add (fr_2 43) (.int .i64 1)) fun v88_7 =>
 inext I_2 m_2 (updl fr_2 [(44, v44), (45, v45), (46, v46), (10, p10), (48, (fr_2 5)), (49, v49), (50, v50), (51, r51), (47, r51), (52, v52), (53, v53), (11, p11), (12, v53), (54, v53), (55, v55), (56, v55), (56, (.bool true)), (57, v57), (56, (.bool true)), (58, v58), (56, (.bool true)), (59, v59), (56, (.bool true)), (60, v59), (60, (.bool false)), (61, (.tuple [])), (60, (.bool false)), (62, (.tuple [])), (60, (.bool false)), (63, (.tuple [])), (60, (.bool false)), (64, (.tuple [])), (60, (.bool false)), (65, (.tuple [])), (56, (.bool true)), (66, (.bool false)), (56, (.bool true)), (67, v67_2), (68, v67_2), (69, v67_2), (69, (.bool true)), (70, v70_2), (69, (.bool true)), (71, v71_2), (69, (.bool true)), (72, v72_2), (69, (.bool true)), (73, v72_2), (73, (.bool true)), (74, (.tuple [])), (73, (.bool true)), (75, (.tuple [])), (73, (.bool true)), (76, (.tuple [])), (69, (.bool true)), (77, (.bool true)), (69, (.bool true)), (78, (.bool true)), (78, (.bool true)), (79, v79_4), (78, (.bool true)), (80, v80_4), (78, (.bool true)), (81, v81_4), (78, (.bool true)), (82, v82_4), (78, (.bool true)), (83, v83_4), (78, (.bool true)), (84, v84_4), (69, (.bool true)), (85, v84_4), (69, (.bool true)), (86, v86_6), (87, v86_6), (88, v88_7), (43, v88_7)]) h__13)))
 (some1 (abin .add (fr_2 43) (.int .i64 1)) fun v88_8 =>
 inext I_2 m_2 (updl fr_2 [(44, v44), (45, v45), (46, v46), (10, p10), (48, (fr_2 5)), (49, v49), (50, v50), (51, r51), (47, r51), (52, v52), (53, v53), (11, p11), (12, v53), (54, v53), (55, v55), (56, v55), (56, (.bool true)), (57, v57), (56, (.bool true)), (58, v58), (56, (.bool true)), (59, v59), (56, (.bool true)), (60, v59), (60, (.bool false)), (61, (.tuple [])), (60, (.bool false)), (62, (.tuple [])), (60, (.bool false)), (63, (.tuple [])), (60, (.bool false)), (64, (.tuple [])), (60, (.bool false)), (65, (.tuple [])), (56, (.bool true)), (66, (.bool false)), (56, (.bool true)), (67, v67_2), (68, v67_2), (69, v67_2), (69, (.bool false)), (70, (.tuple [])), (69, (.bool false)), (71, (.tuple [])), (69, (.bool false)), (72, (.tuple [])), (69, (.bool false)), (73, (.tuple [])), (74, (.tuple [])), (75, (.tuple [])), (76, (.tuple [])), (69, (.bool false)), (77, (.tuple [])), (69, (.bool false)), (78, (.tuple [])), (79, (.tuple [])), (80, (.tuple [])), (81, (.tuple [])), (82, (.tuple [])), (83, (.tuple [])), (84, (.tuple [])), (69, (.bool false)), (85, (.tuple [])), (69, (.bool false)), (86, (.tuple [])), (87, (.bool false)), (88, v88_8), (43, v88_8)]) h__13)))
 (some1 (abin .add (fr_2 43) (.int .i64 1)) fun v88_9 =>
 inext I_2 m_2 (updl fr_2 [(44, v44), (45, v45), (46, v46), (10, p10), (48, (fr_2 5)), (49, v49), (50, v50), (51, r51), (47, r51), (52, v52), (53, v53), (11, p11), (12, v53), (54, v53), (55, v55), (56, v55), (56, (.bool false)), (57, (.tuple [])), (56, (.bool false)), (58, (.tuple [])), (56, (.bool false)), (59, (.tuple [])), (56, (.bool false)), (60, (.tuple [])), (61, (.tuple [])), (62, (.tuple [])), (63, (.tuple [])), (64, (.tuple [])), (65, (.tuple [])), (56, (.bool false)), (66, (.tuple [])), (56, (.bool false)), (67, (.tuple [])), (68, (.bool false)), (69, (.bool false)), (69, (.bool false)), (70, (.tuple [])), (69, (.bool false)), (71, (.tuple [])), (69, (.bool false)), (72, (.tuple [])), (69, (.bool false)), (73, (.tuple [])), (74, (.tuple [])), (75, (.tuple [])), (76, (.tuple [])), (69, (.bool false)), (77, (.tuple [])), (69, (.bool false)), (78, (.tuple [])), (79, (.tuple [])), (80, (.tuple [])), (81, (.tuple [])), (82, (.tuple [])), (83, (.tuple [])), (84, (.tuple [])), (69, (.bool false)), (85, (.tuple [])), (69, (.bool false)), (86, (.tuple [])), (87, (.bool false)), (88, v88_9), (43, v88_9)]) h__13))
 (some1 (abin .add (fr_2 29) (.int .i64 1)) fun v89 =>
 inext I m (updl fr_2 [(44, v44), (89, v89), (29, v89)]) hl_2)))
 (acall Try.prog 9 [] hl fun r90 h__14 =>
 Ret h r90 h__14 Q)))
 (some1 (aeqP Try.prog .neq 24 r14 .nilp) fun v23_2 =>
 agrd v23_2 true
 (acall Try.prog 9 [] h__2 fun r25_2 h__15 =>
 Ret h r25_2 h__15 Q)
 (Ret h (.bool false) h__2 Q))
theorem T5_eq (a0 a1 : AV) (h : AHeap) (Q : AV → AHeap → Prop) : T5 a0 a1 h Q = wpc Try.prog (max (List.length [a0, a1]) Try.f5.ntmps) (bodyOf Try.f5) (funK Try.prog Try.f5.results.toList h Q) (frame0 [a0, a1]) h := by kernel_rfl
theorem T5_calls {a0 a1 : AV} {h : AHeap} {Q : AV → AHeap → Prop} (H : T5 a0 a1 h Q) : ACalls Try.prog 5 [a0, a1] h Q := ACalls.of_tree mixed Try.func5 (by kernel_rfl) (T5_eq a0 a1 h Q) H

end Go.Own.Try

namespace Go.Own.Try
open Go.Own Go.Proofs
set_option maxRecDepth 4000
/- outrider/flows.Hash -/
def T45 (a0 a1 : AV) (h : AHeap) (Q : AV → AHeap → Prop) : Prop :=
 some1 (AV.cells? a0) fun z => anew z h fun p2 h_ =>
 some1 (AV.cells? a1) fun z_2 => anew z_2 h_ fun p3 h__2 =>
 some1 (afaddr 0 p3) fun v6 =>
 some1 (aloadv false 1 v6 h__2) fun v7 =>
 some1 (acv (.int .u8) v7 h__2) fun q8 =>
 alitP Try.prog 108 1 [(0, 1, q8.1)] q8.2 fun s9 h__3 =>
 some1 (afaddr 1 p3) fun v10 =>
 some1 (aloadv false 1 v10 h__3) fun v11 =>
 some1 (aappend 1 1 s9 v11 h__3) fun q12 =>
 alitQ Try.prog 108 1 [(0, 1, (.int .u8 0))] fun z_3 =>
 some1 (afaddr 2 p3) fun v16 =>
 some1 (aloadv false 1 v16 q12.2) fun v17 =>
 alitQ Try.prog 108 1 [(0, 1, (.int .u8 0))] fun z_4 =>
 anewsl 1 1 z_3 q12.2 fun s14 h__4 =>
 some1 (aappend 1 1 q12.1 s14 h__4) fun q15 =>
 (some1 (aloadv false 1 v16 q15.2) fun v =>
 v = v17) ∧
 some1 (aappend 1 1 q15.1 v17 q15.2) fun q18 =>
 anewsl 1 1 z_4 q18.2 fun s19 h__5 =>
 some1 (aappend 1 1 q18.1 s19 h__5) fun q20 =>
 some1 (aloadv true 16 p2 q20.2) fun v21 =>
 some1 (afaddr 3 p3) fun v23 =>
 some1 (aloadv false 1 v23 q20.2) fun v24 =>
 some1 (abin .shr v24 (.int .u64 8)) fun v25 =>
 some1 (acv (.int .u8) v25 q20.2) fun q26 =>
 some1 (afaddr 3 p3) fun v27 =>
 some1 (aloadv false 1 v27 q20.2) fun v28 =>
 some1 (acv (.int .u8) v28 q20.2) fun q29 =>
 some1 (afaddr 4 p3) fun v30 =>
 some1 (aloadv false 1 v30 q20.2) fun v31 =>
 some1 (abin .shr v31 (.int .u64 8)) fun v32 =>
 some1 (acv (.int .u8) v32 q20.2) fun q33 =>
 some1 (afaddr 4 p3) fun v34 =>
 some1 (aloadv false 1 v34 q20.2) fun v35 =>
 some1 (acv (.int .u8) v35 q20.2) fun q36 =>
 alitQ Try.prog 108 4 [(0, 1, q26.1), (1, 1, q29.1), (2, 1, q33.1), (3, 1, q36.1)] fun z_5 =>
 anewsl 4 1 z_5 q20.2 fun s37 h__6 =>
 some1 (aappend 1 1 q20.1 s37 h__6) fun q38 =>
 (some1 (aloadv true 16 p2 q38.2) fun v_2 =>
 v_2 = v21) ∧
 acall Try.prog 63 [v21, q38.1] q38.2 fun r39 h__7 =>
 Ret h r39 h__7 Q
theorem T45_eq (a0 a1 : AV) (h : AHeap) (Q : AV → AHeap → Prop) : T45 a0 a1 h Q = wpc Try.prog (max (List.length [a0, a1]) Try.f45.ntmps) (bodyOf Try.f45) (funK Try.prog Try.f45.results.toList h Q) (frame0 [a0, a1]) h := by kernel_rfl
theorem T45_calls {a0 a1 : AV} {h : AHeap} {Q : AV → AHeap → Prop} (H : T45 a0 a1 h Q) : ACalls Try.prog 45 [a0, a1] h Q := ACalls.of_tree mixed Try.func45 (by kernel_rfl) (T45_eq a0 a1 h Q) H

end Go.Own.Try

namespace Go.Own.Try
open Go.Own Go.Proofs
set_option maxRecDepth 4000
/- outrider/outriderlaw10.FlowsKeys -/
def T6 (a0 a1 a2 : AV) (h : AHeap) (Q : AV → AHeap → Prop) : Prop :=
 some1 (AV.cells? a0) fun z => anew z h fun p3 h_ =>
 some1 (AV.cells? a1) fun z_2 => anew z_2 h_ fun p4 h__2 =>
 some1 (aloadv true 16 p3 h__2) fun v13 =>
 some1 (aloadv true 16 p4 h__2) fun v15 =>
 acall Try.prog 8 [v13] h__2 fun r14 h__3 =>
 (some1 (aloadv true 16 p4 h__3) fun v =>
 v = v15) ∧
 acall Try.prog 8 [v15] h__3 fun r16 h__4 =>
 some1 (aeqP Try.prog .eql 24 r14 .nilp) fun v18 =>
 agrd v18 false
 (some1 (aeqP Try.prog .eql 24 r16 .nilp) fun v21 =>
 agrd v21 false
 (some1 (alen .sl a2 h__4) fun v25 =>
 some1 (abin .gtr v25 (.int .i64 400)) fun v26 =>
 aif v26
 (some1 (aeqP Try.prog .neq 24 r14 .nilp) fun v29 =>
 agrd v29 true
 (some1 (aeqP Try.prog .neq 24 r16 .nilp) fun v32 =>
 agrd v32 true
 (acall Try.prog 9 [] h__4 fun r35 h__5 =>
 Ret h r35 h__5 Q)
 (Ret h (.bool false) h__4 Q))
 (Ret h (.bool false) h__4 Q))
 (some1 (alen .sl a2 h__4) fun v38 =>
 ALoop (updl (frame0 [a0, a1, a2]) [(3, p3), (4, p4), (6, (.bool false)), (13, v13), (15, v15), (14, r14), (16, r16), (7, r14), (8, r16), (17, r14), (18, v18), (19, v18), (19, (.bool false)), (20, r16), (19, (.bool false)), (21, v21), (22, v21), (23, v21), (23, (.bool false)), (24, a2), (23, (.bool false)), (25, v25), (23, (.bool false)), (26, v26), (27, v26), (37, a2), (38, v38), (39, (.int .i64 0))]) h__4 fun I m fr hl =>
 some1 (abin .lss (fr 39) (fr 38)) fun v40 =>
 aif v40
 (some1 (aiaddr none 11 (fr 37) (fr 39)) fun v41 =>
 some1 (aloadv true 11 v41 hl) fun v42 =>
 some1 (azero Try.prog 47) fun z_3 => anew z_3 hl fun p10 h__6 =>
 some1 (astorev 11 p10 v42 h__6) fun h__7 =>
 some1 (aloadv true 11 p10 h__7) fun v44 =>
 some1 (aloadv true 11 p10 h__7) fun v47 =>
 some1 (azero Try.prog 50) fun z_4 =>
 some1 (azero Try.prog 50) fun z_5 =>
 acall Try.prog 16 [(fr 7), v44] h__7 fun r45 h__8 =>
 (some1 (aloadv true 11 p10 h__8) fun v_2 =>
 v_2 = v47) ∧
 acall Try.prog 16 [(fr 8), v47] h__8 fun r48 h__9 =>
 anew z_4 h__9 fun p11 h__10 =>
 anew z_5 h__10 fun p12 h__11 =>
 some1 (astorev 10 p11 r45 h__11) fun h__12 =>
 some1 (astorev 10 p12 r48 h__12) fun h__13 =>
 some1 (afaddr 0 p11) fun v49 =>
 some1 (aloadv false 1 v49 h__13) fun v50 =>
 some1 (afaddr 0 p12) fun v51 =>
 some1 (aloadv false 1 v51 h__13) fun v52 =>
 some1 (abin .neq v50 v52) fun v53 =>
 agrd v53 false
 (some1 (afaddr 1 p11) fun v55 =>
 some1 (aloadv true 8 v55 h__13) fun v56 =>
 some1 (afaddr 1 p12) fun v57 =>
 some1 (aloadv true 8 v57 h__13) fun v58 =>
 some1 (aeqP Try.prog .neq 42 v56 v58) fun v59 =>
 agrd v59 false
 (some1 (afaddr 9 p11) fun v62 =>
 some1 (aloadv false 1 v62 h__13) fun v63 =>
 some1 (afaddr 9 p12) fun v64 =>
 some1 (aloadv false 1 v64 h__13) fun v65 =>
 acall Try.prog 11 [v63, v65] h__13 fun r66 h__14 =>
 some1 (aun .not r66) fun v67 =>
 aif v67
 (Ret h (.bool false) h__14 Q)
 (some1 (abin .add (fr 39) (.int .i64 1)) fun v69 =>
 inext I m (updl fr [(40, v40), (41, v41), (42, v42), (10, p10), (43, (fr 7)), (44, v44), (46, (fr 8)), (47, v47), (45, r45), (48, r48), (11, p11), (12, p12), (49, v49), (50, v50), (51, v51), (52, v52), (53, v53), (54, v53), (54, (.bool false)), (55, v55), (54, (.bool false)), (56, v56), (54, (.bool false)), (57, v57), (54, (.bool false)), (58, v58), (54, (.bool false)), (59, v59), (60, v59), (61, v59), (61, (.bool false)), (62, v62), (61, (.bool false)), (63, v63), (61, (.bool false)), (64, v64), (61, (.bool false)), (65, v65), (61, (.bool false)), (66, r66), (61, (.bool false)), (67, v67), (68, v67), (69, v69), (39, v69)]) h__14))
 (Ret h (.bool false) h__13 Q))
 (Ret h (.bool false) h__13 Q))
 (acall Try.prog 9 [] hl fun r70 h__15 =>
 agrd r70 true
 (acall Try.prog 13 [(fr 7)] h__15 fun r73 h__16 =>
 acall Try.prog 12 [r73] h__16 fun r74 h__17 =>
 acall Try.prog 13 [(fr 8)] h__17 fun r76 h__18 =>
 acall Try.prog 12 [r76] h__18 fun r77 h__19 =>
 acall Try.prog 11 [r74, r77] h__19 fun r78 h__20 =>
 Ret h r78 h__20 Q)
 (Ret h (.bool false) h__15 Q))))
 (some1 (aeqP Try.prog .neq 24 r14 .nilp) fun v29_2 =>
 agrd v29_2 true
 (some1 (aeqP Try.prog .neq 24 r16 .nilp) fun v32_2 =>
 agrd v32_2 true
 (acall Try.prog 9 [] h__4 fun r35_2 h__21 =>
 Ret h r35_2 h__21 Q)
 (Ret h (.bool false) h__4 Q))
 (Ret h (.bool false) h__4 Q)))
 (some1 (aeqP Try.prog .neq 24 r14 .nilp) fun v29_3 =>
 agrd v29_3 true
 (some1 (aeqP Try.prog .neq 24 r16 .nilp) fun v32_3 =>
 agrd v32_3 true
 (acall Try.prog 9 [] h__4 fun r35_3 h__22 =>
 Ret h r35_3 h__22 Q)
 (Ret h (.bool false) h__4 Q))
 (Ret h (.bool false) h__4 Q))
theorem T6_eq (a0 a1 a2 : AV) (h : AHeap) (Q : AV → AHeap → Prop) : T6 a0 a1 a2 h Q = wpcB true Try.prog (max (List.length [a0, a1, a2]) Try.f6.ntmps) (bodyOf Try.f6) (funK Try.prog Try.f6.results.toList h Q) (frame0 [a0, a1, a2]) h := by kernel_rfl
theorem T6_calls {a0 a1 a2 : AV} {h : AHeap} {Q : AV → AHeap → Prop} (H : T6 a0 a1 a2 h Q) : ACalls Try.prog 6 [a0, a1, a2] h Q := ACalls.of_tree mixed Try.func6 (by kernel_rfl) (T6_eq a0 a1 a2 h Q) H

end Go.Own.Try
