/- Part of the proofs: Wm, W3, W7, W8, W9, W10, W11, W12, W13, W19, W20, W21, W22, W23, W24, W25, W26, W27, W37, W39, W40, W41, W42, W57, W76. -/
import Derived.Test.YtmjmpnbnmcbngaaDoorProg
import Derived.Test.YtmjmpnbnmcbngaaDoorOwnB
import Derived.KernelRfl

namespace Go.Own.Tryd
open Go.Own Go.Proofs
theorem mixed : Tryd.prog.follows .mixedOrders = true := by kernel_rfl
end Go.Own.Tryd

namespace Go.Own.Tryd
open Go.Own Go.Proofs
set_option maxRecDepth 4000
/- outrider/outriderlaw17.WordsWrites -/
def T3 (a0 a1 : AV) (h : AHeap) (Q : AV → AHeap → Prop) : Prop :=
 some1 (AV.cells? a1) fun z => anew z h fun p3 h_ =>
 some1 (aloadv true 6 p3 h_) fun v13 =>
 acall Tryd.prog 7 [a0] h_ fun r12 h__2 =>
 (some1 (aloadv true 6 p3 h__2) fun v =>
 v = v13) ∧
 acall Tryd.prog 8 [v13] h__2 fun r14 h__3 =>
 acall Tryd.prog 9 [a0] h__3 fun r17 h__4 =>
 some1 (abin .neq r12 r17) fun v18 =>
 agrd v18 false
 (some1 (aloadv true 6 p3 h__4) fun v21 =>
 acall Tryd.prog 10 [v21] h__4 fun r22 h__5 =>
 some1 (abin .neq r14 r22) fun v23 =>
 aif v23
 (Ret h (.bool false) h__5 Q)
 (acall Tryd.prog 11 [r12] h__5 fun r27 h__6 =>
 some1 (aext r27 0) fun v28 =>
 some1 (aext r27 1) fun v29 =>
 acall Tryd.prog 12 [r14] h__6 fun r32 h__7 =>
 some1 (aext r32 0) fun v33 =>
 some1 (aext r32 1) fun v34 =>
 some1 (azero Tryd.prog 24) fun z_2 => anew z_2 h__7 fun p9 h__8 =>
 some1 (astorev 6 p9 v33 h__8) fun h__9 =>
 acall Tryd.prog 13 [] h__9 fun r35 h__10 =>
 agrd r35 true
 (agrd v34 true
 (some1 (aloadv true 6 p9 h__10) fun v40 =>
 some1 (aloadv true 6 p3 h__10) fun v41 =>
 some1 (aeqP Tryd.prog .eql 24 v40 v41) fun v42 =>
 agrd v42 true
 (some1 (alen .str a0 h__10) fun v47 =>
 some1 (abin .eql v47 (.int .i64 4)) fun v48 =>
 agrd v48 false
 (some1 (alen .str a0 h__10) fun v51 =>
 some1 (abin .eql v51 (.int .i64 16)) fun v52 =>
 some1 (aeqP Tryd.prog .eql 4 v29 v52) fun v54 =>
 agrd v54 true
 (some1 (aun .not v29) fun v58 =>
 agrd v58 false
 (some1 (abin .eql v28 a0) fun v62 =>
 Ret h v62 h__10 Q)
 (Ret h (.bool true) h__10 Q))
 (Ret h (.bool false) h__10 Q))
 (some1 (aeqP Tryd.prog .eql 4 v29 (.bool true)) fun v54_2 =>
 agrd v54_2 true
 (some1 (aun .not v29) fun v58_2 =>
 agrd v58_2 false
 (some1 (abin .eql v28 a0) fun v62_2 =>
 Ret h v62_2 h__10 Q)
 (Ret h (.bool true) h__10 Q))
 (Ret h (.bool false) h__10 Q)))
 (Ret h (.bool false) h__10 Q))
 (Ret h (.bool false) h__10 Q))
 (Ret h (.bool false) h__10 Q)))
 (Ret h (.bool false) h__4 Q)
theorem T3_eq (a0 a1 : AV) (h : AHeap) (Q : AV → AHeap → Prop) : T3 a0 a1 h Q = wpcB true Tryd.prog (max (List.length [a0, a1]) Tryd.f3.ntmps) (bodyOf Tryd.f3) (funK Tryd.prog Tryd.f3.results.toList h Q) (frame0 [a0, a1]) h := by kernel_rfl
theorem T3_calls {a0 a1 : AV} {h : AHeap} {Q : AV → AHeap → Prop} (H : T3 a0 a1 h Q) : ACalls Tryd.prog 3 [a0, a1] h Q := ACalls.of_tree mixed Tryd.func3 (by kernel_rfl) (T3_eq a0 a1 h Q) H

end Go.Own.Tryd

namespace Go.Own.Tryd
open Go.Own Go.Proofs
set_option maxRecDepth 4000
/- outrider/words.AddressText -/
def T7 (a0 : AV) (h : AHeap) (Q : AV → AHeap → Prop) : Prop :=
 some1 (alen .str a0 h) fun v8 =>
 some1 (abin .eql v8 (.int .i64 4)) fun v10 =>
 aif v10
 (some1 (acv (.sb 5) a0 h) fun q12 =>
 some1 (alen .sl q12.1 q12.2) fun v13 =>
 ALoop (updl (frame0 [a0]) [(2, (.str [])), (3, .nils), (7, a0), (8, v8), (10, v10), (9, v10), (11, a0), (12, q12.1), (13, v13), (14, (.int .i64 0))]) q12.2 fun I m fr hl =>
 some1 (abin .lss (fr 14) (fr 13)) fun v15 =>
 aif v15
 (some1 (aiaddr none 1 (fr 12) (fr 14)) fun v16 =>
 some1 (aloadv false 1 v16 hl) fun v17 =>
 some1 (acv (.int .i64) v17 hl) fun q20 =>
 acall Tryd.prog 17 [q20.1] q20.2 fun r21 h_ =>
 alitP Tryd.prog 43 1 [(0, 1, r21)] h_ fun s22 h__2 =>
 some1 (aappend 1 16 (fr 3) s22 h__2) fun q23 =>
 some1 (abin .add (fr 14) (.int .i64 1)) fun v24 =>
 inext I m (updl fr [(15, v15), (16, v16), (17, v17), (5, v17), (18, (fr 3)), (19, v17), (20, q20.1), (21, r21), (22, s22), (23, q23.1), (3, q23.1), (24, v24), (14, v24)]) q23.2)
 (acall Tryd.prog 18 [(fr 3), (.str [46])] hl fun r26 h__3 =>
 Ret h r26 h__3 Q))
 (some1 (abin .eql v8 (.int .i64 16)) fun v28 =>
 aif v28
 (ALoop (updl (frame0 [a0]) [(2, (.str [])), (3, .nils), (7, a0), (8, v8), (10, v10), (9, v10), (28, v28), (27, v28), (6, (.int .i64 0))]) h fun I_2 m_2 fr_2 hl_2 =>
 some1 (abin .lss (fr_2 6) (.int .i64 16)) fun v30 =>
 aif v30
 (some1 (aindex .str (fr_2 0) (fr_2 6)) fun v36 =>
 some1 (acv (.int .i64) v36 hl_2) fun q37 =>
 some1 (abin .shl q37.1 (.int .u64 8)) fun v38 =>
 some1 (abin .add (fr_2 6) (.int .i64 1)) fun v41 =>
 some1 (aindex .str (fr_2 0) v41) fun v42 =>
 some1 (acv (.int .i64) v42 hl_2) fun q43 =>
 some1 (abin .or v38 q43.1) fun v44 =>
 acall Tryd.prog 19 [v44, (.int .i64 16)] hl_2 fun r45 h__4 =>
 alitQ Tryd.prog 43 1 [(0, 1, r45)] fun z =>
 anewsl 1 1 z h__4 fun s46 h__5 =>
 some1 (aappend 1 16 (fr_2 3) s46 h__5) fun q47 =>
 some1 (abin .add (fr_2 6) (.int .i64 2)) fun v32 =>
 inext I_2 m_2 (updl fr_2 [(29, (fr_2 6)), (30, v30), (33, (fr_2 3)), (34, (fr_2 0)), (35, (fr_2 6)), (36, v36), (37, q37.1), (38, v38), (39, (fr_2 0)), (40, (fr_2 6)), (41, v41), (42, v42), (43, q43.1), (44, v44), (45, r45), (46, s46), (47, q47.1), (3, q47.1), (31, (fr_2 6)), (32, v32), (6, v32)]) q47.2)
 (acall Tryd.prog 18 [(fr_2 3), (.str [58])] hl_2 fun r49 h__6 =>
 Ret h r49 h__6 Q))
 (Ret h (.str []) h Q))
theorem T7_eq (a0 : AV) (h : AHeap) (Q : AV → AHeap → Prop) : T7 a0 h Q = wpcB true Tryd.prog (max (List.length [a0]) Tryd.f7.ntmps) (bodyOf Tryd.f7) (funK Tryd.prog Tryd.f7.results.toList h Q) (frame0 [a0]) h := by kernel_rfl
theorem T7_calls {a0 : AV} {h : AHeap} {Q : AV → AHeap → Prop} (H : T7 a0 h Q) : ACalls Tryd.prog 7 [a0] h Q := ACalls.of_tree mixed Tryd.func7 (by kernel_rfl) (T7_eq a0 h Q) H

end Go.Own.Tryd

namespace Go.Own.Tryd
open Go.Own Go.Proofs
set_option maxRecDepth 4000
/- outrider/words.CardText -/
def T8 (a0 : AV) (h : AHeap) (Q : AV → AHeap → Prop) : Prop :=
 some1 (AV.cells? a0) fun z => anew z h fun p1 h_ =>
 some1 (aloadv true 6 p1 h_) fun v6 =>
 ALoop (updl (frame0 [a0]) [(1, p1), (2, (.str [])), (3, .nils), (6, v6), (7, (.int .i64 0))]) h_ fun I m fr hl =>
 some1 (abin .lss (fr 7) (.int .i64 6)) fun v8 =>
 aif v8
 (some1 (aindex (.arr 6 false 1) (fr 6) (fr 7)) fun v9 =>
 some1 (abin .shr v9 (.int .u64 4)) fun v12 =>
 some1 (abin .shr v9 (.int .u64 4)) fun v14 =>
 some1 (abin .add v14 (.int .u8 1)) fun v15 =>
 some1 (aslice .str (.str [48, 49, 50, 51, 52, 53, 54, 55, 56, 57, 97, 98, 99, 100, 101, 102]) (some v12) (some v15) none hl) fun v16 =>
 some1 (abin .and v9 (.int .u8 15)) fun v18 =>
 some1 (abin .and v9 (.int .u8 15)) fun v20 =>
 some1 (abin .add v20 (.int .u8 1)) fun v21 =>
 some1 (aslice .str (.str [48, 49, 50, 51, 52, 53, 54, 55, 56, 57, 97, 98, 99, 100, 101, 102]) (some v18) (some v21) none hl) fun v22 =>
 some1 (abin .add v16 v22) fun v23 =>
 alitQ Tryd.prog 43 1 [(0, 1, v23)] fun z_2 =>
 anewsl 1 1 z_2 hl fun s24 h__2 =>
 some1 (aappend 1 16 (fr 3) s24 h__2) fun q25 =>
 some1 (abin .add (fr 7) (.int .i64 1)) fun v26 =>
 inext I m (updl fr [(8, v8), (9, v9), (5, v9), (10, (fr 3)), (11, v9), (12, v12), (13, v9), (14, v14), (15, v15), (16, v16), (17, v9), (18, v18), (19, v9), (20, v20), (21, v21), (22, v22), (23, v23), (24, s24), (25, q25.1), (3, q25.1), (26, v26), (7, v26)]) q25.2)
 (acall Tryd.prog 18 [(fr 3), (.str [58])] hl fun r28 h__3 =>
 Ret h r28 h__3 Q)
theorem T8_eq (a0 : AV) (h : AHeap) (Q : AV → AHeap → Prop) : T8 a0 h Q = wpcB true Tryd.prog (max (List.length [a0]) Tryd.f8.ntmps) (bodyOf Tryd.f8) (funK Tryd.prog Tryd.f8.results.toList h Q) (frame0 [a0]) h := by kernel_rfl
theorem T8_calls {a0 : AV} {h : AHeap} {Q : AV → AHeap → Prop} (H : T8 a0 h Q) : ACalls Tryd.prog 8 [a0] h Q := ACalls.of_tree mixed Tryd.func8 (by kernel_rfl) (T8_eq a0 h Q) H

end Go.Own.Tryd

namespace Go.Own.Tryd
open Go.Own Go.Proofs
set_option maxRecDepth 4000
/- outrider/outriderref17.AddressText -/
def T9 (a0 : AV) (h : AHeap) (Q : AV → AHeap → Prop) : Prop :=
 some1 (alen .str a0 h) fun v7 =>
 some1 (abin .eql v7 (.int .i64 4)) fun v8 =>
 aif v8
 (ALoop (updl (frame0 [a0]) [(2, (.str [])), (3, (.str [])), (6, a0), (7, v7), (8, v8), (4, (.int .i64 0))]) h fun I m fr hl =>
 some1 (abin .lss (fr 4) (.int .i64 4)) fun v10 =>
 aif v10
 (some1 (abin .add (fr 3) (.str [46])) fun v14 =>
 some1 (aindex .str (fr 0) (fr 4)) fun v17 =>
 some1 (acv (.int .i64) v17 hl) fun q18 =>
 acall Tryd.prog 20 [q18.1, (.int .i64 10)] q18.2 fun r19 h_ =>
 some1 (abin .add v14 r19) fun v20 =>
 some1 (abin .add (fr 4) (.int .i64 1)) fun v12 =>
 inext I m (updl fr [(9, (fr 4)), (10, v10), (13, (fr 3)), (14, v14), (15, (fr 0)), (16, (fr 4)), (17, v17), (18, q18.1), (19, r19), (20, v20), (3, v20), (11, (fr 4)), (12, v12), (4, v12)]) h_)
 (some1 (aslice .str (fr 3) (some (.int .i64 1)) none none hl) fun v22 =>
 Ret h v22 hl Q))
 (some1 (alen .str a0 h) fun v24 =>
 some1 (abin .neq v24 (.int .i64 16)) fun v25 =>
 aif v25
 (Ret h (.str []) h Q)
 (ALoop (updl (frame0 [a0]) [(2, (.str [])), (3, (.str [])), (6, a0), (7, v7), (8, v8), (23, a0), (24, v24), (25, v25), (5, (.int .i64 0))]) h fun I_2 m_2 fr_2 hl_2 =>
 some1 (abin .lss (fr_2 5) (.int .i64 16)) fun v27 =>
 aif v27
 (some1 (abin .add (fr_2 3) (.str [58])) fun v31 =>
 some1 (aindex .str (fr_2 0) (fr_2 5)) fun v34 =>
 some1 (acv (.int .i64) v34 hl_2) fun q35 =>
 some1 (abin .mul q35.1 (.int .i64 256)) fun v36 =>
 some1 (abin .add (fr_2 5) (.int .i64 1)) fun v39 =>
 some1 (aindex .str (fr_2 0) v39) fun v40 =>
 some1 (acv (.int .i64) v40 hl_2) fun q41 =>
 some1 (abin .add v36 q41.1) fun v42 =>
 acall Tryd.prog 20 [v42, (.int .i64 16)] hl_2 fun r43 h__2 =>
 some1 (abin .add v31 r43) fun v44 =>
 some1 (abin .add (fr_2 5) (.int .i64 2)) fun v29 =>
 inext I_2 m_2 (updl fr_2 [(26, (fr_2 5)), (27, v27), (30, (fr_2 3)), (31, v31), (32, (fr_2 0)), (33, (fr_2 5)), (34, v34), (35, q35.1), (36, v36), (37, (fr_2 0)), (38, (fr_2 5)), (39, v39), (40, v40), (41, q41.1), (42, v42), (43, r43), (44, v44), (3, v44), (28, (fr_2 5)), (29, v29), (5, v29)]) h__2)
 (some1 (aslice .str (fr_2 3) (some (.int .i64 1)) none none hl_2) fun v46 =>
 Ret h v46 hl_2 Q)))
theorem T9_eq (a0 : AV) (h : AHeap) (Q : AV → AHeap → Prop) : T9 a0 h Q = wpcB true Tryd.prog (max (List.length [a0]) Tryd.f9.ntmps) (bodyOf Tryd.f9) (funK Tryd.prog Tryd.f9.results.toList h Q) (frame0 [a0]) h := by kernel_rfl
theorem T9_calls {a0 : AV} {h : AHeap} {Q : AV → AHeap → Prop} (H : T9 a0 h Q) : ACalls Tryd.prog 9 [a0] h Q := ACalls.of_tree mixed Tryd.func9 (by kernel_rfl) (T9_eq a0 h Q) H

end Go.Own.Tryd

namespace Go.Own.Tryd
open Go.Own Go.Proofs
set_option maxRecDepth 4000
/- outrider/outriderref17.CardText -/
def T10 (a0 : AV) (h : AHeap) (Q : AV → AHeap → Prop) : Prop :=
 some1 (AV.cells? a0) fun z => anew z h fun p1 h_ =>
 ALoop (updl (frame0 [a0]) [(1, p1), (2, (.str [])), (3, (.str [])), (4, (.int .i64 0))]) h_ fun I m fr hl =>
 some1 (abin .lss (fr 4) (.int .i64 6)) fun v6 =>
 aif v6
 (some1 (abin .add (fr 3) (.str [58])) fun v10 =>
 some1 (aiaddr (some 6) 1 (fr 1) (fr 4)) fun v12 =>
 some1 (aloadv false 1 v12 hl) fun v13 =>
 some1 (acv (.int .i64) v13 hl) fun q14 =>
 some1 (abin .quo q14.1 (.int .i64 16)) fun v15 =>
 some1 (aiaddr (some 6) 1 (fr 1) (fr 4)) fun v19 =>
 some1 (aloadv false 1 v19 hl) fun v20 =>
 some1 (acv (.int .i64) v20 hl) fun q21 =>
 some1 (abin .rem q21.1 (.int .i64 16)) fun v22 =>
 acall Tryd.prog 20 [v15, (.int .i64 16)] hl fun r16 h__2 =>
 (some1 (aloadv false 1 v19 h__2) fun v =>
 v = v20) ∧
 some1 (abin .add v10 r16) fun v17 =>
 acall Tryd.prog 20 [v22, (.int .i64 16)] h__2 fun r23 h__3 =>
 some1 (abin .add v17 r23) fun v24 =>
 some1 (abin .add (fr 4) (.int .i64 1)) fun v8 =>
 inext I m (updl fr [(5, (fr 4)), (6, v6), (9, (fr 3)), (10, v10), (11, (fr 4)), (12, v12), (13, v13), (14, q14.1), (15, v15), (18, (fr 4)), (19, v19), (20, v20), (21, q21.1), (22, v22), (16, r16), (17, v17), (23, r23), (24, v24), (3, v24), (7, (fr 4)), (8, v8), (4, v8)]) h__3)
 (some1 (aslice .str (fr 3) (some (.int .i64 1)) none none hl) fun v26 =>
 Ret h v26 hl Q)
theorem T10_eq (a0 : AV) (h : AHeap) (Q : AV → AHeap → Prop) : T10 a0 h Q = wpcB true Tryd.prog (max (List.length [a0]) Tryd.f10.ntmps) (bodyOf Tryd.f10) (funK Tryd.prog Tryd.f10.results.toList h Q) (frame0 [a0]) h := by kernel_rfl
theorem T10_calls {a0 : AV} {h : AHeap} {Q : AV → AHeap → Prop} (H : T10 a0 h Q) : ACalls Tryd.prog 10 [a0] h Q := ACalls.of_tree mixed Tryd.func10 (by kernel_rfl) (T10_eq a0 h Q) H

end Go.Own.Tryd

namespace Go.Own.Tryd
open Go.Own Go.Proofs
set_option maxRecDepth 4000
/- outrider/words.Address -/
def T11 (a0 : AV) (h : AHeap) (Q : AV → AHeap → Prop) : Prop :=
 acall Tryd.prog 21 [a0, (.str [46]), (.int .i64 1), (.func (.func 22) [] [])] h fun r9 h_ =>
 some1 (aext r9 0) fun v10 =>
 some1 (aext r9 1) fun v11 =>
 agrd v11 true
 (some1 (alen .sl v10 h_) fun v15 =>
 some1 (abin .eql v15 (.int .i64 4)) fun v16 =>
 aif v16
 (some1 (acv .bs v10 h_) fun q19 =>
 Ret h (.tuple [q19.1, (.bool true)]) q19.2 Q)
 (acall Tryd.prog 21 [a0, (.str [58]), (.int .i64 2), (.func (.func 24) [] [])] h_ fun r22 h__2 =>
 some1 (aext r22 0) fun v23 =>
 some1 (aext r22 1) fun v24 =>
 agrd v24 true
 (some1 (alen .sl v23 h__2) fun v28 =>
 some1 (abin .eql v28 (.int .i64 16)) fun v29 =>
 aif v29
 (some1 (acv .bs v23 h__2) fun q32 =>
 Ret h (.tuple [q32.1, (.bool true)]) q32.2 Q)
 (Ret h (.tuple [(.str []), (.bool false)]) h__2 Q))
 (Ret h (.tuple [(.str []), (.bool false)]) h__2 Q)))
 (acall Tryd.prog 21 [a0, (.str [58]), (.int .i64 2), (.func (.func 24) [] [])] h_ fun r22_2 h__3 =>
 some1 (aext r22_2 0) fun v23_2 =>
 some1 (aext r22_2 1) fun v24_2 =>
 agrd v24_2 true
 (some1 (alen .sl v23_2 h__3) fun v28_2 =>
 some1 (abin .eql v28_2 (.int .i64 16)) fun v29_2 =>
 aif v29_2
 (some1 (acv .bs v23_2 h__3) fun q32_2 =>
 Ret h (.tuple [q32_2.1, (.bool true)]) q32_2.2 Q)
 (Ret h (.tuple [(.str []), (.bool false)]) h__3 Q))
 (Ret h (.tuple [(.str []), (.bool false)]) h__3 Q))
theorem T11_eq (a0 : AV) (h : AHeap) (Q : AV → AHeap → Prop) : T11 a0 h Q = wpcB true Tryd.prog (max (List.length [a0]) Tryd.f11.ntmps) (bodyOf Tryd.f11) (funK Tryd.prog Tryd.f11.results.toList h Q) (frame0 [a0]) h := by kernel_rfl
theorem T11_calls {a0 : AV} {h : AHeap} {Q : AV → AHeap → Prop} (H : T11 a0 h Q) : ACalls Tryd.prog 11 [a0] h Q := ACalls.of_tree mixed Tryd.func11 (by kernel_rfl) (T11_eq a0 h Q) H

end Go.Own.Tryd

namespace Go.Own.Tryd
open Go.Own Go.Proofs
set_option maxRecDepth 4000
/- outrider/words.Card -/
def T12 (a0 : AV) (h : AHeap) (Q : AV → AHeap → Prop) : Prop :=
 some1 (azero Tryd.prog 24) fun z => anew z h fun p2 h_ =>
 acall Tryd.prog 21 [a0, (.str [58]), (.int .i64 1), (.func (.func 26) [] [])] h_ fun r8 h__2 =>
 some1 (aext r8 0) fun v9 =>
 some1 (aext r8 1) fun v10 =>
 some1 (aun .not v10) fun v12 =>
 agrd v12 false
 (some1 (alen .sl v9 h__2) fun v15 =>
 some1 (abin .neq v15 (.int .i64 6)) fun v16 =>
 aif v16
 (abuildP Tryd.prog 24 [] fun v18 =>
 some1 (astorev 6 p2 v18 h__2) fun h__3 =>
 some1 (aloadv true 6 p2 h__3) fun w =>
 Ret h (.tuple [w, (.bool false)]) h__3 Q)
 (some1 (asarr 6 v9) fun v20 =>
 some1 (aloadv true 6 v20 h__2) fun v21 =>
 some1 (astorev 6 p2 v21 h__2) fun h__4 =>
 some1 (aloadv true 6 p2 h__4) fun w_2 =>
 Ret h (.tuple [w_2, (.bool true)]) h__4 Q))
 (abuildP Tryd.prog 24 [] fun v18_2 =>
 some1 (astorev 6 p2 v18_2 h__2) fun h__5 =>
 some1 (aloadv true 6 p2 h__5) fun w_3 =>
 Ret h (.tuple [w_3, (.bool false)]) h__5 Q)
theorem T12_eq (a0 : AV) (h : AHeap) (Q : AV → AHeap → Prop) : T12 a0 h Q = wpcB true Tryd.prog (max (List.length [a0]) Tryd.f12.ntmps) (bodyOf Tryd.f12) (funK Tryd.prog Tryd.f12.results.toList h Q) (frame0 [a0]) h := by kernel_rfl
theorem T12_calls {a0 : AV} {h : AHeap} {Q : AV → AHeap → Prop} (H : T12 a0 h Q) : ACalls Tryd.prog 12 [a0] h Q := ACalls.of_tree mixed Tryd.func12 (by kernel_rfl) (T12_eq a0 h Q) H

end Go.Own.Tryd

namespace Go.Own.Tryd
open Go.Own Go.Proofs
set_option maxRecDepth 4000
/- outrider/outriderlaw17.alive -/
def T13 (h : AHeap) (Q : AV → AHeap → Prop) : Prop :=
 acall Tryd.prog 27 [(.str [97, 32, 123, 98, 125, 32, 35, 99])] h fun r9 h_ =>
 some1 (aext r9 0) fun v10 =>
 some1 (aext r9 1) fun v11 =>
 some1 (aext r9 2) fun v12 =>
 acall Tryd.prog 11 [(.str [49, 48, 46, 48, 46, 48, 46, 49])] h_ fun r14 h__2 =>
 some1 (aext r14 0) fun v15 =>
 some1 (aext r14 1) fun v16 =>
 acall Tryd.prog 11 [(.str [49, 48, 46, 48, 46, 48, 46, 48, 49])] h__2 fun r18 h__3 =>
 some1 (aext r18 0) fun _v19 =>
 some1 (aext r18 1) fun v20 =>
 some1 (abin .eql v12 (.int .i64 0)) fun v22 =>
 agrd v22 true
 (some1 (abin .eql v11 (.int .i64 0)) fun v25 =>
 agrd v25 true
 (some1 (alen .sl v10 h__3) fun v29 =>
 some1 (abin .eql v29 (.int .i64 5)) fun v30 =>
 agrd v30 true
 (some1 (aiaddr none 3 v10 (.int .i64 2)) fun v34 =>
 some1 (aloadv true 3 v34 h__3) fun v35 =>
 abuildP Tryd.prog 61 [(0, 1, (.str [98])), (1, 1, (.int .i64 3)), (2, 1, (.int .i64 1))] fun v36 =>
 some1 (aeqP Tryd.prog .eql 61 v35 v36) fun v37 =>
 agrd v37 true
 (agrd v16 true
 (some1 (abin .eql v15 (.str [10, 0, 0, 1])) fun v44 =>
 agrd v44 true
 (some1 (aun .not v20) fun v48 =>
 agrd v48 true
 (abuildP Tryd.prog 24 [(0, 1, (.int .u8 1)), (1, 1, (.int .u8 171))] fun v51 =>
 acall Tryd.prog 8 [v51] h__3 fun r52 h__4 =>
 some1 (abin .eql r52 (.str [48, 49, 58, 97, 98, 58, 48, 48, 58, 48, 48, 58, 48, 48, 58, 48, 48])) fun v53 =>
 Ret h v53 h__4 Q)
 (Ret h (.bool false) h__3 Q))
 (Ret h (.bool false) h__3 Q))
 (Ret h (.bool false) h__3 Q))
 (Ret h (.bool false) h__3 Q))
 (Ret h (.bool false) h__3 Q))
 (Ret h (.bool false) h__3 Q))
 (Ret h (.bool false) h__3 Q)
theorem T13_eq (h : AHeap) (Q : AV → AHeap → Prop) : T13 h Q = wpcB true Tryd.prog (max (List.length ([] : List AV)) Tryd.f13.ntmps) (bodyOf Tryd.f13) (funK Tryd.prog Tryd.f13.results.toList h Q) (frame0 []) h := by kernel_rfl
theorem T13_calls {h : AHeap} {Q : AV → AHeap → Prop} (H : T13 h Q) : ACalls Tryd.prog 13 [] h Q := ACalls.of_tree mixed Tryd.func13 (by kernel_rfl) (T13_eq h Q) H

end Go.Own.Tryd

namespace Go.Own.Tryd
open Go.Own Go.Proofs
set_option maxRecDepth 4000
/- strconv.FormatInt -/
def T19 (a0 a1 : AV) (h : AHeap) (Q : AV → AHeap → Prop) : Prop :=
 acall Tryd.prog 37 [a0, a1] h fun r7 h_ =>
 Ret h r7 h_ Q
theorem T19_eq (a0 a1 : AV) (h : AHeap) (Q : AV → AHeap → Prop) : T19 a0 a1 h Q = wpcB true Tryd.prog (max (List.length [a0, a1]) Tryd.f19.ntmps) (bodyOf Tryd.f19) (funK Tryd.prog Tryd.f19.results.toList h Q) (frame0 [a0, a1]) h := by kernel_rfl
theorem T19_calls {a0 a1 : AV} {h : AHeap} {Q : AV → AHeap → Prop} (H : T19 a0 a1 h Q) : ACalls Tryd.prog 19 [a0, a1] h Q := ACalls.of_tree mixed Tryd.func19 (by kernel_rfl) (T19_eq a0 a1 h Q) H

end Go.Own.Tryd

namespace Go.Own.Tryd
open Go.Own Go.Proofs
set_option maxRecDepth 4000
/- outrider/outriderref17.inBase -/
def T20 (a0 a1 : AV) (h : AHeap) (Q : AV → AHeap → Prop) : Prop :=
 some1 (abin .lss a0 a1) fun v8 =>
 aif v8
 (some1 (abin .add a0 (.int .i64 1)) fun v12 =>
 some1 (aslice .str (.str [48, 49, 50, 51, 52, 53, 54, 55, 56, 57, 97, 98, 99, 100, 101, 102]) (some a0) (some v12) none h) fun v13 =>
 Ret h v13 h Q)
 (some1 (abin .quo a0 a1) fun v16 =>
 some1 (abin .rem a0 a1) fun v22 =>
 some1 (abin .rem a0 a1) fun v25 =>
 some1 (abin .add v25 (.int .i64 1)) fun v26 =>
 some1 (aslice .str (.str [48, 49, 50, 51, 52, 53, 54, 55, 56, 57, 97, 98, 99, 100, 101, 102]) (some v22) (some v26) none h) fun v27 =>
 acall Tryd.prog 20 [v16, a1] h fun r18 h_ =>
 some1 (abin .add r18 v27) fun v28 =>
 Ret h v28 h_ Q)
theorem T20_eq (a0 a1 : AV) (h : AHeap) (Q : AV → AHeap → Prop) : T20 a0 a1 h Q = wpcB true Tryd.prog (max (List.length [a0, a1]) Tryd.f20.ntmps) (bodyOf Tryd.f20) (funK Tryd.prog Tryd.f20.results.toList h Q) (frame0 [a0, a1]) h := by kernel_rfl
theorem T20_calls {a0 a1 : AV} {h : AHeap} {Q : AV → AHeap → Prop} (H : T20 a0 a1 h Q) : ACalls Tryd.prog 20 [a0, a1] h Q := ACalls.of_tree mixed Tryd.func20 (by kernel_rfl) (T20_eq a0 a1 h Q) H

end Go.Own.Tryd

namespace Go.Own.Tryd
open Go.Own Go.Proofs
set_option maxRecDepth 4000
/- outrider/words.groups -/
def T21 (a0 a1 a2 a3 : AV) (h : AHeap) (Q : AV → AHeap → Prop) : Prop :=
 acall Tryd.prog 38 [a0, a1] h fun r18 h_ =>
 some1 (alen .sl r18 h_) fun v19 =>
 ALoop (updl (frame0 [a0, a1, a2, a3]) [(8, .nils), (9, (.bool false)), (10, .nils), (16, a0), (17, a1), (18, r18), (19, v19), (20, (.int .i64 0))]) h_ fun I m fr hl =>
 some1 (abin .lss (fr 20) (fr 19)) fun v21 =>
 aif v21
 (some1 (aiaddr none 1 (fr 18) (fr 20)) fun v22 =>
 some1 (aloadv false 1 v22 hl) fun v23 =>
 acallv Tryd.prog (fr 3) [v23] hl fun r27 h__2 =>
 some1 (aext r27 0) fun v28 =>
 some1 (aext r27 1) fun v29 =>
 some1 (aun .not v29) fun v31 =>
 aif v31
 (Ret h (.tuple [.nils, (.bool false)]) h__2 Q)
 (some1 (abin .sub (fr 2) (.int .i64 1)) fun v33 =>
 ALoop (updl fr [(21, v21), (22, v22), (23, v23), (12, v23), (25, (fr 3)), (26, v23), (27, r27), (24, r27), (28, v28), (29, v29), (13, v28), (14, v29), (30, v29), (31, v31), (32, (fr 2)), (33, v33), (15, v33)]) h__2 fun I_2 m_2 fr_2 hl_2 =>
 some1 (abin .geq (fr_2 15) (.int .i64 0)) fun v35 =>
 aif v35
 (some1 (abin .mul (.int .i64 8) (fr_2 15)) fun v41 =>
 some1 (abin .shr (fr_2 13) v41) fun v42 =>
 some1 (acv (.int .u8) v42 hl_2) fun q43 =>
 alitP Tryd.prog 46 1 [(0, 1, q43.1)] q43.2 fun s44 h__3 =>
 some1 (aappend 1 1 (fr_2 10) s44 h__3) fun q45 =>
 some1 (abin .sub (fr_2 15) (.int .i64 1)) fun v37 =>
 inext I_2 m_2 (updl fr_2 [(34, (fr_2 15)), (35, v35), (38, (fr_2 10)), (39, (fr_2 13)), (40, (fr_2 15)), (41, v41), (42, v42), (43, q43.1), (44, s44), (45, q45.1), (10, q45.1), (36, (fr_2 15)), (37, v37), (15, v37)]) q45.2)
 (some1 (abin .add (fr_2 20) (.int .i64 1)) fun v46 =>
 inext I m (updl fr_2 [(34, (fr_2 15)), (35, v35), (46, v46), (20, v46)]) hl_2)))
 (Ret h (.tuple [(fr 10), (.bool true)]) hl Q)
theorem T21_eq (a0 a1 a2 a3 : AV) (h : AHeap) (Q : AV → AHeap → Prop) : T21 a0 a1 a2 a3 h Q = wpcB true Tryd.prog (max (List.length [a0, a1, a2, a3]) Tryd.f21.ntmps) (bodyOf Tryd.f21) (funK Tryd.prog Tryd.f21.results.toList h Q) (frame0 [a0, a1, a2, a3]) h := by kernel_rfl
theorem T21_calls {a0 a1 a2 a3 : AV} {h : AHeap} {Q : AV → AHeap → Prop} (H : T21 a0 a1 a2 a3 h Q) : ACalls Tryd.prog 21 [a0, a1, a2, a3] h Q := ACalls.of_tree mixed Tryd.func21 (by kernel_rfl) (T21_eq a0 a1 a2 a3 h Q) H

end Go.Own.Tryd

namespace Go.Own.Tryd
open Go.Own Go.Proofs
set_option maxRecDepth 4000
/- outrider/words.Address$1 -/
def T22 (a0 : AV) (h : AHeap) (Q : AV → AHeap → Prop) : Prop :=
 acall Tryd.prog 23 [a0] h fun r8 h_ =>
 some1 (aext r8 0) fun v9 =>
 some1 (aext r8 1) fun v10 =>
 agrd v10 true
 (some1 (abin .leq v9 (.int .i64 255)) fun v15 =>
 Ret h (.tuple [v9, v15]) h_ Q)
 (Ret h (.tuple [v9, (.bool false)]) h_ Q)
theorem T22_eq (a0 : AV) (h : AHeap) (Q : AV → AHeap → Prop) : T22 a0 h Q = wpcB true Tryd.prog (max (List.length [a0]) Tryd.f22.ntmps) (bodyOf Tryd.f22) (funK Tryd.prog Tryd.f22.results.toList h Q) (frame0 [a0]) h := by kernel_rfl
theorem T22_calls {a0 : AV} {h : AHeap} {Q : AV → AHeap → Prop} (H : T22 a0 h Q) : ACalls Tryd.prog 22 [a0] h Q := ACalls.of_tree mixed Tryd.func22 (by kernel_rfl) (T22_eq a0 h Q) H

end Go.Own.Tryd

namespace Go.Own.Tryd
open Go.Own Go.Proofs
set_option maxRecDepth 4000
/- outrider/words.Number -/
def T23 (a0 : AV) (h : AHeap) (Q : AV → AHeap → Prop) : Prop :=
 some1 (abin .eql a0 (.str [])) fun v8 =>
 agrd v8 false
 (some1 (alen .str a0 h) fun v11 =>
 some1 (abin .gtr v11 (.int .i64 9)) fun v12 =>
 agrd v12 false
 (some1 (aindex .str a0 (.int .i64 0)) fun v16 =>
 some1 (abin .eql v16 (.int .u8 48)) fun v17 =>
 agrd v17 true
 (some1 (abin .neq a0 (.str [48])) fun v20 =>
 aif v20
 (Ret h (.tuple [(.int .i64 0), (.bool false)]) h Q)
 (some1 (arange a0 h) fun q24 =>
 ALoop (updl (frame0 [a0]) [(2, (.int .i64 0)), (3, (.bool false)), (7, a0), (8, v8), (9, v8), (9, (.bool false)), (10, a0), (9, (.bool false)), (11, v11), (9, (.bool false)), (12, v12), (13, v12), (14, v12), (14, (.bool false)), (15, a0), (14, (.bool false)), (16, v16), (14, (.bool false)), (17, v17), (14, (.bool false)), (18, v17), (18, (.bool true)), (19, a0), (18, (.bool true)), (20, v20), (14, (.bool false)), (21, v20), (22, v20), (4, (.int .i64 0)), (23, a0), (24, q24.1)]) q24.2 fun I m fr hl =>
 some1 (anext (fr 24) hl) fun q25 =>
 some1 (aext q25.1 0) fun v26 =>
 aif v26
 (some1 (aext q25.1 2) fun v27 =>
 some1 (abin .lss v27 (.int .i32 48)) fun v29 =>
 agrd v29 false
 (some1 (abin .gtr v27 (.int .i32 57)) fun v32 =>
 aif v32
 (Ret h (.tuple [(.int .i64 0), (.bool false)]) q25.2 Q)
 (some1 (abin .mul (.int .i64 10) (fr 4)) fun v35 =>
 some1 (abin .sub v27 (.int .i32 48)) fun v37 =>
 some1 (acv (.int .i64) v37 q25.2) fun q38 =>
 some1 (abin .add v35 q38.1) fun v39 =>
 inext I m (updl fr [(25, q25.1), (26, v26), (27, v27), (6, v27), (28, v27), (29, v29), (30, v29), (30, (.bool false)), (31, v27), (30, (.bool false)), (32, v32), (33, v32), (34, (fr 4)), (35, v35), (36, v27), (37, v37), (38, q38.1), (39, v39), (4, v39)]) q38.2))
 (Ret h (.tuple [(.int .i64 0), (.bool false)]) q25.2 Q))
 (Ret h (.tuple [(fr 4), (.bool true)]) q25.2 Q)))
 (some1 (arange a0 h) fun q24_2 =>
 ALoop (updl (frame0 [a0]) [(2, (.int .i64 0)), (3, (.bool false)), (7, a0), (8, v8), (9, v8), (9, (.bool false)), (10, a0), (9, (.bool false)), (11, v11), (9, (.bool false)), (12, v12), (13, v12), (14, v12), (14, (.bool false)), (15, a0), (14, (.bool false)), (16, v16), (14, (.bool false)), (17, v17), (14, (.bool false)), (18, v17), (18, (.bool false)), (19, (.tuple [])), (18, (.bool false)), (20, (.tuple [])), (14, (.bool false)), (21, (.bool false)), (22, (.bool false)), (4, (.int .i64 0)), (23, a0), (24, q24_2.1)]) q24_2.2 fun I_2 m_2 fr_2 hl_2 =>
 some1 (anext (fr_2 24) hl_2) fun q25_2 =>
 some1 (aext q25_2.1 0) fun v26_2 =>
 aif v26_2
 (some1 (aext q25_2.1 2) fun v27_2 =>
 some1 (abin .lss v27_2 (.int .i32 48)) fun v29_2 =>
 agrd v29_2 false
 (some1 (abin .gtr v27_2 (.int .i32 57)) fun v32_2 =>
 aif v32_2
 (Ret h (.tuple [(.int .i64 0), (.bool false)]) q25_2.2 Q)
 (some1 (abin .mul (.int .i64 10) (fr_2 4)) fun v35_2 =>
 some1 (abin .sub v27_2 (.int .i32 48)) fun v37_2 =>
 some1 (acv (.int .i64) v37_2 q25_2.2) fun q38_2 =>
 some1 (abin .add v35_2 q38_2.1) fun v39_2 =>
 inext I_2 m_2 (updl fr_2 [(25, q25_2.1), (26, v26_2), (27, v27_2), (6, v27_2), (28, v27_2), (29, v29_2), (30, v29_2), (30, (.bool false)), (31, v27_2), (30, (.bool false)), (32, v32_2), (33, v32_2), (34, (fr_2 4)), (35, v35_2), (36, v27_2), (37, v37_2), (38, q38_2.1), (39, v39_2), (4, v39_2)]) q38_2.2))
 (Ret h (.tuple [(.int .i64 0), (.bool false)]) q25_2.2 Q))
 (Ret h (.tuple [(fr_2 4), (.bool true)]) q25_2.2 Q)))
 (Ret h (.tuple [(.int .i64 0), (.bool false)]) h Q))
 (Ret h (.tuple [(.int .i64 0), (.bool false)]) h Q)
theorem T23_eq (a0 : AV) (h : AHeap) (Q : AV → AHeap → Prop) : T23 a0 h Q = wpcB true Tryd.prog (max (List.length [a0]) Tryd.f23.ntmps) (bodyOf Tryd.f23) (funK Tryd.prog Tryd.f23.results.toList h Q) (frame0 [a0]) h := by kernel_rfl
theorem T23_calls {a0 : AV} {h : AHeap} {Q : AV → AHeap → Prop} (H : T23 a0 h Q) : ACalls Tryd.prog 23 [a0] h Q := ACalls.of_tree mixed Tryd.func23 (by kernel_rfl) (T23_eq a0 h Q) H

end Go.Own.Tryd

namespace Go.Own.Tryd
open Go.Own Go.Proofs
set_option maxRecDepth 4000
/- outrider/words.Address$2 -/
def T24 (a0 : AV) (h : AHeap) (Q : AV → AHeap → Prop) : Prop :=
 acall Tryd.prog 25 [a0, (.int .i64 1), (.int .i64 4)] h fun r5 h_ =>
 some1 (aext r5 0) fun v6 =>
 some1 (aext r5 1) fun v7 =>
 Ret h (.tuple [v6, v7]) h_ Q
theorem T24_eq (a0 : AV) (h : AHeap) (Q : AV → AHeap → Prop) : T24 a0 h Q = wpcB true Tryd.prog (max (List.length [a0]) Tryd.f24.ntmps) (bodyOf Tryd.f24) (funK Tryd.prog Tryd.f24.results.toList h Q) (frame0 [a0]) h := by kernel_rfl
theorem T24_calls {a0 : AV} {h : AHeap} {Q : AV → AHeap → Prop} (H : T24 a0 h Q) : ACalls Tryd.prog 24 [a0] h Q := ACalls.of_tree mixed Tryd.func24 (by kernel_rfl) (T24_eq a0 h Q) H

end Go.Own.Tryd

namespace Go.Own.Tryd
open Go.Own Go.Proofs
set_option maxRecDepth 4000
/- outrider/words.hex -/
def T25 (a0 a1 a2 : AV) (h : AHeap) (Q : AV → AHeap → Prop) : Prop :=
 some1 (arange a0 h) fun q12 =>
 ALoop (updl (frame0 [a0, a1, a2]) [(6, (.int .i64 0)), (7, (.bool false)), (8, (.int .i64 0)), (11, a0), (12, q12.1)]) q12.2 fun I m fr hl =>
 some1 (anext (fr 12) hl) fun q13 =>
 some1 (aext q13.1 0) fun v14 =>
 aif v14
 (some1 (aext q13.1 2) fun v15 =>
 some1 (abin .geq v15 (.int .i32 48)) fun v18 =>
 agrd v18 true
 (some1 (abin .leq v15 (.int .i32 57)) fun v21 =>
 aif v21
 (some1 (abin .shl (fr 8) (.int .u64 4)) fun v24 =>
 some1 (abin .sub v15 (.int .i32 48)) fun v26 =>
 some1 (acv (.int .i64) v26 q13.2) fun q27 =>
 some1 (abin .or v24 q27.1) fun v28 =>
 some1 (abin .gtr v28 (.int .i64 65535)) fun v44 =>
 aif v44
 (Ret h (.tuple [(.int .i64 0), (.bool false)]) q27.2 Q)
 (inext I m (updl fr [(13, q13.1), (14, v14), (15, v15), (10, v15), (17, v15), (18, v18), (19, v18), (19, (.bool true)), (20, v15), (19, (.bool true)), (21, v21), (22, v21), (16, v21), (23, (fr 8)), (24, v24), (25, v15), (26, v26), (27, q27.1), (28, v28), (8, v28), (43, v28), (44, v44)]) q27.2))
 (some1 (abin .geq v15 (.int .i32 97)) fun v31 =>
 agrd v31 true
 (some1 (abin .leq v15 (.int .i32 102)) fun v34 =>
 aif v34
 (some1 (abin .shl (fr 8) (.int .u64 4)) fun v37 =>
 some1 (abin .sub v15 (.int .i32 97)) fun v39 =>
 some1 (abin .add v39 (.int .i32 10)) fun v40 =>
 some1 (acv (.int .i64) v40 q13.2) fun q41 =>
 some1 (abin .or v37 q41.1) fun v42 =>
 some1 (abin .gtr v42 (.int .i64 65535)) fun v44_2 =>
 aif v44_2
 (Ret h (.tuple [(.int .i64 0), (.bool false)]) q41.2 Q)
 (inext I m (updl fr [(13, q13.1), (14, v14), (15, v15), (10, v15), (17, v15), (18, v18), (19, v18), (19, (.bool true)), (20, v15), (19, (.bool true)), (21, v21), (22, v21), (16, v21), (30, v15), (31, v31), (32, v31), (32, (.bool true)), (33, v15), (32, (.bool true)), (34, v34), (35, v34), (29, v34), (36, (fr 8)), (37, v37), (38, v15), (39, v39), (40, v40), (41, q41.1), (42, v42), (8, v42), (43, v42), (44, v44_2)]) q41.2))
 (Ret h (.tuple [(.int .i64 0), (.bool false)]) q13.2 Q))
 (Ret h (.tuple [(.int .i64 0), (.bool false)]) q13.2 Q)))
 (some1 (abin .geq v15 (.int .i32 97)) fun v31_2 =>
 agrd v31_2 true
 (some1 (abin .leq v15 (.int .i32 102)) fun v34_2 =>
 aif v34_2
 (some1 (abin .shl (fr 8) (.int .u64 4)) fun v37_2 =>
 some1 (abin .sub v15 (.int .i32 97)) fun v39_2 =>
 some1 (abin .add v39_2 (.int .i32 10)) fun v40_2 =>
 some1 (acv (.int .i64) v40_2 q13.2) fun q41_2 =>
 some1 (abin .or v37_2 q41_2.1) fun v42_2 =>
 some1 (abin .gtr v42_2 (.int .i64 65535)) fun v44_3 =>
 aif v44_3
 (Ret h (.tuple [(.int .i64 0), (.bool false)]) q41_2.2 Q)
 (inext I m (updl fr [(13, q13.1), (14, v14), (15, v15), (10, v15), (17, v15), (18, v18), (19, v18), (19, (.bool false)), (20, (.tuple [])), (19, (.bool false)), (21, (.tuple [])), (22, (.bool false)), (16, (.bool false)), (30, v15), (31, v31_2), (32, v31_2), (32, (.bool true)), (33, v15), (32, (.bool true)), (34, v34_2), (35, v34_2), (29, v34_2), (36, (fr 8)), (37, v37_2), (38, v15), (39, v39_2), (40, v40_2), (41, q41_2.1), (42, v42_2), (8, v42_2), (43, v42_2), (44, v44_3)]) q41_2.2))
 (Ret h (.tuple [(.int .i64 0), (.bool false)]) q13.2 Q))
 (Ret h (.tuple [(.int .i64 0), (.bool false)]) q13.2 Q)))
 (some1 (alen .str (fr 0) q13.2) fun v47 =>
 some1 (abin .geq v47 (fr 1)) fun v49 =>
 agrd v49 true
 (some1 (alen .str (fr 0) q13.2) fun v52 =>
 some1 (abin .leq v52 (fr 2)) fun v54 =>
 Ret h (.tuple [(fr 8), v54]) q13.2 Q)
 (Ret h (.tuple [(fr 8), (.bool false)]) q13.2 Q))
theorem T25_eq (a0 a1 a2 : AV) (h : AHeap) (Q : AV → AHeap → Prop) : T25 a0 a1 a2 h Q = wpcB true Tryd.prog (max (List.length [a0, a1, a2]) Tryd.f25.ntmps) (bodyOf Tryd.f25) (funK Tryd.prog Tryd.f25.results.toList h Q) (frame0 [a0, a1, a2]) h := by kernel_rfl
theorem T25_calls {a0 a1 a2 : AV} {h : AHeap} {Q : AV → AHeap → Prop} (H : T25 a0 a1 a2 h Q) : ACalls Tryd.prog 25 [a0, a1, a2] h Q := ACalls.of_tree mixed Tryd.func25 (by kernel_rfl) (T25_eq a0 a1 a2 h Q) H

end Go.Own.Tryd

namespace Go.Own.Tryd
open Go.Own Go.Proofs
set_option maxRecDepth 4000
/- outrider/words.Card$1 -/
def T26 (a0 : AV) (h : AHeap) (Q : AV → AHeap → Prop) : Prop :=
 acall Tryd.prog 25 [a0, (.int .i64 2), (.int .i64 2)] h fun r5 h_ =>
 some1 (aext r5 0) fun v6 =>
 some1 (aext r5 1) fun v7 =>
 Ret h (.tuple [v6, v7]) h_ Q
theorem T26_eq (a0 : AV) (h : AHeap) (Q : AV → AHeap → Prop) : T26 a0 h Q = wpcB true Tryd.prog (max (List.length [a0]) Tryd.f26.ntmps) (bodyOf Tryd.f26) (funK Tryd.prog Tryd.f26.results.toList h Q) (frame0 [a0]) h := by kernel_rfl
theorem T26_calls {a0 : AV} {h : AHeap} {Q : AV → AHeap → Prop} (H : T26 a0 h Q) : ACalls Tryd.prog 26 [a0] h Q := ACalls.of_tree mixed Tryd.func26 (by kernel_rfl) (T26_eq a0 h Q) H

end Go.Own.Tryd

namespace Go.Own.Tryd
open Go.Own Go.Proofs
set_option maxRecDepth 4000
/- outrider/words.All -/
def T27 (a0 : AV) (h : AHeap) (Q : AV → AHeap → Prop) : Prop :=
 abuildP Tryd.prog 89 [(0, 1, a0), (2, 1, (.int .i64 1)), (3, 1, (.int .i64 (-1)))] fun v9 =>
 some1 (AV.cells? v9) fun z => anew z h fun p10 h_ =>
 some1 (alen .str a0 h_) fun v12 =>
 some1 (abin .add v12 (.int .i64 1)) fun v13 =>
 ALoop (updl (frame0 [a0]) [(2, .nils), (3, (.int .i64 0)), (4, (.int .i64 0)), (8, a0), (9, v9), (10, p10), (5, p10), (11, a0), (12, v12), (13, v13), (14, (.int .i64 0))]) h_ fun I m fr hl =>
 some1 (abin .lss (fr 14) (fr 13)) fun v15 =>
 aif v15
 (anil (fr 5) = true ∧
 some1 (afaddr 3 (fr 5)) fun v19 =>
 some1 (aloadv false 1 v19 hl) fun v20 =>
 some1 (alen .str (fr 0) hl) fun v24 =>
 some1 (abin .eql (fr 14) v24) fun v25 =>
 aif v25
 (acall Tryd.prog 39 [(fr 5), (fr 14)] hl fun r28 h__2 =>
 some1 (aun .not r28) fun v29 =>
 aif v29
 (Ret h (.tuple [.nils, v20, (.int .i64 170)]) h__2 Q)
 (acall Tryd.prog 40 [(fr 5), (fr 14)] h__2 fun r33 h__3 =>
 some1 (abin .add (fr 14) (.int .i64 1)) fun v60 =>
 inext I m (updl fr [(15, v15), (16, (fr 14)), (6, (fr 14)), (17, (fr 5)), (18, (fr 5)), (19, v19), (20, v20), (7, v20), (22, (fr 14)), (23, (fr 0)), (24, v24), (25, v25), (21, v25), (26, (fr 5)), (27, (fr 14)), (28, r28), (29, v29), (31, (fr 5)), (32, (fr 14)), (33, r33), (60, v60), (14, v60)]) h__3))
 (some1 (abin .geq v20 (.int .i64 0)) fun v36 =>
 agrd v36 true
 (some1 (abin .sub (fr 14) v20) fun v40 =>
 some1 (abin .gtr v40 (.int .i64 60)) fun v41 =>
 aif v41
 (Ret h (.tuple [.nils, v20, (.int .i64 170)]) hl Q)
 (some1 (aindex .str (fr 0) (fr 14)) fun v47 =>
 acall Tryd.prog 41 [v47] hl fun r48 h__4 =>
 some1 (aun .not r48) fun v49 =>
 aif v49
 (Ret h (.tuple [.nils, (fr 14), (.int .i64 170)]) h__4 Q)
 (some1 (aindex .str (fr 0) (fr 14)) fun v55 =>
 acall Tryd.prog 42 [(fr 5), v55, (fr 14)] h__4 fun r57 h__5 =>
 some1 (aun .not r57) fun v58 =>
 aif v58
 (Ret h (.tuple [.nils, v20, (.int .i64 170)]) h__5 Q)
 (some1 (abin .add (fr 14) (.int .i64 1)) fun v60_2 =>
 inext I m (updl fr [(15, v15), (16, (fr 14)), (6, (fr 14)), (17, (fr 5)), (18, (fr 5)), (19, v19), (20, v20), (7, v20), (22, (fr 14)), (23, (fr 0)), (24, v24), (25, v25), (21, v25), (35, v20), (36, v36), (37, v36), (37, (.bool true)), (38, (fr 14)), (37, (.bool true)), (39, v20), (37, (.bool true)), (40, v40), (37, (.bool true)), (41, v41), (42, v41), (34, v41), (45, (fr 0)), (46, (fr 14)), (47, v47), (48, r48), (49, v49), (44, v49), (52, (fr 5)), (53, (fr 0)), (54, (fr 14)), (55, v55), (56, (fr 14)), (57, r57), (58, v58), (51, v58), (60, v60_2), (14, v60_2)]) h__5))))
 (some1 (aindex .str (fr 0) (fr 14)) fun v47_2 =>
 acall Tryd.prog 41 [v47_2] hl fun r48_2 h__6 =>
 some1 (aun .not r48_2) fun v49_2 =>
 aif v49_2
 (Ret h (.tuple [.nils, (fr 14), (.int .i64 170)]) h__6 Q)
 (some1 (aindex .str (fr 0) (fr 14)) fun v55_2 =>
 acall Tryd.prog 42 [(fr 5), v55_2, (fr 14)] h__6 fun r57_2 h__7 =>
 some1 (aun .not r57_2) fun v58_2 =>
 aif v58_2
 (Ret h (.tuple [.nils, v20, (.int .i64 170)]) h__7 Q)
 (some1 (abin .add (fr 14) (.int .i64 1)) fun v60_3 =>
 inext I m (updl fr [(15, v15), (16, (fr 14)), (6, (fr 14)), (17, (fr 5)), (18, (fr 5)), (19, v19), (20, v20), (7, v20), (22, (fr 14)), (23, (fr 0)), (24, v24), (25, v25), (21, v25), (35, v20), (36, v36), (37, v36), (37, (.bool false)), (38, (.tuple [])), (37, (.bool false)), (39, (.tuple [])), (37, (.bool false)), (40, (.tuple [])), (37, (.bool false)), (41, (.tuple [])), (42, (.bool false)), (34, (.bool false)), (45, (fr 0)), (46, (fr 14)), (47, v47_2), (48, r48_2), (49, v49_2), (44, v49_2), (52, (fr 5)), (53, (fr 0)), (54, (fr 14)), (55, v55_2), (56, (fr 14)), (57, r57_2), (58, v58_2), (51, v58_2), (60, v60_3), (14, v60_3)]) h__7)))))
 (anil (fr 5) = true ∧
 some1 (afaddr 1 (fr 5)) fun v63 =>
 some1 (aloadv false 1 v63 hl) fun v64 =>
 Ret h (.tuple [v64, (.int .i64 0), (.int .i64 0)]) hl Q)
theorem T27_eq (a0 : AV) (h : AHeap) (Q : AV → AHeap → Prop) : T27 a0 h Q = wpcB true Tryd.prog (max (List.length [a0]) Tryd.f27.ntmps) (bodyOf Tryd.f27) (funK Tryd.prog Tryd.f27.results.toList h Q) (frame0 [a0]) h := by kernel_rfl
theorem T27_calls {a0 : AV} {h : AHeap} {Q : AV → AHeap → Prop} (H : T27 a0 h Q) : ACalls Tryd.prog 27 [a0] h Q := ACalls.of_tree mixed Tryd.func27 (by kernel_rfl) (T27_eq a0 h Q) H

end Go.Own.Tryd

namespace Go.Own.Tryd
open Go.Own Go.Proofs
set_option maxRecDepth 4000
/- internal/strconv.FormatInt -/
def T37 (a0 a1 : AV) (h : AHeap) (Q : AV → AHeap → Prop) : Prop :=
 some1 (abin .eql a1 (.int .i64 10)) fun v11 =>
 aif v11
 (some1 (abin .leq (.int .i64 0) a0) fun v13 =>
 agrd v13 true
 (some1 (abin .lss a0 (.int .i64 100)) fun v16 =>
 aif v16
 (acall Tryd.prog 54 [a0] h fun r19 h_ =>
 Ret h r19 h_ Q)
 (some1 (azero Tryd.prog 108) fun z => anew z h fun p5 h__2 =>
 some1 (acv (.int .u64) a0 h__2) fun q21 =>
 join (fun (J : Fr → AHeap → Prop) =>
 some1 (abin .lss a0 (.int .i64 0)) fun v23 =>
 aif v23
 (some1 (aun .neg q21.1) fun v25 =>
 J (updl (frame0 [a0, a1]) [(4, (.str [])), (10, a1), (11, v11), (12, a0), (13, v13), (14, v13), (14, (.bool true)), (15, a0), (14, (.bool true)), (16, v16), (17, v16), (5, p5), (20, a0), (21, q21.1), (6, q21.1), (22, a0), (23, v23), (24, q21.1), (25, v25), (6, v25)]) q21.2)
 (J (updl (frame0 [a0, a1]) [(4, (.str [])), (10, a1), (11, v11), (12, a0), (13, v13), (14, v13), (14, (.bool true)), (15, a0), (14, (.bool true)), (16, v16), (17, v16), (5, p5), (20, a0), (21, q21.1), (6, q21.1), (22, a0), (23, v23)]) q21.2))
 (fun (fr : Fr) (hj : AHeap) =>
 acall Tryd.prog 55 [(fr 6)] hj fun r27 h__3 =>
 some1 (abin .add (.int .i64 1) r27) fun v29 =>
 some1 (aslice (.arr 24 1) (fr 5) (some (.int .i64 1)) (some v29) none h__3) fun v30 =>
 acall Tryd.prog 56 [v30, (fr 6)] h__3 fun _r32 h__4 =>
 some1 (abin .lss (fr 0) (.int .i64 0)) fun v34 =>
 aif v34
 (some1 (aiaddr (some 24) 1 (fr 5) (.int .i64 0)) fun v35 =>
 some1 (astorev 1 v35 (.int .u8 45) h__4) fun h__5 =>
 some1 (abin .add (.int .i64 1) r27) fun v37 =>
 some1 (aslice (.arr 24 1) (fr 5) none (some v37) none h__5) fun v38 =>
 some1 (acv .bs v38 h__5) fun q39 =>
 Ret h q39.1 q39.2 Q)
 (some1 (abin .add (.int .i64 1) r27) fun v41 =>
 some1 (aslice (.arr 24 1) (fr 5) (some (.int .i64 1)) (some v41) none h__4) fun v42 =>
 some1 (acv .bs v42 h__4) fun q43 =>
 Ret h q43.1 q43.2 Q))))
 (some1 (azero Tryd.prog 108) fun z_2 => anew z_2 h fun p5_2 h__6 =>
 some1 (acv (.int .u64) a0 h__6) fun q21_2 =>
 join (fun (J_2 : Fr → AHeap → Prop) =>
 some1 (abin .lss a0 (.int .i64 0)) fun v23_2 =>
 aif v23_2
 (some1 (aun .neg q21_2.1) fun v25_2 =>
 J_2 (updl (frame0 [a0, a1]) [(4, (.str [])), (10, a1), (11, v11), (12, a0), (13, v13), (14, v13), (14, (.bool false)), (15, (.tuple [])), (14, (.bool false)), (16, (.tuple [])), (17, (.bool false)), (5, p5_2), (20, a0), (21, q21_2.1), (6, q21_2.1), (22, a0), (23, v23_2), (24, q21_2.1), (25, v25_2), (6, v25_2)]) q21_2.2)
 (J_2 (updl (frame0 [a0, a1]) [(4, (.str [])), (10, a1), (11, v11), (12, a0), (13, v13), (14, v13), (14, (.bool false)), (15, (.tuple [])), (14, (.bool false)), (16, (.tuple [])), (17, (.bool false)), (5, p5_2), (20, a0), (21, q21_2.1), (6, q21_2.1), (22, a0), (23, v23_2)]) q21_2.2))
 (fun (fr_2 : Fr) (hj_2 : AHeap) =>
 acall Tryd.prog 55 [(fr_2 6)] hj_2 fun r27_2 h__7 =>
 some1 (abin .add (.int .i64 1) r27_2) fun v29_2 =>
 some1 (aslice (.arr 24 1) (fr_2 5) (some (.int .i64 1)) (some v29_2) none h__7) fun v30_2 =>
 acall Tryd.prog 56 [v30_2, (fr_2 6)] h__7 fun _r32_2 h__8 =>
 some1 (abin .lss (fr_2 0) (.int .i64 0)) fun v34_2 =>
 aif v34_2
 (some1 (aiaddr (some 24) 1 (fr_2 5) (.int .i64 0)) fun v35_2 =>
 some1 (astorev 1 v35_2 (.int .u8 45) h__8) fun h__9 =>
 some1 (abin .add (.int .i64 1) r27_2) fun v37_2 =>
 some1 (aslice (.arr 24 1) (fr_2 5) none (some v37_2) none h__9) fun v38_2 =>
 some1 (acv .bs v38_2 h__9) fun q39_2 =>
 Ret h q39_2.1 q39_2.2 Q)
 (some1 (abin .add (.int .i64 1) r27_2) fun v41_2 =>
 some1 (aslice (.arr 24 1) (fr_2 5) (some (.int .i64 1)) (some v41_2) none h__8) fun v42_2 =>
 some1 (acv .bs v42_2 h__8) fun q43_2 =>
 Ret h q43_2.1 q43_2.2 Q))))
 (some1 (acv (.int .u64) a0 h) fun q46 =>
 some1 (abin .lss a0 (.int .i64 0)) fun v49 =>
 acall Tryd.prog 57 [.nils, q46.1, a1, v49, (.bool false)] q46.2 fun r50 h__10 =>
 some1 (aext r50 0) fun _v51 =>
 some1 (aext r50 1) fun v52 =>
 Ret h v52 h__10 Q)
theorem T37_eq (a0 a1 : AV) (h : AHeap) (Q : AV → AHeap → Prop) : T37 a0 a1 h Q = wpcB true Tryd.prog (max (List.length [a0, a1]) Tryd.f37.ntmps) (bodyOf Tryd.f37) (funK Tryd.prog Tryd.f37.results.toList h Q) (frame0 [a0, a1]) h := by kernel_rfl
theorem T37_calls {a0 a1 : AV} {h : AHeap} {Q : AV → AHeap → Prop} (H : T37 a0 a1 h Q) : ACalls Tryd.prog 37 [a0, a1] h Q := ACalls.of_tree mixed Tryd.func37 (by kernel_rfl) (T37_eq a0 a1 h Q) H

end Go.Own.Tryd

namespace Go.Own.Tryd
open Go.Own Go.Proofs
set_option maxRecDepth 4000
/- (*outrider/words.reader).end -/
def T39 (a0 a1 : AV) (h : AHeap) (Q : AV → AHeap → Prop) : Prop :=
 anil a0 = true ∧
 some1 (afaddr 3 a0) fun v8 =>
 some1 (aloadv false 1 v8 h) fun v9 =>
 some1 (abin .lss v9 (.int .i64 0)) fun v10 =>
 aif v10
 (Ret h (.bool true) h Q)
 (anil a0 = true ∧
 some1 (afaddr 0 a0) fun v13 =>
 some1 (aloadv false 1 v13 h) fun v14 =>
 anil a0 = true ∧
 some1 (afaddr 3 a0) fun v17 =>
 some1 (aloadv false 1 v17 h) fun v18 =>
 some1 (aslice .str v14 (some v18) (some a1) none h) fun v20 =>
 anil a0 = true ∧
 some1 (afaddr 3 a0) fun v23 =>
 some1 (aloadv false 1 v23 h) fun v24 =>
 anil a0 = true ∧
 some1 (afaddr 2 a0) fun v27 =>
 some1 (aloadv false 1 v27 h) fun v28 =>
 abuildP Tryd.prog 61 [(0, 1, v20), (1, 1, v24), (2, 1, v28)] fun v29 =>
 some1 (azero Tryd.prog 61) fun z =>
 anew z h fun p5 h_ =>
 some1 (astorev 3 p5 v29 h_) fun h__2 =>
 anil a0 = true ∧
 some1 (afaddr 1 a0) fun v35 =>
 some1 (aloadv false 1 v35 h__2) fun v36 =>
 some1 (aloadv true 3 p5 h__2) fun v37 =>
 alitQ Tryd.prog 57 1 [(0, 3, v37)] fun z_2 =>
 anewsl 1 3 z_2 h__2 fun s38 h__3 =>
 some1 (aappend 3 32 v36 s38 h__3) fun q39 =>
 anil a0 = true ∧
 some1 (afaddr 1 a0) fun v41 =>
 some1 (astorev 1 v41 q39.1 q39.2) fun h__4 =>
 anil a0 = true ∧
 some1 (afaddr 4 a0) fun v43 =>
 some1 (astorev 1 v43 (.bool true) h__4) fun h__5 =>
 anil a0 = true ∧
 some1 (afaddr 3 a0) fun v45 =>
 some1 (astorev 1 v45 (.int .i64 (-1)) h__5) fun h__6 =>
 some1 (afaddr 0 p5) fun v46 =>
 some1 (aloadv false 1 v46 h__6) fun v47 =>
 some1 (alen .str v47 h__6) fun v48 =>
 some1 (abin .leq v48 (.int .i64 60)) fun v49 =>
 Ret h v49 h__6 Q)
theorem T39_eq (a0 a1 : AV) (h : AHeap) (Q : AV → AHeap → Prop) : T39 a0 a1 h Q = wpcB true Tryd.prog (max (List.length [a0, a1]) Tryd.f39.ntmps) (bodyOf Tryd.f39) (funK Tryd.prog Tryd.f39.results.toList h Q) (frame0 [a0, a1]) h := by kernel_rfl
theorem T39_calls {a0 a1 : AV} {h : AHeap} {Q : AV → AHeap → Prop} (H : T39 a0 a1 h Q) : ACalls Tryd.prog 39 [a0, a1] h Q := ACalls.of_tree mixed Tryd.func39 (by kernel_rfl) (T39_eq a0 a1 h Q) H

end Go.Own.Tryd

namespace Go.Own.Tryd
open Go.Own Go.Proofs
set_option maxRecDepth 4000
/- (*outrider/words.reader).stop -/
def T40 (a0 a1 : AV) (h : AHeap) (Q : AV → AHeap → Prop) : Prop :=
 join (fun (J : Fr → AHeap → Prop) =>
 anil a0 = true ∧
 some1 (afaddr 4 a0) fun v6 =>
 some1 (aloadv false 1 v6 h) fun v7 =>
 aif v7
 (anil a0 = true ∧
 some1 (afaddr 1 a0) fun v11 =>
 some1 (aloadv false 1 v11 h) fun v12 =>
 anil a0 = true ∧
 some1 (afaddr 2 a0) fun v16 =>
 some1 (aloadv false 1 v16 h) fun v17 =>
 abuildP Tryd.prog 61 [(0, 1, (.str [10])), (1, 1, a1), (2, 1, v17)] fun v18 =>
 alitQ Tryd.prog 57 1 [(0, 3, v18)] fun z =>
 anewsl 1 3 z h fun s19 h_ =>
 some1 (aappend 3 32 v12 s19 h_) fun q20 =>
 anil a0 = true ∧
 some1 (afaddr 1 a0) fun v22 =>
 some1 (astorev 1 v22 q20.1 q20.2) fun h__2 =>
 J (updl (frame0 [a0, a1]) [(4, a0), (5, a0), (6, v6), (7, v7), (8, a0), (9, a0), (10, a0), (11, v11), (12, v12), (13, a1), (14, a0), (15, a0), (16, v16), (17, v17), (18, v18), (19, s19), (20, q20.1), (21, a0), (22, v22)]) h__2)
 (J (updl (frame0 [a0, a1]) [(4, a0), (5, a0), (6, v6), (7, v7)]) h))
 (fun (fr : Fr) (hj : AHeap) =>
 anil (fr 0) = true ∧
 some1 (afaddr 4 (fr 0)) fun v26 =>
 some1 (astorev 1 v26 (.bool false) hj) fun h__3 =>
 anil (fr 0) = true ∧
 some1 (afaddr 5 (fr 0)) fun v28 =>
 some1 (astorev 1 v28 (.bool false) h__3) fun h__4 =>
 anil (fr 0) = true ∧
 some1 (afaddr 2 (fr 0)) fun v31 =>
 some1 (aloadv false 1 v31 h__4) fun v32 =>
 some1 (abin .add v32 (.int .i64 1)) fun v33 =>
 anil (fr 0) = true ∧
 some1 (afaddr 2 (fr 0)) fun v35 =>
 some1 (astorev 1 v35 v33 h__4) fun h__5 =>
 Ret h (.tuple []) h__5 Q)
theorem T40_eq (a0 a1 : AV) (h : AHeap) (Q : AV → AHeap → Prop) : T40 a0 a1 h Q = wpcB true Tryd.prog (max (List.length [a0, a1]) Tryd.f40.ntmps) (bodyOf Tryd.f40) (funK Tryd.prog Tryd.f40.results.toList h Q) (frame0 [a0, a1]) h := by kernel_rfl
theorem T40_calls {a0 a1 : AV} {h : AHeap} {Q : AV → AHeap → Prop} (H : T40 a0 a1 h Q) : ACalls Tryd.prog 40 [a0, a1] h Q := ACalls.of_tree mixed Tryd.func40 (by kernel_rfl) (T40_eq a0 a1 h Q) H

end Go.Own.Tryd

namespace Go.Own.Tryd
open Go.Own Go.Proofs
set_option maxRecDepth 4000
/- outrider/words.may -/
def T41 (a0 : AV) (h : AHeap) (Q : AV → AHeap → Prop) : Prop :=
 some1 (abin .eql a0 (.int .u8 9)) fun v4 =>
 agrd v4 false
 (some1 (abin .eql a0 (.int .u8 10)) fun v7 =>
 agrd v7 false
 (some1 (abin .eql a0 (.int .u8 13)) fun v11 =>
 agrd v11 false
 (some1 (abin .geq a0 (.int .u8 32)) fun v15 =>
 agrd v15 true
 (some1 (abin .leq a0 (.int .u8 126)) fun v18 =>
 Ret h v18 h Q)
 (Ret h (.bool false) h Q))
 (Ret h (.bool true) h Q))
 (Ret h (.bool true) h Q))
 (Ret h (.bool true) h Q)
theorem T41_eq (a0 : AV) (h : AHeap) (Q : AV → AHeap → Prop) : T41 a0 h Q = wpcB true Tryd.prog (max (List.length [a0]) Tryd.f41.ntmps) (bodyOf Tryd.f41) (funK Tryd.prog Tryd.f41.results.toList h Q) (frame0 [a0]) h := by kernel_rfl
theorem T41_calls {a0 : AV} {h : AHeap} {Q : AV → AHeap → Prop} (H : T41 a0 h Q) : ACalls Tryd.prog 41 [a0] h Q := ACalls.of_tree mixed Tryd.func41 (by kernel_rfl) (T41_eq a0 h Q) H

end Go.Own.Tryd

namespace Go.Own.Tryd
open Go.Own Go.Proofs
set_option maxRecDepth 4000
/- (*outrider/words.reader).take -/
def T42 (a0 a1 a2 : AV) (h : AHeap) (Q : AV → AHeap → Prop) : Prop :=
 some1 (abin .eql a1 (.int .u8 10)) fun v10 =>
 aif v10
 (acall Tryd.prog 39 [a0, a2] h fun r13 h_ =>
 acall Tryd.prog 40 [a0, a2] h_ fun _r16 h__2 =>
 Ret h r13 h__2 Q)
 (anil a0 = true ∧
 some1 (afaddr 5 a0) fun v20 =>
 some1 (aloadv false 1 v20 h) fun v21 =>
 aif v21
 (Ret h (.bool true) h Q)
 (some1 (abin .eql a1 (.int .u8 35)) fun v24 =>
 aif v24
 (acall Tryd.prog 39 [a0, a2] h fun r27 h__3 =>
 anil a0 = true ∧
 some1 (afaddr 5 a0) fun v30 =>
 some1 (astorev 1 v30 (.bool true) h__3) fun h__4 =>
 Ret h r27 h__4 Q)
 (some1 (abin .eql a1 (.int .u8 32)) fun v33 =>
 agrd v33 false
 (some1 (abin .eql a1 (.int .u8 9)) fun v36 =>
 agrd v36 false
 (some1 (abin .eql a1 (.int .u8 13)) fun v40 =>
 aif v40
 (acall Tryd.prog 39 [a0, a2] h fun r44 h__5 =>
 Ret h r44 h__5 Q)
 (some1 (abin .eql a1 (.int .u8 123)) fun v47 =>
 agrd v47 false
 (some1 (abin .eql a1 (.int .u8 125)) fun v50 =>
 aif v50
 (acall Tryd.prog 39 [a0, a2] h fun r54 h__6 =>
 anil a0 = true ∧
 some1 (afaddr 3 a0) fun v58 =>
 some1 (astorev 1 v58 a2 h__6) fun h__7 =>
 some1 (abin .add a2 (.int .i64 1)) fun v61 =>
 acall Tryd.prog 39 [a0, v61] h__7 fun _r62 h__8 =>
 Ret h r54 h__8 Q)
 (anil a0 = true ∧
 some1 (afaddr 3 a0) fun v66 =>
 some1 (aloadv false 1 v66 h) fun v67 =>
 some1 (abin .lss v67 (.int .i64 0)) fun v68 =>
 aif v68
 (anil a0 = true ∧
 some1 (afaddr 3 a0) fun v72 =>
 some1 (astorev 1 v72 a2 h) fun h__9 =>
 Ret h (.bool true) h__9 Q)
 (Ret h (.bool true) h Q)))
 (acall Tryd.prog 39 [a0, a2] h fun r54_2 h__10 =>
 anil a0 = true ∧
 some1 (afaddr 3 a0) fun v58_2 =>
 some1 (astorev 1 v58_2 a2 h__10) fun h__11 =>
 some1 (abin .add a2 (.int .i64 1)) fun v61_2 =>
 acall Tryd.prog 39 [a0, v61_2] h__11 fun _r62_2 h__12 =>
 Ret h r54_2 h__12 Q)))
 (acall Tryd.prog 39 [a0, a2] h fun r44_2 h__13 =>
 Ret h r44_2 h__13 Q))
 (acall Tryd.prog 39 [a0, a2] h fun r44_3 h__14 =>
 Ret h r44_3 h__14 Q))))
theorem T42_eq (a0 a1 a2 : AV) (h : AHeap) (Q : AV → AHeap → Prop) : T42 a0 a1 a2 h Q = wpcB true Tryd.prog (max (List.length [a0, a1, a2]) Tryd.f42.ntmps) (bodyOf Tryd.f42) (funK Tryd.prog Tryd.f42.results.toList h Q) (frame0 [a0, a1, a2]) h := by kernel_rfl
theorem T42_calls {a0 a1 a2 : AV} {h : AHeap} {Q : AV → AHeap → Prop} (H : T42 a0 a1 a2 h Q) : ACalls Tryd.prog 42 [a0, a1, a2] h Q := ACalls.of_tree mixed Tryd.func42 (by kernel_rfl) (T42_eq a0 a1 a2 h Q) H

end Go.Own.Tryd

namespace Go.Own.Tryd
open Go.Own Go.Proofs
set_option maxRecDepth 4000
/- internal/strconv.formatBits -/
def T57 (a0 a1 a2 a3 a4 : AV) (h : AHeap) (Q : AV → AHeap → Prop) : Prop :=
 join (fun (J : Fr → AHeap → Prop) =>
 some1 (abin .lss a2 (.int .i64 2)) fun v20 =>
 agrd v20 false
 (some1 (abin .eql a2 (.int .i64 10)) fun v23 =>
 agrd v23 false
 (some1 (abin .gtr a2 (.int .i64 36)) fun v27 =>
 aif v27
 (False)
 (J (updl (frame0 [a0, a1, a2, a3, a4]) [(10, .nils), (11, (.str [])), (19, a2), (20, v20), (21, v20), (21, (.bool false)), (22, a2), (21, (.bool false)), (23, v23), (24, v23), (25, v23), (25, (.bool false)), (26, a2), (25, (.bool false)), (27, v27), (28, v27)]) h))
 (False))
 (False))
 (fun (fr : Fr) (hj : AHeap) =>
 some1 (azero Tryd.prog 137) fun z => anew z hj fun p12 h_ =>
 join (fun (J_2 : Fr → AHeap → Prop) =>
 aif (fr 3)
 (some1 (aun .neg (fr 1)) fun v32 =>
 J_2 (updl fr [(12, p12), (13, (.int .i64 65)), (30, (fr 3)), (31, (fr 1)), (32, v32), (1, v32)]) h_)
 (J_2 (updl fr [(12, p12), (13, (.int .i64 65)), (30, (fr 3))]) h_))
 (fun (fr_2 : Fr) (hj_2 : AHeap) =>
 join (fun (J_3 : Fr → AHeap → Prop) =>
 acall Tryd.prog 76 [(fr_2 2)] hj_2 fun r34 h__2 =>
 aif r34
 (some1 (acv (.int .u64) (fr_2 2) h__2) fun q36 =>
 acall Tryd.prog 77 [q36.1] q36.2 fun r37 h__3 =>
 some1 (acv (.int .u64) r37 h__3) fun q38 =>
 some1 (acv (.int .u64) (fr_2 2) q38.2) fun q40 =>
 some1 (acv (.int .u64) (fr_2 2) q40.2) fun q42 =>
 some1 (abin .sub q42.1 (.int .u64 1)) fun v43 =>
 ALoop (updl fr_2 [(33, (fr_2 2)), (34, r34), (35, (fr_2 2)), (36, q36.1), (37, r37), (38, q38.1), (14, q38.1), (39, (fr_2 2)), (40, q40.1), (15, q40.1), (41, (fr_2 2)), (42, q42.1), (43, v43), (16, v43)]) q42.2 fun I m fr_4 hl =>
 some1 (abin .geq (fr_4 1) (fr_4 15)) fun v46 =>
 aif v46
 (some1 (abin .sub (fr_4 13) (.int .i64 1)) fun v48 =>
 some1 (abin .and (fr_4 1) (fr_4 16)) fun v52 =>
 some1 (aindex .str (.str [48, 49, 50, 51, 52, 53, 54, 55, 56, 57, 97, 98, 99, 100, 101, 102, 103, 104, 105, 106, 107, 108, 109, 110, 111, 112, 113, 114, 115, 116, 117, 118, 119, 120, 121, 122]) v52) fun v53 =>
 some1 (aiaddr (some 65) 1 (fr_4 12) v48) fun v54 =>
 some1 (astorev 1 v54 v53 hl) fun h__4 =>
 some1 (abin .shr (fr_4 1) (fr_4 14)) fun v57 =>
 inext I m (updl fr_4 [(44, (fr_4 1)), (45, (fr_4 15)), (46, v46), (47, (fr_4 13)), (48, v48), (13, v48), (49, v48), (50, (fr_4 1)), (51, (fr_4 16)), (52, v52), (53, v53), (54, v54), (55, (fr_4 1)), (56, (fr_4 14)), (57, v57), (1, v57)]) h__4)
 (some1 (abin .sub (fr_4 13) (.int .i64 1)) fun v59 =>
 some1 (aindex .str (.str [48, 49, 50, 51, 52, 53, 54, 55, 56, 57, 97, 98, 99, 100, 101, 102, 103, 104, 105, 106, 107, 108, 109, 110, 111, 112, 113, 114, 115, 116, 117, 118, 119, 120, 121, 122]) (fr_4 1)) fun v62 =>
 some1 (aiaddr (some 65) 1 (fr_4 12) v59) fun v63 =>
 some1 (astorev 1 v63 v62 hl) fun h__5 =>
 J_3 (updl fr_4 [(44, (fr_4 1)), (45, (fr_4 15)), (46, v46), (58, (fr_4 13)), (59, v59), (13, v59), (60, v59), (61, (fr_4 1)), (62, v62), (63, v63)]) h__5))
 (some1 (acv (.int .u64) (fr_2 2) h__2) fun q65 =>
 ALoop (updl fr_2 [(33, (fr_2 2)), (34, r34), (64, (fr_2 2)), (65, q65.1), (17, q65.1)]) q65.2 fun I_2 m_2 fr_5 hl_2 =>
 some1 (abin .geq (fr_5 1) (fr_5 17)) fun v68 =>
 aif v68
 (some1 (abin .sub (fr_5 13) (.int .i64 1)) fun v70 =>
 some1 (abin .quo (fr_5 1) (fr_5 17)) fun v73 =>
 some1 (abin .mul v73 (fr_5 17)) fun v78 =>
 some1 (abin .sub (fr_5 1) v78) fun v79 =>
 some1 (aindex .str (.str [48, 49, 50, 51, 52, 53, 54, 55, 56, 57, 97, 98, 99, 100, 101, 102, 103, 104, 105, 106, 107, 108, 109, 110, 111, 112, 113, 114, 115, 116, 117, 118, 119, 120, 121, 122]) v79) fun v80 =>
 some1 (aiaddr (some 65) 1 (fr_5 12) v70) fun v81 =>
 some1 (astorev 1 v81 v80 hl_2) fun h__6 =>
 inext I_2 m_2 (updl fr_5 [(66, (fr_5 1)), (67, (fr_5 17)), (68, v68), (69, (fr_5 13)), (70, v70), (13, v70), (71, (fr_5 1)), (72, (fr_5 17)), (73, v73), (18, v73), (74, v70), (75, (fr_5 1)), (76, v73), (77, (fr_5 17)), (78, v78), (79, v79), (80, v80), (81, v81), (82, v73), (1, v73)]) h__6)
 (some1 (abin .sub (fr_5 13) (.int .i64 1)) fun v84 =>
 some1 (aindex .str (.str [48, 49, 50, 51, 52, 53, 54, 55, 56, 57, 97, 98, 99, 100, 101, 102, 103, 104, 105, 106, 107, 108, 109, 110, 111, 112, 113, 114, 115, 116, 117, 118, 119, 120, 121, 122]) (fr_5 1)) fun v87 =>
 some1 (aiaddr (some 65) 1 (fr_5 12) v84) fun v88 =>
 some1 (astorev 1 v88 v87 hl_2) fun h__7 =>
 J_3 (updl fr_5 [(66, (fr_5 1)), (67, (fr_5 17)), (68, v68), (83, (fr_5 13)), (84, v84), (13, v84), (85, v84), (86, (fr_5 1)), (87, v87), (88, v88)]) h__7)))
 (fun (fr_3 : Fr) (hj_3 : AHeap) =>
 join (fun (J_4 : Fr → AHeap → Prop) =>
 aif (fr_3 3)
 (some1 (abin .sub (fr_3 13) (.int .i64 1)) fun v91 =>
 some1 (aiaddr (some 65) 1 (fr_3 12) v91) fun v93 =>
 some1 (astorev 1 v93 (.int .u8 45) hj_3) fun h__8 =>
 J_4 (updl fr_3 [(89, (fr_3 3)), (90, (fr_3 13)), (91, v91), (13, v91), (92, v91), (93, v93)]) h__8)
 (J_4 (updl fr_3 [(89, (fr_3 3))]) hj_3))
 (fun (fr_6 : Fr) (hj_4 : AHeap) =>
 aif (fr_6 4)
 (some1 (aslice (.arr 65 1) (fr_6 12) (some (fr_6 13)) none none hj_4) fun v97 =>
 some1 (aappend 1 1 (fr_6 0) v97 hj_4) fun q98 =>
 Ret h (.tuple [q98.1, (fr_6 11)]) q98.2 Q)
 (some1 (aslice (.arr 65 1) (fr_6 12) (some (fr_6 13)) none none hj_4) fun v100 =>
 some1 (acv .bs v100 hj_4) fun q101 =>
 Ret h (.tuple [(fr_6 10), q101.1]) q101.2 Q)))))
theorem T57_eq (a0 a1 a2 a3 a4 : AV) (h : AHeap) (Q : AV → AHeap → Prop) : T57 a0 a1 a2 a3 a4 h Q = wpcB true Tryd.prog (max (List.length [a0, a1, a2, a3, a4]) Tryd.f57.ntmps) (bodyOf Tryd.f57) (funK Tryd.prog Tryd.f57.results.toList h Q) (frame0 [a0, a1, a2, a3, a4]) h := by kernel_rfl
theorem T57_calls {a0 a1 a2 a3 a4 : AV} {h : AHeap} {Q : AV → AHeap → Prop} (H : T57 a0 a1 a2 a3 a4 h Q) : ACalls Tryd.prog 57 [a0, a1, a2, a3, a4] h Q := ACalls.of_tree mixed Tryd.func57 (by kernel_rfl) (T57_eq a0 a1 a2 a3 a4 h Q) H

end Go.Own.Tryd

namespace Go.Own.Tryd
open Go.Own Go.Proofs
set_option maxRecDepth 4000
/- internal/strconv.isPowerOfTwo -/
def T76 (a0 : AV) (h : AHeap) (Q : AV → AHeap → Prop) : Prop :=
 some1 (abin .sub a0 (.int .i64 1)) fun v5 =>
 some1 (abin .and a0 v5) fun v6 =>
 some1 (abin .eql v6 (.int .i64 0)) fun v7 =>
 Ret h v7 h Q
theorem T76_eq (a0 : AV) (h : AHeap) (Q : AV → AHeap → Prop) : T76 a0 h Q = wpcB true Tryd.prog (max (List.length [a0]) Tryd.f76.ntmps) (bodyOf Tryd.f76) (funK Tryd.prog Tryd.f76.results.toList h Q) (frame0 [a0]) h := by kernel_rfl
theorem T76_calls {a0 : AV} {h : AHeap} {Q : AV → AHeap → Prop} (H : T76 a0 h Q) : ACalls Tryd.prog 76 [a0] h Q := ACalls.of_tree mixed Tryd.func76 (by kernel_rfl) (T76_eq a0 h Q) H

end Go.Own.Tryd
